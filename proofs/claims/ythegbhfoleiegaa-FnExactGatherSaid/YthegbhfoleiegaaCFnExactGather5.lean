/- Part 5 of the proof of FnExactGather: functions of the translation with what they return, and plain laws of these. Written by programs of this session over the kit's print, and by hand. -/
import Derived.Test.YthegbhfoleiegaaProg
import Derived.Test.YthegbhfoleiegaaCFnExactGatherWApart
import Derived.Test.YthegbhfoleiegaaCFnExactGatherWArr
import Derived.Test.YthegbhfoleiegaaCFnExactGatherWFoot
import Derived.Test.YthegbhfoleiegaaCFnExactGatherWGuard
import Derived.Test.YthegbhfoleiegaaCFnExactGatherWKept
import Derived.Test.YthegbhfoleiegaaCFnExactGatherWLast
import Derived.Test.YthegbhfoleiegaaCFnExactGatherWMore
import Derived.Test.YthegbhfoleiegaaCFnExactGatherWN
import Derived.Test.YthegbhfoleiegaaCFnExactGatherWNEv
import Derived.Test.YthegbhfoleiegaaCFnExactGatherWQPut
import Derived.Test.YthegbhfoleiegaaCFnExactGatherWRepsOne
import Derived.Test.YthegbhfoleiegaaCFnExactGatherWShare
import Derived.Test.YthegbhfoleiegaaCFnExactGatherWTab
import Derived.Test.YthegbhfoleiegaaCFnExactGatherWWords
import Derived.Test.YthegbhfoleiegaaCFnExactGatherWZeros
import Derived.Below
import Derived.Deep.Draws
import Derived.Deep.AppendLies
import Derived.Maps.AppendAt
import Derived.OwnWalk
import Derived.Laws.BytesArg
import Derived.Laws.MakeOwn
import Derived.Laws.OwnMore
import Derived.Deep.OwnRows
import Derived.Tactics
import Derived.Lib.ConvBytes
import Derived.Laws.Slices
import Derived.WalkKit
import Derived.KernelRfl
import Derived.RowKit3
import Derived.Deep.LoopGhost
import Derived.Deep.QuietTactic
import Derived.BigQuiet
import Derived.WideLaws
import Derived.Deep.DeepCutAuto
import Derived.Deep.CutBlock
import Derived.Deep.RegionHeld3
import Derived.Laws.Rows
import Derived.Lib.AppendStr
import Derived.ArgAppend
import Derived.Laws.IdiomCopy
import Derived.OrdersHeld
import Derived.Laws.BitsLemmas
import Derived.RowKit
import Derived.Maps.OwnSet
import Derived.Maps.OwnOps
import Derived.Maps.RangeWalk
import Derived.StringKeys
import Derived.Sort.KeysCollected
import Derived.Shelf.GgSortFunc.Whole
import Derived.Shelf.GgSortFunc.Tiny
import Derived.Sort.OwnSortedInts
import Derived.Lib.RowBridge
import Derived.Lib.SortBridge
import Derived.Sort.LotA
import Derived.Deep.RegionWith
import Derived.Deep.Slices
import Derived.ChangeArms
import Derived.Laws.ResultCell
import Derived.DeepKeys4
import Derived.ProofKit
import Derived.OpenShut
import Derived.ShutString
import Derived.ChangeOld
import Derived.SizedLaws
import Derived.Test.YthegbhfoleiegaaCFnExactGather1
import Derived.Test.YthegbhfoleiegaaCFnExactGather2
import Derived.Test.YthegbhfoleiegaaCFnExactGather3
import Derived.Test.YthegbhfoleiegaaCFnExactGather4
namespace Go.Proofs.Ythegbhfoleiegaa.All
open Go.RowKit Go.Proofs.YthegbhfoleiegaaW.PrintWords Go.Proofs.YthegbhfoleiegaaW.PrintLast Go.Proofs.YthegbhfoleiegaaW.PrintMore
attribute [local go_sem] max2_int min2_int max_two min_two max_three min_three max_four min_four   -- for this text's walks alone
set_option linter.unusedVariables false
set_option linter.unusedSimpArgs false

def impl_Gather.f (k : Nat) (l0 l1 : List (S68)) (a2 : ByteArray) : Option (List Int) := if okG k (l0 ++ l1) a2 ∧ l0.length ≤ 1000000000 ∧ l1.length ≤ 1000000000 then (gath l1 a2 k l0 []).map sortI else none
theorem gwf {x : Int} (h0 : 0 ≤ x) (h1 : x ≤ 1000000000) : (Lit.int .i64 x).wf = true := by
 have e1 : IntKind.i64.min = -9223372036854775808 := by decide
 have e2 : IntKind.i64.max = 9223372036854775807 := by decide
 show (decide (IntKind.i64.min ≤ x) && decide (x ≤ IntKind.i64.max)) = true
 rw [e1, e2, decide_eq_true (by omega), decide_eq_true (by omega)]
 rfl
theorem tk_len {tk : List Int} {n : Nat} (hn : tk.Nodup) (h : ∀ x ∈ tk, 0 ≤ x ∧ x < (n : Int)) : tk.length ≤ n := by
 have h1 := nodup_sub_len tk ((List.range n).map fun (j : Nat) => (j : Int)) hn (fun x hx => by
  obtain ⟨h0, h1⟩ := h x hx
  exact List.mem_map.2 ⟨x.toNat, List.mem_range.2 (by omega), by omega⟩)
 simpa using h1
set_option maxHeartbeats 16000000 in
set_option maxRecDepth 100000 in
theorem impl_Gather.calls (k : Nat) (A0 : Option Addr) (c0 : Nat) (l0 : List (S68)) (A1 : Option Addr) (c1 : Nat) (l1 : List (S68)) (a2 : ByteArray) (r : List Int) (w : World) (hr0 : Kd.C k68 w A0 l0.length l0) (hc0 : l0.length ≤ c0) (hr1 : Kd.C k68 w A1 l1.length l1) (hc1 : l1.length ≤ c1) (h : impl_Gather.f k l0 l1 a2 = some r) :
 Calls Try.prog 43 #[.slice A0 l0.length c0, .slice A1 l1.length c1, .string a2] w fun e w' => ∃ v0_ : Value, e = .returned (v0_) ∧ Kd.R (Kd.int .i64) 2 w' w.heap.size (fun _ => True) v0_ r ∧ Below w.heap.size w w' := by
 unfold impl_Gather.f at h
 split at h
 case isFalse => cases h
 rename_i hg
 obtain ⟨hg, hl0, hl1⟩ := hg
 obtain ⟨R, hR, rfl⟩ := Option.map_eq_some_iff.1 h
 have HG := Aside0.mk hg
 have HR0 := Aside0.mk hr0
 have HR1 := Aside0.mk hr1
 have HQ := Aside0.mk hR
 clear hg hr0 hr1 hR h
 have hu1 := Try.underlying68
 have hu2 := Try.underlying130
 have hu3 := Try.underlying132
 have hmm := @run_makeMap Try.prog
 go_enter Try.func43, Try.ntmps43
 go_wp2_with (first | (at_builtin; go_loud (refine Kd.R_append_rows (KF k68 w) (Rr := k68.K w) (w0 := w) w.heap.size rfl (.const (.slice none 0 0)) (.tmp 24) 52 68 (.agg #[.slice none 0 0]) 24 rfl Try.underlying52 info68 rfl Nat.zero_lt_one (by decide) (.slice none 0 0) [] l0 A0 l0.length c0 (fun _ => True) (fun _ => False) rfl rfl (Kd.R_nil _ _ _ _ _) HR0.out (fun _ _ h => h) (fun _ h => h.elim) (fun _ _ => trivial) (Below.refl _ _) (Nat.le_refl _) (by simp; omega) ?_; intro v7 w1 hr7 hb7 hg7 ha7; have HI7 := Aside0.mk hr7; have HB7 := Aside0.mk hb7; clear hr7 hb7 hg7 ha7)))
 have hI0 : GS w (w1.alloc (.map #[] 0)) w1.heap.size v7 l0 [] := ⟨below_alloc HB7.out _, Kd.R_mono (Kd.R_tight rfl (Kd.R_alloc (by simpa using HI7.out) (.map #[] 0))) (fun q hq => hq), IsKeys.made w1 Try.prog 2 4, HB7.out.size⟩
 have HI := Aside0.mk hI0
 clear hI0 HI7 HB7
 obtain ⟨bt, hbt⟩ : ∃ b, b = w1.heap.size := ⟨_, rfl⟩
 rw [← hbt] at HI ⊢
 generalize (w1.alloc (.map #[] 0)) = W0 at HI ⊢
 clear hbt
 go_loopg [7, 9] k (fun gk v7 v9 wr => ∃ (again : Bool) (ins : List GO) (tk : List Int), v9 = .bool again ∧ Aside0 (GS w wr bt v7 ins tk) ∧ Aside0 (∀ o ∈ ins, o ∈ l0 ++ l1) ∧ Aside0 (∀ x ∈ tk, 0 ≤ x ∧ x < (l1.length : Int)) ∧ Aside0 (if again = true then gath l1 a2 gk ins tk = some R else tk = R))
 case atStart => exact ⟨true, l0, [], rfl, HI, ⟨fun o ho => List.mem_append_left _ ho⟩, ⟨fun x hx => by cases hx⟩, ⟨by rw [if_pos rfl]; exact HQ.out⟩⟩
 case round =>
  clear HI HQ
  obtain ⟨again, ins, tk, rfl, HI, HIN, HTK, HQ⟩ := hrel
  have htl := tk_len HI.out.ht.nodup HTK.out
  cases again with
  | false =>
   have hk : tk = R := HQ.out
   subst hk
   go_wp2_with (first | (go_at_call 71; refine (xsorted_calls bt _ _ HI.out.ht (by omega)).mono ?_; rintro e w6 ⟨vS, rfl, hr6, hb6⟩; have HR6 := Aside0.mk hr6; have HB6 := Aside0.mk hb6; clear hr6 hb6))
   go_ret
   exact ⟨_, rfl, Kd.R_lower HR6.out HI.out.hb.size, below_step HI.out.hb HB6.out⟩
  | true =>
   cases gk with
   | zero => exact absurd HQ.out (by simp [gath])
   | succ gk =>
    have h2 : gath l1 a2 (gk + 1) ins tk = some R := HQ.out
    rw [gath] at h2
    split at h2
    case isFalse => cases h2
    rename_i hok
    have H2 := Aside0.mk h2
    have HOK := Aside0.mk hok
    have hil := hok.1
    obtain ⟨A7, c7, e7⟩ := Kd.R_slice HI.out.hi
    subst e7
    clear h2 HQ hok
    have hbw := HI.out.ht.lt
    obtain ⟨bw, hbw2⟩ : ∃ b, b = wr.heap.size := ⟨_, rfl⟩
    have hsa := HG.out.1
    go_wp2_with (first | (refine wpList_ins_keysS rfl _ _ _ 141 rfl 9 4 (Maps.string_keyed Try.underlying9) Try.underlying9 Try.underlying141 Try.underlying4 wr.heap.size [] rfl (IsKeysS.made _ _ _ _) (by simp [maxLen]) a2 rfl rfl (Nat.le_trans hsa (by decide)) ?_; intro w2 hk2 hg2; have HK2 := Aside0.mk hk2; have HI2 := Aside0.mk ((HI.out.alloc (.map #[] 0)).wanted (IsKeysS.made wr Try.prog 9 4) hg2 hbw); clear hk2 hg2))
    rw [← hbw2] at HK2 hbw ⊢
    have HK := Aside0.mk (show IsKeysS Try.prog 9 4 w2 bw [a2] from HK2.out)
    clear HK2 hbw2 HI hsa
    go_loopw [33] (fun v wr => ∃ m : Nat, m ≤ ins.length ∧ v = .int .i64 (m : Int) ∧ Aside0 (GS w wr bt (.slice A7 ins.length c7) ins tk) ∧ Aside0 (IsKeysS Try.prog 9 4 wr bw ((ins.take m).foldl objS [a2]))) (fun v _ => ins.length - (intOf v).toNat)
    case atStart => exact ⟨0, Nat.zero_le _, rfl, HI2, HK⟩
    case round =>
     clear HI2 HK
     obtain ⟨m, hm, rfl, HI, HK⟩ := hrel
     by_cases hlm : m < ins.length
     · obtain ⟨g7, cap7, e7, _, _, _⟩ := Kd.R_form HI.out.hi (by omega)
       injection e7 with e7 e72 e73
       subst e7
       obtain ⟨c, hcl, hM, hcc, hfr⟩ := Kd.R_elem HI.out.hi z68 (m : Int) (by omega) (by omega)
       obtain ⟨o, hoe⟩ : ∃ o, o = ins[m] := ⟨_, rfl⟩
       have hgd : ins.getD (m : Int).toNat z68 = o := by rw [Int.toNat_natCast, List.getD_eq_getElem?_getD, List.getElem?_eq_getElem hlm, hoe]; rfl
       rw [hgd] at hM
       obtain ⟨Ao, co, rfl, hlo, hCo⟩ := k68_open (show k68.K w o c from hM)
       have x0 := hcc 0 _ rfl
       simp only [show (KF k68 w).sz = 1 from rfl, Nat.mul_one, Nat.add_zero, Int.toNat_natCast] at x0
       have hom : o ∈ l0 ++ l1 := HIN.out o (by rw [hoe]; exact List.getElem_mem _)
       obtain ⟨secs, hse⟩ : ∃ s, s = o.f0 := ⟨_, rfl⟩
       have hog := HG.out.2.1 o hom
       have hov := HG.out.2.2 o hom
       rw [← hse] at hog hov hCo hlo x0
       have HOG := Aside0.mk hog
       have HOV := Aside0.mk hov
       have hs9 := HOG.out.1
       have HCO := Aside0.mk hCo
       have HSE := Aside0.mk hse
       have HOE := Aside0.mk hoe
       clear hcl hM hcc hfr hgd hCo e72 e73 hom hog hov
       obtain ⟨K0, hK0⟩ : ∃ K0, K0 = (ins.take m).foldl objS [a2] := ⟨_, rfl⟩
       have hstep : (ins.take (m + 1)).foldl objS [a2] = o.f0.foldl (secS o) K0 := by rw [List.take_succ_eq_append_getElem hlm, List.foldl_append, ← hK0, ← hoe]; rfl
       have hlen : K0.length + nO o ≤ 1000000001 := by
        have h1 := objS_ln (ins.take m) [a2]
        have h2 := sum_take_succ nO z68 ins m hlm
        have h3 := sum_take_le nO ins (m + 1)
        have h4 := HOK.out.2
        rw [← hK0] at h1
        rw [List.getD_eq_getElem?_getD, List.getElem?_eq_getElem hlm, Option.getD_some, ← hoe] at h2
        simp only [List.length_singleton] at h1
        omega
       rw [← hK0] at HK
       have HST := Aside0.mk hstep
       have HLN := Aside0.mk hlen
       clear hK0 hstep hlen hoe hse
       go_wp2
       have HX12 := Aside0.mk (blk_new wr (.cells #[.slice Ao secs.length co] 68 (0, 0)))
       have HI3 := Aside0.mk (HI.out.alloc (.cells #[.slice Ao secs.length co] 68 (0, 0)))
       have HK3 := Aside0.mk (HK.out.alloc (.cells #[.slice Ao secs.length co] 68 (0, 0)))
       obtain ⟨q12, hq12⟩ : ∃ q, q = wr.heap.size := ⟨_, rfl⟩
       rw [← hq12] at HX12 ⊢
       generalize (wr.alloc (.cells #[.slice Ao secs.length co] 68 (0, 0))) = W3 at HX12 HI3 HK3 ⊢
       clear hq12 x0 HI HK
       go_loopw [40] (fun v wr => ∃ j : Nat, j ≤ secs.length ∧ v = .int .i64 (j : Int) ∧ Aside0 (GS w wr bt (.slice (some ⟨g7, 0, none⟩) ins.length c7) ins tk) ∧ Aside0 (IsKeysS Try.prog 9 4 wr bw ((secs.take j).foldl (secS o) K0)) ∧ Aside0 (wr.heap[q12]? = some (.cells #[.slice Ao secs.length co] 68 (0, 0)))) (fun v _ => secs.length - (intOf v).toNat)
       case atStart => exact ⟨0, Nat.zero_le _, rfl, HI3, HK3, HX12⟩
       case round =>
        clear HI3 HK3 HX12
        obtain ⟨j, hj, rfl, HI, HK, HX12⟩ := hrel
        by_cases hlj : j < secs.length
        · obtain ⟨ad, A4, c4, A6, c6, Ar, cr, eA, y0, y1, y2, y3, y4, y5, y6, y7, _, _, _, _, hlr, hCr⟩ := at_T130 HCO.out (j : Int) (by omega) (by omega)
          cases eA
          replace y0 := (HI.out.hb.cell (World.block_lt_of_cell? w _ y0)).trans y0
          replace y1 := (HI.out.hb.cell (World.block_lt_of_cell? w _ y1)).trans y1
          replace y2 := (HI.out.hb.cell (World.block_lt_of_cell? w _ y2)).trans y2
          replace y3 := (HI.out.hb.cell (World.block_lt_of_cell? w _ y3)).trans y3
          replace y4 := (HI.out.hb.cell (World.block_lt_of_cell? w _ y4)).trans y4
          replace y5 := (HI.out.hb.cell (World.block_lt_of_cell? w _ y5)).trans y5
          replace y6 := (HI.out.hb.cell (World.block_lt_of_cell? w _ y6)).trans y6
          replace y7 := (HI.out.hb.cell (World.block_lt_of_cell? w _ y7)).trans y7
          obtain ⟨s, hs⟩ : ∃ s, s = rd_T130 secs (j : Int) := ⟨_, rfl⟩
          rw [← hs] at y0 y1 y2 y3 y4 y5 y6 y7 hlr hCr
          rw [Int.toNat_natCast] at y0 y1 y2 y3 y4 y5 y6 y7
          have hsj : s = secs[j] := by rw [hs]; unfold rd_T130; rw [Int.toNat_natCast, List.getD_eq_getElem?_getD, List.getElem?_eq_getElem hlj]; rfl
          have hsm : s ∈ secs := by rw [hsj]; exact List.getElem_mem _
          obtain ⟨sl, hsl2⟩ : ∃ x, x = s.f2 := ⟨_, rfl⟩
          rw [← hsl2] at y2
          obtain ⟨hsn, hsr, hsl⟩ := HOG.out.2 s hsm
          obtain ⟨Kj, hKj⟩ : ∃ K, K = (secs.take j).foldl (secS o) K0 := ⟨_, rfl⟩
          rw [← hKj] at HK
          have hst3 : (secs.take (j + 1)).foldl (secS o) K0 = s.f7.foldl (relS o) (if sl = 0 then insS Kj s.f0 else Kj) := by rw [hsl2, List.take_succ_eq_append_getElem hlj, List.foldl_append, ← hKj, ← hsj]; rfl
          have hkl : Kj.length + (1 + s.f7.length) ≤ 1000000001 := by
           have h1 := secsS_ln o (secs.take j) K0
           have h2 := sum_take_succ (fun s : GSec => 1 + s.f7.length) z130 secs j hlj
           have h3 := sum_take_le (fun s : GSec => 1 + s.f7.length) secs (j + 1)
           have h4 := HLN.out
           have h5 : nO o = (secs.map (fun s : GSec => 1 + s.f7.length)).sum := by rw [HSE.out]; rfl
           rw [← hKj] at h1
           rw [List.getD_eq_getElem?_getD, List.getElem?_eq_getElem hlj, Option.getD_some, ← hsj] at h2
           omega
          have HCR := Aside0.mk hCr
          have HSL := Aside0.mk hsl
          have HB14 := Aside0.mk (blk_new wr (.cells #[.string s.f0, .int .i64 s.f1, .int .i64 sl, .int .i64 s.f3, .slice A4 s.f4.length c4, .int .i64 s.f5, .slice A6 s.f6.length c6, .slice Ar s.f7.length cr] 130 (0, 0)))
          have z0 := (blk_cell HB14.out 0).trans rfl
          have z2 := (blk_cell HB14.out 2).trans rfl
          have z7 := (blk_cell HB14.out 7).trans rfl
          have HST3 := Aside0.mk hst3
          have hbk := HK.out.lt
          clear hs hsj hsm hsl hCr hKj hst3 hsl2
          by_cases hx : sl = 0
          · subst hx
            have HE := Aside0.mk (HST3.out.trans (by rw [if_pos rfl]))
            go_wp2_with (first | (at_mapUpdate; go_loud (refine wpList_put_keysS rfl _ _ _ 141 rfl 9 4 (Maps.string_keyed Try.underlying9) Try.underlying9 Try.underlying141 Try.underlying4 bw Kj rfl (HK.out.alloc (.cells #[.string s.f0, .int .i64 s.f1, .int .i64 0, .int .i64 s.f3, .slice A4 s.f4.length c4, .int .i64 s.f5, .slice A6 s.f6.length c6, .slice Ar s.f7.length cr] 130 (0, 0))) (Nat.lt_of_le_of_lt (show Kj.length ≤ 1000000001 by omega) (by decide)) s.f0 rfl rfl (Nat.le_trans hsn (by decide)) ?_; intro w5 hk5 hg5; have HK5 := Aside0.mk hk5; have HI5 := Aside0.mk ((HI.out.alloc (.cells #[.string s.f0, .int .i64 s.f1, .int .i64 0, .int .i64 s.f3, .slice A4 s.f4.length c4, .int .i64 s.f5, .slice A6 s.f6.length c6, .slice Ar s.f7.length cr] 130 (0, 0))).wanted (HK.out.alloc (.cells #[.string s.f0, .int .i64 s.f1, .int .i64 0, .int .i64 s.f3, .slice A4 s.f4.length c4, .int .i64 s.f5, .slice A6 s.f6.length c6, .slice Ar s.f7.length cr] 130 (0, 0))) hg5 hbw); have HX5 := Aside0.mk (blk_grown (blk_alloc HX12.out (.cells #[.string s.f0, .int .i64 s.f1, .int .i64 0, .int .i64 s.f3, .slice A4 s.f4.length c4, .int .i64 s.f5, .slice A6 s.f6.length c6, .slice Ar s.f7.length cr] 130 (0, 0))) hg5 (fun e => (HK.out.ne_cells HX12.out).symm (Option.some.inj e))); have zz := (blk_cell (blk_grown HB14.out hg5 (fun e => by have := Option.some.inj e; omega)) 7).trans rfl; clear hk5 hg5)))
            have HI5 := HI5
            clear HI HK HX12 HB14 HST3 y0 y1 y2 y3 y4 y5 y6 y7 z0 z2 z7 hbk
            go_loopw [53] (fun v wr => ∃ i : Nat, i ≤ s.f7.length ∧ v = .int .i64 (i : Int) ∧ Aside0 (GS w wr bt (.slice (some ⟨g7, 0, none⟩) ins.length c7) ins tk) ∧ Aside0 (IsKeysS Try.prog 9 4 wr bw ((s.f7.take i).foldl (relS o) (insS Kj s.f0))) ∧ Aside0 (wr.heap[q12]? = some (.cells #[.slice (some ad) secs.length co] 68 (0, 0)))) (fun v _ => s.f7.length - (intOf v).toNat)
            case atStart => exact ⟨0, Nat.zero_le _, rfl, HI5, HK5, HX5⟩
            case round =>
             clear HI5 HK5 HX5
             obtain ⟨i, hi, rfl, HI, HK, HX12⟩ := hrel
             by_cases hli : i < s.f7.length
             · obtain ⟨ad2, eR, u0, u1, u2⟩ := at_T132 HCR.out (i : Int) (by omega) (by omega)
               cases eR
               replace u0 := (HI.out.hb.cell (World.block_lt_of_cell? w _ u0)).trans u0
               replace u1 := (HI.out.hb.cell (World.block_lt_of_cell? w _ u1)).trans u1
               replace u2 := (HI.out.hb.cell (World.block_lt_of_cell? w _ u2)).trans u2
               obtain ⟨rl, hrl⟩ : ∃ x, x = rd_T132 s.f7 (i : Int) := ⟨_, rfl⟩
               rw [← hrl] at u0 u1 u2
               rw [Int.toNat_natCast] at u0 u1 u2
               have hri : rl = s.f7[i] := by rw [hrl]; unfold rd_T132; rw [Int.toNat_natCast, List.getD_eq_getElem?_getD, List.getElem?_eq_getElem hli]; rfl
               obtain ⟨hrn, hloc⟩ := HSL.out rl (by rw [hri]; exact List.getElem_mem _)
               obtain ⟨Ki, hKi⟩ : ∃ K, K = (s.f7.take i).foldl (relS o) (insS Kj s.f0) := ⟨_, rfl⟩
               rw [← hKi] at HK
               have hst4 : (s.f7.take (i + 1)).foldl (relS o) (insS Kj s.f0) = relS o Ki rl := by rw [List.take_succ_eq_append_getElem hli, List.foldl_append, ← hKi, ← hri]; rfl
               have hki : Ki.length ≤ 1000000001 := by
                have h1 := relS_ln o (s.f7.take i) (insS Kj s.f0)
                rw [← hKi, List.length_take] at h1
                have h9 := insS_le Kj s.f0
                omega
               have HX16 := Aside0.mk (blk_alloc HX12.out (.cells #[.int .i64 rl.f0, .int .i64 rl.f1, .string rl.f2] 132 (0, 0)))
               have HB16 := Aside0.mk (blk_new wr (.cells #[.int .i64 rl.f0, .int .i64 rl.f1, .string rl.f2] 132 (0, 0)))
               have b12 := (blk_cell HX16.out 0).trans rfl
               have z2 := (blk_cell HB16.out 2).trans rfl
               have HI6 := Aside0.mk (HI.out.alloc (.cells #[.int .i64 rl.f0, .int .i64 rl.f1, .string rl.f2] 132 (0, 0)))
               have HK6 := Aside0.mk (HK.out.alloc (.cells #[.int .i64 rl.f0, .int .i64 rl.f1, .string rl.f2] 132 (0, 0)))
               have HST4 := Aside0.mk hst4
               clear hrl hri hKi hst4
               cases hlb : localB o rl.f2 with
               | true =>
                have HLC := Aside0.mk (hloc.trans (by rw [hlb]))
                have HE4 := Aside0.mk (HST4.out.trans (show relS o Ki rl = Ki by unfold relS; rw [if_pos hlb]))
                clear hloc hlb
                go_wp2_with (first | (go_at_call 92; go_loud (refine (impl_localIn.calls k (some ad) co secs rl.f2 true _ (Kd.C_below HCO.out (by exact HI6.out.hb)) hlo HLC.out).mono ?_; rintro e w7 ⟨rfl, hb7⟩; have HI7 := Aside0.mk (HI6.out.below hb7); have HK7 := Aside0.mk (HK6.out.below hb7); have HX7 := Aside0.mk (blk_below HX16.out hb7); clear hb7)))
                go_roundw
                case measure => simp [intOf]; omega
                case rel => first | exact ⟨i + 1, by omega, by go_num, HI7, ⟨by rw [HE4.out]; exact HK7.out⟩, HX7⟩ | ((repeat apply Exists.intro); exact ⟨⟨i + 1, by omega, by go_num, HI7, ⟨by rw [HE4.out]; exact HK7.out⟩, HX7⟩, rfl⟩)
               | false =>
                have HLC := Aside0.mk (hloc.trans (by rw [hlb]))
                have HE4 := Aside0.mk (HST4.out.trans (show relS o Ki rl = insS Ki rl.f2 by unfold relS; rw [if_neg (by rw [hlb]; simp)]))
                clear hloc hlb
                go_wp2_with (first | (go_at_call 92; go_loud (refine (impl_localIn.calls k (some ad) co secs rl.f2 false _ (Kd.C_below HCO.out (by exact HI6.out.hb)) hlo HLC.out).mono ?_; rintro e w7 ⟨rfl, hb7⟩; have HI7 := Aside0.mk (HI6.out.below hb7); have HK7 := Aside0.mk (HK6.out.below hb7); have HX7 := Aside0.mk (blk_below HX16.out hb7); have zz2 := (blk_cell (blk_below HB16.out hb7) 2).trans rfl; clear hb7)) | (at_mapUpdate; go_loud (refine wpList_put_keysS rfl _ _ _ 141 rfl 9 4 (Maps.string_keyed Try.underlying9) Try.underlying9 Try.underlying141 Try.underlying4 bw Ki rfl HK7.out (Nat.lt_of_le_of_lt hki (by decide)) rl.f2 rfl rfl (Nat.le_trans hrn (by decide)) ?_; intro w8 hk8 hg8; have HK8 := Aside0.mk hk8; have HI8 := Aside0.mk (HI7.out.wanted HK7.out hg8 hbw); have HX8 := Aside0.mk (blk_grown HX7.out hg8 (fun e => (HK7.out.ne_cells HX7.out).symm (Option.some.inj e))); clear hk8 hg8)))
                go_roundw
                case measure => simp [intOf]; omega
                case rel => first | exact ⟨i + 1, by omega, by go_num, HI8, ⟨by rw [HE4.out]; exact HK8.out⟩, HX8⟩ | ((repeat apply Exists.intro); exact ⟨⟨i + 1, by omega, by go_num, HI8, ⟨by rw [HE4.out]; exact HK8.out⟩, HX8⟩, rfl⟩)
             · have hie : i = s.f7.length := by omega
               subst hie
               go_wp2
               go_roundw
               case measure => simp [intOf]; omega
               case rel => first | exact ⟨j + 1, by omega, by go_num, HI, ⟨by rw [HE.out]; have h := HK.out; rw [List.take_length] at h; exact h⟩, HX12⟩ | ((repeat apply Exists.intro); exact ⟨⟨j + 1, by omega, by go_num, HI, ⟨by rw [HE.out]; have h := HK.out; rw [List.take_length] at h; exact h⟩, HX12⟩, rfl⟩)
          · have hxb : decide (sl = 0) = false := decide_eq_false hx
            have HE := Aside0.mk (HST3.out.trans (by rw [if_neg hx]))
            have HK5 := Aside0.mk (HK.out.alloc (.cells #[.string s.f0, .int .i64 s.f1, .int .i64 sl, .int .i64 s.f3, .slice A4 s.f4.length c4, .int .i64 s.f5, .slice A6 s.f6.length c6, .slice Ar s.f7.length cr] 130 (0, 0)))
            have HI5 := Aside0.mk (HI.out.alloc (.cells #[.string s.f0, .int .i64 s.f1, .int .i64 sl, .int .i64 s.f3, .slice A4 s.f4.length c4, .int .i64 s.f5, .slice A6 s.f6.length c6, .slice Ar s.f7.length cr] 130 (0, 0)))
            have HX5 := Aside0.mk (blk_alloc HX12.out (.cells #[.string s.f0, .int .i64 s.f1, .int .i64 sl, .int .i64 s.f3, .slice A4 s.f4.length c4, .int .i64 s.f5, .slice A6 s.f6.length c6, .slice Ar s.f7.length cr] 130 (0, 0)))
            have hbq : (sl == 0) = false := beq_eq_false_iff_ne.mpr hx
            go_wp2
            generalize (wr.alloc (.cells #[.string s.f0, .int .i64 s.f1, .int .i64 sl, .int .i64 s.f3, .slice A4 s.f4.length c4, .int .i64 s.f5, .slice A6 s.f6.length c6, .slice Ar s.f7.length cr] 130 (0, 0))) = w5 at HK5 HI5 HX5 ⊢
            (first | rw [hbq] | skip)
            clear hx hxb hbq
            clear HI HK HX12 HB14 HST3 y0 y1 y2 y3 y4 y5 y6 y7 z0 z2 z7 hbk
            go_loopw [53] (fun v wr => ∃ i : Nat, i ≤ s.f7.length ∧ v = .int .i64 (i : Int) ∧ Aside0 (GS w wr bt (.slice (some ⟨g7, 0, none⟩) ins.length c7) ins tk) ∧ Aside0 (IsKeysS Try.prog 9 4 wr bw ((s.f7.take i).foldl (relS o) Kj)) ∧ Aside0 (wr.heap[q12]? = some (.cells #[.slice (some ad) secs.length co] 68 (0, 0)))) (fun v _ => s.f7.length - (intOf v).toNat)
            case atStart => exact ⟨0, Nat.zero_le _, rfl, HI5, HK5, HX5⟩
            case round =>
             clear HI5 HK5 HX5
             obtain ⟨i, hi, rfl, HI, HK, HX12⟩ := hrel
             by_cases hli : i < s.f7.length
             · obtain ⟨ad2, eR, u0, u1, u2⟩ := at_T132 HCR.out (i : Int) (by omega) (by omega)
               cases eR
               replace u0 := (HI.out.hb.cell (World.block_lt_of_cell? w _ u0)).trans u0
               replace u1 := (HI.out.hb.cell (World.block_lt_of_cell? w _ u1)).trans u1
               replace u2 := (HI.out.hb.cell (World.block_lt_of_cell? w _ u2)).trans u2
               obtain ⟨rl, hrl⟩ : ∃ x, x = rd_T132 s.f7 (i : Int) := ⟨_, rfl⟩
               rw [← hrl] at u0 u1 u2
               rw [Int.toNat_natCast] at u0 u1 u2
               have hri : rl = s.f7[i] := by rw [hrl]; unfold rd_T132; rw [Int.toNat_natCast, List.getD_eq_getElem?_getD, List.getElem?_eq_getElem hli]; rfl
               obtain ⟨hrn, hloc⟩ := HSL.out rl (by rw [hri]; exact List.getElem_mem _)
               obtain ⟨Ki, hKi⟩ : ∃ K, K = (s.f7.take i).foldl (relS o) Kj := ⟨_, rfl⟩
               rw [← hKi] at HK
               have hst4 : (s.f7.take (i + 1)).foldl (relS o) Kj = relS o Ki rl := by rw [List.take_succ_eq_append_getElem hli, List.foldl_append, ← hKi, ← hri]; rfl
               have hki : Ki.length ≤ 1000000001 := by
                have h1 := relS_ln o (s.f7.take i) Kj
                rw [← hKi, List.length_take] at h1
                have h9 := hkl
                omega
               have HX16 := Aside0.mk (blk_alloc HX12.out (.cells #[.int .i64 rl.f0, .int .i64 rl.f1, .string rl.f2] 132 (0, 0)))
               have HB16 := Aside0.mk (blk_new wr (.cells #[.int .i64 rl.f0, .int .i64 rl.f1, .string rl.f2] 132 (0, 0)))
               have b12 := (blk_cell HX16.out 0).trans rfl
               have z2 := (blk_cell HB16.out 2).trans rfl
               have HI6 := Aside0.mk (HI.out.alloc (.cells #[.int .i64 rl.f0, .int .i64 rl.f1, .string rl.f2] 132 (0, 0)))
               have HK6 := Aside0.mk (HK.out.alloc (.cells #[.int .i64 rl.f0, .int .i64 rl.f1, .string rl.f2] 132 (0, 0)))
               have HST4 := Aside0.mk hst4
               clear hrl hri hKi hst4
               cases hlb : localB o rl.f2 with
               | true =>
                have HLC := Aside0.mk (hloc.trans (by rw [hlb]))
                have HE4 := Aside0.mk (HST4.out.trans (show relS o Ki rl = Ki by unfold relS; rw [if_pos hlb]))
                clear hloc hlb
                go_wp2_with (first | (go_at_call 92; go_loud (refine (impl_localIn.calls k (some ad) co secs rl.f2 true _ (Kd.C_below HCO.out (by exact HI6.out.hb)) hlo HLC.out).mono ?_; rintro e w7 ⟨rfl, hb7⟩; have HI7 := Aside0.mk (HI6.out.below hb7); have HK7 := Aside0.mk (HK6.out.below hb7); have HX7 := Aside0.mk (blk_below HX16.out hb7); clear hb7)))
                go_roundw
                case measure => simp [intOf]; omega
                case rel => first | exact ⟨i + 1, by omega, by go_num, HI7, ⟨by rw [HE4.out]; exact HK7.out⟩, HX7⟩ | ((repeat apply Exists.intro); exact ⟨⟨i + 1, by omega, by go_num, HI7, ⟨by rw [HE4.out]; exact HK7.out⟩, HX7⟩, rfl⟩)
               | false =>
                have HLC := Aside0.mk (hloc.trans (by rw [hlb]))
                have HE4 := Aside0.mk (HST4.out.trans (show relS o Ki rl = insS Ki rl.f2 by unfold relS; rw [if_neg (by rw [hlb]; simp)]))
                clear hloc hlb
                go_wp2_with (first | (go_at_call 92; go_loud (refine (impl_localIn.calls k (some ad) co secs rl.f2 false _ (Kd.C_below HCO.out (by exact HI6.out.hb)) hlo HLC.out).mono ?_; rintro e w7 ⟨rfl, hb7⟩; have HI7 := Aside0.mk (HI6.out.below hb7); have HK7 := Aside0.mk (HK6.out.below hb7); have HX7 := Aside0.mk (blk_below HX16.out hb7); have zz2 := (blk_cell (blk_below HB16.out hb7) 2).trans rfl; clear hb7)) | (at_mapUpdate; go_loud (refine wpList_put_keysS rfl _ _ _ 141 rfl 9 4 (Maps.string_keyed Try.underlying9) Try.underlying9 Try.underlying141 Try.underlying4 bw Ki rfl HK7.out (Nat.lt_of_le_of_lt hki (by decide)) rl.f2 rfl rfl (Nat.le_trans hrn (by decide)) ?_; intro w8 hk8 hg8; have HK8 := Aside0.mk hk8; have HI8 := Aside0.mk (HI7.out.wanted HK7.out hg8 hbw); have HX8 := Aside0.mk (blk_grown HX7.out hg8 (fun e => (HK7.out.ne_cells HX7.out).symm (Option.some.inj e))); clear hk8 hg8)))
                go_roundw
                case measure => simp [intOf]; omega
                case rel => first | exact ⟨i + 1, by omega, by go_num, HI8, ⟨by rw [HE4.out]; exact HK8.out⟩, HX8⟩ | ((repeat apply Exists.intro); exact ⟨⟨i + 1, by omega, by go_num, HI8, ⟨by rw [HE4.out]; exact HK8.out⟩, HX8⟩, rfl⟩)
             · have hie : i = s.f7.length := by omega
               subst hie
               go_wp2
               go_roundw
               case measure => simp [intOf]; omega
               case rel => first | exact ⟨j + 1, by omega, by go_num, HI, ⟨by rw [HE.out]; have h := HK.out; rw [List.take_length] at h; exact h⟩, HX12⟩ | ((repeat apply Exists.intro); exact ⟨⟨j + 1, by omega, by go_num, HI, ⟨by rw [HE.out]; have h := HK.out; rw [List.take_length] at h; exact h⟩, HX12⟩, rfl⟩)
        · have hje : j = secs.length := by omega
          subst hje
          go_wp2
          go_roundw
          case measure => simp [intOf]; omega
          case rel => first | exact ⟨m + 1, by omega, by go_num, HI, ⟨by rw [HST.out]; have h := HK.out; rw [List.take_length, HSE.out] at h; exact h⟩⟩ | ((repeat apply Exists.intro); exact ⟨⟨m + 1, by omega, by go_num, HI, ⟨by rw [HST.out]; have h := HK.out; rw [List.take_length, HSE.out] at h; exact h⟩⟩, rfl⟩)
     · have hme : m = ins.length := by omega
       subst hme
       have hkeys := HK.out
       rw [List.take_length] at hkeys
       have HK := Aside0.mk (show IsKeysS Try.prog 9 4 wr bw (wantK ins a2) from hkeys)
       clear hkeys
       go_wp2
       have hwl : (wantK ins a2).length ≤ 1000000001 := by
        have h1 := objS_ln ins [a2]
        have h4 := HOK.out.2
        have h5 : (wantK ins a2).length ≤ ([a2] : List ByteArray).length + (ins.map nO).sum := h1
        simp only [List.length_singleton] at h5
        omega
       have hws : ∀ n ∈ (wantK ins a2), n ∈ a2 :: allN (l0 ++ l1) := wantK_sub HIN.out
       obtain ⟨Wk, hwk⟩ : ∃ x, x = (wantK ins a2) := ⟨_, rfl⟩
       rw [← hwk] at HK hwl hws H2
       have HWS := Aside0.mk hws
       clear hwk hws
       go_loopw [70] (fun v wr => ∃ m : Nat, m ≤ ins.length ∧ v = .int .i64 (m : Int) ∧ Aside0 (GS w wr bt (.slice A7 ins.length c7) ins tk) ∧ Aside0 (IsKeysS Try.prog 9 4 wr bw (leftK (ins.take m) Wk))) (fun v _ => ins.length - (intOf v).toNat)
       case atStart => exact ⟨0, Nat.zero_le _, rfl, HI, HK⟩
       case round =>
        clear HI HK
        obtain ⟨m, hm, rfl, HI, HK⟩ := hrel
        by_cases hlm : m < ins.length
        · obtain ⟨g7, cap7, e7, _, _, _⟩ := Kd.R_form HI.out.hi (by omega)
          injection e7 with e7 e72 e73
          subst e7
          obtain ⟨c, hcl, hM, hcc, hfr⟩ := Kd.R_elem HI.out.hi z68 (m : Int) (by omega) (by omega)
          obtain ⟨o, hoe⟩ : ∃ o, o = ins[m] := ⟨_, rfl⟩
          have hgd : ins.getD (m : Int).toNat z68 = o := by rw [Int.toNat_natCast, List.getD_eq_getElem?_getD, List.getElem?_eq_getElem hlm, hoe]; rfl
          rw [hgd] at hM
          obtain ⟨Ao, co, rfl, hlo, hCo⟩ := k68_open (show k68.K w o c from hM)
          have x0 := hcc 0 _ rfl
          simp only [show (KF k68 w).sz = 1 from rfl, Nat.mul_one, Nat.add_zero, Int.toNat_natCast] at x0
          have hom : o ∈ l0 ++ l1 := HIN.out o (by rw [hoe]; exact List.getElem_mem _)
          obtain ⟨secs, hse⟩ : ∃ s, s = o.f0 := ⟨_, rfl⟩
          have hog := HG.out.2.1 o hom
          have hov := HG.out.2.2 o hom
          rw [← hse] at hog hov hCo hlo x0
          have HOG := Aside0.mk hog
          have HOV := Aside0.mk hov
          have hs9 := HOG.out.1
          have HCO := Aside0.mk hCo
          have HSE := Aside0.mk hse
          have HOE := Aside0.mk hoe
          clear hcl hM hcc hfr hgd hCo e72 e73 hom hog hov
          obtain ⟨Km, hKm⟩ : ∃ K, K = leftK (ins.take m) Wk := ⟨_, rfl⟩
          have hst5 : leftK (ins.take (m + 1)) Wk = dropK Km o := by rw [leftK_take ins Wk m hlm, ← hKm, ← hoe]
          have hsub : ∀ n ∈ Km, n ∈ a2 :: allN (l0 ++ l1) := fun n hn => HWS.out n (leftK_sub _ _ n (by rw [← hKm]; exact hn))
          rw [← hKm] at HK
          have HST5 := Aside0.mk hst5
          have HSUB := Aside0.mk hsub
          have HKN := Aside0.mk HK.out.nodup
          have hq1 := HI.out.own_lt g7 rfl
          have hq2 := HK.out.lt
          obtain ⟨q18, hq18⟩ : ∃ q, q = wr.heap.size := ⟨_, rfl⟩
          rw [← hq18] at hq1 hq2
          have hq3 : (wr.alloc (.cells #[.slice Ao secs.length co] 68 (0, 0))).heap.size = q18 + 1 := by rw [hq18]; simp
          have HQ3 := Aside0.mk hq3
          have HQ18 := Aside0.mk hq18
          clear hKm hst5 hsub hoe hse hq3 hq18
          go_wp2_with (first | (at_range; go_loud (refine wpList_range_keysS rfl _ 141 rfl 9 4 (Maps.string_keyed Try.underlying9) Try.underlying141 bw Km rfl (HK.out.alloc (.cells #[.slice Ao secs.length co] 68 (0, 0))) ?_; intro w5 hrg5 hg5 hs5; rw [HQ3.out] at hrg5 hs5; have HG5 := Aside0.mk hrg5; have HI5 := Aside0.mk ((HI.out.alloc (.cells #[.slice Ao secs.length co] 68 (0, 0))).none hg5); have HX5 := Aside0.mk (show w5.heap[q18]? = some (.cells #[.slice Ao secs.length co] 68 (0, 0)) by rw [HQ18.out]; exact blk_grown (blk_new wr (.cells #[.slice Ao secs.length co] 68 (0, 0))) hg5 (by simp)); clear hrg5 hg5 hs5)))
          go_frame
          rw [HQ3.out, ← HQ18.out]
          clear HI HK x0
          go_loopw [19] (fun _ wr => ∃ (kj lf : List ByteArray), Aside0 (KRangeS Try.prog 9 4 wr bw (q18 + 1) kj lf) ∧ Aside0 (∀ x ∈ lf, x ∈ kj) ∧ Aside0 (∀ x, x ∈ kj ↔ x ∈ Km ∧ (x ∈ lf ∨ givesB o x = false)) ∧ Aside0 (GS w wr bt (.slice (some ⟨g7, 0, none⟩) ins.length c7) ins tk) ∧ Aside0 (wr.heap[q18]? = some (.cells #[.slice Ao secs.length co] 68 (0, 0)))) (fun _ wr => wr.rangeLeft bw (q18 + 1))
          case atStart => exact ⟨Km, Km, HG5, ⟨fun x h => h⟩, ⟨fun x => ⟨fun h => ⟨h, .inl h⟩, fun h => h.1⟩⟩, HI5, HX5⟩
          case round =>
           clear HG5 HI5 HX5
           obtain ⟨kj, lf, HG, HS, HE, HI, HX⟩ := hrel
           go_wp2_with (first | (at_next; refine wpList_next_keysS rfl _ rfl 9 4 (Maps.string_keyed Try.underlying9) Try.underlying9 Try.underlying4 bw (q18 + 1) kj lf rfl HG.out HS.out ?_ ?_))
           · intro hlf
             subst hlf
             have HK9 := Aside0.mk (HG.out.keys.same (ks' := dropK Km o) (by unfold dropK; exact HKN.out.filter _) (fun x => by rw [HE.out x, dropK_mem]; simp))
             go_wp2
             go_roundw
             case measure => simp [intOf]; omega
             case rel => first | exact ⟨m + 1, by omega, by go_num, HI, ⟨by rw [HST5.out]; exact HK9.out⟩⟩ | ((repeat apply Exists.intro); exact ⟨⟨m + 1, by omega, by go_num, HI, ⟨by rw [HST5.out]; exact HK9.out⟩⟩, rfl⟩)
           · intro x w6 hwx hx hg6 hlt hgr hsz hen
             have hmm2 := HS.out x hx
             have hgv := HOV.out x (HSUB.out x ((HE.out x).1 hmm2).1)
             have HI6 := Aside0.mk (HI.out.other hgr (by have := HI.out.lo; omega) (by intro e; have h : g7 = q18 + 1 := Option.some.inj e; omega) (by omega))
             have HX6 := Aside0.mk (blk_grown HX.out hgr (by intro e; have := Option.some.inj e; omega))
             have b18 := (blk_cell HX6.out 0).trans rfl
             have HG6 := Aside0.mk hg6
             have HX0 := Aside0.mk hx
             clear hg6 hgr HI HX HG hmm2 hx
             cases hgb : givesB o x with
             | false =>
              have HGV := Aside0.mk (hgv.trans (by rw [hgb]))
              have HGB := Aside0.mk hgb
              clear hgv hgb
              go_wp2_with (first | (go_at_call 93; go_loud (refine (impl_gives.calls k Ao co secs x false _ (Kd.C_below HCO.out (by exact HI6.out.hb)) hlo HGV.out).mono ?_; rintro e w7 ⟨rfl, hb7⟩; have HI7 := Aside0.mk (HI6.out.below hb7); have HX7 := Aside0.mk (blk_below HX6.out hb7); have hg7 := HG6.out.kept (grown_of_below hb7 none) (by simp) (by simp); have hl7 := HG6.out.left_kept (grown_of_below hb7 none) (by simp) (by simp); have HG7 := Aside0.mk hg7; clear hb7 hg7)))
              go_roundw
              case measure => rw [hl7]; exact hlt
              case rel => first | exact ⟨_, _, HG7, ⟨fun y hy => HS.out y (List.mem_filter.1 hy).1⟩, ⟨fun y => by rw [HE.out y, List.mem_filter]; by_cases hy : y = x; (subst hy; simp [HX0.out, HGB.out]); simp [hy]⟩, HI7, HX7⟩ | ((repeat apply Exists.intro); exact ⟨⟨_, _, HG7, ⟨fun y hy => HS.out y (List.mem_filter.1 hy).1⟩, ⟨fun y => by rw [HE.out y, List.mem_filter]; by_cases hy : y = x; (subst hy; simp [HX0.out, HGB.out]); simp [hy]⟩, HI7, HX7⟩, rfl⟩)
             | true =>
              have HGV := Aside0.mk (hgv.trans (by rw [hgb]))
              have HGB := Aside0.mk hgb
              have HE8 := Aside0.mk (show ∀ y, y ∈ (kj.filter fun z => !decide (z = x)) ↔ y ∈ Km ∧ (y ∈ ((lf.filter fun z => !decide (z = x)).filter fun z => !decide (z = x)) ∨ givesB o y = false) from fun y => by rw [List.mem_filter, HE.out y, List.mem_filter, List.mem_filter]; by_cases hy : y = x; (subst hy; simp [HGB.out]); simp [hy])
              have HS8 := Aside0.mk (show ∀ y ∈ ((lf.filter fun z => !decide (z = x)).filter fun z => !decide (z = x)), y ∈ (kj.filter fun z => !decide (z = x)) from fun y hy => List.mem_filter.2 ⟨HS.out y (List.mem_filter.1 (List.mem_filter.1 hy).1).1, (List.mem_filter.1 hy).2⟩)
              clear hgv hgb
              go_wp2_with (first | (go_at_call 93; go_loud (refine (impl_gives.calls k Ao co secs x true _ (Kd.C_below HCO.out (by exact HI6.out.hb)) hlo HGV.out).mono ?_; rintro e w7 ⟨rfl, hb7⟩; have HI7 := Aside0.mk (HI6.out.below hb7); have HX7 := Aside0.mk (blk_below HX6.out hb7); have hg7 := HG6.out.kept (grown_of_below hb7 none) (by simp) (by simp); have hl7 := HG6.out.left_kept (grown_of_below hb7 none) (by simp) (by simp); have HG7 := Aside0.mk hg7; clear hb7 hg7)) | (refine wpList_del_krangeS rfl _ _ 141 9 rfl 4 (Maps.string_keyed Try.underlying9) Try.underlying9 Try.underlying141 bw (q18 + 1) kj _ rfl HG7.out x rfl hwx ?_; intro w8 hg8 hle8 hgr8; have HG8 := Aside0.mk hg8; have HI8 := Aside0.mk (HI7.out.wanted HG7.out.keys hgr8 hbw); have HX8 := Aside0.mk (blk_grown HX7.out hgr8 (by intro e; have := Option.some.inj e; omega)); clear hg8 hgr8))
              go_roundw
              case measure => exact Nat.lt_of_le_of_lt hle8 (by rw [hl7]; exact hlt)
              case rel => first | exact ⟨_, _, HG8, HS8, HE8⟩ | exact ⟨_, _, HG8, HS8, HE8, HI8, HX8⟩ | exact ⟨_, ⟨_, _, HG8, HS8, HE8, HI8, HX8⟩, rfl⟩ | exact ⟨_, _, ⟨_, _, HG8, HS8, HE8, HI8, HX8⟩, rfl⟩
        · have hme : m = ins.length := by omega
          subst hme
          have hkeys := HK.out
          rw [List.take_length] at hkeys
          have HK := Aside0.mk (show IsKeysS Try.prog 9 4 wr bw (leftK ins Wk) from hkeys)
          clear hkeys hwl
          go_wp2
          obtain ⟨WL, hWL⟩ : ∃ x, x = leftK ins Wk := ⟨_, rfl⟩
          rw [← hWL] at HK H2
          have hz : ∀ W, (zeroValue 4).run Try.prog W = .ok (.bool false) W := fun W => by kernel_rfl
          have HZ := Aside0.mk hz
          clear hWL HWS hz
          go_loopw [7, 9, 88] (fun v7 v9 v88 wr => ∃ i : Nat, i ≤ l1.length ∧ v7 = .slice A7 ins.length c7 ∧ v9 = .bool false ∧ v88 = .int .i64 (i : Int) ∧ Aside0 (GS w wr bt (.slice A7 ins.length c7) ins tk) ∧ Aside0 (IsKeysS Try.prog 9 4 wr bw WL) ∧ Aside0 (∀ j, j < i → hitAt l1 tk WL j = false)) (fun _ _ v _ => l1.length - (intOf v).toNat)
          case atStart => exact ⟨0, Nat.zero_le _, rfl, rfl, rfl, HI, HK, ⟨fun j hj => absurd hj (Nat.not_lt_zero _)⟩⟩
          case round =>
           clear HI HK
           obtain ⟨i, hi, rfl, rfl, rfl, HI, HK, HN⟩ := hrel
           by_cases hli : i < l1.length
           · obtain ⟨ad1, Ao, co, eA, x0, hlo, hCo⟩ := at_T68 HR1.out (i : Int) (by omega) (by omega)
             cases eA
             replace x0 := (HI.out.hb.cell (World.block_lt_of_cell? w _ x0)).trans x0
             obtain ⟨o, hoe⟩ : ∃ o, o = rd_T68 l1 (i : Int) := ⟨_, rfl⟩
             rw [← hoe] at x0 hlo hCo
             rw [Int.toNat_natCast] at x0
             have hoi : o = l1[i] := by rw [hoe]; unfold rd_T68; rw [Int.toNat_natCast, List.getD_eq_getElem?_getD, List.getElem?_eq_getElem hli]; rfl
             have hgd : l1.getD i z68 = o := by rw [hoi, List.getD_eq_getElem?_getD, List.getElem?_eq_getElem hli]; rfl
             have hom : o ∈ l0 ++ l1 := List.mem_append_right _ (by rw [hoi]; exact List.getElem_mem _)
             obtain ⟨secs, hse⟩ : ∃ s, s = o.f0 := ⟨_, rfl⟩
             have hog := HG.out.2.1 o hom
             rw [← hse] at hog hCo hlo x0
             have HOG := Aside0.mk hog
             have HOM := Aside0.mk hom
             have hs9 := HOG.out.1
             have HCO := Aside0.mk hCo
             have HSE := Aside0.mk hse
             have HGD := Aside0.mk hgd
             have hwi := gwf (x := (i : Int)) (by omega) (by omega)
             have HT1 := Aside0.mk (HI.out.ht.alloc (.cells #[.slice Ao secs.length co] 68 (0, 0)))
             by_cases htk : (i : Int) ∈ tk
             · have hdt : decide ((i : Int) ∈ tk) = true := decide_eq_true htk
               have HDT := Aside0.mk hdt
               clear hoe hoi hgd hom hse hog hCo htk hdt
               go_wp2_with (first | ((with_reducible refine gate_dst (N := 95) rfl ?_); go_loud (refine wpList_look_keys rfl _ _ 92 rfl 2 4 (Maps.int_keyed Try.underlying2) Try.underlying2 Try.underlying92 Try.underlying4 (HZ.out _) bt tk rfl HT1.out (i : Int) rfl hwi ?_; rw [HDT.out])))
               go_roundw
               case measure => simp [intOf]; omega
               case rel => first | exact ⟨i + 1, by omega, rfl, rfl, by go_num, ⟨HI.out.alloc _⟩, ⟨HK.out.alloc _⟩, ⟨hit_step HN.out (by unfold hitAt; rw [HDT.out]; rfl)⟩⟩ | exact ⟨_, ⟨i + 1, by omega, rfl, rfl, by go_num, ⟨HI.out.alloc _⟩, ⟨HK.out.alloc _⟩, ⟨hit_step HN.out (by unfold hitAt; rw [HDT.out]; rfl)⟩⟩, rfl⟩ | ((repeat apply Exists.intro); exact ⟨⟨i + 1, by omega, rfl, rfl, by go_num, ⟨HI.out.alloc _⟩, ⟨HK.out.alloc _⟩, ⟨hit_step HN.out (by unfold hitAt; rw [HDT.out]; rfl)⟩⟩, rfl⟩)
             · have hdt : decide ((i : Int) ∈ tk) = false := decide_eq_false htk
               have HDT := Aside0.mk hdt
               have HTN := Aside0.mk htk
               clear hoe hoi hgd hom hse hog hCo htk hdt
               go_wp2_with (first | ((with_reducible refine gate_dst (N := 95) rfl ?_); go_loud (refine wpList_look_keys rfl _ _ 92 rfl 2 4 (Maps.int_keyed Try.underlying2) Try.underlying2 Try.underlying92 Try.underlying4 (HZ.out _) bt tk rfl HT1.out (i : Int) rfl hwi ?_; rw [HDT.out])))
               have HX21 := Aside0.mk (blk_new wr (.cells #[.slice Ao secs.length co] 68 (0, 0)))
               have HI3 := Aside0.mk (HI.out.alloc (.cells #[.slice Ao secs.length co] 68 (0, 0)))
               have HK3 := Aside0.mk (HK.out.alloc (.cells #[.slice Ao secs.length co] 68 (0, 0)))
               obtain ⟨q21, hq21⟩ : ∃ q, q = wr.heap.size := ⟨_, rfl⟩
               rw [← hq21] at HX21 ⊢
               generalize (wr.alloc (.cells #[.slice Ao secs.length co] 68 (0, 0))) = W3 at HX21 HI3 HK3 ⊢
               clear hq21 x0 HI HK HT1
               go_loopw [9, 99] (fun v9 v99 wr => ∃ (j : Nat) (cur : List Int), j ≤ secs.length ∧ v9 = .bool ((secs.take j).any (hitS WL)) ∧ v99 = .int .i64 (j : Int) ∧ Aside0 (GS w wr bt (.slice A7 ins.length c7) ins cur) ∧ Aside0 (cur = if (secs.take j).any (hitS WL) = true then insK tk (i : Int) else tk) ∧ Aside0 (IsKeysS Try.prog 9 4 wr bw WL) ∧ Aside0 (wr.heap[q21]? = some (.cells #[.slice Ao secs.length co] 68 (0, 0)))) (fun _ v _ => secs.length - (intOf v).toNat)
               case atStart => exact ⟨0, tk, Nat.zero_le _, rfl, rfl, HI3, ⟨rfl⟩, HK3, HX21⟩
               case round =>
                clear HI3 HK3 HX21
                obtain ⟨j, cur, hj, rfl, rfl, HI, HCU, HK, HX21⟩ := hrel
                have hci : insK cur (i : Int) = insK tk (i : Int) := by rw [HCU.out]; split; exact insK_idem _ _; rfl
                have hcl : cur.length ≤ l1.length := tk_len HI.out.ht.nodup (fun x hx => by
                 rw [HCU.out] at hx
                 split at hx
                 · rcases (insK_mem _ _ _).1 hx with h | rfl
                   · exact HTK.out x h
                   · omega
                 · exact HTK.out x hx)
                have HCI := Aside0.mk hci
                clear hci
                by_cases hlj : j < secs.length
                · obtain ⟨ad, A4, c4, A6, c6, Ar, cr, eA, y0, y1, y2, y3, y4, y5, y6, y7, _, _, _, _, _, _⟩ := at_T130 HCO.out (j : Int) (by omega) (by omega)
                  cases eA
                  replace y0 := (HI.out.hb.cell (World.block_lt_of_cell? w _ y0)).trans y0
                  replace y1 := (HI.out.hb.cell (World.block_lt_of_cell? w _ y1)).trans y1
                  replace y2 := (HI.out.hb.cell (World.block_lt_of_cell? w _ y2)).trans y2
                  replace y3 := (HI.out.hb.cell (World.block_lt_of_cell? w _ y3)).trans y3
                  replace y4 := (HI.out.hb.cell (World.block_lt_of_cell? w _ y4)).trans y4
                  replace y5 := (HI.out.hb.cell (World.block_lt_of_cell? w _ y5)).trans y5
                  replace y6 := (HI.out.hb.cell (World.block_lt_of_cell? w _ y6)).trans y6
                  replace y7 := (HI.out.hb.cell (World.block_lt_of_cell? w _ y7)).trans y7
                  obtain ⟨s, hs⟩ : ∃ s, s = rd_T130 secs (j : Int) := ⟨_, rfl⟩
                  rw [← hs] at y0 y1 y2 y3 y4 y5 y6 y7
                  rw [Int.toNat_natCast] at y0 y1 y2 y3 y4 y5 y6 y7
                  have hsj : s = secs[j] := by rw [hs]; unfold rd_T130; rw [Int.toNat_natCast, List.getD_eq_getElem?_getD, List.getElem?_eq_getElem hlj]; rfl
                  obtain ⟨hsn, _⟩ := HOG.out.2 s (by rw [hsj]; exact List.getElem_mem _)
                  obtain ⟨sl, hsl2⟩ : ∃ x, x = s.f2 := ⟨_, rfl⟩
                  rw [← hsl2] at y2
                  obtain ⟨ah, hah⟩ : ∃ b, b = (secs.take j).any (hitS WL) := ⟨_, rfl⟩
                  have hst8 : (secs.take (j + 1)).any (hitS WL) = (ah || ((decide (sl = 1) || decide (sl = 2)) && decide (s.f0 ∈ WL))) := by rw [any_take _ _ _ hlj, ← hah, ← hsj, hsl2]; rfl
                  rw [← hah] at HCU
                  have hXX := blk_new wr (.cells #[.string s.f0, .int .i64 s.f1, .int .i64 sl, .int .i64 s.f3, .slice A4 s.f4.length c4, .int .i64 s.f5, .slice A6 s.f6.length c6, .slice Ar s.f7.length cr] 130 (0, 0))
                  have HB23 := Aside0.mk hXX
                  have z0 := (blk_cell hXX 0).trans rfl
                  have z2 := (blk_cell hXX 2).trans rfl
                  have HI4 := Aside0.mk (HI.out.alloc (.cells #[.string s.f0, .int .i64 s.f1, .int .i64 sl, .int .i64 s.f3, .slice A4 s.f4.length c4, .int .i64 s.f5, .slice A6 s.f6.length c6, .slice Ar s.f7.length cr] 130 (0, 0)))
                  have HK4 := Aside0.mk (HK.out.alloc (.cells #[.string s.f0, .int .i64 s.f1, .int .i64 sl, .int .i64 s.f3, .slice A4 s.f4.length c4, .int .i64 s.f5, .slice A6 s.f6.length c6, .slice Ar s.f7.length cr] 130 (0, 0)))
                  have HX4 := Aside0.mk (blk_alloc HX21.out (.cells #[.string s.f0, .int .i64 s.f1, .int .i64 sl, .int .i64 s.f3, .slice A4 s.f4.length c4, .int .i64 s.f5, .slice A6 s.f6.length c6, .slice Ar s.f7.length cr] 130 (0, 0)))
                  have HST8 := Aside0.mk hst8
                  clear hs hsj hst8 hsl2 hXX HI HK HX21
                  simp only [← hah]
                  clear hah
                  by_cases hw : s.f0 ∈ WL
                  · have HW := Aside0.mk (decide_eq_true hw)
                    clear hw
                    by_cases h1 : sl = 1
                    · subst h1
                      have HE := Aside0.mk (show (secs.take (j + 1)).any (hitS WL) = true by rw [HST8.out, HW.out]; simp)
                      have hcl9 := hcl
                      go_wp2_with (first | ((with_reducible refine gate_dst (N := 115) rfl ?_); (try (refine gate_guard (by rfl) ?_; dsimp only)); go_loud (refine wpList_look_keysS rfl _ _ 141 rfl 9 4 (Maps.string_keyed Try.underlying9) Try.underlying9 Try.underlying141 Try.underlying4 (HZ.out _) bw WL rfl HK4.out s.f0 rfl (Nat.le_trans hsn (by decide)) ?_; rw [HW.out])) | (at_mapUpdate; go_loud (refine wpList_put_keys rfl _ _ _ 92 rfl 2 4 (Maps.int_keyed Try.underlying2) Try.underlying2 Try.underlying92 Try.underlying4 bt cur rfl HI4.out.ht (Nat.lt_of_le_of_lt (show cur.length ≤ 1000000000 by omega) (by decide)) (i : Int) rfl rfl hwi ?_; intro w9 ht9 hg9; have HI9 := Aside0.mk (HI4.out.take ht9 hg9); have HK9 := Aside0.mk (HK4.out.kept hg9 (by intro e; have := Option.some.inj e; omega)); have HX9 := Aside0.mk (blk_grown HX4.out hg9 (fun e => (ne_cellsG HI4.out.ht HX4.out).symm (Option.some.inj e))); clear ht9 hg9)))
                      go_roundw
                      case measure => simp [intOf]; omega
                      case rel => first | exact ⟨j + 1, insK cur (i : Int), by omega, by rw [HE.out], by go_num, HI9, ⟨by rw [HE.out, if_pos rfl]; exact HCI.out⟩, HK9, HX9⟩ | exact ⟨_, ⟨j + 1, insK cur (i : Int), by omega, by rw [HE.out], by go_num, HI9, ⟨by rw [HE.out, if_pos rfl]; exact HCI.out⟩, HK9, HX9⟩, rfl⟩ | ((repeat apply Exists.intro); exact ⟨⟨j + 1, insK cur (i : Int), by omega, by rw [HE.out], by go_num, HI9, ⟨by rw [HE.out, if_pos rfl]; exact HCI.out⟩, HK9, HX9⟩, rfl⟩)
                    · by_cases h2 : sl = 2
                      · subst h2
                        have HE := Aside0.mk (show (secs.take (j + 1)).any (hitS WL) = true by rw [HST8.out, HW.out]; simp)
                        have hcl9 := hcl
                        go_wp2_with (first | ((with_reducible refine gate_dst (N := 115) rfl ?_); (try (refine gate_guard (by rfl) ?_; dsimp only)); go_loud (refine wpList_look_keysS rfl _ _ 141 rfl 9 4 (Maps.string_keyed Try.underlying9) Try.underlying9 Try.underlying141 Try.underlying4 (HZ.out _) bw WL rfl HK4.out s.f0 rfl (Nat.le_trans hsn (by decide)) ?_; rw [HW.out])) | (at_mapUpdate; go_loud (refine wpList_put_keys rfl _ _ _ 92 rfl 2 4 (Maps.int_keyed Try.underlying2) Try.underlying2 Try.underlying92 Try.underlying4 bt cur rfl HI4.out.ht (Nat.lt_of_le_of_lt (show cur.length ≤ 1000000000 by omega) (by decide)) (i : Int) rfl rfl hwi ?_; intro w9 ht9 hg9; have HI9 := Aside0.mk (HI4.out.take ht9 hg9); have HK9 := Aside0.mk (HK4.out.kept hg9 (by intro e; have := Option.some.inj e; omega)); have HX9 := Aside0.mk (blk_grown HX4.out hg9 (fun e => (ne_cellsG HI4.out.ht HX4.out).symm (Option.some.inj e))); clear ht9 hg9)))
                        go_roundw
                        case measure => simp [intOf]; omega
                        case rel => first | exact ⟨j + 1, insK cur (i : Int), by omega, by rw [HE.out], by go_num, HI9, ⟨by rw [HE.out, if_pos rfl]; exact HCI.out⟩, HK9, HX9⟩ | exact ⟨_, ⟨j + 1, insK cur (i : Int), by omega, by rw [HE.out], by go_num, HI9, ⟨by rw [HE.out, if_pos rfl]; exact HCI.out⟩, HK9, HX9⟩, rfl⟩ | ((repeat apply Exists.intro); exact ⟨⟨j + 1, insK cur (i : Int), by omega, by rw [HE.out], by go_num, HI9, ⟨by rw [HE.out, if_pos rfl]; exact HCI.out⟩, HK9, HX9⟩, rfl⟩)
                      · have HE := Aside0.mk (show (secs.take (j + 1)).any (hitS WL) = ah by rw [HST8.out, decide_eq_false h1, decide_eq_false h2]; simp)
                        go_wp2
                        go_roundw
                        case measure => simp [intOf]; omega
                        case rel => first | exact ⟨j + 1, cur, by omega, by rw [HE.out], by go_num, HI4, ⟨by rw [HE.out]; exact HCU.out⟩, HK4, HX4⟩ | exact ⟨_, ⟨j + 1, cur, by omega, by rw [HE.out], by go_num, HI4, ⟨by rw [HE.out]; exact HCU.out⟩, HK4, HX4⟩, rfl⟩ | ((repeat apply Exists.intro); exact ⟨⟨j + 1, cur, by omega, by rw [HE.out], by go_num, HI4, ⟨by rw [HE.out]; exact HCU.out⟩, HK4, HX4⟩, rfl⟩)
                  · have HW := Aside0.mk (decide_eq_false hw)
                    have HE := Aside0.mk (show (secs.take (j + 1)).any (hitS WL) = ah by rw [HST8.out, HW.out]; simp)
                    clear hw
                    by_cases h1 : sl = 1
                    · subst h1
                      go_wp2_with (first | ((with_reducible refine gate_dst (N := 115) rfl ?_); (try (refine gate_guard (by rfl) ?_; dsimp only)); go_loud (refine wpList_look_keysS rfl _ _ 141 rfl 9 4 (Maps.string_keyed Try.underlying9) Try.underlying9 Try.underlying141 Try.underlying4 (HZ.out _) bw WL rfl HK4.out s.f0 rfl (Nat.le_trans hsn (by decide)) ?_; rw [HW.out])))
                      go_roundw
                      case measure => simp [intOf]; omega
                      case rel => first | exact ⟨j + 1, cur, by omega, by rw [HE.out], by go_num, HI4, ⟨by rw [HE.out]; exact HCU.out⟩, HK4, HX4⟩ | exact ⟨_, ⟨j + 1, cur, by omega, by rw [HE.out], by go_num, HI4, ⟨by rw [HE.out]; exact HCU.out⟩, HK4, HX4⟩, rfl⟩ | ((repeat apply Exists.intro); exact ⟨⟨j + 1, cur, by omega, by rw [HE.out], by go_num, HI4, ⟨by rw [HE.out]; exact HCU.out⟩, HK4, HX4⟩, rfl⟩)
                    · by_cases h2 : sl = 2
                      · subst h2
                        go_wp2_with (first | ((with_reducible refine gate_dst (N := 115) rfl ?_); (try (refine gate_guard (by rfl) ?_; dsimp only)); go_loud (refine wpList_look_keysS rfl _ _ 141 rfl 9 4 (Maps.string_keyed Try.underlying9) Try.underlying9 Try.underlying141 Try.underlying4 (HZ.out _) bw WL rfl HK4.out s.f0 rfl (Nat.le_trans hsn (by decide)) ?_; rw [HW.out])))
                        go_roundw
                        case measure => simp [intOf]; omega
                        case rel => first | exact ⟨j + 1, cur, by omega, by rw [HE.out], by go_num, HI4, ⟨by rw [HE.out]; exact HCU.out⟩, HK4, HX4⟩ | exact ⟨_, ⟨j + 1, cur, by omega, by rw [HE.out], by go_num, HI4, ⟨by rw [HE.out]; exact HCU.out⟩, HK4, HX4⟩, rfl⟩ | ((repeat apply Exists.intro); exact ⟨⟨j + 1, cur, by omega, by rw [HE.out], by go_num, HI4, ⟨by rw [HE.out]; exact HCU.out⟩, HK4, HX4⟩, rfl⟩)
                      · go_wp2
                        go_roundw
                        case measure => simp [intOf]; omega
                        case rel => first | exact ⟨j + 1, cur, by omega, by rw [HE.out], by go_num, HI4, ⟨by rw [HE.out]; exact HCU.out⟩, HK4, HX4⟩ | exact ⟨_, ⟨j + 1, cur, by omega, by rw [HE.out], by go_num, HI4, ⟨by rw [HE.out]; exact HCU.out⟩, HK4, HX4⟩, rfl⟩ | ((repeat apply Exists.intro); exact ⟨⟨j + 1, cur, by omega, by rw [HE.out], by go_num, HI4, ⟨by rw [HE.out]; exact HCU.out⟩, HK4, HX4⟩, rfl⟩)
                · have hje : j = secs.length := by omega
                  subst hje
                  have hall : (secs.take secs.length).any (hitS WL) = hitO WL o := by rw [List.take_length, HSE.out]; rfl
                  obtain ⟨ho, hho⟩ : ∃ b, b = hitO WL o := ⟨_, rfl⟩
                  rw [hall, ← hho] at HCU
                  have hall2 : secs.any (hitS WL) = ho := by rw [hho, HSE.out]; rfl
                  (first | rw [hall, ← hho] | rw [hall2] | skip)
                  clear hall2
                  have hat : hitAt l1 tk WL i = ho := by unfold hitAt; rw [HDT.out, HGD.out, hho]; rfl
                  have HAT := Aside0.mk hat
                  have hlo2 := hlo
                  clear hall hho hat
                  have b21 := (blk_cell HX21.out 0).trans rfl
                  cases ho with
                  | false =>
                   have hct : cur = tk := HCU.out
                   subst hct
                   go_wp2
                   go_roundw
                   case measure => simp [intOf]; omega
                   case rel => first | exact ⟨i + 1, by omega, rfl, rfl, by go_num, HI, HK, ⟨hit_step HN.out HAT.out⟩⟩ | exact ⟨_, ⟨i + 1, by omega, rfl, rfl, by go_num, HI, HK, ⟨hit_step HN.out HAT.out⟩⟩, rfl⟩ | ((repeat apply Exists.intro); exact ⟨⟨i + 1, by omega, rfl, rfl, by go_num, HI, HK, ⟨hit_step HN.out HAT.out⟩⟩, rfl⟩)
                  | true =>
                   have hct : cur = insK tk (i : Int) := HCU.out
                   subst hct
                   have h3 := H2.out
                   rw [firstHit_some hli HN.out HAT.out] at h3
                   have h4 : gath l1 a2 gk (ins ++ [l1.getD i z68]) (insK tk (i : Int)) = some R := h3
                   rw [HGD.out] at h4
                   have H3 := Aside0.mk h4
                   clear h4
                   clear h3
                   go_wp2_with (first | (at_builtin; go_loud (refine Kd.R_append (KF k68 w) (w0 := w) w.heap.size rfl (.tmp 121) (.tmp 123) 52 68 (.agg #[.slice none 0 0]) 24 rfl Try.underlying52 info68 rfl Nat.zero_lt_one (by decide) (.slice A7 ins.length c7) ins o [.slice Ao secs.length co] (fun q => some q = (Value.slice A7 ins.length c7).ownBlock ∨ wr.heap.size ≤ q) (fun _ => False) rfl rfl ?aP (fun _ hk => hk.elim) ?aF ?aO ?aB ?aS ?aL ?_; (case aP => exact (show k68.K w o _ by have h := k68_mk w o (A0 := Ao) (c0 := co) (by rw [← HSE.out]; exact hlo2) (by rw [← HSE.out]; exact HCO.out); rw [← HSE.out] at h; exact h)); (case aF => exact (fun q hq => .inr hq)); (case aO => exact Kd.R_mono HI.out.hi (fun q hq => .inl hq)); (case aB => exact HI.out.hb); (case aS => exact HI.out.hb.size); (case aL => omega); intro v8 W8 ho8 hb8 hg8 hat8; have HO8 := Aside0.mk ho8; have HB8 := Aside0.mk hb8; have HT8 := Aside0.mk (HI.out.ht.kept hg8 (fun e => Kd.R_notkeys HI.out.hi HI.out.ht e.symm)); have hlo8 := HI.out.lo; clear ho8 hb8 hg8 hat8)))
                   go_roundg gk
                   case measure => exact Nat.lt_succ_self _
                   case rel => exact ⟨true, ins ++ [o], insK tk (i : Int), rfl, ⟨HB8.out, Kd.R_mono (Kd.R_tight rfl HO8.out) (fun q hq => hq), HT8.out, hlo8⟩, ⟨fun x hx => (List.mem_append.1 hx).elim (HIN.out x) (fun h => by rw [List.mem_singleton.1 h]; exact HOM.out)⟩, ⟨fun x hx => by rcases (insK_mem _ _ _).1 hx with h | rfl; exact HTK.out x h; omega⟩, ⟨by rw [if_pos rfl]; exact H3.out⟩⟩
           · have hie : i = l1.length := by omega
             subst hie
             have h3 := H2.out
             rw [firstHit_none HN.out] at h3
             have H3 := Aside0.mk (Option.some.inj h3)
             clear h3
             go_wp2
             go_roundg gk
             case measure => exact Nat.lt_succ_self _
             case rel => exact ⟨false, ins, tk, rfl, HI, HIN, HTK, ⟨by rw [if_neg (by simp)]; exact H3.out⟩⟩

end Go.Proofs.Ythegbhfoleiegaa.All

/- For the walk of the law of Loops. -/
namespace Go.Proofs.Ythegbhfoleiegaa.All
open Go.RowKit Go.Proofs.YthegbhfoleiegaaW.PrintWords Go.Proofs.YthegbhfoleiegaaW.PrintLast Go.Proofs.YthegbhfoleiegaaW.PrintMore
set_option linter.unusedVariables false
set_option linter.unusedSimpArgs false
end Go.Proofs.Ythegbhfoleiegaa.All

namespace Go.Proofs.Ythegbhfoleiegaa.All
open Go.RowKit Go.Proofs.YthegbhfoleiegaaW.PrintWords Go.Proofs.YthegbhfoleiegaaW.PrintLast Go.Proofs.YthegbhfoleiegaaW.PrintMore
attribute [local go_sem] max2_int min2_int max_two min_two max_three min_three max_four min_four   -- for this text's walks alone
set_option linter.unusedVariables false
set_option linter.unusedSimpArgs false

def laws_FnExactGather.f (k : Nat) (l0 l1 : List (S63)) (a2 : ByteArray) : Option Bool := if (a2.size : Int) > 1048576 then some true else
 (laws_szObjectS.f k l0 1048576).bind fun t => if t < 0 then some true else (laws_szObjectS.f k l1 t).bind fun t2 => if t2 < 0 then some true else
 (laws_toObjectS.f k l0).bind fun q0 => (laws_toObjectS.f k l1).bind fun q1 => (spec_Gather.f k q0 q1 a2).bind fun r1 => (impl_Gather.f k q0 q1 a2).bind fun r2 =>
 (laws_eqInt64S.f k r2 r1).bind fun e1 => if e1 = true then (laws_eqObjectS.f k q0 q0).bind fun e2 => if e2 = true then (laws_eqObjectS.f k q1 q1).bind fun e3 => if e3 = true then
 (laws_markObjectS.f q0 1).bind fun t3 => (laws_markObjectS.f q1 t3).bind fun t4 => if t4 < 0 then none else (laws_markInt64S.f k r2 1).bind fun mm => (laws_heldInt64S.f k mm.2 1).bind fun z => if z < 0 then none else if z = mm.1 then some true else none
 else none else none else none
theorem laws_FnExactGather.open {k : Nat} {l0 l1 : List (S63)} {a2 : ByteArray} {r : Bool} (h : laws_FnExactGather.f k l0 l1 a2 = some r) :
 r = true ∧ ((1048576 < (a2.size : Int)) ∨ ((a2.size : Int) ≤ 1048576 ∧ ∃ t, laws_szObjectS.f k l0 1048576 = some t ∧ (t < 0 ∨ (0 ≤ t ∧ ∃ t2, laws_szObjectS.f k l1 t = some t2 ∧ (t2 < 0 ∨ (0 ≤ t2 ∧ ∃ q0 q1 r1 r2 t3 t4 m1 r3, laws_toObjectS.f k l0 = some q0 ∧ laws_toObjectS.f k l1 = some q1 ∧ spec_Gather.f k q0 q1 a2 = some r1 ∧ impl_Gather.f k q0 q1 a2 = some r2 ∧
  laws_eqInt64S.f k r2 r1 = some true ∧ laws_eqObjectS.f k q0 q0 = some true ∧ laws_eqObjectS.f k q1 q1 = some true ∧ laws_markObjectS.f q0 1 = some t3 ∧ laws_markObjectS.f q1 t3 = some t4 ∧ 0 ≤ t4 ∧ laws_markInt64S.f k r2 1 = some (m1, r3) ∧ laws_heldInt64S.f k r3 1 = some m1 ∧ 0 ≤ m1)))))) := by
 unfold laws_FnExactGather.f at h
 split at h
 · rename_i hc
   exact ⟨(Option.some.inj h).symm, .inl hc⟩
 rename_i hc0
 obtain ⟨t, ht, h⟩ := Option.bind_eq_some_iff.1 h
 split at h
 · rename_i hc
   exact ⟨(Option.some.inj h).symm, .inr ⟨by omega, t, ht, .inl hc⟩⟩
 rename_i hc1
 obtain ⟨t2, ht2, h⟩ := Option.bind_eq_some_iff.1 h
 split at h
 · rename_i hc
   exact ⟨(Option.some.inj h).symm, .inr ⟨by omega, t, ht, .inr ⟨by omega, t2, ht2, .inl hc⟩⟩⟩
 rename_i hc2
 obtain ⟨q0, h1, h⟩ := Option.bind_eq_some_iff.1 h
 obtain ⟨q1, h2, h⟩ := Option.bind_eq_some_iff.1 h
 obtain ⟨r1, h3, h⟩ := Option.bind_eq_some_iff.1 h
 obtain ⟨r2, h4, h⟩ := Option.bind_eq_some_iff.1 h
 obtain ⟨e1, h5, h⟩ := Option.bind_eq_some_iff.1 h
 split at h
 case isFalse => cases h
 rename_i he1
 subst he1
 obtain ⟨e2, h6, h⟩ := Option.bind_eq_some_iff.1 h
 split at h
 case isFalse => cases h
 rename_i he2
 subst he2
 obtain ⟨e3, h7, h⟩ := Option.bind_eq_some_iff.1 h
 split at h
 case isFalse => cases h
 rename_i he3
 subst he3
 obtain ⟨t3, h8, h⟩ := Option.bind_eq_some_iff.1 h
 obtain ⟨t4, h9, h⟩ := Option.bind_eq_some_iff.1 h
 split at h
 · cases h
 rename_i hc3
 obtain ⟨⟨m1, r3⟩, h10, h⟩ := Option.bind_eq_some_iff.1 h
 obtain ⟨z, h11, h⟩ := Option.bind_eq_some_iff.1 h
 split at h
 · cases h
 rename_i hc4
 split at h
 case isFalse => cases h
 rename_i hz
 have hz' : z = m1 := hz
 have h11' : laws_heldInt64S.f k r3 1 = some m1 := by rw [← hz']; exact h11
 exact ⟨(Option.some.inj h).symm, .inr ⟨by omega, t, ht, .inr ⟨by omega, t2, ht2, .inr ⟨by omega, q0, q1, r1, r2, t3, t4, m1, r3, h1, h2, h3, h4, h5, h6, h7, h8, h9, by omega, h10, h11', by omega⟩⟩⟩⟩
theorem drawn_below {w w' : World} (h : Drawn0 w w') : Below w.heap.size w w' := by obtain ⟨n, rfl⟩ := h; exact pw_below_drewN (Below.refl _ _) n
set_option maxHeartbeats 8000000 in
set_option maxRecDepth 100000 in
theorem laws_FnExactGather.calls (k : Nat) (A0 : Option Addr) (c0 : Nat) (l0 : List (S63)) (A1 : Option Addr) (c1 : Nat) (l1 : List (S63)) (a2 : ByteArray) (r : Bool) (w : World) (hr0 : Kd.C k63 w A0 l0.length l0) (hc0 : l0.length ≤ c0) (hr1 : Kd.C k63 w A1 l1.length l1) (hc1 : l1.length ≤ c1) (h : laws_FnExactGather.f k l0 l1 a2 = some r) :
 Calls Try.prog 8 #[.slice A0 l0.length c0, .slice A1 l1.length c1, .string a2] w fun e w' => e = .returned (.bool r) ∧ Below w.heap.size w w' := by
 obtain ⟨rfl, hcase⟩ := laws_FnExactGather.open h
 have HR0 := Aside0.mk hr0
 have HR1 := Aside0.mk hr1
 have HB := Aside0.mk (Below.refl w.heap.size w)
 clear hr0 hr1 h
 go_enter Try.func8, Try.ntmps8
 rcases hcase with hbig | ⟨hsm, t, ht, hcase⟩
 · have d0 : decide (1048576 < (a2.size : Int)) = true := decide_eq_true hbig
   go_wp2
   go_ret
   exact ⟨rfl, HB.out⟩
 have d0 : decide (1048576 < (a2.size : Int)) = false := decide_eq_false (by omega)
 have HS0 := Aside0.mk ht
 clear ht
 rcases hcase with hneg | ⟨hpos, t2, ht2, hcase⟩
 · have d1 : decide (t < 0) = true := decide_eq_true hneg
   go_wp2_with (first | (go_at_call_of 33 A0; go_loud (refine (laws_szObjectS.calls k A0 c0 l0 1048576 t _ (Kd.C_below HR0.out HB.out) hc0 HS0.out).mono ?_; rintro e ws ⟨rfl, hb⟩; replace HB := Aside0.mk (below_step HB.out hb); clear hb)))
   go_ret
   exact ⟨rfl, HB.out⟩
 have d1 : decide (t < 0) = false := decide_eq_false (by omega)
 have HS1 := Aside0.mk ht2
 clear ht2
 rcases hcase with hneg | ⟨hpos2, q0, q1, r1, r2, t3, t4, m1, r3, h1, h2, h3, h4, h5, h6, h7, h8, h9, ht4, h10, h11, hm1⟩
 · have d2 : decide (t2 < 0) = true := decide_eq_true hneg
   go_wp2_with (first | (go_at_call_of 33 A0; go_loud (refine (laws_szObjectS.calls k A0 c0 l0 1048576 t _ (Kd.C_below HR0.out HB.out) hc0 HS0.out).mono ?_; rintro e ws ⟨rfl, hb⟩; replace HB := Aside0.mk (below_step HB.out hb); clear hb)) | (go_at_call_of 33 A1; go_loud (refine (laws_szObjectS.calls k A1 c1 l1 t t2 _ (Kd.C_below HR1.out HB.out) hc1 HS1.out).mono ?_; rintro e ws2 ⟨rfl, hb⟩; replace HB := Aside0.mk (below_step HB.out hb); clear hb)))
   go_ret
   exact ⟨rfl, HB.out⟩
 have d2 : decide (t2 < 0) = false := decide_eq_false (by omega)
 have d3 : decide (t4 < 0) = false := decide_eq_false (by omega)
 have d4 : decide (m1 < 0) = false := decide_eq_false (by omega)
 have HTO0 := Aside0.mk h1
 have HTO1 := Aside0.mk h2
 have HSP := Aside0.mk h3
 have HIM := Aside0.mk h4
 have HEQ := Aside0.mk h5
 have HEO0 := Aside0.mk h6
 have HEO1 := Aside0.mk h7
 have HM0 := Aside0.mk h8
 have HM1 := Aside0.mk h9
 have HMI := Aside0.mk h10
 have HHE := Aside0.mk h11
 clear h1 h2 h3 h4 h5 h6 h7 h8 h9 h10 h11
 go_upto_region 11 with (first | (go_at_call_of 33 A0; go_loud (refine (laws_szObjectS.calls k A0 c0 l0 1048576 t _ (Kd.C_below HR0.out HB.out) hc0 HS0.out).mono ?_; rintro e ws ⟨rfl, hb⟩; replace HB := Aside0.mk (below_step HB.out hb); clear hb)) | (go_at_call_of 33 A1; go_loud (refine (laws_szObjectS.calls k A1 c1 l1 t t2 _ (Kd.C_below HR1.out HB.out) hc1 HS1.out).mono ?_; rintro e ws2 ⟨rfl, hb⟩; replace HB := Aside0.mk (below_step HB.out hb); clear hb)) | (go_at_call_of 35 A0; go_loud (refine (laws_toObjectS.calls k A0 c0 l0 q0 _ (Kd.C_below HR0.out HB.out) hc0 HTO0.out).mono ?_; rintro e wa ⟨v, rfl, hr, hb⟩; obtain ⟨AT0, cT0, ev⟩ := Kd.R_slice hr; subst ev; replace HB := Aside0.mk (below_step HB.out hb); have hT0 := hb.size; have T0 := Aside0.mk (Kd.R_mono (Kd.R_bound hr) (ok' := fun q => ws2.heap.size ≤ q ∧ q < wa.heap.size) (fun q hq => ⟨hq.2.1, hq.2.2.1⟩)); clear hb hr)) | (go_at_call_of 35 A1; go_loud (refine (laws_toObjectS.calls k A1 c1 l1 q1 _ (Kd.C_below HR1.out HB.out) hc1 HTO1.out).mono ?_; rintro e wb ⟨v, rfl, hr, hb⟩; obtain ⟨AT1, cT1, ev⟩ := Kd.R_slice hr; subst ev; replace HB := Aside0.mk (below_step HB.out hb); replace T0 := Aside0.mk (Kd.R_below T0.out hb); have hT1 := hb.size; have T1 := Aside0.mk (Kd.R_mono (Kd.R_bound hr) (ok' := fun q => wa.heap.size ≤ q ∧ q < wb.heap.size) (fun q hq => ⟨hq.2.1, hq.2.2.1⟩)); clear hb hr)) | (go_at_call 42; go_loud (refine (spec_Gather.calls k _ AT0 cT0 q0 _ AT1 cT1 q1 a2 r1 _ (Kd.R_V T0.out) (Kd.R_V T1.out) HSP.out).mono ?_; rintro e wc ⟨v, rfl, hr, hb⟩; obtain ⟨AVW, cVW, ev⟩ := Kd.R_slice hr; subst ev; replace HB := Aside0.mk (below_step HB.out hb); have VW := Aside0.mk hr; clear hb hr)))
 have HBC := HB
 have HWC := VW
 have HC := Aside0.mk (Below.refl wc.heap.size wc)
 clear T0 T1 hT0 hT1
 go_upto_region 12 with (first | (go_at_call_of 35 A0; go_loud (refine (laws_toObjectS.calls k A0 c0 l0 q0 _ (Kd.C_below HR0.out HB.out) hc0 HTO0.out).mono ?_; rintro e wd ⟨v, rfl, hr, hb⟩; obtain ⟨AX0, cX0, ev⟩ := Kd.R_slice hr; subst ev; replace HB := Aside0.mk (below_step HB.out hb); replace HC := Aside0.mk (below_step HC.out hb); replace VW := Aside0.mk (Kd.R_below VW.out hb); have hX0 := hb.size; have X0 := Aside0.mk (Kd.R_mono (Kd.R_bound hr) (ok' := fun q => wc.heap.size ≤ q ∧ q < wd.heap.size) (fun q hq => ⟨hq.2.1, hq.2.2.1⟩)); clear hb hr)))
 go_upto_region 13 with (first | (go_at_call_of 35 A1; go_loud (refine (laws_toObjectS.calls k A1 c1 l1 q1 _ (Kd.C_below HR1.out HB.out) hc1 HTO1.out).mono ?_; rintro e we ⟨v, rfl, hr, hb⟩; obtain ⟨AX1, cX1, ev⟩ := Kd.R_slice hr; subst ev; replace HB := Aside0.mk (below_step HB.out hb); replace HC := Aside0.mk (below_step HC.out hb); replace VW := Aside0.mk (Kd.R_below VW.out hb); replace X0 := Aside0.mk (Kd.R_below X0.out hb); have hX1 := hb.size; have X1 := Aside0.mk (Kd.R_mono (Kd.R_bound hr) (ok' := fun q => wd.heap.size ≤ q ∧ q < we.heap.size) (fun q hq => ⟨hq.2.1, hq.2.2.1⟩)); clear hb hr)))
 go_upto_region 14 with (first | (go_at_call 43; go_loud (refine (impl_Gather.calls k AX0 cX0 q0 AX1 cX1 q1 a2 r2 _ (Kd.R_reads' X0.out).2.2 (Kd.R_reads' X0.out).2.1 (Kd.R_reads' X1.out).2.2 (Kd.R_reads' X1.out).2.1 HIM.out).mono ?_; rintro e wf ⟨v, rfl, hr, hb⟩; obtain ⟨AG, cG, ev⟩ := Kd.R_slice hr; subst ev; replace HB := Aside0.mk (below_step HB.out hb); replace HC := Aside0.mk (below_step HC.out hb); replace VW := Aside0.mk (Kd.R_below VW.out hb); replace X0 := Aside0.mk (Kd.R_below X0.out hb); replace X1 := Aside0.mk (Kd.R_below X1.out hb); have G := Aside0.mk (Kd.R_mono (Kd.R_bound hr) (ok' := fun q => we.heap.size ≤ q) (fun q hq => hq.2.1)); clear hb hr)))
 go_upto_region 16 with (first | (go_at_call 20; go_loud (refine (laws_eqInt64S.calls k AG cG r2 AVW cVW r1 true _ (Kd.R_reads' G.out).2.2 (Kd.R_reads' G.out).2.1 (Kd.R_reads' VW.out).2.2 (Kd.R_reads' VW.out).2.1 HEQ.out).mono ?_; rintro e wg ⟨rfl, hd⟩; have hb := drawn_below hd; replace HB := Aside0.mk (below_step HB.out hb); replace HC := Aside0.mk (below_step HC.out hb); replace VW := Aside0.mk (Kd.R_below VW.out hb); replace X0 := Aside0.mk (Kd.R_below X0.out hb); replace X1 := Aside0.mk (Kd.R_below X1.out hb); replace G := Aside0.mk (Kd.R_below G.out hb); clear hb hd)))
 go_upto_region 18 with (first | (go_at_call_of 35 A0; go_loud (refine (laws_toObjectS.calls k A0 c0 l0 q0 _ (Kd.C_below HR0.out HB.out) hc0 HTO0.out).mono ?_; rintro e wh ⟨v, rfl, hr, hb⟩; obtain ⟨AY0, cY0, ev⟩ := Kd.R_slice hr; subst ev; replace HB := Aside0.mk (below_step HB.out hb); replace HC := Aside0.mk (below_step HC.out hb); replace VW := Aside0.mk (Kd.R_below VW.out hb); replace X0 := Aside0.mk (Kd.R_below X0.out hb); replace X1 := Aside0.mk (Kd.R_below X1.out hb); replace G := Aside0.mk (Kd.R_below G.out hb); have hY0 := hb.size; have Y0 := Aside0.mk (Kd.R_mono (Kd.R_bound hr) (ok' := fun q => wg.heap.size ≤ q ∧ q < wh.heap.size) (fun q hq => ⟨hq.2.1, hq.2.2.1⟩)); clear hb hr)) | (go_at_call 38; go_loud (refine (laws_eqObjectS.calls k AX0 cX0 q0 AY0 cY0 q0 true _ (Kd.R_reads' X0.out).2.2 (Kd.R_reads' X0.out).2.1 (Kd.R_reads' Y0.out).2.2 (Kd.R_reads' Y0.out).2.1 HEO0.out).mono ?_; rintro e wi ⟨rfl, hb⟩; replace HB := Aside0.mk (below_step HB.out hb); replace HC := Aside0.mk (below_step HC.out hb); replace VW := Aside0.mk (Kd.R_below VW.out hb); replace X0 := Aside0.mk (Kd.R_below X0.out hb); replace X1 := Aside0.mk (Kd.R_below X1.out hb); replace G := Aside0.mk (Kd.R_below G.out hb); clear hb)))
 go_upto_region 20 with (first | (go_at_call_of 35 A1; go_loud (refine (laws_toObjectS.calls k A1 c1 l1 q1 _ (Kd.C_below HR1.out HB.out) hc1 HTO1.out).mono ?_; rintro e wj ⟨v, rfl, hr, hb⟩; obtain ⟨AY1, cY1, ev⟩ := Kd.R_slice hr; subst ev; replace HB := Aside0.mk (below_step HB.out hb); replace HC := Aside0.mk (below_step HC.out hb); replace VW := Aside0.mk (Kd.R_below VW.out hb); replace X0 := Aside0.mk (Kd.R_below X0.out hb); replace X1 := Aside0.mk (Kd.R_below X1.out hb); replace G := Aside0.mk (Kd.R_below G.out hb); have hY1 := hb.size; have Y1 := Aside0.mk (Kd.R_mono (Kd.R_bound hr) (ok' := fun q => wi.heap.size ≤ q ∧ q < wj.heap.size) (fun q hq => ⟨hq.2.1, hq.2.2.1⟩)); clear hb hr)) | (go_at_call 38; go_loud (refine (laws_eqObjectS.calls k AX1 cX1 q1 AY1 cY1 q1 true _ (Kd.R_reads' X1.out).2.2 (Kd.R_reads' X1.out).2.1 (Kd.R_reads' Y1.out).2.2 (Kd.R_reads' Y1.out).2.1 HEO1.out).mono ?_; rintro e wk ⟨rfl, hb⟩; replace HB := Aside0.mk (below_step HB.out hb); replace HC := Aside0.mk (below_step HC.out hb); replace VW := Aside0.mk (Kd.R_below VW.out hb); replace X0 := Aside0.mk (Kd.R_below X0.out hb); replace X1 := Aside0.mk (Kd.R_below X1.out hb); replace G := Aside0.mk (Kd.R_below G.out hb); clear hb)))
 clear Y0 Y1
 go_upto_region 22 with (first | (go_at_call 39; go_loud (refine (laws_markObjectS.calls (fun q => wc.heap.size ≤ q ∧ q < wd.heap.size) (.slice AX0 q0.length cX0) q0 1 t3 wc _ HC.out (Kd.R_lower X0.out (by omega)) HM0.out).mono ?_; rintro e wl ⟨rfl, hb, hk⟩; replace HB := Aside0.mk (Below.trans HBC.out (hb.mono HBC.out.size)); replace HC := Aside0.mk hb; replace VW := Aside0.mk (Kd.R_below HWC.out hb); replace X1 := Aside0.mk (Kd.R_kept X1.out hk (fun q h1 h2 => by have h3 := h1.1; have h4 := h2.2; omega)); replace G := Aside0.mk (Kd.R_kept G.out hk (fun q h1 h2 => by have h3 := h2.2; omega)); clear hb hk)))
 go_upto_region 23 with (first | (go_at_call 39; go_loud (refine (laws_markObjectS.calls (fun q => wd.heap.size ≤ q ∧ q < we.heap.size) (.slice AX1 q1.length cX1) q1 t3 t4 wc _ HC.out (Kd.R_lower X1.out (by omega)) HM1.out).mono ?_; rintro e wm ⟨rfl, hb, hk⟩; replace HB := Aside0.mk (Below.trans HBC.out (hb.mono HBC.out.size)); replace HC := Aside0.mk hb; replace VW := Aside0.mk (Kd.R_below HWC.out hb); replace G := Aside0.mk (Kd.R_kept G.out hk (fun q h1 h2 => by have h3 := h2.2; omega)); clear hb hk)))
 clear X0 X1
 go_upto_region 25 with (first | (go_at_call 20; go_loud (refine (laws_eqInt64S.calls k AG cG r2 AVW cVW r1 true _ (Kd.R_reads' G.out).2.2 (Kd.R_reads' G.out).2.1 (Kd.R_reads' VW.out).2.2 (Kd.R_reads' VW.out).2.1 HEQ.out).mono ?_; rintro e wn ⟨rfl, hd⟩; have hb := drawn_below hd; replace HB := Aside0.mk (below_step HB.out hb); replace HC := Aside0.mk (below_step HC.out hb); replace VW := Aside0.mk (Kd.R_below VW.out hb); replace G := Aside0.mk (Kd.R_below G.out hb); clear hb hd)))
 go_upto_region 27 with (first | (go_at_call 21; go_loud (refine (laws_markInt64S.calls k (fun q => we.heap.size ≤ q) (.slice AG r2.length cG) r2 1 m1 r3 wc _ HC.out (Kd.R_lower G.out (by omega)) HMI.out).mono ?_; rintro e wo ⟨rfl, hg, hb, hk⟩; replace HB := Aside0.mk (Below.trans HBC.out (hb.mono HBC.out.size)); replace HC := Aside0.mk hb; replace VW := Aside0.mk (Kd.R_below HWC.out hb); replace G := Aside0.mk hg; clear hb hk hg)))
 have hl3 : r2.length = r3.length := (Kd.R_reads' G.out).1
 rw [hl3] at G ⊢
 clear hl3
 go_upto_region 33 with (first | (go_at_call 22; go_loud (refine (laws_heldInt64S.calls k AG cG r3 1 m1 _ (Kd.R_reads' G.out).2.2 (Kd.R_reads' G.out).2.1 HHE.out).mono ?_; rintro e wp ⟨rfl, hd⟩; have hb := drawn_below hd; replace HB := Aside0.mk (below_step HB.out hb); replace HC := Aside0.mk (below_step HC.out hb); replace VW := Aside0.mk (Kd.R_below VW.out hb); replace G := Aside0.mk (Kd.R_below G.out hb); clear hb hd)))
 go_upto_region 34 with (first | (go_at_call_of 35 A0; go_loud (refine (laws_toObjectS.calls k A0 c0 l0 q0 _ (Kd.C_below HR0.out HB.out) hc0 HTO0.out).mono ?_; rintro e wq ⟨v, rfl, hr, hb⟩; obtain ⟨AZ0, cZ0, ev⟩ := Kd.R_slice hr; subst ev; replace HB := Aside0.mk (below_step HB.out hb); replace HC := Aside0.mk (below_step HC.out hb); replace VW := Aside0.mk (Kd.R_below VW.out hb); replace G := Aside0.mk (Kd.R_below G.out hb); have hZ0 := hb.size; have Z0 := Aside0.mk (Kd.R_mono (Kd.R_bound hr) (ok' := fun q => wp.heap.size ≤ q ∧ q < wq.heap.size) (fun q hq => ⟨hq.2.1, hq.2.2.1⟩)); clear hb hr)) | (go_at_call_of 35 A1; go_loud (refine (laws_toObjectS.calls k A1 c1 l1 q1 _ (Kd.C_below HR1.out HB.out) hc1 HTO1.out).mono ?_; rintro e wr ⟨v, rfl, hr, hb⟩; obtain ⟨AZ1, cZ1, ev⟩ := Kd.R_slice hr; subst ev; replace HB := Aside0.mk (below_step HB.out hb); replace HC := Aside0.mk (below_step HC.out hb); replace VW := Aside0.mk (Kd.R_below VW.out hb); replace G := Aside0.mk (Kd.R_below G.out hb); replace Z0 := Aside0.mk (Kd.R_below Z0.out hb); have hZ1 := hb.size; have Z1 := Aside0.mk (Kd.R_mono (Kd.R_bound hr) (ok' := fun q => wq.heap.size ≤ q ∧ q < wr.heap.size) (fun q hq => ⟨hq.2.1, hq.2.2.1⟩)); clear hb hr)) | (go_at_call 43; go_loud (refine (impl_Gather.calls k AZ0 cZ0 q0 AZ1 cZ1 q1 a2 r2 _ (Kd.R_reads' Z0.out).2.2 (Kd.R_reads' Z0.out).2.1 (Kd.R_reads' Z1.out).2.2 (Kd.R_reads' Z1.out).2.1 HIM.out).mono ?_; rintro e wt ⟨v, rfl, hr, hb⟩; obtain ⟨AH, cH, ev⟩ := Kd.R_slice hr; subst ev; replace HB := Aside0.mk (below_step HB.out hb); replace HC := Aside0.mk (below_step HC.out hb); replace VW := Aside0.mk (Kd.R_below VW.out hb); replace G := Aside0.mk (Kd.R_below G.out hb); have H := Aside0.mk (Kd.R_mono (Kd.R_bound hr) (ok' := fun q => wr.heap.size ≤ q) (fun q hq => hq.2.1)); clear hb hr)))
 go_upto_region 36 with (first | (go_at_call 20; go_loud (refine (laws_eqInt64S.calls k AH cH r2 AVW cVW r1 true _ (Kd.R_reads' H.out).2.2 (Kd.R_reads' H.out).2.1 (Kd.R_reads' VW.out).2.2 (Kd.R_reads' VW.out).2.1 HEQ.out).mono ?_; rintro e wu ⟨rfl, hd⟩; have hb := drawn_below hd; replace HB := Aside0.mk (below_step HB.out hb); replace HC := Aside0.mk (below_step HC.out hb); replace VW := Aside0.mk (Kd.R_below VW.out hb); replace G := Aside0.mk (Kd.R_below G.out hb); clear hb hd)))
 go_wp2_with (first | (go_at_call 22; go_loud (refine (laws_heldInt64S.calls k AG cG r3 1 m1 _ (Kd.R_reads' G.out).2.2 (Kd.R_reads' G.out).2.1 HHE.out).mono ?_; rintro e wv ⟨rfl, hd⟩; have hb := drawn_below hd; replace HB := Aside0.mk (below_step HB.out hb); clear hb hd)))
 go_ret
 exact ⟨rfl, HB.out⟩

end Go.Proofs.Ythegbhfoleiegaa.All

/- What reads as data of a type can be read as a value of its kind. -/
namespace Go.Proofs.Ythegbhfoleiegaa.All
open Go.RowKit Go.Proofs.YthegbhfoleiegaaW.PrintWords Go.Proofs.YthegbhfoleiegaaW.PrintLast Go.Proofs.YthegbhfoleiegaaW.PrintMore
set_option linter.unusedVariables false
set_option linter.unusedSimpArgs false
structure Rdb {α : Type} (d : Kd α) (P : Program) (t : TypeId) (ok : α → Prop) : Prop where
  sz : P.cellsOf t = d.sz
  rd : ∀ {H : Type} {enc : TypeId × Value → H} {w : World} {base : Nat} {sp : Nat → Bool} {held : Bool} {fuel : Nat} {cs : List Value} {x : DataW H × List MemPlace}, DataW.trod enc P w base sp held fuel t cs = some x → ∃ a, d.K w a cs ∧ ok a
theorem Rdb.int {P : Program} {t : TypeId} {k : IntKind} (ht : P.underlying t = some (.int k)) (hs : P.cellsOf t = 1) : Rdb (Kd.int k) P t (fun a => (Lit.int k a).wf = true) :=
  ⟨hs, fun h => by obtain ⟨n, rfl, _, hw⟩ := DataW.trod_int ht h; exact ⟨n, rfl, hw⟩⟩
theorem Rdb.bool {P : Program} {t : TypeId} (ht : P.underlying t = some .bool) (hs : P.cellsOf t = 1) : Rdb Kd.bool P t (fun _ => True) :=
  ⟨hs, fun h => by obtain ⟨b, rfl, _⟩ := DataW.trod_bool ht h; exact ⟨b, rfl, trivial⟩⟩
theorem Rdb.string {P : Program} {t : TypeId} (ht : P.underlying t = some .string) (hs : P.cellsOf t = 1) : Rdb Kd.string P t (fun s => s.size ≤ 9223372036854775807) :=
  ⟨hs, fun h => by obtain ⟨s, rfl, _, hm⟩ := DataW.trod_string ht h; exact ⟨s, rfl, hm⟩⟩
theorem rdb_list {α : Type} {P : Nat → α → Prop} : ∀ n : Nat, (∀ j, j < n → ∃ x, P j x) → ∃ l : List α, l.length = n ∧ ∀ (j : Nat) (x : α), l[j]? = some x → P j x
  | 0, _ => ⟨[], rfl, fun j x h => by simp at h⟩
  | n + 1, h => by
    obtain ⟨l, hl, hp⟩ := rdb_list n (fun j hj => h j (by omega))
    obtain ⟨x, hx⟩ := h n (by omega)
    refine ⟨l ++ [x], by simp [hl], fun j y hy => ?_⟩
    by_cases hj : j < n
    · rw [List.getElem?_append_left (by omega)] at hy
      exact hp j y hy
    · have hlt := (List.getElem?_eq_some_iff.1 hy).1
      simp [hl] at hlt
      have : j = n := by omega
      subst this
      rw [List.getElem?_append_right (by omega)] at hy
      simp [hl] at hy
      subst hy
      exact hx
theorem Rdb.slice {α : Type} {d : Kd α} {P : Program} {t e : TypeId} {ok : α → Prop} (ht : P.underlying t = some (.slice e)) (hs : P.cellsOf t = 1) (h : Rdb d P e ok) : Rdb (Kd.slice e d) P t (fun xs => xs.length ≤ 9223372036854775807 ∧ ∀ x ∈ xs, ok x) := by
  refine ⟨hs, fun {H enc w base sp held fuel cs x} hx => ?_⟩
  rcases Deep.open_slice ht hx with ⟨rfl, _⟩ | ⟨a, len, cap, m, n, D, Pl, rfl, hb, hl, hm, hmm, _, hel⟩
  · exact ⟨[], ⟨none, 0, rfl, Nat.le_refl _, rfl, by simp, fun h0 => by simp at h0⟩, by simp, fun x hx => by simp at hx⟩
  · have hmax : len ≤ 9223372036854775807 := Nat.le_trans hl hm
    have hlm : len ≤ m := by rw [hmm]; split <;> omega
    obtain ⟨xs, hlen, hxs⟩ := rdb_list (P := fun j (x : α) => ok x ∧ ∃ c, c.length = d.sz ∧ d.K w x c ∧ ∀ (i : Nat) (u : Value), c[i]? = some u → w.cell? (a.add (j * d.sz + i)) = some u) len (fun j hj => by
      obtain ⟨cs', hc, htr⟩ := hel j (by omega)
      obtain ⟨x, hK, hok⟩ := h.rd htr
      obtain ⟨_, hcl, hcc⟩ := World.cells?_some hc
      rw [h.sz] at hcl hcc
      refine ⟨x, hok, cs', hcl, hK, fun i u hu => ?_⟩
      have hi := (List.getElem?_eq_some_iff.1 hu).1
      have := hcc i (by omega)
      rw [Addr.add_add] at this
      exact this.trans hu)
    refine ⟨xs, ⟨some a, cap, by rw [hlen], by omega, rfl, by omega, fun _ => ⟨a, rfl, fun j p hj => (hxs j p hj).2⟩⟩, by omega, fun x hx => ?_⟩
    obtain ⟨j, hj⟩ := List.getElem?_of_mem hx
    exact (hxs j x hj).1
/-- The fields of a struct (types and places) from cell 'off' on. -/
structure RdbFs {α : Type} (d : Kd α) (P : Program) (fs : List (TypeId × Nat)) (off : Nat) (ok : α → Prop) : Prop where
  rd : ∀ {H : Type} {enc : TypeId × Value → H} {w : World} {base : Nat} {sp : Nat → Bool} {held : Bool} {n : Nat} {cs : List Value}, cs.length = off + d.sz →
    (∀ f ∈ fs, ∃ x, DataW.trod enc P w base sp held n f.1 ((cs.drop f.2).take (P.cellsOf f.1)) = some x) → ∃ a, d.K w a (cs.drop off) ∧ ok a
theorem RdbFs.one {α : Type} {d : Kd α} {P : Program} {t : TypeId} {off : Nat} {ok : α → Prop} (h : Rdb d P t ok) : RdbFs d P [(t, off)] off ok := by
  refine ⟨fun {H enc w base sp held n cs} hl hf => ?_⟩
  obtain ⟨x, hx⟩ := hf (t, off) (by simp)
  simp only at hx
  rw [h.sz, List.take_of_length_le (by rw [List.length_drop]; omega)] at hx
  exact h.rd hx
theorem RdbFs.cons {α β : Type} {a : Kd α} {b : Kd β} {P : Program} {t : TypeId} {fs : List (TypeId × Nat)} {off off' : Nat} {ok : α → Prop} {ok' : β → Prop} (ho : off + a.sz = off') (h : Rdb a P t ok) (hs : RdbFs b P fs off' ok') : RdbFs (Kd.pair a b) P ((t, off) :: fs) off (fun x => ok x.1 ∧ ok' x.2) := by
  subst ho
  refine ⟨fun {H enc w base sp held n cs} hl hf => ?_⟩
  have hl' : cs.length = off + a.sz + b.sz := by rw [hl]; show off + (a.sz + b.sz) = _; omega
  obtain ⟨x, hx⟩ := hf (t, off) (by simp)
  simp only at hx
  rw [h.sz] at hx
  obtain ⟨y, hy, oky⟩ := h.rd hx
  obtain ⟨z, hz, okz⟩ := hs.rd hl' (fun g hg => hf g (by simp [hg]))
  refine ⟨(y, z), ⟨(cs.drop off).take a.sz, cs.drop (off + a.sz), ?_, hy, hz⟩, oky, okz⟩
  rw [← List.drop_drop, List.take_append_drop]
theorem Rdb.struct {α : Type} {d : Kd α} {P : Program} {t : TypeId} {fs : Array Field} {ok : α → Prop} (ht : P.underlying t = some (.struct fs)) (hs : P.cellsOf t = d.sz) (tos : List (TypeId × Nat)) (htos : fs.toList.map (fun f => (f.type, f.offset)) = tos) (h : RdbFs d P tos 0 ok) : Rdb d P t ok := by
  subst htos
  refine ⟨hs, fun hx => ?_⟩
  obtain ⟨xs, n, rfl, rfl, hl, hxl, hf⟩ := DataW.trod_struct ht hx
  have := h.rd (n := n) (by rw [hl, hs, Nat.zero_add]) (fun f hfm => by
    obtain ⟨f', hf', rfl⟩ := List.mem_map.1 hfm
    obtain ⟨i, hi⟩ := List.getElem?_of_mem hf'
    rw [Array.getElem?_toList] at hi
    have h1 := hf i f' hi
    have hlt : i < xs.length := by rw [hxl]; exact (Array.getElem?_eq_some_iff.1 hi).1
    exact ⟨xs[i], by rw [h1, List.getElem?_eq_getElem hlt]⟩)
  simpa using this
theorem Rdb.iso {α β : Type} {d : Kd α} {P : Program} {t : TypeId} {ok : α → Prop} {f : β → α} (h : Rdb d P t ok) (g : α → β) (hg : ∀ y, f (g y) = y) : Rdb (Kd.iso d f) P t (fun x => ok (f x)) :=
  ⟨h.sz, fun hx => by
    obtain ⟨a, hK, hok⟩ := h.rd hx
    refine ⟨g a, ?_, by rw [hg]; exact hok⟩
    show d.K _ (f (g a)) _
    rw [hg]
    exact hK⟩
theorem Rdb.imp {α : Type} {d : Kd α} {P : Program} {t : TypeId} {ok ok' : α → Prop} (h : Rdb d P t ok) (hi : ∀ a, ok a → ok' a) : Rdb d P t ok' :=
  ⟨h.sz, fun hx => by obtain ⟨a, hK, hok⟩ := h.rd hx; exact ⟨a, hK, hi a hok⟩⟩
end Go.Proofs.Ythegbhfoleiegaa.All

/- How the laws' arguments read. Printed by gen_row.py. -/
namespace Go.Proofs.Ythegbhfoleiegaa.All
open Go.RowKit Go.Proofs.YthegbhfoleiegaaW.PrintWords
set_option linter.unusedVariables false
def ok237 (x : S237) : Prop := (Lit.int .i64 x.f0).wf = true ∧ (Lit.int .i64 x.f1).wf = true ∧ x.f2.size ≤ 9223372036854775807
set_option maxRecDepth 100000 in
theorem rdb237 : Rdb k237 Try.prog 237 ok237 := Rdb.iso (f := fun x : S237 => (x.f0, x.f1, x.f2)) (Rdb.struct Try.underlying237 (by kernel_rfl) [(2, 0), (2, 1), (9, 2)] rfl (RdbFs.cons rfl (Rdb.int Try.underlying2 (by kernel_rfl)) (RdbFs.cons rfl (Rdb.int Try.underlying2 (by kernel_rfl)) (RdbFs.one (Rdb.string Try.underlying9 (by kernel_rfl)))))) (fun y => (⟨y.1, y.2.1, y.2.2⟩ : S237)) (fun _ => rfl)
def ok191 (x : S191) : Prop := x.f0.size ≤ 9223372036854775807 ∧ (Lit.int .i64 x.f1).wf = true ∧ (Lit.int .i64 x.f2).wf = true ∧ (Lit.int .i64 x.f3).wf = true ∧ (x.f4.length ≤ 9223372036854775807 ∧ ∀ y ∈ x.f4, (Lit.int .i64 y).wf = true) ∧ (Lit.int .i64 x.f5).wf = true ∧ (x.f6.length ≤ 9223372036854775807 ∧ ∀ y ∈ x.f6, (Lit.int .u8 y).wf = true) ∧ (x.f7.length ≤ 9223372036854775807 ∧ ∀ y ∈ x.f7, ok237 y)
set_option maxRecDepth 100000 in
theorem rdb191 : Rdb k191 Try.prog 191 ok191 := Rdb.iso (f := fun x : S191 => (x.f0, x.f1, x.f2, x.f3, x.f4, x.f5, x.f6, x.f7)) (Rdb.struct Try.underlying191 (by kernel_rfl) [(9, 0), (2, 1), (2, 2), (2, 3), (22, 4), (2, 5), (72, 6), (189, 7)] rfl (RdbFs.cons rfl (Rdb.string Try.underlying9 (by kernel_rfl)) (RdbFs.cons rfl (Rdb.int Try.underlying2 (by kernel_rfl)) (RdbFs.cons rfl (Rdb.int Try.underlying2 (by kernel_rfl)) (RdbFs.cons rfl (Rdb.int Try.underlying2 (by kernel_rfl)) (RdbFs.cons rfl (Rdb.slice Try.underlying22 (by kernel_rfl) (Rdb.int Try.underlying2 (by kernel_rfl))) (RdbFs.cons rfl (Rdb.int Try.underlying2 (by kernel_rfl)) (RdbFs.cons rfl (Rdb.slice Try.underlying72 (by kernel_rfl) (Rdb.int Try.underlying5 (by kernel_rfl))) (RdbFs.one (Rdb.slice Try.underlying189 (by kernel_rfl) rdb237)))))))))) (fun y => (⟨y.1, y.2.1, y.2.2.1, y.2.2.2.1, y.2.2.2.2.1, y.2.2.2.2.2.1, y.2.2.2.2.2.2.1, y.2.2.2.2.2.2.2⟩ : S191)) (fun _ => rfl)
def ok63 (x : S63) : Prop := (x.f0.length ≤ 9223372036854775807 ∧ ∀ y ∈ x.f0, ok191 y)
set_option maxRecDepth 100000 in
theorem rdb63 : Rdb k63 Try.prog 63 ok63 := Rdb.iso (f := fun x : S63 => x.f0) (Rdb.struct Try.underlying63 (by kernel_rfl) [(61, 0)] rfl (RdbFs.one (Rdb.slice Try.underlying61 (by kernel_rfl) rdb191))) (fun y => (⟨y⟩ : S63)) (fun _ => rfl)
end Go.Proofs.Ythegbhfoleiegaa.All

/- Plain laws of the printed functions: eventually (Ev), step by step; loops over a list. -/
namespace Go.Proofs.Ythegbhfoleiegaa.All
open Go.RowKit Go.Proofs.YthegbhfoleiegaaW.PrintWords Go.Proofs.YthegbhfoleiegaaW.PrintLast Go.Proofs.YthegbhfoleiegaaW.PrintMore
set_option linter.unusedVariables false
set_option linter.unusedSimpArgs false
theorem Ev.succ {α : Type} {g : Nat → Option α} {r : α} (h : Ev (fun k => g (k + 1)) r) : Ev g r := by
  obtain ⟨K, hK⟩ := h
  refine ⟨K + 1, fun k hk => ?_⟩
  obtain ⟨m, rfl⟩ : ∃ m, k = m + 1 := ⟨k - 1, by omega⟩
  exact hK m (by omega)
theorem Ev.pos {α : Type} {c : Prop} [Decidable c] {g h : Nat → Option α} {r : α} (hc : c) (k : Ev g r) : Ev (fun n => if c then g n else h n) r := Ev.congr (fun n => if_pos hc) k
theorem Ev.neg {α : Type} {c : Prop} [Decidable c] {g h : Nat → Option α} {r : α} (hc : ¬ c) (k : Ev h r) : Ev (fun n => if c then g n else h n) r := Ev.congr (fun n => if_neg hc) k
theorem Ev.some_bind {α β : Type} {a : α} {f : Nat → α → Option β} {r : β} (k : Ev (fun n => f n a) r) : Ev (fun n => (some a).bind (f n)) r := k
theorem Ev.eq_bind {α β : Type} {o : Option α} {a : α} {f : Nat → α → Option β} {r : β} (h : o = some a) (k : Ev (fun n => f n a) r) : Ev (fun n => o.bind (f n)) r := by subst h; exact k
theorem Ev.some {α : Type} {a r : α} (h : a = r) : Ev (fun _ => some a) r := h ▸ Ev.now a
theorem wrap64_id {x : Int} (h1 : -9223372036854775808 ≤ x) (h2 : x ≤ 9223372036854775807) : wrap64 x = x := by unfold wrap64; omega
theorem wrap64_nat {i : Nat} (h : i < 9223372036854775807) : wrap64 ((i : Int) + 1) = ((i + 1 : Nat) : Int) := by rw [wrap64_id (by omega) (by omega)]; rfl
theorem getD_eq {α : Type} {xs : List α} {i : Nat} (h : i < xs.length) (z : α) : xs.getD i z = xs[i] := by rw [List.getD_eq_getElem?_getD, List.getElem?_eq_getElem h]; rfl
/-- A loop that fills a list of the same length. -/
theorem to_gen {α β : Type} (f : α → β) (z : β) (za : α) (xs : List α) (g : Nat → List β → Int → Option (List β))
    (hstep : ∀ (i : Nat) (out : List β) (r : List β), i < xs.length → out.length = xs.length → Ev (fun k => g k (out.set i (f (xs.getD i za))) ((i + 1 : Nat) : Int)) r → Ev (fun k => g k out (i : Int)) r)
    (hend : ∀ out : List β, out.length = xs.length → Ev (fun k => g k out (xs.length : Int)) out) : Ev (fun k => g k (List.replicate xs.length z) 0) (xs.map f) := by
  have key : ∀ d i : Nat, i + d = xs.length → Ev (fun k => g k ((xs.map f).take i ++ List.replicate (xs.length - i) z) (i : Int)) (xs.map f) := by
    intro d
    induction d with
    | zero =>
      intro i hi
      obtain rfl : i = xs.length := by omega
      rw [Nat.sub_self, List.replicate_zero, List.append_nil, List.take_of_length_le (by simp)]
      exact hend _ (by simp)
    | succ d ih =>
      intro i hi
      have h1 := ih (i + 1) (by omega)
      refine hstep i _ _ (by omega) (by simp; omega) ?_
      have e : ((xs.map f).take i ++ List.replicate (xs.length - i) z).set i (f (xs.getD i za)) = (xs.map f).take (i + 1) ++ List.replicate (xs.length - (i + 1)) z := by
        have hl : ((xs.map f).take i).length = i := by simp; omega
        rw [List.set_append_right _ _ (by omega), hl, Nat.sub_self]
        obtain ⟨m, hm⟩ : ∃ m, xs.length - i = m + 1 := ⟨xs.length - i - 1, by omega⟩
        rw [hm, List.replicate_succ, List.set_cons_zero, List.take_succ_eq_append_getElem (by simp; omega), show xs.length - (i + 1) = m by omega, List.append_assoc]
        congr 1
        simp [List.getElem?_eq_getElem (show i < xs.length by omega)]
      rw [e]
      exact h1
  have h0 := key xs.length 0 (by omega)
  simpa using h0
/-- A loop whose end is r, whatever happens on the way. -/
theorem for_gen {ρ : Type} (r : ρ) (n : Nat) (g : Nat → Int → Option ρ) (hstep : ∀ i : Nat, i < n → Ev (fun k => g k ((i + 1 : Nat) : Int)) r → Ev (fun k => g k (i : Int)) r) (hend : Ev (fun k => g k (n : Int)) r) : Ev (fun k => g k 0) r := by
  have key : ∀ d i : Nat, i + d = n → Ev (fun k => g k (i : Int)) r := by
    intro d
    induction d with
    | zero => intro i hi; obtain rfl : i = n := by omega
              exact hend
    | succ d ih => intro i hi; exact hstep i (by omega) (ih (i + 1) (by omega))
  exact key n 0 (by omega)
/-- A loop that says yes at each step. -/
theorem all_gen (n : Nat) (g : Nat → Int → Option Bool) (hstep : ∀ i : Nat, i < n → Ev (fun k => g k ((i + 1 : Nat) : Int)) true → Ev (fun k => g k (i : Int)) true) (hend : Ev (fun k => g k (n : Int)) true) : Ev (fun k => g k 0) true := for_gen true n g hstep hend
/-- A loop that writes each element anew, by its number. -/
theorem mk_gen {β ρ : Type} (f : Nat → β) (xs : List β) (fin : List β → ρ) (g : Nat → List β → Int → Option ρ)
    (hstep : ∀ (i : Nat) (out : List β) (r : ρ), i < xs.length → out.length = xs.length → Ev (fun k => g k (out.set i (f i)) ((i + 1 : Nat) : Int)) r → Ev (fun k => g k out (i : Int)) r)
    (hend : ∀ out : List β, out.length = xs.length → Ev (fun k => g k out (xs.length : Int)) (fin out)) : Ev (fun k => g k xs 0) (fin ((List.range xs.length).map f)) := by
  have key : ∀ d i : Nat, i + d = xs.length → Ev (fun k => g k ((List.range i).map f ++ xs.drop i) (i : Int)) (fin ((List.range xs.length).map f)) := by
    intro d
    induction d with
    | zero =>
      intro i hi
      obtain rfl : i = xs.length := by omega
      rw [List.drop_length, List.append_nil]
      exact hend _ (by simp)
    | succ d ih =>
      intro i hi
      have h1 := ih (i + 1) (by omega)
      refine hstep i _ _ (by omega) (by simp; omega) ?_
      have e : ((List.range i).map f ++ xs.drop i).set i (f i) = (List.range (i + 1)).map f ++ xs.drop (i + 1) := by
        have hl : ((List.range i).map f).length = i := by simp
        rw [List.set_append_right _ _ (by omega), hl, Nat.sub_self, List.drop_eq_getElem_cons (show i < xs.length by omega), List.set_cons_zero, List.range_succ, List.map_append, List.append_assoc]
        rfl
      rw [e]
      exact h1
  have h0 := key xs.length 0 (by omega)
  simpa using h0
/-- A loop that takes sizes off; below 0 it ends with -1. -/
theorem sz_gen {α : Type} (s : α → Nat) (za : α) (xs : List α) (g : Nat → Int → Int → Option Int)
    (hstep : ∀ (i : Nat) (a r : Int), i < xs.length → 0 ≤ a → a ≤ 1048576 → (if (s (xs.getD i za) : Int) ≤ a then Ev (fun k => g k (a - s (xs.getD i za)) ((i + 1 : Nat) : Int)) r else r = -1) → Ev (fun k => g k a (i : Int)) r)
    (hend : ∀ a : Int, Ev (fun k => g k a (xs.length : Int)) a) (a : Int) (h0 : 0 ≤ a) (h1 : a ≤ 1048576) : Ev (fun k => g k a 0) (if ((xs.map s).sum : Int) ≤ a then a - (xs.map s).sum else -1) := by
  have key : ∀ d i : Nat, i + d = xs.length → ∀ a : Int, 0 ≤ a → a ≤ 1048576 → Ev (fun k => g k a (i : Int)) (if ((((xs.drop i).map s).sum : Nat) : Int) ≤ a then a - (((xs.drop i).map s).sum : Nat) else -1) := by
    intro d
    induction d with
    | zero =>
      intro i hi a h0 h1
      obtain rfl : i = xs.length := by omega
      rw [List.drop_length]
      simp [h0]
      exact hend a
    | succ d ih =>
      intro i hi a h0 h1
      have hlt : i < xs.length := by omega
      refine hstep i a _ hlt h0 h1 ?_
      rw [List.drop_eq_getElem_cons hlt, List.map_cons, List.sum_cons, getD_eq hlt]
      split
      · rename_i hc
        have h2 := ih (i + 1) (by omega) (a - (s xs[i] : Nat)) (by omega) (by omega)
        have e : (if ((((xs.drop (i + 1)).map s).sum : Nat) : Int) ≤ a - (s xs[i] : Nat) then a - (s xs[i] : Nat) - (((xs.drop (i + 1)).map s).sum : Nat) else -1) = (if ((s xs[i] + ((xs.drop (i + 1)).map s).sum : Nat) : Int) ≤ a then a - (s xs[i] + ((xs.drop (i + 1)).map s).sum : Nat) else -1) := by
          split <;> split <;> omega
        rw [← e]
        exact h2
      · rename_i hc
        rw [if_neg (by omega)]
  have h2 := key xs.length 0 (by omega) a h0 h1
  simpa using h2
theorem sum_getD_le {α : Type} (s : α → Nat) (z : α) : ∀ (xs : List α) (i : Nat), i < xs.length → s (xs.getD i z) ≤ (xs.map s).sum
  | x :: xs, 0, _ => by simp
  | x :: xs, i + 1, h => by
    have := sum_getD_le s z xs i (by simpa using h)
    simp only [List.getD_cons_succ, List.map_cons, List.sum_cons] at this ⊢
    omega
end Go.Proofs.Ythegbhfoleiegaa.All

/- Plain laws of the laws' sz, to and eq over ObjectS. Printed by gen_plain.py. -/
namespace Go.Proofs.Ythegbhfoleiegaa.All
open Go.RowKit Go.Proofs.YthegbhfoleiegaaW.PrintWords Go.Proofs.YthegbhfoleiegaaW.PrintLast Go.Proofs.YthegbhfoleiegaaW.PrintMore
set_option linter.unusedVariables false
set_option linter.unusedSimpArgs false
theorem sz_bind {s1 s2 : Nat} {a : Int} {g : Nat → Option Int} {G : Nat → Int → Option Int} (h : Ev g (if (s1 : Int) ≤ a then a - (s1 : Int) else -1)) (h2 : (s1 : Int) ≤ a → Ev (fun k => G k (a - (s1 : Int))) (if (s2 : Int) ≤ a - (s1 : Int) then a - (s1 : Int) - (s2 : Int) else -1)) : Ev (fun k => (g k).bind fun t => if t < 0 then some (-1) else G k t) (if ((s1 + s2 : Nat) : Int) ≤ a then a - ((s1 + s2 : Nat) : Int) else -1) := by
  by_cases c : (s1 : Int) ≤ a
  · rw [if_pos c] at h
    refine Ev.bind h (Ev.neg (by omega) ?_)
    have e : (if (s2 : Int) ≤ a - (s1 : Int) then a - (s1 : Int) - (s2 : Int) else -1) = (if ((s1 + s2 : Nat) : Int) ≤ a then a - ((s1 + s2 : Nat) : Int) else -1) := by split <;> split <;> omega
    rw [← e]
    exact h2 c
  · rw [if_neg c] at h
    rw [if_neg (by omega)]
    exact Ev.bind h (Ev.pos (by omega) (Ev.now _))
theorem sz_str {s1 s2 : Nat} {a : Int} {G : Nat → Option Int} (h2 : (s1 : Int) ≤ a → Ev G (if (s2 : Int) ≤ a - (s1 : Int) then a - (s1 : Int) - (s2 : Int) else -1)) : Ev (fun k => if a - (s1 : Int) < 0 then some (-1) else G k) (if ((s1 + s2 : Nat) : Int) ≤ a then a - ((s1 + s2 : Nat) : Int) else -1) := by
  by_cases c : (s1 : Int) ≤ a
  · have e : (if (s2 : Int) ≤ a - (s1 : Int) then a - (s1 : Int) - (s2 : Int) else -1) = (if ((s1 + s2 : Nat) : Int) ≤ a then a - ((s1 + s2 : Nat) : Int) else -1) := by split <;> split <;> omega
    rw [← e]
    exact Ev.neg (by omega) (h2 c)
  · rw [if_neg (by omega)]
    exact Ev.pos (by omega) (Ev.now _)
theorem sz_end (a : Int) (h : 0 ≤ a) : Ev (fun _ => some a) (if ((0 : Nat) : Int) ≤ a then a - ((0 : Nat) : Int) else -1) := by
  rw [if_pos (by omega)]
  exact Ev.some (by omega)
theorem szInt64S_f (l : List Int) (a : Int) (h0 : 0 ≤ a) (h1 : a ≤ 1048576) (hl : l.length ≤ 9223372036854775807) : Ev (fun k => laws_szInt64S.f l a) (if (l.length : Int) ≤ a then a - (l.length : Int) else -1) := by
  unfold laws_szInt64S.f; rw [wrap64_id (by omega) (by omega)]
  by_cases h : (l.length : Int) ≤ a
  · rw [if_pos h]; exact Ev.neg (by omega) (Ev.now _)
  · rw [if_neg h]; exact Ev.pos (by omega) (Ev.now _)
theorem toInt64S_f (l : List Int) (hl : l.length ≤ 1048576) : Ev (fun k => laws_toInt64S.f k l) l := by
  unfold laws_toInt64S.f
  refine Ev.pos (by omega) (Ev.pos (by omega) ?_)
  have h := to_gen (fun x : Int => x) 0 0 l (fun k out i => laws_toInt64S.l0 k l out i) (fun i out r hi ho h => by
    refine Ev.succ ?_
    simp only [laws_toInt64S.l0]
    refine Ev.pos (by omega) (Ev.pos (by omega) (Ev.pos (by omega) ?_))
    rw [wrap64_nat (by omega)]
    simpa [rd] using h) (fun out _ => by
    refine Ev.succ ?_
    simp only [laws_toInt64S.l0]
    exact Ev.neg (by omega) (Ev.now _))
  simpa using h
theorem eqInt64S_f (l : List Int) (hl : l.length ≤ 1048576) : Ev (fun k => laws_eqInt64S.f k l l) true := by
  unfold laws_eqInt64S.f
  refine Ev.pos rfl (all_gen l.length (fun k i => laws_eqInt64S.l0 k l l i) (fun i hi h => ?_) ?_)
  · refine Ev.succ ?_
    simp only [laws_eqInt64S.l0]
    rw [wrap64_nat (by omega)]
    exact Ev.pos (by omega) (Ev.pos (by omega) (Ev.pos (by omega) (Ev.pos (by trivial) h)))
  · refine Ev.succ ?_
    simp only [laws_eqInt64S.l0]
    exact Ev.neg (by omega) (Ev.now _)
theorem szByteS_f (l : List Int) (a : Int) (h0 : 0 ≤ a) (h1 : a ≤ 1048576) (hl : l.length ≤ 9223372036854775807) : Ev (fun k => laws_szByteS.f l a) (if (l.length : Int) ≤ a then a - (l.length : Int) else -1) := by
  unfold laws_szByteS.f; rw [wrap64_id (by omega) (by omega)]
  by_cases h : (l.length : Int) ≤ a
  · rw [if_pos h]; exact Ev.neg (by omega) (Ev.now _)
  · rw [if_neg h]; exact Ev.pos (by omega) (Ev.now _)
theorem toByteS_f (l : List Int) (hl : l.length ≤ 1048576) : Ev (fun k => laws_toByteS.f k l) l := by
  unfold laws_toByteS.f
  refine Ev.pos (by omega) (Ev.pos (by omega) ?_)
  have h := to_gen (fun x : Int => x) 0 0 l (fun k out i => laws_toByteS.l0 k l out i) (fun i out r hi ho h => by
    refine Ev.succ ?_
    simp only [laws_toByteS.l0]
    refine Ev.pos (by omega) (Ev.pos (by omega) (Ev.pos (by omega) ?_))
    rw [wrap64_nat (by omega)]
    simpa [rd] using h) (fun out _ => by
    refine Ev.succ ?_
    simp only [laws_toByteS.l0]
    exact Ev.neg (by omega) (Ev.now _))
  simpa using h
theorem eqByteS_f (l : List Int) (hl : l.length ≤ 1048576) : Ev (fun k => laws_eqByteS.f k l l) true := by
  unfold laws_eqByteS.f
  refine Ev.pos rfl (all_gen l.length (fun k i => laws_eqByteS.l0 k l l i) (fun i hi h => ?_) ?_)
  · refine Ev.succ ?_
    simp only [laws_eqByteS.l0]
    rw [wrap64_nat (by omega)]
    exact Ev.pos (by omega) (Ev.pos (by omega) (Ev.pos (by omega) (Ev.pos (by trivial) h)))
  · refine Ev.succ ?_
    simp only [laws_eqByteS.l0]
    exact Ev.neg (by omega) (Ev.now _)
def iReloc (x : S237) : S132 := ⟨x.f0, x.f1, x.f2⟩
def sReloc (x : S237) : Nat := x.f2.size + (0)
def lReloc (x : S237) : Prop := x.f2.size ≤ 9223372036854775807
def bReloc (x : S132) : Prop := True
theorem szReloc_f (x : S237) (a : Int) (h0 : 0 ≤ a) (h1 : a ≤ 1048576) (hx : lReloc x) : Ev (fun k => laws_szReloc.f x.f0 x.f1 x.f2 a) (if (sReloc x : Int) ≤ a then a - (sReloc x : Int) else -1) := by
  have k0 : x.f2.size ≤ 9223372036854775807 := hx
  unfold laws_szReloc.f sReloc
  rw [wrap64_id (by omega) (by omega)]
  refine sz_str (fun e0 => ?_)
  exact sz_end _ (by omega)
theorem toReloc_f (x : S237) (h : sReloc x ≤ 1048576) : Ev (fun k => laws_toReloc.f x.f0 x.f1 x.f2) (x.f0, x.f1, x.f2) := by
  unfold sReloc at h
  unfold laws_toReloc.f
  exact Ev.now _
theorem eqReloc_f (x : S132) (hb : bReloc x) : Ev (fun k => laws_eqReloc.f x.f0 x.f1 x.f2 x.f0 x.f1 x.f2) true := by
  unfold laws_eqReloc.f
  refine Ev.pos rfl ?_
  refine Ev.pos rfl ?_
  refine Ev.pos rfl ?_
  exact Ev.now _
theorem bReloc_of (x : S237) (h : sReloc x ≤ 1048576) : bReloc (iReloc x) := by
  unfold sReloc at h
  exact trivial
def sRelocS (xs : List S237) : Nat := xs.length + (xs.map sReloc).sum
def lRelocS (xs : List S237) : Prop := xs.length ≤ 9223372036854775807 ∧ ∀ x ∈ xs, lReloc x
def bRelocS (xs : List S132) : Prop := xs.length ≤ 1048576 ∧ ∀ x ∈ xs, bReloc x
theorem szRelocS_f (xs : List S237) (a : Int) (h0 : 0 ≤ a) (h1 : a ≤ 1048576) (hx : lRelocS xs) : Ev (fun k => laws_szRelocS.f k xs a) (if (sRelocS xs : Int) ≤ a then a - (sRelocS xs : Int) else -1) := by
  obtain ⟨hl, hx⟩ := hx
  unfold laws_szRelocS.f
  rw [wrap64_id (by omega) (by omega)]
  by_cases c : (xs.length : Int) ≤ a
  · refine Ev.neg (by omega) ?_
    have h := sz_gen sReloc z237 xs (fun k a i => laws_szRelocS.l0 k xs a i) (fun i a r hi h0 h1 h => by
      refine Ev.succ ?_
      simp only [laws_szRelocS.l0]
      refine Ev.pos (by omega) (Ev.pos (by omega) ?_)
      have hm : lReloc (rd_T237 xs i) := hx _ (by simp only [rd_T237, Int.toNat_natCast]; rw [getD_eq hi]; exact List.getElem_mem hi)
      have e : rd_T237 xs i = xs.getD i z237 := by simp [rd_T237]
      refine Ev.bind (szReloc_f _ a h0 h1 hm) ?_
      rw [e]
      split at h
      · rename_i hc
        rw [if_pos hc, wrap64_nat (by omega)]
        exact Ev.neg (by omega) h
      · rename_i hc
        rw [if_neg hc]
        exact Ev.pos (by omega) (Ev.some h.symm)) (fun a => by
      refine Ev.succ ?_
      simp only [laws_szRelocS.l0]
      exact Ev.neg (by omega) (Ev.now _)) (a - xs.length) (by omega) (by omega)
    have e : (if ((xs.map sReloc).sum : Int) ≤ a - xs.length then a - xs.length - (xs.map sReloc).sum else -1) = (if (sRelocS xs : Int) ≤ a then a - sRelocS xs else -1) := by unfold sRelocS; split <;> split <;> omega
    rw [← e]
    exact h
  · rw [if_neg (by unfold sRelocS; omega)]
    exact Ev.pos (by omega) (Ev.now _)
theorem atRelocS {xs : List S237} {i : Nat} (h : sRelocS xs ≤ 1048576) (hi : i < xs.length) : sReloc (xs.getD i z237) ≤ 1048576 := by
  have := sum_getD_le sReloc z237 xs i hi
  unfold sRelocS at h
  omega
theorem toRelocS_f (l : List S237) (hl : sRelocS l ≤ 1048576) : Ev (fun k => laws_toRelocS.f k l) (l.map iReloc) := by
  unfold laws_toRelocS.f
  have hl1 : l.length ≤ 1048576 := by unfold sRelocS at hl; omega
  refine Ev.pos (by omega) (Ev.pos (by omega) ?_)
  have h := to_gen iReloc z132 z237 l (fun k out i => laws_toRelocS.l0 k l out i) (fun i out r hi ho h => by
    refine Ev.succ ?_
    simp only [laws_toRelocS.l0]
    have e : rd_T237 l i = l.getD i z237 := by simp [rd_T237]
    rw [e]
    refine Ev.pos (by omega) (Ev.pos (by omega) (Ev.bind (toReloc_f _ (atRelocS hl hi)) (Ev.pos (by omega) ?_)))
    rw [wrap64_nat (by omega)]
    exact h) (fun out _ => by
    refine Ev.succ ?_
    simp only [laws_toRelocS.l0]
    exact Ev.neg (by omega) (Ev.now _))
  simpa using h
theorem eqRelocS_f (l : List S132) (hb : bRelocS l) : Ev (fun k => laws_eqRelocS.f k l l) true := by
  obtain ⟨hl, hb⟩ := hb
  unfold laws_eqRelocS.f
  refine Ev.pos rfl (all_gen l.length (fun k i => laws_eqRelocS.l0 k l l i) (fun i hi h => ?_) ?_)
  · refine Ev.succ ?_
    simp only [laws_eqRelocS.l0]
    rw [wrap64_nat (by omega)]
    have hm : bReloc (rd_T132 l i) := hb _ (by simp only [rd_T132, Int.toNat_natCast]; rw [getD_eq hi]; exact List.getElem_mem hi)
    exact Ev.pos (by omega) (Ev.pos (by omega) (Ev.pos (by omega) (Ev.bind (eqReloc_f _ hm) (Ev.pos rfl h))))
  · refine Ev.succ ?_
    simp only [laws_eqRelocS.l0]
    exact Ev.neg (by omega) (Ev.now _)
theorem bRelocS_of (xs : List S237) (h : sRelocS xs ≤ 1048576) : bRelocS (xs.map iReloc) := by
  refine ⟨by rw [List.length_map]; unfold sRelocS at h; omega, fun y hy => ?_⟩
  obtain ⟨x, hx, rfl⟩ := List.mem_map.1 hy
  obtain ⟨i, hi, rfl⟩ := List.getElem_of_mem hx
  have := atRelocS h hi
  rw [getD_eq hi] at this
  exact bReloc_of _ this
def iSection (x : S191) : S130 := ⟨x.f0, x.f1, x.f2, x.f3, x.f4, x.f5, x.f6, (x.f7.map iReloc)⟩
def sSection (x : S191) : Nat := x.f0.size + (x.f4.length + (x.f6.length + (sRelocS x.f7 + (0))))
def lSection (x : S191) : Prop := x.f0.size ≤ 9223372036854775807 ∧ x.f4.length ≤ 9223372036854775807 ∧ x.f6.length ≤ 9223372036854775807 ∧ lRelocS x.f7
def bSection (x : S130) : Prop := x.f4.length ≤ 1048576 ∧ x.f6.length ≤ 1048576 ∧ bRelocS x.f7
theorem szSection_f (x : S191) (a : Int) (h0 : 0 ≤ a) (h1 : a ≤ 1048576) (hx : lSection x) : Ev (fun k => laws_szSection.f k x.f0 x.f1 x.f2 x.f3 x.f4 x.f5 x.f6 x.f7 a) (if (sSection x : Int) ≤ a then a - (sSection x : Int) else -1) := by
  obtain ⟨k0, k1, k2, k3⟩ := hx
  unfold laws_szSection.f sSection
  rw [wrap64_id (by omega) (by omega)]
  refine sz_str (fun e0 => ?_)
  refine sz_bind (szInt64S_f _ _ (by omega) (by omega) k1) (fun e1 => ?_)
  refine sz_bind (szByteS_f _ _ (by omega) (by omega) k2) (fun e2 => ?_)
  refine sz_bind (szRelocS_f _ _ (by omega) (by omega) k3) (fun e3 => ?_)
  exact sz_end _ (by omega)
theorem toSection_f (x : S191) (h : sSection x ≤ 1048576) : Ev (fun k => laws_toSection.f k x.f0 x.f1 x.f2 x.f3 x.f4 x.f5 x.f6 x.f7) (x.f0, x.f1, x.f2, x.f3, x.f4, x.f5, x.f6, (x.f7.map iReloc)) := by
  unfold sSection at h
  unfold laws_toSection.f
  refine Ev.bind (toInt64S_f _ (by omega)) ?_
  refine Ev.bind (toByteS_f _ (by omega)) ?_
  refine Ev.bind (toRelocS_f _ (by omega)) ?_
  exact Ev.now _
theorem eqSection_f (x : S130) (hb : bSection x) : Ev (fun k => laws_eqSection.f k x.f0 x.f1 x.f2 x.f3 x.f4 x.f5 x.f6 x.f7 x.f0 x.f1 x.f2 x.f3 x.f4 x.f5 x.f6 x.f7) true := by
  obtain ⟨k0, k1, k2⟩ := hb
  unfold laws_eqSection.f
  refine Ev.pos rfl ?_
  refine Ev.pos rfl ?_
  refine Ev.pos rfl ?_
  refine Ev.pos rfl ?_
  refine Ev.bind (eqInt64S_f _ k0) (Ev.pos rfl ?_)
  refine Ev.pos rfl ?_
  refine Ev.bind (eqByteS_f _ k1) (Ev.pos rfl ?_)
  refine Ev.bind (eqRelocS_f _ k2) (Ev.pos rfl ?_)
  exact Ev.now _
theorem bSection_of (x : S191) (h : sSection x ≤ 1048576) : bSection (iSection x) := by
  unfold sSection at h
  refine ⟨?_, ?_, ?_⟩
  · show x.f4.length ≤ _; omega
  · show x.f6.length ≤ _; omega
  · exact bRelocS_of _ (by omega)
def sSectionS (xs : List S191) : Nat := xs.length + (xs.map sSection).sum
def lSectionS (xs : List S191) : Prop := xs.length ≤ 9223372036854775807 ∧ ∀ x ∈ xs, lSection x
def bSectionS (xs : List S130) : Prop := xs.length ≤ 1048576 ∧ ∀ x ∈ xs, bSection x
theorem szSectionS_f (xs : List S191) (a : Int) (h0 : 0 ≤ a) (h1 : a ≤ 1048576) (hx : lSectionS xs) : Ev (fun k => laws_szSectionS.f k xs a) (if (sSectionS xs : Int) ≤ a then a - (sSectionS xs : Int) else -1) := by
  obtain ⟨hl, hx⟩ := hx
  unfold laws_szSectionS.f
  rw [wrap64_id (by omega) (by omega)]
  by_cases c : (xs.length : Int) ≤ a
  · refine Ev.neg (by omega) ?_
    have h := sz_gen sSection z191 xs (fun k a i => laws_szSectionS.l0 k xs a i) (fun i a r hi h0 h1 h => by
      refine Ev.succ ?_
      simp only [laws_szSectionS.l0]
      refine Ev.pos (by omega) (Ev.pos (by omega) ?_)
      have hm : lSection (rd_T191 xs i) := hx _ (by simp only [rd_T191, Int.toNat_natCast]; rw [getD_eq hi]; exact List.getElem_mem hi)
      have e : rd_T191 xs i = xs.getD i z191 := by simp [rd_T191]
      refine Ev.bind (szSection_f _ a h0 h1 hm) ?_
      rw [e]
      split at h
      · rename_i hc
        rw [if_pos hc, wrap64_nat (by omega)]
        exact Ev.neg (by omega) h
      · rename_i hc
        rw [if_neg hc]
        exact Ev.pos (by omega) (Ev.some h.symm)) (fun a => by
      refine Ev.succ ?_
      simp only [laws_szSectionS.l0]
      exact Ev.neg (by omega) (Ev.now _)) (a - xs.length) (by omega) (by omega)
    have e : (if ((xs.map sSection).sum : Int) ≤ a - xs.length then a - xs.length - (xs.map sSection).sum else -1) = (if (sSectionS xs : Int) ≤ a then a - sSectionS xs else -1) := by unfold sSectionS; split <;> split <;> omega
    rw [← e]
    exact h
  · rw [if_neg (by unfold sSectionS; omega)]
    exact Ev.pos (by omega) (Ev.now _)
theorem atSectionS {xs : List S191} {i : Nat} (h : sSectionS xs ≤ 1048576) (hi : i < xs.length) : sSection (xs.getD i z191) ≤ 1048576 := by
  have := sum_getD_le sSection z191 xs i hi
  unfold sSectionS at h
  omega
theorem toSectionS_f (l : List S191) (hl : sSectionS l ≤ 1048576) : Ev (fun k => laws_toSectionS.f k l) (l.map iSection) := by
  unfold laws_toSectionS.f
  have hl1 : l.length ≤ 1048576 := by unfold sSectionS at hl; omega
  refine Ev.pos (by omega) (Ev.pos (by omega) ?_)
  have h := to_gen iSection z130 z191 l (fun k out i => laws_toSectionS.l0 k l out i) (fun i out r hi ho h => by
    refine Ev.succ ?_
    simp only [laws_toSectionS.l0]
    have e : rd_T191 l i = l.getD i z191 := by simp [rd_T191]
    rw [e]
    refine Ev.pos (by omega) (Ev.pos (by omega) (Ev.bind (toSection_f _ (atSectionS hl hi)) (Ev.pos (by omega) ?_)))
    rw [wrap64_nat (by omega)]
    exact h) (fun out _ => by
    refine Ev.succ ?_
    simp only [laws_toSectionS.l0]
    exact Ev.neg (by omega) (Ev.now _))
  simpa using h
theorem eqSectionS_f (l : List S130) (hb : bSectionS l) : Ev (fun k => laws_eqSectionS.f k l l) true := by
  obtain ⟨hl, hb⟩ := hb
  unfold laws_eqSectionS.f
  refine Ev.pos rfl (all_gen l.length (fun k i => laws_eqSectionS.l0 k l l i) (fun i hi h => ?_) ?_)
  · refine Ev.succ ?_
    simp only [laws_eqSectionS.l0]
    rw [wrap64_nat (by omega)]
    have hm : bSection (rd_T130 l i) := hb _ (by simp only [rd_T130, Int.toNat_natCast]; rw [getD_eq hi]; exact List.getElem_mem hi)
    exact Ev.pos (by omega) (Ev.pos (by omega) (Ev.pos (by omega) (Ev.bind (eqSection_f _ hm) (Ev.pos rfl h))))
  · refine Ev.succ ?_
    simp only [laws_eqSectionS.l0]
    exact Ev.neg (by omega) (Ev.now _)
theorem bSectionS_of (xs : List S191) (h : sSectionS xs ≤ 1048576) : bSectionS (xs.map iSection) := by
  refine ⟨by rw [List.length_map]; unfold sSectionS at h; omega, fun y hy => ?_⟩
  obtain ⟨x, hx, rfl⟩ := List.mem_map.1 hy
  obtain ⟨i, hi, rfl⟩ := List.getElem_of_mem hx
  have := atSectionS h hi
  rw [getD_eq hi] at this
  exact bSection_of _ this
def iObject (x : S63) : S68 := ⟨(x.f0.map iSection)⟩
def sObject (x : S63) : Nat := sSectionS x.f0 + (0)
def lObject (x : S63) : Prop := lSectionS x.f0
def bObject (x : S68) : Prop := bSectionS x.f0
theorem szObject_f (x : S63) (a : Int) (h0 : 0 ≤ a) (h1 : a ≤ 1048576) (hx : lObject x) : Ev (fun k => laws_szObject.f k x.f0 a) (if (sObject x : Int) ≤ a then a - (sObject x : Int) else -1) := by
  have k0 : lSectionS x.f0 := hx
  unfold laws_szObject.f sObject
  refine sz_bind (szSectionS_f _ _ (by omega) (by omega) k0) (fun e0 => ?_)
  exact sz_end _ (by omega)
theorem toObject_f (x : S63) (h : sObject x ≤ 1048576) : Ev (fun k => laws_toObject.f k x.f0) (x.f0.map iSection) := by
  unfold sObject at h
  unfold laws_toObject.f
  refine Ev.bind (toSectionS_f _ (by omega)) ?_
  exact Ev.now _
theorem eqObject_f (x : S68) (hb : bObject x) : Ev (fun k => laws_eqObject.f k x.f0 x.f0) true := by
  have k0 := hb
  unfold laws_eqObject.f
  refine Ev.bind (eqSectionS_f _ k0) (Ev.pos rfl ?_)
  exact Ev.now _
theorem bObject_of (x : S63) (h : sObject x ≤ 1048576) : bObject (iObject x) := by
  unfold sObject at h
  refine ?_
  · exact bSectionS_of _ (by omega)
def sObjectS (xs : List S63) : Nat := xs.length + (xs.map sObject).sum
def lObjectS (xs : List S63) : Prop := xs.length ≤ 9223372036854775807 ∧ ∀ x ∈ xs, lObject x
def bObjectS (xs : List S68) : Prop := xs.length ≤ 1048576 ∧ ∀ x ∈ xs, bObject x
theorem szObjectS_f (xs : List S63) (a : Int) (h0 : 0 ≤ a) (h1 : a ≤ 1048576) (hx : lObjectS xs) : Ev (fun k => laws_szObjectS.f k xs a) (if (sObjectS xs : Int) ≤ a then a - (sObjectS xs : Int) else -1) := by
  obtain ⟨hl, hx⟩ := hx
  unfold laws_szObjectS.f
  rw [wrap64_id (by omega) (by omega)]
  by_cases c : (xs.length : Int) ≤ a
  · refine Ev.neg (by omega) ?_
    have h := sz_gen sObject z63 xs (fun k a i => laws_szObjectS.l0 k xs a i) (fun i a r hi h0 h1 h => by
      refine Ev.succ ?_
      simp only [laws_szObjectS.l0]
      refine Ev.pos (by omega) (Ev.pos (by omega) ?_)
      have hm : lObject (rd_T63 xs i) := hx _ (by simp only [rd_T63, Int.toNat_natCast]; rw [getD_eq hi]; exact List.getElem_mem hi)
      have e : rd_T63 xs i = xs.getD i z63 := by simp [rd_T63]
      refine Ev.bind (szObject_f _ a h0 h1 hm) ?_
      rw [e]
      split at h
      · rename_i hc
        rw [if_pos hc, wrap64_nat (by omega)]
        exact Ev.neg (by omega) h
      · rename_i hc
        rw [if_neg hc]
        exact Ev.pos (by omega) (Ev.some h.symm)) (fun a => by
      refine Ev.succ ?_
      simp only [laws_szObjectS.l0]
      exact Ev.neg (by omega) (Ev.now _)) (a - xs.length) (by omega) (by omega)
    have e : (if ((xs.map sObject).sum : Int) ≤ a - xs.length then a - xs.length - (xs.map sObject).sum else -1) = (if (sObjectS xs : Int) ≤ a then a - sObjectS xs else -1) := by unfold sObjectS; split <;> split <;> omega
    rw [← e]
    exact h
  · rw [if_neg (by unfold sObjectS; omega)]
    exact Ev.pos (by omega) (Ev.now _)
theorem atObjectS {xs : List S63} {i : Nat} (h : sObjectS xs ≤ 1048576) (hi : i < xs.length) : sObject (xs.getD i z63) ≤ 1048576 := by
  have := sum_getD_le sObject z63 xs i hi
  unfold sObjectS at h
  omega
theorem toObjectS_f (l : List S63) (hl : sObjectS l ≤ 1048576) : Ev (fun k => laws_toObjectS.f k l) (l.map iObject) := by
  unfold laws_toObjectS.f
  have hl1 : l.length ≤ 1048576 := by unfold sObjectS at hl; omega
  refine Ev.pos (by omega) (Ev.pos (by omega) ?_)
  have h := to_gen iObject z68 z63 l (fun k out i => laws_toObjectS.l0 k l out i) (fun i out r hi ho h => by
    refine Ev.succ ?_
    simp only [laws_toObjectS.l0]
    have e : rd_T63 l i = l.getD i z63 := by simp [rd_T63]
    rw [e]
    refine Ev.pos (by omega) (Ev.pos (by omega) (Ev.bind (toObject_f _ (atObjectS hl hi)) (Ev.pos (by omega) ?_)))
    rw [wrap64_nat (by omega)]
    exact h) (fun out _ => by
    refine Ev.succ ?_
    simp only [laws_toObjectS.l0]
    exact Ev.neg (by omega) (Ev.now _))
  simpa using h
theorem eqObjectS_f (l : List S68) (hb : bObjectS l) : Ev (fun k => laws_eqObjectS.f k l l) true := by
  obtain ⟨hl, hb⟩ := hb
  unfold laws_eqObjectS.f
  refine Ev.pos rfl (all_gen l.length (fun k i => laws_eqObjectS.l0 k l l i) (fun i hi h => ?_) ?_)
  · refine Ev.succ ?_
    simp only [laws_eqObjectS.l0]
    rw [wrap64_nat (by omega)]
    have hm : bObject (rd_T68 l i) := hb _ (by simp only [rd_T68, Int.toNat_natCast]; rw [getD_eq hi]; exact List.getElem_mem hi)
    exact Ev.pos (by omega) (Ev.pos (by omega) (Ev.pos (by omega) (Ev.bind (eqObject_f _ hm) (Ev.pos rfl h))))
  · refine Ev.succ ?_
    simp only [laws_eqObjectS.l0]
    exact Ev.neg (by omega) (Ev.now _)
theorem bObjectS_of (xs : List S63) (h : sObjectS xs ≤ 1048576) : bObjectS (xs.map iObject) := by
  refine ⟨by rw [List.length_map]; unfold sObjectS at h; omega, fun y hy => ?_⟩
  obtain ⟨x, hx, rfl⟩ := List.mem_map.1 hy
  obtain ⟨i, hi, rfl⟩ := List.getElem_of_mem hx
  have := atObjectS h hi
  rw [getD_eq hi] at this
  exact bObject_of _ this
end Go.Proofs.Ythegbhfoleiegaa.All

/- Plain laws: a result's own cells marked, and found marked. -/
namespace Go.Proofs.Ythegbhfoleiegaa.All
open Go.RowKit Go.Proofs.YthegbhfoleiegaaW.PrintWords Go.Proofs.YthegbhfoleiegaaW.PrintLast Go.Proofs.YthegbhfoleiegaaW.PrintMore
set_option linter.unusedVariables false
set_option linter.unusedSimpArgs false
def marks (n : Nat) : List Int := (List.range n).map fun (j : Nat) => (1 : Int) + (j : Int)
theorem marks_length (n : Nat) : (marks n).length = n := by simp [marks]
theorem marks_at (n i : Nat) (h : i < n) : rd (marks n) i = 1 + i := by
  simp [rd, marks, List.getElem?_range, h]
theorem markInt64S_f (l : List Int) (hl : l.length ≤ 1000000000000) : Ev (fun k => laws_markInt64S.f k l 1) ((1 : Int) + (l.length : Nat), marks l.length) := by
  unfold laws_markInt64S.f marks
  refine mk_gen (fun (j : Nat) => (1 : Int) + (j : Int)) l (fun out => ((1 : Int) + (l.length : Nat), out)) (fun k out i => laws_markInt64S.l0 k out (1 + i) i) (fun i out r hi ho h => ?_) (fun out ho => ?_)
  · refine Ev.succ ?_
    simp only [laws_markInt64S.l0]
    refine Ev.pos (by omega) (Ev.pos (by omega) ?_)
    rw [wrap64_nat (by omega), wrap64_id (by omega) (by omega)]
    have e : (1 : Int) + ((i + 1 : Nat) : Int) = 1 + (i : Int) + 1 := by omega
    rw [e] at h
    simpa using h
  · refine Ev.succ ?_
    simp only [laws_markInt64S.l0]
    exact Ev.neg (by omega) (Ev.now _)
theorem heldInt64S_f (n : Nat) (hl : n ≤ 1000000000000) : Ev (fun k => laws_heldInt64S.f k (marks n) 1) ((1 : Int) + (n : Nat)) := by
  unfold laws_heldInt64S.f
  refine for_gen ((1 : Int) + (n : Nat)) n (fun k i => laws_heldInt64S.l0 k (marks n) (1 + i) i) (fun i hi h => ?_) ?_
  · refine Ev.succ ?_
    simp only [laws_heldInt64S.l0]
    rw [marks_at n i hi]
    refine Ev.pos (by rw [marks_length]; omega) (Ev.pos (by omega) (Ev.pos rfl ?_))
    rw [wrap64_nat (by omega), wrap64_id (by omega) (by omega)]
    have e : (1 : Int) + ((i + 1 : Nat) : Int) = 1 + (i : Int) + 1 := by omega
    rw [e] at h
    exact h
  · refine Ev.succ ?_
    simp only [laws_heldInt64S.l0]
    exact Ev.neg (by rw [marks_length]; omega) (Ev.now _)
end Go.Proofs.Ythegbhfoleiegaa.All

/- What a name stands for; what an entry needs. -/
namespace Go.Proofs.Ythegbhfoleiegaa.All
open Go.RowKit Go.Proofs.YthegbhfoleiegaaW.PrintWords Go.Proofs.YthegbhfoleiegaaW.PrintLast Go.Proofs.YthegbhfoleiegaaW.PrintMore
set_option linter.unusedVariables false
set_option linter.unusedSimpArgs false
def secHit (nm : ByteArray) (lk : Int) (s : S130) : Bool := (s.f0.toList == nm.toList) && (s.f2 == lk)
def secAt (nm : ByteArray) (lk : Int) (o : S68) : Option Nat := o.f0.findIdx? (secHit nm lk)
def objAt (l : List (S68)) (nm : ByteArray) (lk : Int) : Option (Int × Int) := (l.findIdx? fun o => (secAt nm lk o).isSome).bind fun i => (secAt nm lk (l.getD i z68)).map fun (k : Nat) => ((i : Int), (k : Int))
def locAt (l : List (S68)) (obj : Int) (nm : ByteArray) : Option (Int × Int) := if 0 ≤ obj then (secAt nm 3 (rd_T68 l obj)).map (fun (k : Nat) => (obj, (k : Int))) else none
def spotN (l : List (S68)) (obj : Int) (nm : ByteArray) : Option (Int × Int) := (locAt l obj nm).or ((objAt l nm 1).or (objAt l nm 2))
def okN (l : List (S68)) : Prop := l.length ≤ 1000000000 ∧ ∀ o ∈ l, o.f0.length ≤ 1000000000
theorem findIdx_no {α : Type} {p : α → Bool} {l : List α} {z : α} (h3 : ∀ j, j < l.length → p (l.getD j z) = false) : l.findIdx? p = none := by
  rw [List.findIdx?_eq_none_iff]
  intro x hx
  obtain ⟨j, hj, rfl⟩ := List.getElem_of_mem hx
  have := h3 j hj
  rw [List.getD_eq_getElem?_getD, List.getElem?_eq_getElem hj] at this
  exact this
theorem objAt_no {l : List (S68)} {nm : ByteArray} {lk : Int} (h3 : ∀ j, j < l.length → secAt nm lk (l.getD j z68) = none) : objAt l nm lk = none := by
  unfold objAt
  rw [findIdx_no (z := z68) (fun j hj => by rw [h3 j hj]; rfl)]
  rfl
end Go.Proofs.Ythegbhfoleiegaa.All

/- A row of one's own from which the front is cut: a queue. -/
namespace Go.Proofs.Ythegbhfoleiegaa.All
open Go.RowKit Go.Proofs.YthegbhfoleiegaaW.PrintWords Go.Proofs.YthegbhfoleiegaaW.PrintLast Go.Proofs.YthegbhfoleiegaaW.PrintMore
set_option linter.unusedVariables false
set_option linter.unusedSimpArgs false
/-- v is a slice of n elements, s cells each, that hold xs, in a block of its own at or behind base. -/
def IsQ (w : World) (base : Nat) (e : TypeId) (s : Nat) (v : Value) (n : Nat) (xs : List Value) : Prop :=
  xs.length = n * s ∧ ∃ g off cap cur, v = .slice (some ⟨g, off, none⟩) n cap ∧ base ≤ g ∧ w.heap[g]? = some (.cells cur e (0, 0)) ∧ n ≤ cap ∧ cap ≤ maxLen ∧ off + cap * s ≤ cur.size ∧ (cur.toList.drop off).take (n * s) = xs
section
variable {P : Program} {w w1 : World} {base : Nat} {e : TypeId} {s : Nat} {v : Value} {n : Nat} {xs : List Value}
theorem IsQ.of_own (h : w.ownsRow base e s v n xs) (hn : 0 < n) : IsQ w base e s v n xs := by
  obtain ⟨h1, ⟨_, h2⟩ | ⟨g, cap, cur, hv, hb, hg, hc, hm, hs, ht⟩⟩ := h
  · omega
  · exact ⟨h1, g, 0, cap, cur, hv, hb, hg, hc, hm, by omega, by simpa using ht⟩
theorem IsQ.kept {row : Option Nat} (h : IsQ w base e s v n xs) (hg : w.grownBy w1 row) (hne : v.ownBlock ≠ row) : IsQ w1 base e s v n xs := by
  obtain ⟨h1, g, off, cap, cur, rfl, hb, hgg, rest⟩ := h
  exact ⟨h1, g, off, cap, cur, rfl, hb, (blk_grown hgg hg hne), rest⟩
theorem IsQ.below (h : IsQ w base e s v n xs) (hb : Below w.heap.size w w1) : IsQ w1 base e s v n xs := by
  obtain ⟨h1, g, off, cap, cur, rfl, hbb, hgg, rest⟩ := h
  exact ⟨h1, g, off, cap, cur, rfl, hbb, blk_below hgg hb, rest⟩
theorem IsQ.alloc (h : IsQ w base e s v n xs) (o : Obj) : IsQ (w.alloc o) base e s v n xs := h.below (below_alloc (Below.refl _ _) o)
theorem IsQ.mono (h : IsQ w base e s v n xs) {b : Nat} (hb : b ≤ base) : IsQ w b e s v n xs := by
  obtain ⟨h1, g, off, cap, cur, rfl, hbb, rest⟩ := h
  exact ⟨h1, g, off, cap, cur, rfl, Nat.le_trans hb hbb, rest⟩
theorem IsQ.form (h : IsQ w base e s v n xs) : ∃ g off cap, v = .slice (some ⟨g, off, none⟩) n cap ∧ base ≤ g ∧ g < w.heap.size ∧ n ≤ cap := by
  obtain ⟨_, g, off, cap, cur, rfl, hb, hg, hc, _⟩ := h
  exact ⟨g, off, cap, rfl, hb, blk_lt hg, hc⟩
theorem IsQ.cell {g off cap : Nat} (h : IsQ w base e s (.slice (some ⟨g, off, none⟩) n cap) n xs) {j : Nat} {u : Value} (hj : xs[j]? = some u) : w.cell? ⟨g, off + j, none⟩ = some u := by
  obtain ⟨h1, g', off', cap', cur, hv, _, hg, _, _, _, ht⟩ := h
  injection hv with ha _ hc
  injection ha with ha
  injection ha with ha hb
  subst ha
  subst hb
  rw [← ht] at hj
  rw [List.getElem?_take] at hj
  split at hj
  · rw [List.getElem?_drop, Array.getElem?_toList] at hj
    exact (blk_cell hg _).trans hj
  · cases hj
theorem IsQ.frozen {g off cap : Nat} (h : IsQ w base e s (.slice (some ⟨g, off, none⟩) n cap) n xs) (i : Nat) : w.frozen? ⟨g, i, none⟩ = false := by
  obtain ⟨h1, g', off', cap', cur, hv, _, hg, _, _, _, ht⟩ := h
  injection hv with ha _ hc
  injection ha with ha
  injection ha with ha hb
  subst ha
  exact blk_frozen hg i
end
section
variable {P : Program} {ops : Array Oper} {rest : List Oper} {o : Oper} {a : Act} {Q : Exit → Act → World → Prop}
theorem IsQ.append {w0 W : World} {base s n : Nat} {v : Value} {xs : List Value} (hgd : o.guard = none) (sl x : Operand) (t e : TypeId) (z : Value) (bytes : Nat)
    (ho : o.op = .call { callee := .builtin .append, args := #[sl, x], argTypes := #[t, t] })
    (ht : P.underlying t = some (.slice e)) (hinfo : (P.info? e).map (fun i => (i.zero, i.size, i.bytes)) = some (some z, s, bytes)) (hz : z.cells.size = s) (hs0 : 0 < s) (hb0 : 0 < bytes)
    (hs : a.eval sl = v) (hx : a.eval x = .slice (some ⟨W.heap.size, 0, none⟩) 1 1) (hq : IsQ W base e s v n xs) (cs : List Value) (hcs : cs.length = s) (h1 : ∀ u ∈ cs, u.oneCell' = true)
    (HB : Below base w0 W) (hbase : base ≤ W.heap.size) (hl : (n + 1) * bytes ≤ 140737488355328)
    (h : ∀ v1 w1, IsQ w1 base e s v1 (n + 1) (xs ++ cs) → Below base w0 w1 → W.grownBy w1 v.ownBlock → (v1.ownBlock = v.ownBlock ∨ ∃ b, v1.ownBlock = some b ∧ W.heap.size ≤ b) → wpList P ops Q rest (a.put o.dst v1) w1) :
    wpList P ops Q (o :: rest) a (W.alloc (.cells cs.toArray e)) := by
  obtain ⟨i, hi, hi'⟩ := Option.map_eq_some_iff.1 hinfo
  simp only [Prod.mk.injEq] at hi'
  obtain ⟨i1, i2, i3⟩ := hi'
  have hgA : W.grownBy (W.alloc (.cells cs.toArray e)) none := grown_of_below (below_alloc (Below.refl _ _) _) none
  have hBA : Below base w0 (W.alloc (.cells cs.toArray e)) := pw_below_grown HB none hbase hgA (fun k hk => by cases hk)
  have hqA := hq.alloc (.cells cs.toArray e)
  obtain ⟨hlen, g, off, cap, cur, rfl, hb, hg, hc, hm, hsz, htk⟩ := hqA
  have hmax : n + 1 ≤ maxLen := by
    have : n + 1 ≤ (n + 1) * bytes := Nat.le_mul_of_pos_right _ hb0
    simp only [maxLen]; omega
  have hgW : g < W.heap.size := by
    obtain ⟨g', off', cap', e1, _, e3, _⟩ := hq.form
    injection e1 with e1
    injection e1 with e1
    injection e1 with e1
    omega
  refine wpList_append_arg (W.alloc (.cells cs.toArray e)) hgd sl x t ho e i z s bytes ht hi i1 i2 i3 hz hs0 g off n cap xs hs hlen (fun j u hj => ?_) ⟨W.heap.size, 0, none⟩ 1 1 cs hx (by omega) (fun j u hj => ?_) h1 (fun hr j hj => ⟨?_, blk_frozen hg _⟩) hmax hl (fun hr => ?_) (fun hr v' w' ho' hg' => ?_)
  · rw [← htk, List.getElem?_take] at hj
    split at hj
    · rw [List.getElem?_drop, Array.getElem?_toList] at hj
      exact (blk_cell hg _).trans hj
    · cases hj
  · rw [Addr.add_lit]
    have hj' : cs.toArray[0 + j]? = some u := by rw [Nat.zero_add, List.getElem?_toArray]; exact hj
    exact (blk_cell (blk_new W (.cells cs.toArray e)) _).trans hj'
  · have hk : off + n * s + j < cur.size := by
      have := Nat.mul_le_mul_right s hr
      rw [Nat.add_mul, Nat.one_mul] at this
      omega
    rw [blk_cell hg, Array.getElem?_eq_getElem hk]
    rfl
  · have hfit : off + n * s + cs.length ≤ cur.size := by
      have := Nat.mul_le_mul_right s hr
      rw [Nat.add_mul, Nat.one_mul] at this
      omega
    obtain ⟨cur', k1, k2, k3⟩ := setCells_row cs (off + n * s) (W.alloc (.cells cs.toArray e)) cur hg hfit
    have hS := setCells_same g cs (off + n * s) (W.alloc (.cells cs.toArray e))
    have hgS : W.grownBy ((W.alloc (.cells cs.toArray e)).setCells g (off + n * s) cs) (some g) := ⟨hS.1, hS.2.1, hS.2.2.1, by rw [hS.2.2.2]; simp, fun k hk hne => by
      rw [setCells_far cs _ k (fun e => hne (by rw [e]))]
      exact Below.heap_alloc W _ k hk⟩
    refine h _ _ ⟨by rw [List.length_append, Nat.add_mul]; omega, g, off, cap, cur', rfl, hb, k1, hr, hm, by omega, ?_⟩ (pw_below_grown HB (some g) hbase hgS (fun k hk => by injection hk with hk; omega)) hgS (.inl rfl)
    have hd : cur'.toList.drop off = xs ++ (cs ++ cur.toList.drop (off + n * s + cs.length)) := by
      have hl1 : off ≤ (cur.toList.take (off + n * s)).length := by rw [List.length_take, Array.length_toList]; omega
      rw [k3, List.append_assoc, List.drop_append_of_le_length hl1, ← htk]
      congr 1
      rw [List.drop_take]
      congr 1
      omega
    rw [hd, ← List.append_assoc]
    have hl2 : (xs ++ cs).length = (n + 1) * s := by rw [List.length_append, Nat.add_mul]; omega
    rw [← hl2]
    exact List.take_left
  · have hq' := (IsQ.of_own ho' (by omega)).mono (b := base) (by have := hgA.size; omega)
    have hg2 : W.grownBy w' none := ⟨hg'.os.trans hgA.os, hg'.tape.trans hgA.tape, hg'.output.trans hgA.output, Nat.le_trans hgA.size hg'.size, fun k hk hne => (hg'.block k (Nat.lt_of_lt_of_le hk hgA.size) hne).trans (hgA.block k hk hne)⟩
    obtain ⟨_, g2, off2, cap2, cur2, rfl, hb2, _⟩ := IsQ.of_own ho' (by omega)
    refine h _ _ hq' (pw_below_grown HB none hbase hg2 (fun k hk => by cases hk)) ⟨hg2.os, hg2.tape, hg2.output, hg2.size, fun k hk _ => hg2.block k hk (by simp)⟩ (.inr ⟨g2, rfl, ?_⟩)
    have := hgA.size
    omega
end
section
variable {P : Program} {ops : Array Oper} {rest : List Oper} {o : Oper} {a : Act} {Q : Exit → Act → World → Prop}
end
end Go.Proofs.Ythegbhfoleiegaa.All

/- Maps of bools that a call makes, with keys of any kind: as sets of values. -/
namespace Go.Proofs.Ythegbhfoleiegaa.All
open Go.RowKit Go.Proofs.YthegbhfoleiegaaW.PrintWords Go.Proofs.YthegbhfoleiegaaW.PrintLast Go.Proofs.YthegbhfoleiegaaW.PrintMore
set_option linter.unusedVariables false
set_option linter.unusedSimpArgs false
open Go.Maps (Keyed)
/-- Block b is a map of at most n entries from type k to bool (type e); S is what is told of a key. -/
def IsSetV (P : Program) (k e : TypeId) (w : World) (b n : Nat) (S : Value → Bool) : Prop :=
  ∃ D : DataW Unit, w.ownsMap P k (plainElem P e) b n D ∧ ∀ x l, keyOf P k x = some l → D.atKey l (.lit (.bool false)) = .lit (.bool (S x))
section
variable {P : Program} {k e : TypeId} {w w1 : World} {b n : Nat} {S : Value → Bool}
theorem IsSetV.made (w : World) (P : Program) (k e : TypeId) : IsSetV P k e (w.alloc (.map #[] 0)) w.heap.size 0 (fun _ => false) :=
  ⟨.map [], World.ownsMap_made w P k _, fun x l _ => by simp [DataW.atKey]⟩
theorem IsSetV.kept {row : Option Nat} (h : IsSetV P k e w b n S) (hg : w.grownBy w1 row) (hne : some b ≠ row) : IsSetV P k e w1 b n S := by
  obtain ⟨D, h1, h2⟩ := h
  exact ⟨D, h1.kept hg hne, h2⟩
theorem IsSetV.below (h : IsSetV P k e w b n S) (hb : Below w.heap.size w w1) : IsSetV P k e w1 b n S := h.kept (grown_of_below hb none) (by simp)
theorem IsSetV.alloc (h : IsSetV P k e w b n S) (o : Obj) : IsSetV P k e (w.alloc o) b n S := h.below (below_alloc (Below.refl _ _) o)
theorem IsSetV.drewN (h : IsSetV P k e w b n S) (m : Nat) : IsSetV P k e (w.drewN m) b n S := h
theorem IsSetV.drew (h : IsSetV P k e w b n S) : IsSetV P k e w.drew b n S := h
theorem IsSetV.lt (h : IsSetV P k e w b n S) : b < w.heap.size := by obtain ⟨D, h1, _⟩ := h; exact h1.lt
theorem IsSetV.mono (h : IsSetV P k e w b n S) {n' : Nat} (hn : n ≤ n') : IsSetV P k e w b n' S := by obtain ⟨D, h1, h2⟩ := h; exact ⟨D, h1.mono hn, h2⟩
theorem IsSetV.congr {S' : Value → Bool} (h : IsSetV P k e w b n S) (he : ∀ x l, keyOf P k x = some l → S' x = S x) : IsSetV P k e w b n S' := by obtain ⟨D, h1, h2⟩ := h; exact ⟨D, h1, fun x l hx => by rw [he x l hx]; exact h2 x l hx⟩
theorem IsSetV.look {t : TypeId} (h : IsSetV P k e w b n S) (K : Keyed P k) (ht : P.underlying t = some (.map k e)) (he : P.underlying e = some .bool) (hz : (zeroValue e).run P w = .ok (.bool false) w) {x : Value} {l : Lit} (hx : keyOf P k x = some l) :
    (Instr.lookup t (.map (some b)) x false).run P w = .ok (.bool (S x)) w := by
  obtain ⟨D, h1, h2⟩ := h
  obtain ⟨v, ps, hrun, hv⟩ := h1.lookup K ht hz (plainElem_bool he false) hx
  obtain ⟨c, rfl, hc⟩ := plainElem_bool_inv he hv
  simp only [Prod.mk.injEq] at hc
  have := h2 x l hx
  rw [hc.1] at this
  injection this with this
  injection this with this
  rw [this] at hrun
  exact hrun
open Classical in
theorem IsSetV.put {t : TypeId} (h : IsSetV P k e w b n S) (K : Keyed P k) (ht : P.underlying t = some (.map k e)) (he : P.underlying e = some .bool) (hn : n < maxLen) {x : Value} {l : Lit} (hx : keyOf P k x = some l) (v : Bool) :
    ∃ w', (Instr.mapUpdate t (.map (some b)) x (.bool v)).run P w = .ok () w' ∧ IsSetV P k e w' b (n + 1) (fun y => if y = x then v else S y) ∧ w.grownBy w' (some b) := by
  obtain ⟨D, h1, h2⟩ := h
  have hm := h1.isMap
  obtain ⟨w', hrun, h3, hg⟩ := h1.update K ht hn hx (plainElem_bool he v)
  refine ⟨w', hrun, ⟨_, h3, fun y l' hy => ?_⟩, hg⟩
  by_cases hxy : y = x
  · subst hxy
    rw [hx] at hy
    obtain rfl := Option.some.inj hy
    rw [Maps.atKey_put_same hm (K.key hx)]
    simp
  · rw [Maps.atKey_put_other (by rintro rfl; exact hxy (K.inj hy hx)), h2 y l' hy]
    simp [hxy]
end
section
variable {P : Program} {ops : Array Oper} {rest : List Oper} {o : Oper} {a : Act} {Q : Exit → Act → World → Prop} {w : World}
end
section
variable {P : Program} {ops : Array Oper} {rest : List Oper} {o : Oper} {a : Act} {Q : Exit → Act → World → Prop} {w : World}
end
end Go.Proofs.Ythegbhfoleiegaa.All

/- What an entry needs: the work list, as a function. -/
namespace Go.Proofs.Ythegbhfoleiegaa.All
open Go.RowKit Go.Proofs.YthegbhfoleiegaaW.PrintWords Go.Proofs.YthegbhfoleiegaaW.PrintLast Go.Proofs.YthegbhfoleiegaaW.PrintMore
set_option linter.unusedVariables false
set_option linter.unusedSimpArgs false
open Go.Maps (Keyed)
def okR (l : List (S68)) : Prop := okN l ∧ ∀ o ∈ l, ∀ s ∈ o.f0, s.f7.length ≤ 1000000000
instance (l : List (S68)) : Decidable (okR l) := by unfold okR okN; infer_instance
theorem getD_mem_ {α : Type} {l : List α} {i : Nat} {z : α} (h : i < l.length) : l.getD i z ∈ l := by
  rw [List.getD_eq_getElem?_getD, List.getElem?_eq_getElem h]
  exact List.getElem_mem _
end Go.Proofs.Ythegbhfoleiegaa.All

/- Plain laws: spec.l20Of answers as spotN does. -/
namespace Go.Proofs.Ythegbhfoleiegaa.All
open Go.RowKit Go.Proofs.YthegbhfoleiegaaW.PrintWords Go.Proofs.YthegbhfoleiegaaW.PrintLast Go.Proofs.YthegbhfoleiegaaW.PrintMore
set_option linter.unusedVariables false
set_option linter.unusedSimpArgs false
theorem idx_some {α : Type} {p : α → Bool} {l : List α} {z : α} {k : Nat} (h : l.findIdx? p = some k) : k < l.length ∧ p (l.getD k z) = true ∧ ∀ j, j < k → p (l.getD j z) = false := by
  rw [List.findIdx?_eq_some_iff_getElem] at h
  obtain ⟨h1, h2, h3⟩ := h
  refine ⟨h1, ?_, fun j hj => ?_⟩
  · rw [List.getD_eq_getElem?_getD, List.getElem?_eq_getElem h1]; exact h2
  · have := h3 j hj
    rw [List.getD_eq_getElem?_getD, List.getElem?_eq_getElem (by omega)]
    simpa using this
theorem idx_none {α : Type} {p : α → Bool} {l : List α} {z : α} (h : l.findIdx? p = none) : ∀ j, j < l.length → p (l.getD j z) = false := by
  rw [List.findIdx?_eq_none_iff] at h
  intro j hj
  rw [List.getD_eq_getElem?_getD, List.getElem?_eq_getElem hj]
  exact h _ (List.getElem_mem _)
theorem secHit_t {nm : ByteArray} {lk : Int} {s : S130} (h : secHit nm lk s = true) : s.f0.toList = nm.toList ∧ s.f2 = lk := by
  unfold secHit at h
  rw [Bool.and_eq_true, beq_iff_eq, beq_iff_eq] at h
  exact h
theorem secHit_n {nm : ByteArray} {lk : Int} {s : S130} (h : secHit nm lk s = false) (h1 : s.f0.toList = nm.toList) : s.f2 ≠ lk := by
  intro h2
  unfold secHit at h
  rw [h1, h2] at h
  simp at h
theorem rdO (l : List (S68)) (i : Nat) : rd_T68 l (i : Int) = l.getD i z68 := by simp [rd_T68]
theorem rdS (l : List (S130)) (i : Nat) : rd_T130 l (i : Int) = l.getD i z130 := by simp [rd_T130]
section
variable {l : List (S68)} {nm : ByteArray}
theorem l3_step {lk : Int} {i : Nat} (hi : i < l.length) {a b : Int} {k : Nat} (hk : k < (l.getD i z68).f0.length) (hk9 : k < 9223372036854775807) (hn : secHit nm lk ((l.getD i z68).f0.getD k z130) = false) {r : Int × Int}
    (h : Ev (fun K => spec_l20Of.l3 K l nm lk i ((k + 1 : Nat) : Int) a b) r) : Ev (fun K => spec_l20Of.l3 K l nm lk i (k : Int) a b) r := by
  refine Ev.succ ?_
  simp only [spec_l20Of.l3]
  rw [rdO, rdS, wrap64_nat hk9]
  refine Ev.pos (by omega) (Ev.pos (by omega) (Ev.pos (by omega) (Ev.pos (by omega) ?_)))
  by_cases h1 : ((l.getD i z68).f0.getD k z130).f0.toList = nm.toList
  · exact Ev.pos h1 (Ev.neg (secHit_n hn h1) h)
  · exact Ev.neg h1 h
theorem l3_hit {lk : Int} {i : Nat} (hi : i < l.length) (h9 : (l.getD i z68).f0.length ≤ 1000000000) {a b : Int} {k : Nat} (h : secAt nm lk (l.getD i z68) = some k) :
    Ev (fun K => spec_l20Of.l3 K l nm lk i 0 a b) ((i : Int), (k : Int)) := by
  obtain ⟨h1, h2, h3⟩ := idx_some (z := z130) h
  refine for_gen ((i : Int), (k : Int)) k (fun K x => spec_l20Of.l3 K l nm lk i x a b) (fun j hj hs => l3_step hi (by omega) (by omega) (h3 j hj) hs) ?_
  refine Ev.succ ?_
  simp only [spec_l20Of.l3]
  rw [rdO, rdS]
  obtain ⟨e1, e2⟩ := secHit_t h2
  exact Ev.pos (by omega) (Ev.pos (by omega) (Ev.pos (by omega) (Ev.pos (by omega) (Ev.pos e1 (Ev.pos e2 (Ev.now _))))))
theorem l3_no {lk : Int} {i : Nat} (hi : i < l.length) (hl : l.length ≤ 1000000000) (h9 : (l.getD i z68).f0.length ≤ 1000000000) {a b : Int} {r : Int × Int} (h : secAt nm lk (l.getD i z68) = none)
    (hK : Ev (fun K => spec_l20Of.l2 K l nm lk ((i + 1 : Nat) : Int) a b) r) : Ev (fun K => spec_l20Of.l3 K l nm lk i 0 a b) r := by
  have h3 := idx_none (z := z130) h
  refine for_gen r (l.getD i z68).f0.length (fun K x => spec_l20Of.l3 K l nm lk i x a b) (fun j hj hs => l3_step hi hj (by omega) (h3 j hj) hs) ?_
  refine Ev.succ ?_
  simp only [spec_l20Of.l3]
  rw [rdO, wrap64_nat (i := i) (by omega)]
  exact Ev.pos (by omega) (Ev.pos (by omega) (Ev.neg (by omega) hK))
theorem okN_get (h : okN l) {i : Nat} (hi : i < l.length) : (l.getD i z68).f0.length ≤ 1000000000 := h.2 _ (getD_mem_ hi)
theorem l2_step {lk : Int} (ho : okN l) {i : Nat} (hi : i < l.length) {a b : Int} {r : Int × Int} (h : secAt nm lk (l.getD i z68) = none) (hK : Ev (fun K => spec_l20Of.l2 K l nm lk ((i + 1 : Nat) : Int) a b) r) :
    Ev (fun K => spec_l20Of.l2 K l nm lk (i : Int) a b) r := by
  refine Ev.succ ?_
  simp only [spec_l20Of.l2]
  exact Ev.pos (by omega) (l3_no hi ho.1 (okN_get ho hi) h hK)
theorem l2_hit {lk : Int} (ho : okN l) {a b : Int} {q : Int × Int} (h : objAt l nm lk = some q) : Ev (fun K => spec_l20Of.l2 K l nm lk 0 a b) q := by
  unfold objAt at h
  obtain ⟨i, hi, h⟩ := Option.bind_eq_some_iff.1 h
  obtain ⟨k, hk, rfl⟩ := Option.map_eq_some_iff.1 h
  obtain ⟨h1, _, h3⟩ := idx_some (z := z68) hi
  refine for_gen ((i : Int), (k : Int)) i (fun K x => spec_l20Of.l2 K l nm lk x a b) (fun j hj hs => l2_step ho (by omega) (by have := h3 j hj; simpa using this) hs) ?_
  refine Ev.succ ?_
  simp only [spec_l20Of.l2]
  exact Ev.pos (by omega) (l3_hit h1 (okN_get ho h1) hk)
theorem objAt_none {lk : Int} (h : objAt l nm lk = none) : ∀ j, j < l.length → secAt nm lk (l.getD j z68) = none := by
  unfold objAt at h
  rcases hf : (l.findIdx? fun o => (secAt nm lk o).isSome) with _ | i
  · intro j hj
    have := idx_none (z := z68) hf j hj
    simpa using this
  · rw [hf, Option.bind_some, Option.map_eq_none_iff] at h
    obtain ⟨_, h2, _⟩ := idx_some (z := z68) hf
    rw [h] at h2
    cases h2
theorem l2_no {lk : Int} (ho : okN l) {a b : Int} {r : Int × Int} (h : objAt l nm lk = none) (hlk : lk ≤ 2) (hlk0 : 0 ≤ lk) (hK : Ev (fun K => spec_l20Of.l1 K l nm (lk + 1) a b) r) : Ev (fun K => spec_l20Of.l2 K l nm lk 0 a b) r := by
  have h3 := objAt_none h
  refine for_gen r l.length (fun K x => spec_l20Of.l2 K l nm lk x a b) (fun j hj hs => l2_step ho hj (h3 j hj) hs) ?_
  refine Ev.succ ?_
  simp only [spec_l20Of.l2]
  rw [wrap64_id (by omega) (by omega)]
  exact Ev.neg (by omega) hK
theorem j1_f (ho : okN l) : Ev (fun K => spec_l20Of.j1 K l nm (-1) (-1)) (((objAt l nm 1).or (objAt l nm 2)).getD (-1, -1)) := by
  refine Ev.succ ?_
  simp only [spec_l20Of.j1]
  refine Ev.succ ?_
  simp only [spec_l20Of.l1]
  refine Ev.pos (by omega) ?_
  rcases h1 : objAt l nm 1 with _ | q
  · refine l2_no ho h1 (by omega) (by omega) ?_
    refine Ev.succ ?_
    simp only [spec_l20Of.l1]
    refine Ev.pos (by omega) ?_
    rcases h2 : objAt l nm 2 with _ | q
    · refine l2_no ho h2 (by omega) (by omega) ?_
      refine Ev.succ ?_
      simp only [spec_l20Of.l1]
      exact Ev.neg (by omega) (Ev.now _)
    · exact l2_hit ho h2
  · exact l2_hit ho h1
/-- What spec.l20Of answers. -/
theorem l20Of_f (ho : okN l) {obj : Int} (h1 : obj < (l.length : Int)) : Ev (fun K => spec_l20Of.f K l obj nm) ((spotN l obj nm).getD (-1, -1)) := by
  unfold spec_l20Of.f spotN
  by_cases h0 : 0 ≤ obj
  · refine Ev.pos h0 ?_
    obtain ⟨i, rfl⟩ : ∃ i : Nat, obj = (i : Int) := ⟨obj.toNat, by omega⟩
    have hi : i < l.length := by omega
    have h9 := okN_get ho hi
    have step : ∀ (r : Int × Int) (k : Nat), k < (l.getD i z68).f0.length → secHit nm 3 ((l.getD i z68).f0.getD k z130) = false → Ev (fun K => spec_l20Of.l0 K l (i : Int) nm ((k + 1 : Nat) : Int) (-1) (-1)) r → Ev (fun K => spec_l20Of.l0 K l (i : Int) nm (k : Int) (-1) (-1)) r := by
      intro r k hk hn h
      refine Ev.succ ?_
      simp only [spec_l20Of.l0]
      rw [rdO, rdS, wrap64_nat (by omega)]
      refine Ev.pos (by omega) (Ev.pos (by omega) (Ev.pos (by omega) (Ev.pos (by omega) ?_)))
      by_cases e1 : ((l.getD i z68).f0.getD k z130).f0.toList = nm.toList
      · exact Ev.pos e1 (Ev.neg (secHit_n hn e1) h)
      · exact Ev.neg e1 h
    unfold locAt
    rw [if_pos h0, rdO]
    rcases hs : secAt nm 3 (l.getD i z68) with _ | k
    · have h3 := idx_none (z := z130) hs
      refine for_gen _ (l.getD i z68).f0.length (fun K x => spec_l20Of.l0 K l (i : Int) nm x (-1) (-1)) (fun j hj h => step _ j hj (h3 j hj) h) ?_
      refine Ev.succ ?_
      simp only [spec_l20Of.l0]
      rw [rdO]
      exact Ev.pos (by omega) (Ev.pos (by omega) (Ev.neg (by omega) (j1_f ho)))
    · obtain ⟨k1, k2, k3⟩ := idx_some (z := z130) hs
      refine for_gen _ k (fun K x => spec_l20Of.l0 K l (i : Int) nm x (-1) (-1)) (fun j hj h => step _ j (by omega) (k3 j hj) h) ?_
      refine Ev.succ ?_
      simp only [spec_l20Of.l0]
      rw [rdO, rdS]
      obtain ⟨e1, e2⟩ := secHit_t k2
      exact Ev.pos (by omega) (Ev.pos (by omega) (Ev.pos (by omega) (Ev.pos (by omega) (Ev.pos e1 (Ev.pos e2 (Ev.now _))))))
  · refine Ev.neg h0 ?_
    unfold locAt
    rw [if_neg h0]
    exact j1_f ho
end
end Go.Proofs.Ythegbhfoleiegaa.All

/- Plain laws: both programs' Gather take the same objects. -/
namespace Go.Proofs.Ythegbhfoleiegaa.All
open Go.RowKit Go.Proofs.YthegbhfoleiegaaW.PrintWords Go.Proofs.YthegbhfoleiegaaW.PrintLast Go.Proofs.YthegbhfoleiegaaW.PrintMore
set_option linter.unusedVariables false
set_option linter.unusedSimpArgs false
theorem get_data (b : ByteArray) (i : Nat) (h : i < b.data.toList.length) : b.get! i = b.data.toList[i] := by
  rcases b with ⟨bs⟩
  show bs[i]! = _
  rw [getElem!_pos bs i (by simpa using h)]
  simp
theorem toList_loop (b : ByteArray) : ∀ (d i : Nat) (r : List UInt8), i + d = b.size → ByteArray.toList.loop b i r = r.reverse ++ b.data.toList.drop i
  | 0, i, r, h => by
    rw [ByteArray.toList.loop, if_neg (by omega), List.drop_eq_nil_of_le (by rw [Array.length_toList]; show b.size ≤ i; omega), List.append_nil]
  | d + 1, i, r, h => by
    have hi : i < b.data.toList.length := by rw [Array.length_toList]; show i < b.size; omega
    rw [ByteArray.toList.loop, if_pos (by omega), toList_loop b d (i + 1) _ (by omega), List.drop_eq_getElem_cons hi, List.reverse_cons, List.append_assoc, get_data b i hi]
    rfl
theorem toList_data (b : ByteArray) : b.toList = b.data.toList := by
  unfold ByteArray.toList
  rw [toList_loop b b.size 0 [] (by omega)]
  simp
theorem str_iff (a b : ByteArray) : a.toList = b.toList ↔ a = b := by
  constructor
  · intro h
    rw [toList_data, toList_data] at h
    exact ByteArray.ext (Array.toList_inj.1 h)
  · rintro rfl; rfl
theorem any_loop {α : Type} (xs : List α) (p : α → Bool) (g : Nat → Int → Option Bool)
    (hhit : ∀ (i : Nat) (h : i < xs.length), p xs[i] = true → Ev (fun k => g k (i : Int)) true)
    (hmiss : ∀ (i : Nat) (h : i < xs.length) (r : Bool), p xs[i] = false → Ev (fun k => g k ((i + 1 : Nat) : Int)) r → Ev (fun k => g k (i : Int)) r)
    (hend : Ev (fun k => g k (xs.length : Int)) false) : Ev (fun k => g k 0) (xs.any p) := by
  have key : ∀ d i : Nat, i + d = xs.length → Ev (fun k => g k (i : Int)) ((xs.drop i).any p) := by
    intro d
    induction d with
    | zero =>
      intro i hi
      obtain rfl : i = xs.length := by omega
      rw [List.drop_length]
      exact hend
    | succ d ih =>
      intro i hi
      have h : i < xs.length := by omega
      rw [List.drop_eq_getElem_cons h, List.any_cons]
      cases hp : p xs[i] with
      | true => exact hhit i h hp
      | false =>
        rw [Bool.false_or]
        exact hmiss i h _ hp (ih (i + 1) (by omega))
  have h0 := key xs.length 0 (by omega)
  simpa using h0
theorem rdSec (l : List GSec) (i : Nat) (h : i < l.length) : rd_T130 l (i : Int) = l[i] := by
  unfold rd_T130
  rw [Int.toNat_natCast, List.getD_eq_getElem?_getD, List.getElem?_eq_getElem h]
  rfl
theorem rdRel (l : List GRel) (i : Nat) (h : i < l.length) : rd_T132 l (i : Int) = l[i] := by
  unfold rd_T132
  rw [Int.toNat_natCast, List.getD_eq_getElem?_getD, List.getElem?_eq_getElem h]
  rfl
theorem rdObj (l : List GO) (i : Nat) (h : i < l.length) : rd_T68 l (i : Int) = l[i] := by
  unfold rd_T68
  rw [Int.toNat_natCast, List.getD_eq_getElem?_getD, List.getElem?_eq_getElem h]
  rfl
theorem implLocal_f (o : GO) (n : ByteArray) (h9 : o.f0.length ≤ 1000000000) : Ev (fun k => impl_localIn.f k o.f0 n) (localB o n) := by
  unfold impl_localIn.f localB
  refine any_loop o.f0 _ (fun k i => impl_localIn.l0 k n o.f0 (o.f0.length : Int) i) (fun i h hp => ?_) (fun i h r hp hK => ?_) ?_
  · simp only [Bool.and_eq_true, decide_eq_true_eq] at hp
    refine Ev.succ ?_
    simp only [impl_localIn.l0]
    rw [rdSec _ i h]
    exact Ev.pos (by omega) (Ev.pos (by omega) (Ev.pos (by omega) (Ev.pos ((str_iff _ _).2 hp.1) (Ev.pos hp.2 (Ev.now _)))))
  · refine Ev.succ ?_
    simp only [impl_localIn.l0]
    rw [rdSec _ i h, wrap64_nat (by omega)]
    refine Ev.pos (by omega) (Ev.pos (by omega) (Ev.pos (by omega) ?_))
    by_cases h1 : (o.f0[i]).f0 = n
    · have h2 : (o.f0[i]).f2 ≠ 3 := fun e => by simp [h1, e] at hp
      exact Ev.pos ((str_iff _ _).2 h1) (Ev.neg h2 hK)
    · exact Ev.neg (fun e => h1 ((str_iff _ _).1 e)) hK
  · refine Ev.succ ?_
    simp only [impl_localIn.l0]
    exact Ev.neg (by omega) (Ev.now _)
theorem specLocal_f (o : GO) (n : ByteArray) (h9 : o.f0.length ≤ 1000000000) : Ev (fun k => spec_l20Local.f k o.f0 n) (localB o n) := by
  unfold spec_l20Local.f localB
  refine any_loop o.f0 _ (fun k i => spec_l20Local.l0 k n i o.f0) (fun i h hp => ?_) (fun i h r hp hK => ?_) ?_
  · simp only [Bool.and_eq_true, decide_eq_true_eq] at hp
    refine Ev.succ ?_
    simp only [spec_l20Local.l0]
    rw [rdSec _ i h]
    exact Ev.pos (by omega) (Ev.pos (by omega) (Ev.pos ((str_iff _ _).2 hp.1) (Ev.pos hp.2 (Ev.now _))))
  · refine Ev.succ ?_
    simp only [spec_l20Local.l0]
    rw [rdSec _ i h, wrap64_nat (by omega)]
    refine Ev.pos (by omega) (Ev.pos (by omega) ?_)
    by_cases h1 : (o.f0[i]).f0 = n
    · have h2 : (o.f0[i]).f2 ≠ 3 := fun e => by simp [h1, e] at hp
      exact Ev.pos ((str_iff _ _).2 h1) (Ev.neg h2 hK)
    · exact Ev.neg (fun e => h1 ((str_iff _ _).1 e)) hK
  · refine Ev.succ ?_
    simp only [spec_l20Local.l0]
    exact Ev.neg (by omega) (Ev.now _)
theorem implGives_f (o : GO) (n : ByteArray) (h9 : o.f0.length ≤ 1000000000) : Ev (fun k => impl_gives.f k o.f0 n) (givesB o n) := by
  unfold impl_gives.f givesB
  refine any_loop o.f0 _ (fun k i => impl_gives.l0 k n o.f0 (o.f0.length : Int) i) (fun i h hp => ?_) (fun i h r hp hK => ?_) ?_
  · simp only [Bool.and_eq_true, Bool.or_eq_true, decide_eq_true_eq] at hp
    refine Ev.succ ?_
    simp only [impl_gives.l0]
    rw [rdSec _ i h]
    refine Ev.pos (by omega) (Ev.pos (by omega) (Ev.pos (by omega) (Ev.pos ((str_iff _ _).2 hp.1) ?_)))
    rcases hp.2 with h1 | h2
    · exact Ev.pos h1 (Ev.now _)
    · exact Ev.neg (by omega) (Ev.pos h2 (Ev.now _))
  · refine Ev.succ ?_
    simp only [impl_gives.l0]
    rw [rdSec _ i h, wrap64_nat (by omega)]
    refine Ev.pos (by omega) (Ev.pos (by omega) (Ev.pos (by omega) ?_))
    by_cases h1 : (o.f0[i]).f0 = n
    · have h2 : (o.f0[i]).f2 ≠ 1 := fun e => by simp [h1, e] at hp
      have h3 : (o.f0[i]).f2 ≠ 2 := fun e => by simp [h1, e] at hp
      exact Ev.pos ((str_iff _ _).2 h1) (Ev.neg h2 (Ev.neg h3 hK))
    · exact Ev.neg (fun e => h1 ((str_iff _ _).1 e)) hK
  · refine Ev.succ ?_
    simp only [impl_gives.l0]
    exact Ev.neg (by omega) (Ev.now _)
/-! what is given -/
theorem secAt_none_iff (nm : ByteArray) (lk : Int) (o : GO) : secAt nm lk o = none ↔ ∀ s ∈ o.f0, ¬ (s.f0 = nm ∧ s.f2 = lk) := by
  unfold secAt
  rw [List.findIdx?_eq_none_iff]
  constructor
  · intro h s hs hn
    have := h s hs
    unfold secHit at this
    rw [hn.1, hn.2] at this
    simp at this
  · intro h s hs
    have := h s hs
    cases hc : secHit nm lk s with
    | false => rfl
    | true =>
      obtain ⟨h1, h2⟩ := secHit_t hc
      exact absurd ⟨(str_iff _ _).1 h1, h2⟩ this
theorem objAt_none_iff (l : List GO) (nm : ByteArray) (lk : Int) : objAt l nm lk = none ↔ ∀ o ∈ l, secAt nm lk o = none := by
  constructor
  · intro h o ho
    obtain ⟨j, hj, rfl⟩ := List.getElem_of_mem ho
    have := objAt_none h j hj
    rwa [List.getD_eq_getElem?_getD, List.getElem?_eq_getElem hj, Option.getD_some] at this
  · intro h
    refine objAt_no (fun j hj => ?_)
    rw [List.getD_eq_getElem?_getD, List.getElem?_eq_getElem hj, Option.getD_some]
    exact h _ (List.getElem_mem _)
theorem gives_no (o : GO) (n : ByteArray) : givesB o n = false ↔ secAt n 1 o = none ∧ secAt n 2 o = none := by
  rw [secAt_none_iff, secAt_none_iff]
  unfold givesB
  rw [List.any_eq_false]
  constructor
  · intro h
    refine ⟨fun s hs hn => ?_, fun s hs hn => ?_⟩
    · have := h s hs; rw [hn.1, hn.2] at this; simp at this
    · have := h s hs; rw [hn.1, hn.2] at this; simp at this
  · rintro ⟨h1, h2⟩ s hs hc
    simp only [Bool.and_eq_true, Bool.or_eq_true, decide_eq_true_eq] at hc
    rcases hc.2 with h3 | h3
    · exact h1 s hs ⟨hc.1, h3⟩
    · exact h2 s hs ⟨hc.1, h3⟩
theorem spotN_neg (l : List GO) (n : ByteArray) : spotN l (-1) n = (objAt l n 1).or (objAt l n 2) := by
  unfold spotN locAt
  rw [if_neg (by omega)]
  rfl
theorem objAt_ge {l : List GO} {n : ByteArray} {lk : Int} {q : Int × Int} (h : objAt l n lk = some q) : 0 ≤ q.1 := by
  unfold objAt at h
  obtain ⟨i, _, h⟩ := Option.bind_eq_some_iff.1 h
  obtain ⟨k, _, rfl⟩ := Option.map_eq_some_iff.1 h
  show (0 : Int) ≤ (i : Int)
  omega
theorem spot_lt (l : List GO) (n : ByteArray) : ((spotN l (-1) n).getD (-1, -1)).1 < 0 ↔ ∀ o ∈ l, givesB o n = false := by
  rw [spotN_neg]
  constructor
  · intro h
    cases h1 : objAt l n 1 with
    | some q => rw [h1] at h; have := objAt_ge h1; have h2 : q.1 < 0 := h; omega
    | none =>
      cases h2 : objAt l n 2 with
      | some q => rw [h1, h2] at h; have := objAt_ge h2; have h3 : q.1 < 0 := h; omega
      | none => exact fun o ho => (gives_no o n).2 ⟨(objAt_none_iff l n 1).1 h1 o ho, (objAt_none_iff l n 2).1 h2 o ho⟩
  · intro h
    have h1 := (objAt_none_iff l n 1).2 (fun o ho => ((gives_no o n).1 (h o ho)).1)
    have h2 := (objAt_none_iff l n 2).2 (fun o ho => ((gives_no o n).1 (h o ho)).2)
    rw [h1, h2]
    show (-1 : Int) < 0
    omega
theorem specOf_f (l : List GO) (n : ByteArray) (ho : okN l) : Ev (fun k => spec_l20Of.f k l (-1) n) ((spotN l (-1) n).getD (-1, -1)) := l20Of_f ho (by omega)
theorem specDefines_f (o : GO) (n : ByteArray) (h9 : o.f0.length ≤ 1000000000) : Ev (fun k => spec_l20Defines.f k o.f0 n) (givesB o n) := by
  have h1 := specOf_f [o] n ⟨by simp, fun x hx => by rw [List.mem_singleton.1 hx]; exact h9⟩
  have h2 := spot_lt [o] n
  unfold spec_l20Defines.f
  refine Ev.bind h1 ?_
  have e : decide (((spotN [o] (-1) n).getD (-1, -1)).1 ≥ 0) = givesB o n := by
    cases hg : givesB o n with
    | false => exact decide_eq_false (fun h => by have := h2.2 (fun x hx => by rw [List.mem_singleton.1 hx]; exact hg); omega)
    | true => exact decide_eq_true (Classical.byContradiction fun h => by
        have := h2.1 (by omega) o (by simp)
        rw [hg] at this
        cases this)
  rw [e]
  exact Ev.now _
/-! what is named -/
def namedP (os : List GO) (n : ByteArray) : Prop := ∃ o ∈ os, ∃ s ∈ o.f0, (s.f2 = 0 ∧ s.f0 = n) ∨ ∃ r ∈ s.f7, r.f2 = n ∧ localB o n = false
theorem relS_mem (o : GO) : ∀ (rs : List GRel) (ks : List ByteArray) (n : ByteArray), n ∈ rs.foldl (relS o) ks ↔ n ∈ ks ∨ ∃ r ∈ rs, r.f2 = n ∧ localB o n = false
  | [], ks, n => by simp
  | r :: rs, ks, n => by
    rw [List.foldl_cons, relS_mem o rs]
    unfold relS
    split
    · rename_i h
      constructor
      · rintro (h1 | ⟨q, h1, h2⟩)
        · exact .inl h1
        · exact .inr ⟨q, by simp [h1], h2⟩
      · rintro (h1 | ⟨q, h1, h2, h3⟩)
        · exact .inl h1
        · rcases List.mem_cons.1 h1 with rfl | h1
          · rw [h2, h3] at h; cases h
          · exact .inr ⟨q, h1, h2, h3⟩
    · rename_i h
      rw [insS_mem]
      constructor
      · rintro ((h1 | h1) | ⟨q, h1, h2⟩)
        · exact .inl h1
        · exact .inr ⟨r, by simp, h1.symm, by rw [h1]; simpa using h⟩
        · exact .inr ⟨q, by simp [h1], h2⟩
      · rintro (h1 | ⟨q, h1, h2, h3⟩)
        · exact .inl (.inl h1)
        · rcases List.mem_cons.1 h1 with rfl | h1
          · exact .inl (.inr h2.symm)
          · exact .inr ⟨q, h1, h2, h3⟩
theorem secS_mem (o : GO) (ks : List ByteArray) (s : GSec) (n : ByteArray) : n ∈ secS o ks s ↔ n ∈ ks ∨ ((s.f2 = 0 ∧ s.f0 = n) ∨ ∃ r ∈ s.f7, r.f2 = n ∧ localB o n = false) := by
  unfold secS
  rw [relS_mem]
  split
  · rename_i h
    rw [insS_mem]
    constructor
    · rintro ((h1 | h1) | h1)
      · exact .inl h1
      · exact .inr (.inl ⟨h, h1.symm⟩)
      · exact .inr (.inr h1)
    · rintro (h1 | ⟨_, h1⟩ | h1)
      · exact .inl (.inl h1)
      · exact .inl (.inr h1.symm)
      · exact .inr h1
  · rename_i h
    constructor
    · rintro (h1 | h1)
      · exact .inl h1
      · exact .inr (.inr h1)
    · rintro (h1 | ⟨h2, _⟩ | h1)
      · exact .inl h1
      · exact absurd h2 h
      · exact .inr h1
theorem secsS_mem (o : GO) : ∀ (ss : List GSec) (ks : List ByteArray) (n : ByteArray), n ∈ ss.foldl (secS o) ks ↔ n ∈ ks ∨ ∃ s ∈ ss, (s.f2 = 0 ∧ s.f0 = n) ∨ ∃ r ∈ s.f7, r.f2 = n ∧ localB o n = false
  | [], ks, n => by simp
  | s :: ss, ks, n => by
    rw [List.foldl_cons, secsS_mem o ss, secS_mem]
    constructor
    · rintro ((h | h) | ⟨q, h1, h2⟩)
      · exact .inl h
      · exact .inr ⟨s, by simp, h⟩
      · exact .inr ⟨q, by simp [h1], h2⟩
    · rintro (h | ⟨q, h1, h2⟩)
      · exact .inl (.inl h)
      · rcases List.mem_cons.1 h1 with rfl | h1
        · exact .inl (.inr h2)
        · exact .inr ⟨q, h1, h2⟩
theorem objS_mem : ∀ (os : List GO) (ks : List ByteArray) (n : ByteArray), n ∈ os.foldl objS ks ↔ n ∈ ks ∨ namedP os n
  | [], ks, n => by simp [namedP]
  | o :: os, ks, n => by
    rw [List.foldl_cons, objS_mem os]
    unfold objS
    rw [secsS_mem]
    unfold namedP
    constructor
    · rintro ((h | h) | ⟨q, h1, h2⟩)
      · exact .inl h
      · exact .inr ⟨o, by simp, h⟩
      · exact .inr ⟨q, by simp [h1], h2⟩
    · rintro (h | ⟨q, h1, h2⟩)
      · exact .inl (.inl h)
      · rcases List.mem_cons.1 h1 with rfl | h1
        · exact .inl (.inr h2)
        · exact .inr ⟨q, h1, h2⟩
theorem leftK_mem : ∀ (os : List GO) (ks : List ByteArray) (n : ByteArray), n ∈ leftK os ks ↔ n ∈ ks ∧ ∀ o ∈ os, givesB o n = false
  | [], ks, n => by simp [leftK]
  | o :: os, ks, n => by
    show n ∈ leftK os (dropK ks o) ↔ _
    rw [leftK_mem os, dropK_mem]
    constructor
    · rintro ⟨⟨h1, h2⟩, h3⟩
      exact ⟨h1, fun q hq => by rcases List.mem_cons.1 hq with rfl | hq; exact h2; exact h3 q hq⟩
    · rintro ⟨h1, h2⟩
      exact ⟨⟨h1, h2 o (by simp)⟩, fun q hq => h2 q (by simp [hq])⟩
/-- What is wanted still. -/
def wantP (os : List GO) (entry n : ByteArray) : Prop := (n = entry ∨ namedP os n) ∧ ∀ o ∈ os, givesB o n = false
theorem want_iff (os : List GO) (entry n : ByteArray) : n ∈ leftK os (wantK os entry) ↔ wantP os entry n := by
  rw [leftK_mem]
  unfold wantK wantP
  rw [objS_mem, List.mem_singleton]
theorem hitO_iff (W : List ByteArray) (o : GO) : hitO W o = true ↔ ∃ n ∈ W, givesB o n = true := by
  unfold hitO givesB
  rw [List.any_eq_true]
  constructor
  · rintro ⟨s, hs, h⟩
    unfold hitS at h
    simp only [Bool.and_eq_true, decide_eq_true_eq] at h
    exact ⟨s.f0, h.2, List.any_eq_true.2 ⟨s, hs, by simp only [decide_true, Bool.true_and]; exact h.1⟩⟩
  · rintro ⟨n, hn, h⟩
    obtain ⟨s, hs, h⟩ := List.any_eq_true.1 h
    simp only [Bool.and_eq_true, decide_eq_true_eq] at h
    refine ⟨s, hs, ?_⟩
    unfold hitS
    rw [h.1, decide_eq_true hn, Bool.and_true]
    exact h.2
theorem namedP_same {a b : List GO} (h : ∀ o, o ∈ a ↔ o ∈ b) (n : ByteArray) : namedP a n ↔ namedP b n := by
  unfold namedP
  exact ⟨fun ⟨o, ho, r⟩ => ⟨o, (h o).1 ho, r⟩, fun ⟨o, ho, r⟩ => ⟨o, (h o).2 ho, r⟩⟩
theorem wantP_same {a b : List GO} (h : ∀ o, o ∈ a ↔ o ∈ b) (entry n : ByteArray) : wantP a entry n ↔ wantP b entry n := by
  unfold wantP
  rw [namedP_same h]
  exact ⟨fun ⟨h1, h2⟩ => ⟨h1, fun o ho => h2 o ((h o).2 ho)⟩, fun ⟨h1, h2⟩ => ⟨h1, fun o ho => h2 o ((h o).1 ho)⟩⟩
end Go.Proofs.Ythegbhfoleiegaa.All

/- Plain laws: what spec.l20Wanted names, and spec.Gather's rounds. -/
namespace Go.Proofs.Ythegbhfoleiegaa.All
open Go.RowKit Go.Proofs.YthegbhfoleiegaaW.PrintWords Go.Proofs.YthegbhfoleiegaaW.PrintLast Go.Proofs.YthegbhfoleiegaaW.PrintMore
set_option linter.unusedVariables false
set_option linter.unusedSimpArgs false
def relsL (o : GO) (rs : List GRel) : List ByteArray := (rs.filter fun r => !localB o r.f2).map fun r => r.f2
def secL (o : GO) (s : GSec) : List ByteArray := (if s.f2 = 0 then [s.f0] else []) ++ relsL o s.f7
def objL (o : GO) : List ByteArray := o.f0.flatMap (secL o)
def wantL (os : List GO) (entry : ByteArray) : List ByteArray := entry :: os.flatMap objL
theorem relsL_len (o : GO) (rs : List GRel) : (relsL o rs).length ≤ rs.length := by unfold relsL; rw [List.length_map]; exact List.length_filter_le _ _
theorem secL_len (o : GO) (s : GSec) : (secL o s).length ≤ 1 + s.f7.length := by
  unfold secL
  have := relsL_len o s.f7
  rw [List.length_append]
  split <;> simp <;> omega
theorem secsL_len (o : GO) : ∀ ss : List GSec, (ss.flatMap (secL o)).length ≤ (ss.map fun s => 1 + s.f7.length).sum
  | [] => Nat.le_refl _
  | s :: ss => by
    have h1 := secsL_len o ss
    have h2 := secL_len o s
    rw [List.flatMap_cons, List.length_append, List.map_cons, List.sum_cons]
    omega
theorem objsL_len : ∀ os : List GO, (os.flatMap objL).length ≤ (os.map nO).sum
  | [] => Nat.le_refl _
  | o :: os => by
    have h1 := objsL_len os
    have h2 : (objL o).length ≤ nO o := secsL_len o o.f0
    rw [List.flatMap_cons, List.length_append, List.map_cons, List.sum_cons]
    omega
theorem wantL_mem (os : List GO) (entry n : ByteArray) : n ∈ wantL os entry ↔ n = entry ∨ namedP os n := by
  unfold wantL namedP
  rw [List.mem_cons, List.mem_flatMap]
  have : ∀ o : GO, n ∈ objL o ↔ ∃ s ∈ o.f0, (s.f2 = 0 ∧ s.f0 = n) ∨ ∃ r ∈ s.f7, r.f2 = n ∧ localB o n = false := fun o => by
    unfold objL
    rw [List.mem_flatMap]
    have h2 : ∀ s : GSec, n ∈ secL o s ↔ (s.f2 = 0 ∧ s.f0 = n) ∨ ∃ r ∈ s.f7, r.f2 = n ∧ localB o n = false := fun s => by
      unfold secL relsL
      rw [List.mem_append, List.mem_map]
      constructor
      · rintro (h | ⟨r, h, rfl⟩)
        · split at h
          · rename_i hc; exact .inl ⟨hc, (List.mem_singleton.1 h).symm⟩
          · cases h
        · obtain ⟨h1, h2⟩ := List.mem_filter.1 h
          exact .inr ⟨r, h1, rfl, by simpa using h2⟩
      · rintro (⟨h1, rfl⟩ | ⟨r, h1, rfl, h2⟩)
        · exact .inl (by rw [if_pos h1]; simp)
        · exact .inr ⟨r, List.mem_filter.2 ⟨h1, by simpa using h2⟩, rfl⟩
    exact ⟨fun ⟨s, h1, h3⟩ => ⟨s, h1, (h2 s).1 h3⟩, fun ⟨s, h1, h3⟩ => ⟨s, h1, (h2 s).2 h3⟩⟩
  exact ⟨fun h => h.imp id (fun ⟨o, h1, h3⟩ => ⟨o, h1, (this o).1 h3⟩), fun h => h.imp id (fun ⟨o, h1, h3⟩ => ⟨o, h1, (this o).2 h3⟩)⟩
theorem wl_l2 (os : List GO) {b : Nat} (hb : b < os.length) (h9 : os.length ≤ 1000000000) (ho : (os[b]).f0.length ≤ 1000000000) {j : Nat} (hj : j < 1000000000) (s : GSec) (hs9 : s.f7.length ≤ 1000000000) (r : List ByteArray) : ∀ (d i : Nat) (acc : List ByteArray), i + d = s.f7.length → acc.length + d ≤ 8000000000 →
    Ev (fun k => spec_l20Wanted.l1 k os (acc ++ relsL os[b] (s.f7.drop i)) (b : Int) ((j + 1 : Nat) : Int)) r → Ev (fun k => spec_l20Wanted.l2 k os acc (b : Int) (j : Int) (i : Int) s.f0 s.f1 s.f2 s.f3 s.f4 s.f5 s.f6 s.f7) r
  | 0, i, acc, h, hl, hK => by
    refine Ev.succ ?_
    simp only [spec_l20Wanted.l2]
    have e7 : wrap64 ((j : Int) + 1) = ((j + 1 : Nat) : Int) := wrap64_nat (by omega)
    rw [e7]
    rw [show s.f7.drop i = [] from List.drop_eq_nil_of_le (by omega), show relsL os[b] [] = [] from rfl, List.append_nil] at hK
    exact Ev.neg (by omega) hK
  | d + 1, i, acc, h, hl, hK => by
    have hi : i < s.f7.length := by omega
    refine Ev.succ ?_
    simp only [spec_l20Wanted.l2]
    have e7 : wrap64 ((i : Int) + 1) = ((i + 1 : Nat) : Int) := wrap64_nat (by omega)
    rw [rdRel _ i hi, rdObj _ b hb, e7]
    refine Ev.pos (by omega) (Ev.pos (by omega) (Ev.pos (by omega) (Ev.pos (by omega) (Ev.bind (specLocal_f os[b] (s.f7[i]).f2 ho) ?_))))
    rw [List.drop_eq_getElem_cons hi] at hK
    cases hlb : localB os[b] (s.f7[i]).f2 with
    | true =>
      refine Ev.pos rfl (wl_l2 os hb h9 ho hj s hs9 r d (i + 1) acc (by omega) (by omega) ?_)
      have e : relsL os[b] (s.f7[i] :: s.f7.drop (i + 1)) = relsL os[b] (s.f7.drop (i + 1)) := by unfold relsL; rw [List.filter_cons_of_neg (by rw [hlb]; simp)]
      rw [e] at hK
      exact hK
    | false =>
      refine Ev.neg (by simp) (Ev.pos (by omega) (wl_l2 os hb h9 ho hj s hs9 r d (i + 1) (acc ++ [(s.f7[i]).f2]) (by omega) (by rw [List.length_append, List.length_singleton]; omega) ?_))
      have e : relsL os[b] (s.f7[i] :: s.f7.drop (i + 1)) = (s.f7[i]).f2 :: relsL os[b] (s.f7.drop (i + 1)) := by unfold relsL; rw [List.filter_cons_of_pos (by rw [hlb]; rfl), List.map_cons]
      rw [e] at hK
      rw [List.append_assoc]
      exact hK
theorem wl_l1 (os : List GO) {b : Nat} (hb : b < os.length) (h9 : os.length ≤ 1000000000) (ho : (os[b]).f0.length ≤ 1000000000) (hs : ∀ s ∈ (os[b]).f0, s.f7.length ≤ 1000000000) (r : List ByteArray) : ∀ (d j : Nat) (acc : List ByteArray), j + d = (os[b]).f0.length → acc.length + (((os[b]).f0.drop j).map fun s => 1 + s.f7.length).sum ≤ 4000000000 →
    Ev (fun k => spec_l20Wanted.l0 k os (acc ++ ((os[b]).f0.drop j).flatMap (secL os[b])) ((b + 1 : Nat) : Int)) r → Ev (fun k => spec_l20Wanted.l1 k os acc (b : Int) (j : Int)) r
  | 0, j, acc, h, hl, hK => by
    refine Ev.succ ?_
    simp only [spec_l20Wanted.l1]
    rw [rdObj _ b hb, wrap64_nat (by omega)]
    rw [show (os[b]).f0.drop j = [] from List.drop_eq_nil_of_le (by omega), List.flatMap_nil, List.append_nil] at hK
    exact Ev.pos (by omega) (Ev.pos (by omega) (Ev.neg (by omega) hK))
  | d + 1, j, acc, h, hl, hK => by
    have hj : j < (os[b]).f0.length := by omega
    rw [List.drop_eq_getElem_cons hj, List.map_cons, List.sum_cons] at hl
    rw [List.drop_eq_getElem_cons hj, List.flatMap_cons] at hK
    have hs9 := hs _ (List.getElem_mem hj)
    refine Ev.succ ?_
    simp only [spec_l20Wanted.l1]
    rw [rdObj _ b hb, rdSec _ j hj]
    refine Ev.pos (by omega) (Ev.pos (by omega) (Ev.pos (by omega) (Ev.pos (by omega) ?_)))
    by_cases hc : ((os[b]).f0[j]).f2 = 0
    · refine Ev.pos hc (Ev.pos (by omega) ?_)
      refine Ev.succ ?_
      simp only [spec_l20Wanted.j2]
      refine wl_l2 os hb h9 ho (by omega) _ hs9 r _ 0 _ (Nat.zero_add _) (by rw [List.length_append, List.length_singleton]; omega) ?_
      refine wl_l1 os hb h9 ho hs r d (j + 1) _ (by omega) ?_ ?_
      · have := relsL_len os[b] (((os[b]).f0[j]).f7.drop 0)
        rw [List.drop_zero] at this ⊢
        rw [List.length_append, List.length_append, List.length_singleton]
        omega
      · rw [show secL os[b] (os[b]).f0[j] = [((os[b]).f0[j]).f0] ++ relsL os[b] ((os[b]).f0[j]).f7 by unfold secL; rw [if_pos hc]] at hK
        rw [List.drop_zero]
        simpa [List.append_assoc] using hK
    · refine Ev.neg hc ?_
      refine Ev.succ ?_
      simp only [spec_l20Wanted.j2]
      refine wl_l2 os hb h9 ho (by omega) _ hs9 r _ 0 _ (Nat.zero_add _) (by omega) ?_
      refine wl_l1 os hb h9 ho hs r d (j + 1) _ (by omega) ?_ ?_
      · have := relsL_len os[b] (((os[b]).f0[j]).f7.drop 0)
        rw [List.drop_zero] at this ⊢
        rw [List.length_append]
        omega
      · rw [show secL os[b] (os[b]).f0[j] = relsL os[b] ((os[b]).f0[j]).f7 by unfold secL; rw [if_neg hc]; rfl] at hK
        rw [List.drop_zero]
        simpa [List.append_assoc] using hK
theorem wl_l0 (os : List GO) (h9 : os.length ≤ 1000000000) (ho : ∀ o ∈ os, o.f0.length ≤ 1000000000 ∧ ∀ s ∈ o.f0, s.f7.length ≤ 1000000000) : ∀ (d b : Nat) (acc : List ByteArray), b + d = os.length → acc.length + ((os.drop b).map nO).sum ≤ 4000000000 → Ev (fun k => spec_l20Wanted.l0 k os acc (b : Int)) (acc ++ (os.drop b).flatMap objL)
  | 0, b, acc, h, hl => by
    refine Ev.succ ?_
    simp only [spec_l20Wanted.l0]
    rw [show os.drop b = [] from List.drop_eq_nil_of_le (by omega), List.flatMap_nil, List.append_nil]
    exact Ev.neg (by omega) (Ev.now _)
  | d + 1, b, acc, h, hl => by
    have hb : b < os.length := by omega
    rw [List.drop_eq_getElem_cons hb, List.map_cons, List.sum_cons] at hl
    rw [List.drop_eq_getElem_cons hb, List.flatMap_cons]
    have h1 := ho _ (List.getElem_mem hb)
    have hn : nO os[b] = ((os[b]).f0.map fun s => 1 + s.f7.length).sum := rfl
    refine Ev.succ ?_
    simp only [spec_l20Wanted.l0]
    refine Ev.pos (by omega) (wl_l1 os hb h9 h1.1 h1.2 _ _ 0 acc (Nat.zero_add _) (by rw [List.drop_zero]; omega) ?_)
    have h2 := wl_l0 os h9 ho d (b + 1) (acc ++ ((os[b]).f0.drop 0).flatMap (secL os[b])) (by omega) (by
      have h7 : ((os[b]).f0.flatMap (secL os[b])).length ≤ nO os[b] := secsL_len os[b] (os[b]).f0
      rw [List.drop_zero, List.length_append]
      omega)
    rw [List.drop_zero] at h2 ⊢
    rw [show objL os[b] = (os[b]).f0.flatMap (secL os[b]) from rfl, ← List.append_assoc]
    exact h2
theorem specWanted_f (os : List GO) (entry : ByteArray) (h9 : os.length ≤ 1000000000) (ho : ∀ o ∈ os, o.f0.length ≤ 1000000000 ∧ ∀ s ∈ o.f0, s.f7.length ≤ 1000000000) (hn : (os.map nO).sum ≤ 1000000000) : Ev (fun k => spec_l20Wanted.f k os entry) (wantL os entry) := by
  unfold spec_l20Wanted.f wantL
  exact wl_l0 os h9 ho _ 0 [entry] (Nat.zero_add _) (by rw [List.drop_zero, List.length_singleton]; omega)
end Go.Proofs.Ythegbhfoleiegaa.All

/- Plain laws: both programs' Gather answer alike. -/
namespace Go.Proofs.Ythegbhfoleiegaa.All
open Go.RowKit Go.Proofs.YthegbhfoleiegaaW.PrintWords Go.Proofs.YthegbhfoleiegaaW.PrintLast Go.Proofs.YthegbhfoleiegaaW.PrintMore
set_option linter.unusedVariables false
set_option linter.unusedSimpArgs false
theorem tk_lenG {tk : List Int} {n : Nat} (hn : tk.Nodup) (h : ∀ x ∈ tk, 0 ≤ x ∧ x < (n : Int)) : tk.length ≤ n := by
  have h1 := nodup_sub_len tk ((List.range n).map fun (j : Nat) => (j : Int)) hn (fun x hx => by
    obtain ⟨h0, h1⟩ := h x hx
    exact List.mem_map.2 ⟨x.toNat, List.mem_range.2 (by omega), by omega⟩)
  simpa using h1
theorem nodup_sum (f : Int → Nat) : ∀ (a b : List Int), a.Nodup → (∀ x ∈ a, x ∈ b) → (a.map f).sum ≤ (b.map f).sum
  | [], _, _, _ => Nat.zero_le _
  | x :: a, b, h, hs => by
    rw [List.nodup_cons] at h
    have hx : x ∈ b := hs x (by simp)
    have h1 := nodup_sum f a (b.erase x) h.2 (fun z hz => (List.mem_erase_of_ne (fun e => h.1 (by subst e; exact hz))).2 (hs z (by simp [hz])))
    have h2 := ((List.perm_cons_erase hx).map f).sum_nat
    rw [List.map_cons, List.sum_cons] at h2
    rw [List.map_cons, List.sum_cons]
    omega
def atA (arch : List GO) (x : Int) : GO := arch.getD x.toNat z68
/-- The state of impl.Gather's rounds. -/
structure GI (l0 arch ins : List GO) (tk : List Int) : Prop where
  nd : tk.Nodup
  rg : ∀ x ∈ tk, 0 ≤ x ∧ x < (arch.length : Int)
  ie : ins = l0 ++ tk.map (atA arch)
theorem GI.ok {l0 arch ins : List GO} {tk : List Int} (h : GI l0 arch ins tk) (hl : l0.length + arch.length ≤ 1000000000) (hn : (l0.map nO).sum + (arch.map nO).sum ≤ 1000000000) : okIns ins := by
  have h1 := tk_lenG h.nd h.rg
  have h2 := nodup_sum (fun x => nO (atA arch x)) tk ((List.range arch.length).map fun (j : Nat) => (j : Int)) h.nd (fun x hx => by
    obtain ⟨h0, h1⟩ := h.rg x hx
    exact List.mem_map.2 ⟨x.toNat, List.mem_range.2 (by omega), by omega⟩)
  have h3 : (((List.range arch.length).map fun (j : Nat) => (j : Int)).map fun x => nO (atA arch x)) = arch.map nO := by
    rw [List.map_map]
    refine List.ext_getElem (by simp) (fun i hi1 hi2 => ?_)
    simp only [List.getElem_map, List.getElem_range, Function.comp]
    have hi : i < arch.length := by simpa using hi2
    unfold atA
    rw [Int.toNat_natCast, List.getD_eq_getElem?_getD, List.getElem?_eq_getElem hi]
    rfl
  rw [h3] at h2
  rw [h.ie]
  refine ⟨by rw [List.length_append, List.length_map]; omega, ?_⟩
  rw [List.map_append, List.sum_append, List.map_map]
  have h4 : (tk.map (nO ∘ atA arch)).sum = (tk.map fun x => nO (atA arch x)).sum := rfl
  omega
theorem GI.mem {l0 arch ins : List GO} {tk : List Int} (h : GI l0 arch ins tk) (o : GO) : o ∈ ins ↔ o ∈ l0 ∨ ∃ i : Nat, i < arch.length ∧ (i : Int) ∈ tk ∧ arch.getD i z68 = o := by
  rw [h.ie, List.mem_append, List.mem_map]
  constructor
  · rintro (h1 | ⟨x, h1, rfl⟩)
    · exact .inl h1
    · obtain ⟨h2, h3⟩ := h.rg x h1
      obtain ⟨i, rfl⟩ := Int.eq_ofNat_of_zero_le h2
      exact .inr ⟨i, by omega, h1, rfl⟩
  · rintro (h1 | ⟨i, h1, h2, rfl⟩)
    · exact .inl h1
    · exact .inr ⟨(i : Int), h2, rfl⟩
theorem firstHit_spec {arch : List GO} {tk : List Int} {W : List ByteArray} {i : Nat} (h : firstHit arch tk W = some i) : i < arch.length ∧ hitAt arch tk W i = true ∧ ∀ j, j < i → hitAt arch tk W j = false := by
  unfold firstHit at h
  obtain ⟨h1, h2, h3⟩ := List.find?_range_eq_some.1 h
  refine ⟨List.mem_range.1 h2, h1, fun j hj => ?_⟩
  have := h3 j hj
  rw [Bool.not_eq_true'] at this
  exact this
theorem firstHit_no {arch : List GO} {tk : List Int} {W : List ByteArray} (h : firstHit arch tk W = none) : ∀ j, j < arch.length → hitAt arch tk W j = false := fun j hj => by
  unfold firstHit at h
  have := List.find?_eq_none.1 h j (List.mem_range.2 hj)
  unfold hitAt
  exact Bool.eq_false_iff.2 this
theorem GI.step {l0 arch ins : List GO} {tk : List Int} (h : GI l0 arch ins tk) {i : Nat} (hi : i < arch.length) (hn : (i : Int) ∉ tk) : GI l0 arch (ins ++ [arch.getD i z68]) (insK tk (i : Int)) := by
  have e : insK tk (i : Int) = tk ++ [(i : Int)] := by unfold insK; rw [if_neg hn]
  refine ⟨insK_nodup h.nd _, fun x hx => ?_, ?_⟩
  · rcases (insK_mem _ _ _).1 hx with h1 | rfl
    · exact h.rg x h1
    · omega
  · rw [e, h.ie, List.map_append, List.append_assoc]
    rfl
theorem hitAt_nin {arch : List GO} {tk : List Int} {W : List ByteArray} {i : Nat} (h : hitAt arch tk W i = true) : (i : Int) ∉ tk := fun hm => by
  unfold hitAt at h
  rw [decide_eq_true hm] at h
  cases h
theorem gath_ends {l0 arch : List GO} {entry : ByteArray} (hl : l0.length + arch.length ≤ 1000000000) (hn : (l0.map nO).sum + (arch.map nO).sum ≤ 1000000000) : ∀ (d : Nat) (ins : List GO) (tk : List Int), GI l0 arch ins tk → arch.length ≤ tk.length + d → ∃ R, gath arch entry (d + 1) ins tk = some R
  | d, ins, tk, h, hd => by
    rw [gath, if_pos (h.ok hl hn)]
    cases hf : firstHit arch tk (leftK ins (wantK ins entry)) with
    | none => exact ⟨tk, rfl⟩
    | some i =>
      obtain ⟨h1, h2, _⟩ := firstHit_spec hf
      have h3 := hitAt_nin h2
      have h4 := h.step h1 h3
      have h5 := tk_lenG h4.nd h4.rg
      have e : (insK tk (i : Int)).length = tk.length + 1 := by rw [insK_len, if_neg h3]
      cases d with
      | zero => omega
      | succ d => exact gath_ends hl hn d _ _ h4 (by omega)
theorem gath_ge {arch : List GO} {entry : ByteArray} {ins : List GO} {tk R : List Int} {k : Nat} (h : gath arch entry k ins tk = some R) : ∀ m, gath arch entry (k + m) ins tk = some R
  | 0 => h
  | m + 1 => gath_mono arch entry _ _ _ _ (gath_ge h m)
/-! spec.Gather's rounds -/
def allT (l0 arch : List GO) (taken : List Bool) (n : Nat) : List GO := l0 ++ ((List.range n).filter fun i => taken.getD i false).map fun i => arch.getD i z68
theorem allT_succ (l0 arch : List GO) (taken : List Bool) (n : Nat) : allT l0 arch taken (n + 1) = if taken.getD n false = true then allT l0 arch taken n ++ [arch.getD n z68] else allT l0 arch taken n := by
  unfold allT
  rw [List.range_succ, List.filter_append, List.map_append]
  cases h : taken.getD n false
  · rw [List.filter_cons_of_neg (by rw [h]; simp)]; simp
  · rw [List.filter_cons_of_pos (by exact h)]; simp
theorem allT_len (l0 arch : List GO) (taken : List Bool) (n : Nat) : (allT l0 arch taken n).length ≤ l0.length + n := by
  unfold allT
  rw [List.length_append, List.length_map]
  have := List.length_filter_le (fun i => taken.getD i false) (List.range n)
  rw [List.length_range] at this
  omega
theorem rdB (l : List Bool) (i : Nat) : rdOf false l (i : Int) = l.getD i false := by simp [rdOf, List.getD_eq_getElem?_getD]
theorem sg_l1 (l0 arch : List GO) (entry : ByteArray) (taken : List Bool) (ht : taken.length = arch.length) (hl : l0.length + arch.length ≤ 1000000000) (r : List Int) (W : List ByteArray)
    (hW : Ev (fun k => spec_l20Wanted.f k (allT l0 arch taken arch.length) entry) W) (hK : Ev (fun k => spec_Gather.l2 k l0 arch entry taken false (allT l0 arch taken arch.length) W 0) r) :
    ∀ (d i : Nat), i + d = arch.length → Ev (fun k => spec_Gather.l1 k l0 arch entry taken false (allT l0 arch taken i) (i : Int)) r
  | 0, i, h => by
    obtain rfl : i = arch.length := by omega
    refine Ev.succ ?_
    simp only [spec_Gather.l1]
    exact Ev.neg (by omega) (Ev.bind hW hK)
  | d + 1, i, h => by
    have hi : i < arch.length := by omega
    have hlen := allT_len l0 arch taken i
    have ih := sg_l1 l0 arch entry taken ht hl r W hW hK d (i + 1) (by omega)
    rw [allT_succ] at ih
    refine Ev.succ ?_
    simp only [spec_Gather.l1]
    have e7 : wrap64 ((i : Int) + 1) = ((i + 1 : Nat) : Int) := wrap64_nat (by omega)
    rw [rdB, rdObj _ i hi, e7]
    refine Ev.pos (by omega) (Ev.pos (by omega) (Ev.pos (by omega) ?_))
    cases hb : taken.getD i false with
    | true =>
      rw [hb, if_pos rfl, List.getD_eq_getElem?_getD, List.getElem?_eq_getElem hi] at ih
      exact Ev.pos rfl (Ev.pos (by omega) ih)
    | false =>
      rw [hb, if_neg (by simp)] at ih
      exact Ev.neg (by simp) ih
section
variable {l0 arch all : List GO} {entry : ByteArray} {taken : List Bool} {W : List ByteArray} {r : List Int}
/-- i is not taken; from the wanted name q on there is one that it gives. -/
theorem sg_l3 (ht : taken.length = arch.length) (hl : arch.length ≤ 1000000000) (hW9 : W.length ≤ 2000000000) (hall : okN all) (ho : ∀ o ∈ arch, o.f0.length ≤ 1000000000) (hlive : ∀ n ∈ W, ∀ o ∈ all, givesB o n = false ∨ True) {i : Nat} (hi : i < arch.length) (hti : taken.getD i false = false) (ag : Bool) :
    ∀ (d q : Nat), q + d = W.length →
      ((∃ n ∈ W.drop q, givesB arch[i] n = true ∧ ∀ o ∈ all, givesB o n = false) → Ev (fun k => spec_Gather.l2 k l0 arch entry (taken.set i true) true all W ((i + 1 : Nat) : Int)) r → Ev (fun k => spec_Gather.l3 k l0 arch entry taken ag all W (i : Int) (q : Int)) r) ∧
      ((¬ ∃ n ∈ W.drop q, givesB arch[i] n = true ∧ ∀ o ∈ all, givesB o n = false) → Ev (fun k => spec_Gather.l2 k l0 arch entry taken ag all W ((i + 1 : Nat) : Int)) r → Ev (fun k => spec_Gather.l3 k l0 arch entry taken ag all W (i : Int) (q : Int)) r)
  | 0, q, h => by
    have hd : W.drop q = [] := List.drop_eq_nil_of_le (by omega)
    rw [hd]
    refine ⟨(fun hx => by obtain ⟨n, hn, _⟩ := hx; cases hn), fun _ hK => ?_⟩
    refine Ev.succ ?_
    simp only [spec_Gather.l3]
    refine Ev.neg (by omega) ?_
    refine Ev.succ ?_
    simp only [spec_Gather.j5]
    have e8 : wrap64 ((i : Int) + 1) = ((i + 1 : Nat) : Int) := wrap64_nat (by omega)
    rw [e8]
    exact Ev.neg (by simp) hK
  | d + 1, q, h => by
    have hq : q < W.length := by omega
    have e7 : wrap64 ((q : Int) + 1) = ((q + 1 : Nat) : Int) := wrap64_nat (by omega)
    have hrd : rdOf ByteArray.empty W (q : Int) = W[q] := by simp [rdOf, List.getElem?_eq_getElem hq]
    obtain ⟨ih1, ih2⟩ := sg_l3 ht hl hW9 hall ho hlive hi hti ag d (q + 1) (by omega)
    have open_ : ∀ r', Ev (fun k => (spec_l20Defines.f k arch[i].f0 W[q]).bind fun t => (if t = true then ((spec_l20Of.f k all (-1) W[q]).bind fun b => (if b.1 < 0 then (if (i : Int) < (taken.length : Int) then (spec_Gather.l3 k l0 arch entry (taken.set (i : Int).toNat true) true all W (i : Int) (wrap64 ((q : Int) + 1))) else (none)) else (spec_Gather.l3 k l0 arch entry taken ag all W (i : Int) (wrap64 ((q : Int) + 1))))) else (spec_Gather.l3 k l0 arch entry taken ag all W (i : Int) (wrap64 ((q : Int) + 1))))) r' → Ev (fun k => spec_Gather.l3 k l0 arch entry taken ag all W (i : Int) (q : Int)) r' := fun r' hK => by
      refine Ev.succ ?_
      simp only [spec_Gather.l3]
      rw [rdB, hti]
      refine Ev.pos (by omega) (Ev.pos (by omega) (Ev.pos (by omega) ?_))
      refine Ev.succ ?_
      simp only [spec_Gather.j5]
      rw [rdObj _ i hi, hrd]
      exact Ev.pos rfl (Ev.pos (by omega) (Ev.pos (by omega) (Ev.pos (by omega) (Ev.pos (by omega) hK))))
    have hD := specDefines_f arch[i] W[q] (ho _ (List.getElem_mem hi))
    have hO := specOf_f all W[q] hall
    have hs := spot_lt all W[q]
    rw [List.drop_eq_getElem_cons hq]
    cases hg : givesB arch[i] W[q] with
    | false =>
      rw [hg] at hD
      have hcont : ∀ r', Ev (fun k => spec_Gather.l3 k l0 arch entry taken ag all W (i : Int) ((q + 1 : Nat) : Int)) r' → Ev (fun k => spec_Gather.l3 k l0 arch entry taken ag all W (i : Int) (q : Int)) r' := fun r' hK => open_ r' (Ev.bind hD (Ev.neg (by simp) (by rw [e7]; exact hK)))
      refine ⟨fun hx hK => hcont _ (ih1 ?_ hK), fun hx hK => hcont _ (ih2 (fun hy => hx ?_) hK)⟩
      · obtain ⟨n, hn, h1, h2⟩ := hx
        rcases List.mem_cons.1 hn with rfl | hn
        · rw [hg] at h1; cases h1
        · exact ⟨n, hn, h1, h2⟩
      · obtain ⟨n, hn, h1⟩ := hy
        exact ⟨n, List.mem_cons_of_mem _ hn, h1⟩
    | true =>
      rw [hg] at hD
      by_cases hno : ∀ o ∈ all, givesB o W[q] = false
      · refine ⟨fun _ hK => open_ _ (Ev.bind hD (Ev.pos rfl (Ev.bind hO (Ev.pos (hs.2 hno) (Ev.pos (by omega) ?_))))), fun hx => absurd ⟨W[q], List.mem_cons_self, hg, hno⟩ hx⟩
        rw [e7, Int.toNat_natCast]
        refine Ev.succ ?_
        simp only [spec_Gather.l3]
        have hset : (taken.set i true).getD i false = true := by rw [List.getD_eq_getElem?_getD, List.getElem?_set_self (by omega)]; rfl
        rw [rdB, hset, List.length_set]
        have hend : Ev (fun k => spec_Gather.j5 k l0 arch entry (taken.set i true) true all W (i : Int) ((q + 1 : Nat) : Int) false) r := by
          refine Ev.succ ?_
          simp only [spec_Gather.j5]
          have e8 : wrap64 ((i : Int) + 1) = ((i + 1 : Nat) : Int) := wrap64_nat (by omega)
          rw [e8]
          exact Ev.neg (by simp) hK
        by_cases hq2 : q + 1 < W.length
        · exact Ev.pos (by omega) (Ev.pos (by omega) (Ev.pos (by omega) hend))
        · exact Ev.neg (by omega) hend
      · have hcont : ∀ r', Ev (fun k => spec_Gather.l3 k l0 arch entry taken ag all W (i : Int) ((q + 1 : Nat) : Int)) r' → Ev (fun k => spec_Gather.l3 k l0 arch entry taken ag all W (i : Int) (q : Int)) r' := fun r' hK => open_ r' (Ev.bind hD (Ev.pos rfl (Ev.bind hO (Ev.neg (fun h => hno (hs.1 h)) (by rw [e7]; exact hK)))))
        refine ⟨fun hx hK => hcont _ (ih1 ?_ hK), fun hx hK => hcont _ (ih2 (fun hy => hx ?_) hK)⟩
        · obtain ⟨n, hn, h1, h2⟩ := hx
          rcases List.mem_cons.1 hn with rfl | hn
          · exact absurd h2 hno
          · exact ⟨n, hn, h1, h2⟩
        · obtain ⟨n, hn, h1⟩ := hy
          exact ⟨n, List.mem_cons_of_mem _ hn, h1⟩
/-- An object that is taken gives nothing more. -/
theorem sg_l3t (ht : taken.length = arch.length) (hl : arch.length ≤ 1000000000) {i : Nat} (hi : i < arch.length) (hti : taken.getD i false = true) (ag : Bool) (hK : Ev (fun k => spec_Gather.l2 k l0 arch entry taken ag all W ((i + 1 : Nat) : Int)) r) : Ev (fun k => spec_Gather.l3 k l0 arch entry taken ag all W (i : Int) 0) r := by
  have hend : Ev (fun k => spec_Gather.j5 k l0 arch entry taken ag all W (i : Int) 0 false) r := by
    refine Ev.succ ?_
    simp only [spec_Gather.j5]
    have e8 : wrap64 ((i : Int) + 1) = ((i + 1 : Nat) : Int) := wrap64_nat (by omega)
    rw [e8]
    exact Ev.neg (by simp) hK
  refine Ev.succ ?_
  simp only [spec_Gather.l3]
  rw [rdB, hti]
  by_cases h0 : (0 : Int) < (W.length : Int)
  · exact Ev.pos h0 (Ev.pos (by omega) (Ev.pos (by omega) hend))
  · exact Ev.neg h0 hend
/-- With 'again' the loop ends. -/
theorem sg_l2t {i : Int} (hK : Ev (fun k => spec_Gather.l0 k l0 arch entry taken true) r) : Ev (fun k => spec_Gather.l2 k l0 arch entry taken true all W i) r := by
  have hj : Ev (fun k => spec_Gather.j3 k l0 arch entry taken true all W i false) r := by
    refine Ev.succ ?_
    simp only [spec_Gather.j3]
    exact Ev.neg (by simp) hK
  refine Ev.succ ?_
  simp only [spec_Gather.l2]
  by_cases h : i < (arch.length : Int)
  · exact Ev.pos h hj
  · exact Ev.neg h hj
end
end Go.Proofs.Ythegbhfoleiegaa.All

/- Plain laws: Gather of both programs, whole. -/
namespace Go.Proofs.Ythegbhfoleiegaa.All
open Go.RowKit Go.Proofs.YthegbhfoleiegaaW.PrintWords Go.Proofs.YthegbhfoleiegaaW.PrintLast Go.Proofs.YthegbhfoleiegaaW.PrintMore
set_option linter.unusedVariables false
set_option linter.unusedSimpArgs false
section
variable {l0 arch all : List GO} {entry : ByteArray} {W : List ByteArray} {r : List Int}
def hitT (arch all : List GO) (taken : List Bool) (W : List ByteArray) (i : Nat) : Prop := taken.getD i false = false ∧ ∃ n ∈ W, givesB (arch.getD i z68) n = true ∧ ∀ o ∈ all, givesB o n = false
theorem sg_l2 {taken : List Bool} (ht : taken.length = arch.length) (hl : arch.length ≤ 1000000000) (hW9 : W.length ≤ 2000000000) (hall : okN all) (ho : ∀ o ∈ arch, o.f0.length ≤ 1000000000) : ∀ (d i : Nat), i + d = arch.length →
    ((∀ j, i ≤ j → j < arch.length → ¬ hitT arch all taken W j) → Ev (fun k => spec_Gather.l0 k l0 arch entry taken false) r → Ev (fun k => spec_Gather.l2 k l0 arch entry taken false all W (i : Int)) r) ∧
    (∀ i0, i ≤ i0 → i0 < arch.length → hitT arch all taken W i0 → (∀ j, i ≤ j → j < i0 → ¬ hitT arch all taken W j) → Ev (fun k => spec_Gather.l0 k l0 arch entry (taken.set i0 true) true) r → Ev (fun k => spec_Gather.l2 k l0 arch entry taken false all W (i : Int)) r)
  | 0, i, h => by
    obtain rfl : i = arch.length := by omega
    refine ⟨fun _ hK => ?_, fun i0 h1 h2 => by omega⟩
    refine Ev.succ ?_
    simp only [spec_Gather.l2]
    refine Ev.neg (by omega) ?_
    refine Ev.succ ?_
    simp only [spec_Gather.j3]
    exact Ev.neg (by simp) hK
  | d + 1, i, h => by
    have hi : i < arch.length := by omega
    have hgd : arch.getD i z68 = arch[i] := by rw [List.getD_eq_getElem?_getD, List.getElem?_eq_getElem hi]; rfl
    obtain ⟨ih1, ih2⟩ := sg_l2 ht hl hW9 hall ho d (i + 1) (by omega)
    have open_ : Ev (fun k => spec_Gather.l3 k l0 arch entry taken false all W (i : Int) 0) r → Ev (fun k => spec_Gather.l2 k l0 arch entry taken false all W (i : Int)) r := fun hK => by
      refine Ev.succ ?_
      simp only [spec_Gather.l2]
      refine Ev.pos (by omega) ?_
      refine Ev.succ ?_
      simp only [spec_Gather.j3]
      exact Ev.pos rfl hK
    cases hti : taken.getD i false with
    | true =>
      have hnot : ¬ hitT arch all taken W i := fun hx => by rw [hx.1] at hti; cases hti
      refine ⟨fun hno hK => open_ (sg_l3t ht hl hi hti false (ih1 (fun j h1 h2 => hno j (by omega) h2) hK)), fun i0 h1 h2 h3 h4 hK => ?_⟩
      have hne : i0 ≠ i := fun e => hnot (e ▸ h3)
      exact open_ (sg_l3t ht hl hi hti false (ih2 i0 (by omega) h2 h3 (fun j h5 h6 => h4 j (by omega) h6) hK))
    | false =>
      obtain ⟨g1, g2⟩ := sg_l3 (r := r) (l0 := l0) (entry := entry) ht hl hW9 hall ho (fun _ _ _ _ => .inr trivial) hi hti false W.length 0 (Nat.zero_add _)
      rw [List.drop_zero] at g1 g2
      have hiff : hitT arch all taken W i ↔ ∃ n ∈ W, givesB arch[i] n = true ∧ ∀ o ∈ all, givesB o n = false := by
        unfold hitT
        rw [hgd]
        exact ⟨fun h => h.2, fun h => ⟨hti, h⟩⟩
      refine ⟨fun hno hK => open_ (g2 (fun hx => hno i (Nat.le_refl _) hi (hiff.2 hx)) (ih1 (fun j h1 h2 => hno j (by omega) h2) hK)), fun i0 h1 h2 h3 h4 hK => ?_⟩
      by_cases e : i0 = i
      · subst e
        exact open_ (g1 (hiff.1 h3) (sg_l2t hK))
      · exact open_ (g2 (fun hx => h4 i (Nat.le_refl _) (by omega) (hiff.2 hx)) (ih2 i0 (by omega) h2 h3 (fun j h5 h6 => h4 j (by omega) h6) hK))
end
def outT (taken : List Bool) (n : Nat) : List Int := ((List.range n).filter fun i => taken.getD i false).map fun (i : Nat) => (i : Int)
theorem outT_succ (taken : List Bool) (n : Nat) : outT taken (n + 1) = if taken.getD n false = true then outT taken n ++ [(n : Int)] else outT taken n := by
  unfold outT
  rw [List.range_succ, List.filter_append, List.map_append]
  cases h : taken.getD n false
  · rw [List.filter_cons_of_neg (by rw [h]; simp)]; simp
  · rw [List.filter_cons_of_pos (by exact h)]; simp
theorem outT_len (taken : List Bool) (n : Nat) : (outT taken n).length ≤ n := by
  unfold outT
  rw [List.length_map]
  exact Nat.le_trans (List.length_filter_le _ _) (by simp)
theorem sg_l4 (taken : List Bool) (h9 : taken.length ≤ 1000000000) : ∀ (d i : Nat), i + d = taken.length → Ev (fun k => spec_Gather.l4 k taken (outT taken i) (i : Int)) (outT taken taken.length)
  | 0, i, h => by
    obtain rfl : i = taken.length := by omega
    refine Ev.succ ?_
    simp only [spec_Gather.l4]
    exact Ev.neg (by omega) (Ev.now _)
  | d + 1, i, h => by
    have hl := outT_len taken i
    have ih := sg_l4 taken h9 d (i + 1) (by omega)
    rw [outT_succ] at ih
    refine Ev.succ ?_
    simp only [spec_Gather.l4]
    have e7 : wrap64 ((i : Int) + 1) = ((i + 1 : Nat) : Int) := wrap64_nat (by omega)
    rw [rdB, e7]
    refine Ev.pos (by omega) (Ev.pos (by omega) ?_)
    cases hb : taken.getD i false with
    | true => rw [hb, if_pos rfl] at ih; exact Ev.pos rfl (Ev.pos (by omega) ih)
    | false => rw [hb, if_neg (by simp)] at ih; exact Ev.neg (by simp) ih
theorem sorted_eqG {ys zs : List Int} (hz : zs.Pairwise (· < ·)) (hp : ys.Perm zs) : sortI ys = zs := by
  unfold sortI
  refine List.Perm.eq_of_pairwise (le := fun x y => x ≤ y) (fun a b _ _ h1 h2 => Int.le_antisymm h1 h2) ?_ (hz.imp (fun h => Int.le_of_lt h)) ((List.mergeSort_perm _ _).trans hp)
  exact (List.pairwise_mergeSort (le := fun x y : Int => decide (x ≤ y)) (fun a b c h1 h2 => by simp at h1 h2 ⊢; omega) (fun a b => by simp; omega) ys).imp (fun h => by simpa using h)
theorem sum_filter_le (p : Nat → Bool) (f : Nat → Nat) : ∀ xs : List Nat, ((xs.filter p).map f).sum ≤ (xs.map f).sum
  | [] => Nat.le_refl _
  | x :: xs => by
    have ih := sum_filter_le p f xs
    rw [List.filter_cons]
    split
    · rw [List.map_cons, List.sum_cons, List.map_cons, List.sum_cons]; omega
    · rw [List.map_cons, List.sum_cons]; omega
theorem allT_sum (l0 arch : List GO) (taken : List Bool) : ((allT l0 arch taken arch.length).map nO).sum ≤ (l0.map nO).sum + (arch.map nO).sum := by
  unfold allT
  rw [List.map_append, List.sum_append, List.map_map]
  have h1 := sum_filter_le (fun i => taken.getD i false) (nO ∘ fun i => arch.getD i z68) (List.range arch.length)
  have h3 : (List.range arch.length).map (nO ∘ fun i => arch.getD i z68) = arch.map nO := by
    refine List.ext_getElem (by simp) (fun i hi1 hi2 => ?_)
    simp only [List.getElem_map, List.getElem_range, Function.comp]
    have hi : i < arch.length := by simpa using hi2
    rw [List.getD_eq_getElem?_getD, List.getElem?_eq_getElem hi]
    rfl
  rw [h3] at h1
  omega
theorem allT_mem (l0 arch : List GO) (taken : List Bool) (o : GO) : o ∈ allT l0 arch taken arch.length ↔ o ∈ l0 ∨ ∃ i : Nat, i < arch.length ∧ taken.getD i false = true ∧ arch.getD i z68 = o := by
  unfold allT
  rw [List.mem_append, List.mem_map]
  constructor
  · rintro (h | ⟨i, h, rfl⟩)
    · exact .inl h
    · obtain ⟨h1, h2⟩ := List.mem_filter.1 h
      exact .inr ⟨i, List.mem_range.1 h1, h2, rfl⟩
  · rintro (h | ⟨i, h1, h2, rfl⟩)
    · exact .inl h
    · exact .inr ⟨i, List.mem_filter.2 ⟨List.mem_range.2 h1, h2⟩, rfl⟩
theorem arch_mem {arch : List GO} {i : Nat} (h : i < arch.length) : arch.getD i z68 ∈ arch := by rw [List.getD_eq_getElem?_getD, List.getElem?_eq_getElem h]; exact List.getElem_mem _
theorem sg_rounds {l0 arch : List GO} {entry : ByteArray} (hl : l0.length + arch.length ≤ 1000000000) (hn : (l0.map nO).sum + (arch.map nO).sum ≤ 1000000000) (ho : ∀ o, o ∈ l0 ∨ o ∈ arch → o.f0.length ≤ 1000000000 ∧ ∀ s ∈ o.f0, s.f7.length ≤ 1000000000) : ∀ (K : Nat) (ins : List GO) (tk : List Int) (taken : List Bool) (R : List Int), GI l0 arch ins tk → taken.length = arch.length → (∀ i : Nat, i < arch.length → ((i : Int) ∈ tk ↔ taken.getD i false = true)) → gath arch entry K ins tk = some R → Ev (fun k => spec_Gather.l0 k l0 arch entry taken true) (sortI R) ∧ R.length ≤ arch.length
  | 0, _, _, _, _, _, _, _, h => by cases h
  | K + 1, ins, tk, taken, R, hG, ht, hT, h => by
    rw [gath] at h
    split at h
    case isFalse => cases h
    obtain ⟨all, hall⟩ : ∃ a, a = allT l0 arch taken arch.length := ⟨_, rfl⟩
    have hsame : ∀ o, o ∈ ins ↔ o ∈ all := fun o => by
      rw [hG.mem, hall, allT_mem]
      exact ⟨fun h => h.imp id (fun ⟨i, h1, h2, h3⟩ => ⟨i, h1, (hT i h1).1 h2, h3⟩), fun h => h.imp id (fun ⟨i, h1, h2, h3⟩ => ⟨i, h1, (hT i h1).2 h2, h3⟩)⟩
    have hallo : ∀ o ∈ all, o.f0.length ≤ 1000000000 ∧ ∀ s ∈ o.f0, s.f7.length ≤ 1000000000 := fun o h => by
      rw [hall, allT_mem] at h
      rcases h with h | ⟨i, h1, _, rfl⟩
      · exact ho o (.inl h)
      · exact ho _ (.inr (arch_mem h1))
    have halen : all.length ≤ 1000000000 := by have := allT_len l0 arch taken arch.length; rw [← hall] at this; omega
    have hasum : (all.map nO).sum ≤ 1000000000 := by have := allT_sum l0 arch taken; rw [← hall] at this; omega
    have hW := specWanted_f all entry halen hallo hasum
    have hW9 : (wantL all entry).length ≤ 2000000000 := by
      have := objsL_len all
      unfold wantL
      rw [List.length_cons]
      omega
    have hokN : okN all := ⟨halen, fun o h => (hallo o h).1⟩
    have hiff : ∀ i : Nat, i < arch.length → (hitAt arch tk (leftK ins (wantK ins entry)) i = true ↔ hitT arch all taken (wantL all entry) i) := fun i hi => by
      unfold hitAt hitT
      rw [Bool.and_eq_true, hitO_iff]
      have h1 : (!decide ((i : Int) ∈ tk)) = true ↔ taken.getD i false = false := by
        rw [Bool.not_eq_true', decide_eq_false_iff_not, hT i hi, Bool.not_eq_true]
      rw [h1]
      refine and_congr_right (fun _ => ?_)
      constructor
      · rintro ⟨n, h2, h3⟩
        have h4 := (wantP_same hsame entry n).1 ((want_iff ins entry n).1 h2)
        exact ⟨n, (wantL_mem all entry n).2 h4.1, h3, h4.2⟩
      · rintro ⟨n, h2, h3, h4⟩
        exact ⟨n, (want_iff ins entry n).2 ((wantP_same hsame entry n).2 ⟨(wantL_mem all entry n).1 h2, h4⟩), h3⟩
    have open_ : ∀ r, Ev (fun k => spec_Gather.l2 k l0 arch entry taken false all (wantL all entry) 0) r → Ev (fun k => spec_Gather.l0 k l0 arch entry taken true) r := fun r hK => by
      have h1 := sg_l1 l0 arch entry taken ht hl r (wantL all entry) (by rw [← hall]; exact hW) (by rw [← hall]; exact hK) arch.length 0 (Nat.zero_add _)
      have e0 : allT l0 arch taken 0 = ([] : List GO) ++ l0 := by unfold allT; simp
      rw [e0] at h1
      refine Ev.succ ?_
      simp only [spec_Gather.l0]
      exact Ev.pos trivial (Ev.some_bind (Ev.pos (by simp; omega) h1))
    obtain ⟨g1, g2⟩ := sg_l2 (r := sortI R) (l0 := l0) (entry := entry) ht (by omega) hW9 hokN (fun o h => (ho o (.inr h)).1) arch.length 0 (Nat.zero_add _)
    cases hf : firstHit arch tk (leftK ins (wantK ins entry)) with
    | none =>
      rw [hf] at h
      obtain rfl := Option.some.inj h
      have hout : sortI tk = outT taken taken.length := by
        have hlt : (outT taken taken.length).Pairwise (· < ·) := by
          unfold outT
          rw [List.pairwise_map]
          exact (List.pairwise_lt_range.filter _).imp (fun h => by omega)
        refine sorted_eqG hlt ((List.perm_ext_iff_of_nodup hG.nd (hlt.imp (fun h => Int.ne_of_lt h))).2 (fun x => ?_))
        unfold outT
        rw [List.mem_map]
        constructor
        · intro hx
          obtain ⟨h0, h1⟩ := hG.rg x hx
          obtain ⟨i, rfl⟩ := Int.eq_ofNat_of_zero_le h0
          exact ⟨i, List.mem_filter.2 ⟨List.mem_range.2 (by omega), (hT i (by omega)).1 hx⟩, rfl⟩
        · rintro ⟨i, hi, rfl⟩
          obtain ⟨h1, h2⟩ := List.mem_filter.1 hi
          exact (hT i (by have := List.mem_range.1 h1; omega)).2 h2
      refine ⟨open_ _ (g1 (fun j _ hj hx => ?_) ?_), tk_lenG hG.nd hG.rg⟩
      · have := firstHit_no hf j hj
        rw [(hiff j hj).2 hx] at this
        cases this
      · refine Ev.succ ?_
        simp only [spec_Gather.l0]
        refine Ev.neg (by simp) ?_
        have h4 := sg_l4 taken (by omega) taken.length 0 (Nat.zero_add _)
        rw [hout]
        exact h4
    | some i =>
      rw [hf] at h
      obtain ⟨h1, h2, h3⟩ := firstHit_spec hf
      have h4 := hitAt_nin h2
      have hrec := sg_rounds hl hn ho K _ _ (taken.set i true) R (hG.step h1 h4) (by rw [List.length_set]; exact ht) (fun j hj => by
        rw [insK_mem, List.getD_eq_getElem?_getD, List.getElem?_set]
        by_cases e : i = j
        · subst e
          simp [ht, h1]
        · rw [if_neg e, ← List.getD_eq_getElem?_getD]
          constructor
          · rintro (h5 | h5)
            · exact (hT j hj).1 h5
            · omega
          · exact fun h5 => .inl ((hT j hj).2 h5)) h
      exact ⟨open_ _ (g2 i (Nat.zero_le _) h1 ((hiff i h1).1 h2) (fun j _ hj hx => by
        have := h3 j hj
        rw [(hiff j (by omega)).2 hx] at this
        cases this) hrec.1), hrec.2⟩
end Go.Proofs.Ythegbhfoleiegaa.All

/- FnExactGather: the law is true of all arguments. -/
namespace Go.Proofs.Ythegbhfoleiegaa.Pure
open Go.Proofs.Ythegbhfoleiegaa.All
open Go.RowKit Go.Proofs.YthegbhfoleiegaaW.PrintWords Go.Proofs.YthegbhfoleiegaaW.PrintLast Go.Proofs.YthegbhfoleiegaaW.PrintMore
set_option linter.unusedVariables false
set_option linter.unusedSimpArgs false
theorem sum_lin {α : Type} {f g : α → Nat} {a b : Nat} (h : ∀ x, f x ≤ a + b * g x) : ∀ xs : List α, (xs.map f).sum ≤ a * xs.length + b * (xs.map g).sum
  | [] => by simp
  | x :: xs => by
    have h1 := h x
    have h2 := sum_lin h xs
    simp only [List.map_cons, List.sum_cons, List.length_cons]
    rw [Nat.mul_add, Nat.mul_add, Nat.mul_one]
    omega
theorem lRelocS_ok {l : List S237} (h : l.length ≤ 9223372036854775807 ∧ ∀ y ∈ l, ok237 y) : lRelocS l := ⟨h.1, fun x hx => (h.2 x hx).2.2⟩
theorem lObjectS_ok {l : List S63} (h : l.length ≤ 9223372036854775807 ∧ ∀ y ∈ l, ok63 y) : lObjectS l := by
  refine ⟨h.1, fun o ho => ?_⟩
  have h1 := h.2 o ho
  unfold ok63 at h1
  refine ⟨h1.1, fun s hs => ?_⟩
  have h2 := h1.2 s hs
  unfold ok191 at h2
  obtain ⟨k0, _, _, _, k4, _, k6, k7⟩ := h2
  exact ⟨k0, k4.1, k6.1, lRelocS_ok k7⟩
theorem cntSec (x : S191) : cnt_Section (iSection x) ≤ 5 + 3 * sSection x := by
  have h1 : cntL_Reloc (iSection x).f7 = 3 * x.f7.length := by
    show cntL_Reloc (x.f7.map iReloc) = _
    unfold cntL_Reloc cnt_Reloc
    rw [List.map_map]
    generalize x.f7 = l
    induction l with
    | nil => rfl
    | cons y l ih => rw [List.map_cons, List.sum_cons, ih, List.length_cons]; simp; omega
  have h2 : cntL_int64 (iSection x).f4 = x.f4.length := rfl
  have h3 : cntL_uint8 (iSection x).f6 = x.f6.length := rfl
  unfold cnt_Section sSection sRelocS
  omega
theorem cntObj (x : S63) : cnt_Object (iObject x) ≤ 0 + 5 * sObject x := by
  have e : cnt_Object (iObject x) = (x.f0.map (fun s => cnt_Section (iSection s))).sum := by
    show cntL_Section (x.f0.map iSection) = _
    unfold cntL_Section
    rw [List.map_map]
    rfl
  have := sum_lin cntSec x.f0
  rw [e]
  unfold sObject sSectionS
  omega
theorem cntObjS (l : List S63) : cntL_Object (l.map iObject) ≤ 5 * sObjectS l := by
  have e : cntL_Object (l.map iObject) = (l.map (fun s => cnt_Object (iObject s))).sum := by
    unfold cntL_Object
    rw [List.map_map]
    rfl
  have := sum_lin cntObj l
  rw [e]
  unfold sObjectS
  omega
theorem memsum {α : Type} (f : α → Nat) : ∀ {xs : List α} {x : α}, x ∈ xs → f x ≤ (xs.map f).sum
  | y :: ys, x, h => by
    rw [List.map_cons, List.sum_cons]
    rcases List.mem_cons.1 h with rfl | h
    · omega
    · have := memsum f h; omega
theorem nO_le (x : S63) : nO (iObject x) ≤ 0 + 1 * sObject x := by
  have e : nO (iObject x) = (x.f0.map (fun s => 1 + (iSection s).f7.length)).sum := by
    show ((x.f0.map iSection).map fun s => 1 + s.f7.length).sum = _
    rw [List.map_map]
    rfl
  have := sum_lin (f := fun s : S191 => 1 + (iSection s).f7.length) (g := sSection) (a := 1) (b := 1) (fun s => by
    show 1 + (s.f7.map iReloc).length ≤ _
    rw [List.length_map]
    unfold sSection sRelocS
    omega) x.f0
  rw [e]
  unfold sObject sSectionS
  omega
theorem nOs_le (l : List S63) : ((l.map iObject).map nO).sum ≤ sObjectS l := by
  have := sum_lin nO_le l
  have e : ((l.map iObject).map nO).sum = (l.map fun x => nO (iObject x)).sum := by rw [List.map_map]; rfl
  rw [e]
  unfold sObjectS
  omega
theorem ev_allG {α β : Type} (f : Nat → α → Option β) (r : α → β) : ∀ l : List α, (∀ x ∈ l, Ev (fun k => f k x) (r x)) → ∃ K, ∀ k, K ≤ k → ∀ x ∈ l, f k x = some (r x)
  | [], _ => ⟨0, fun k _ x hx => by cases hx⟩
  | a :: l, h => by
    obtain ⟨K1, h1⟩ := h a (by simp)
    obtain ⟨K2, h2⟩ := ev_allG f r l (fun x hx => h x (by simp [hx]))
    exact ⟨K1 + K2, fun k hk x hx => by
      rcases List.mem_cons.1 hx with rfl | hx
      · exact h1 k (by omega)
      · exact h2 k (by omega) x hx⟩
/-- What the sizes say of an object that is copied. -/
def szO (o : GO) : Prop := o.f0.length ≤ 1048576 ∧ ∀ s ∈ o.f0, s.f0.size ≤ 1048576 ∧ s.f7.length ≤ 1048576 ∧ ∀ r ∈ s.f7, r.f2.size ≤ 1048576
theorem szO_of {l : List S63} (h : sObjectS l ≤ 1048576) : ∀ o ∈ l.map iObject, szO o := fun o ho => by
  obtain ⟨x, hx, rfl⟩ := List.mem_map.1 ho
  have h1 := memsum sObject hx
  unfold sObjectS at h
  have h2 : sObject x = x.f0.length + (x.f0.map sSection).sum := rfl
  refine ⟨by show (x.f0.map iSection).length ≤ _; rw [List.length_map]; omega, fun s hs => ?_⟩
  obtain ⟨y, hy, rfl⟩ := List.mem_map.1 (show s ∈ x.f0.map iSection from hs)
  have h3 := memsum sSection hy
  have h4 : sSection y = y.f0.size + (y.f4.length + (y.f6.length + ((y.f7.length + (y.f7.map sReloc).sum) + 0))) := rfl
  refine ⟨by show y.f0.size ≤ _; omega, by show (y.f7.map iReloc).length ≤ _; rw [List.length_map]; omega, fun r hr => ?_⟩
  obtain ⟨z, hz, rfl⟩ := List.mem_map.1 (show r ∈ y.f7.map iReloc from hr)
  have h5 := memsum sReloc hz
  have h6 : sReloc z = z.f2.size + 0 := rfl
  show z.f2.size ≤ _
  omega
theorem okG_ev {os : List GO} {entry : ByteArray} (h : ∀ o ∈ os, szO o) (he : entry.size ≤ 1048576) : ∃ K, ∀ k, K ≤ k → okG k os entry := by
  obtain ⟨K1, h1⟩ := ev_allG (fun k (p : GO × ByteArray) => impl_localIn.f k p.1.f0 p.2) (fun p => localB p.1 p.2) (os.flatMap fun o => o.f0.flatMap fun s => s.f7.map fun r => (o, r.f2)) (fun p hp => by
    obtain ⟨o, ho, hp⟩ := List.mem_flatMap.1 hp
    obtain ⟨s, hs, hp⟩ := List.mem_flatMap.1 hp
    obtain ⟨r, hr, rfl⟩ := List.mem_map.1 hp
    exact implLocal_f o r.f2 (by have := (h o ho).1; omega))
  obtain ⟨K2, h2⟩ := ev_allG (fun k (p : GO × ByteArray) => impl_gives.f k p.1.f0 p.2) (fun p => givesB p.1 p.2) (os.flatMap fun o => (entry :: allN os).map fun n => (o, n)) (fun p hp => by
    obtain ⟨o, ho, hp⟩ := List.mem_flatMap.1 hp
    obtain ⟨n, hn, rfl⟩ := List.mem_map.1 hp
    exact implGives_f o n (by have := (h o ho).1; omega))
  refine ⟨K1 + K2, fun k hk => ⟨by omega, fun o ho => ⟨by have := (h o ho).1; omega, fun s hs => ⟨by have := ((h o ho).2 s hs).1; omega, by have := ((h o ho).2 s hs).2.1; omega, fun r hr => ⟨by have := ((h o ho).2 s hs).2.2 r hr; omega, ?_⟩⟩⟩, fun o ho n hn => ?_⟩⟩
  · exact h1 k (by omega) (o, r.f2) (List.mem_flatMap.2 ⟨o, ho, List.mem_flatMap.2 ⟨s, hs, List.mem_map.2 ⟨r, hr, rfl⟩⟩⟩)
  · exact h2 k (by omega) (o, n) (List.mem_flatMap.2 ⟨o, ho, List.mem_map.2 ⟨n, hn, rfl⟩⟩)
theorem gather_f (l0 l1 : List S63) (entry : ByteArray) (he : entry.size ≤ 1048576) (hs : sObjectS l0 + sObjectS l1 ≤ 1048576) : ∃ r : List Int, r.length ≤ 1048576 ∧ Ev (fun k => spec_Gather.f k (l0.map iObject) (l1.map iObject) entry) r ∧ Ev (fun k => impl_Gather.f k (l0.map iObject) (l1.map iObject) entry) r := by
  have hz0 := szO_of (l := l0) (by omega)
  have hz1 := szO_of (l := l1) (by omega)
  have hn0 := nOs_le l0
  have hn1 := nOs_le l1
  have hl0 : (l0.map iObject).length ≤ sObjectS l0 := by rw [List.length_map]; unfold sObjectS; omega
  have hl1 : (l1.map iObject).length ≤ sObjectS l1 := by rw [List.length_map]; unfold sObjectS; omega
  generalize (l0.map iObject) = os at *
  generalize (l1.map iObject) = arch at *
  obtain ⟨K1, hok⟩ := okG_ev (os := os ++ arch) (entry := entry) (fun o ho => (List.mem_append.1 ho).elim (hz0 o) (hz1 o)) he
  have hG : GI os arch os [] := ⟨List.nodup_nil, (fun x hx => by cases hx), by simp⟩
  obtain ⟨R, hR⟩ := gath_ends (entry := entry) (by omega) (by omega) arch.length os [] hG (by simp)
  obtain ⟨hS, hRl⟩ := sg_rounds (entry := entry) (by omega) (by omega) (fun o ho => by
    have := ho.elim (hz0 o) (hz1 o)
    exact ⟨by have := this.1; omega, fun s hs => by have := (this.2 s hs).2.1; omega⟩) _ os [] (List.replicate arch.length false) R hG (by simp) (fun i hi => by
    rw [List.getD_eq_getElem?_getD, List.getElem?_replicate, if_pos hi]
    simp) hR
  refine ⟨sortI R, by rw [sortI_len]; omega, ?_, ⟨K1 + (arch.length + 1), fun k hk => ?_⟩⟩
  · unfold spec_Gather.f
    rw [Int.toNat_natCast]
    exact Ev.pos (by omega) (Ev.pos (by omega) hS)
  · show impl_Gather.f k os arch entry = _
    unfold impl_Gather.f
    obtain ⟨m, rfl⟩ := Nat.exists_eq_add_of_le (show arch.length + 1 ≤ k by omega)
    rw [if_pos ⟨hok _ (by omega), by omega, by omega⟩, gath_ge hR m]
    rfl
theorem FnExactGather (l0 l1 : List S63) (a2 : ByteArray) (h0 : l0.length ≤ 9223372036854775807 ∧ ∀ y ∈ l0, ok63 y) (h1 : l1.length ≤ 9223372036854775807 ∧ ∀ y ∈ l1, ok63 y) (_ : a2.size ≤ 9223372036854775807) : ∃ k, laws_FnExactGather.f k l0 l1 a2 = some true := by
  refine Ev.rounds ?_
  unfold laws_FnExactGather.f
  by_cases ha : (a2.size : Int) > 1048576
  · exact Ev.pos ha (Ev.now _)
  refine Ev.neg ha ?_
  refine Ev.bind (szObjectS_f l0 1048576 (by omega) (by omega) (lObjectS_ok h0)) ?_
  by_cases hc : (sObjectS l0 : Int) ≤ 1048576
  · rw [if_pos hc]
    refine Ev.neg (by omega) ?_
    refine Ev.bind (szObjectS_f l1 (1048576 - (sObjectS l0 : Int)) (by omega) (by omega) (lObjectS_ok h1)) ?_
    by_cases hc2 : (sObjectS l1 : Int) ≤ 1048576 - (sObjectS l0 : Int)
    · rw [if_pos hc2]
      refine Ev.neg (by omega) ?_
      have hs0 : sObjectS l0 ≤ 1048576 := by omega
      have hs1 : sObjectS l1 ≤ 1048576 := by omega
      have ht0 := toObjectS_f l0 hs0
      have ht1 := toObjectS_f l1 hs1
      have hb0 := bObjectS_of l0 hs0
      have hb1 := bObjectS_of l1 hs1
      have hcn0 := cntObjS l0
      have hcn1 := cntObjS l1
      have hlen0 : (l0.map iObject).length ≤ 1048576 := by rw [List.length_map]; unfold sObjectS at hs0; omega
      have hlen1 : (l1.map iObject).length ≤ 1048576 := by rw [List.length_map]; unfold sObjectS at hs1; omega
      obtain ⟨r, hr, hS, hI⟩ := gather_f l0 l1 a2 (by omega) (by omega)
      have hE := eqInt64S_f r (by omega)
      have hM := markInt64S_f r (by omega)
      have hH := heldInt64S_f r.length (by omega)
      have hF0 := eqObjectS_f (l0.map iObject) hb0
      have hF1 := eqObjectS_f (l1.map iObject) hb1
      have hK0 : laws_markObjectS.f (l0.map iObject) 1 = some ((1 : Int) + (cntL_Object (l0.map iObject) : Nat)) := by
        unfold laws_markObjectS.f
        rw [if_pos (by omega), if_pos (by omega)]
      have hK1 : laws_markObjectS.f (l1.map iObject) ((1 : Int) + (cntL_Object (l0.map iObject) : Nat)) = some ((1 : Int) + (cntL_Object (l0.map iObject) : Nat) + (cntL_Object (l1.map iObject) : Nat)) := by
        unfold laws_markObjectS.f
        rw [if_pos (by omega), if_pos (by omega)]
      refine Ev.bind ht0 (Ev.bind ht1 (Ev.bind hS (Ev.bind hI (Ev.bind hE (Ev.pos rfl (Ev.bind hF0 (Ev.pos rfl (Ev.bind hF1 (Ev.pos rfl (Ev.eq_bind hK0 (Ev.eq_bind hK1 (Ev.neg (by omega) (Ev.bind hM (Ev.bind hH (Ev.neg (by omega) (Ev.pos rfl (Ev.now _)))))))))))))))))
    · rw [if_neg hc2]
      exact Ev.pos (by omega) (Ev.now _)
  · rw [if_neg hc]
    exact Ev.pos (by omega) (Ev.now _)
end Go.Proofs.Ythegbhfoleiegaa.Pure

