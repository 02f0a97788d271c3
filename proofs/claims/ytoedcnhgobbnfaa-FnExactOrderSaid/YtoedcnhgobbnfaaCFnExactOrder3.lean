/- Part 3 of the proof of FnExactOrder: functions of the translation with what they return, and plain laws of these. Written by programs of this session over the kit's print, and by hand. -/
import Derived.Test.YtoedcnhgobbnfaaProg
import Derived.Test.YtoedcnhgobbnfaaCFnExactOrderWApart
import Derived.Test.YtoedcnhgobbnfaaCFnExactOrderWArr
import Derived.Test.YtoedcnhgobbnfaaCFnExactOrderWAt
import Derived.Test.YtoedcnhgobbnfaaCFnExactOrderWFoot
import Derived.Test.YtoedcnhgobbnfaaCFnExactOrderWFootNe
import Derived.Test.YtoedcnhgobbnfaaCFnExactOrderWGuard
import Derived.Test.YtoedcnhgobbnfaaCFnExactOrderWKept
import Derived.Test.YtoedcnhgobbnfaaCFnExactOrderWLast
import Derived.Test.YtoedcnhgobbnfaaCFnExactOrderWMore
import Derived.Test.YtoedcnhgobbnfaaCFnExactOrderWN
import Derived.Test.YtoedcnhgobbnfaaCFnExactOrderWNEv
import Derived.Test.YtoedcnhgobbnfaaCFnExactOrderWQPut
import Derived.Test.YtoedcnhgobbnfaaCFnExactOrderWRepsOne
import Derived.Test.YtoedcnhgobbnfaaCFnExactOrderWShare
import Derived.Test.YtoedcnhgobbnfaaCFnExactOrderWTab
import Derived.Test.YtoedcnhgobbnfaaCFnExactOrderWWords
import Derived.Test.YtoedcnhgobbnfaaCFnExactOrderWZeros
import Derived.Below
import Derived.Deep.Draws
import Derived.Deep.AppendLies
import Derived.Maps.AppendAt
import Derived.OwnWalk
import Derived.Laws.BytesArg
import Derived.Laws.MakeOwn
import Derived.Laws.OwnMore
import Derived.Deep.OwnRows
import Derived.Tactics
import Derived.Lib.ConvBytes
import Derived.Laws.Slices
import Derived.WalkKit
import Derived.KernelRfl
import Derived.RowKit3
import Derived.Deep.LoopGhost
import Derived.Deep.QuietTactic
import Derived.BigQuiet
import Derived.WideLaws
import Derived.Deep.DeepCutAuto
import Derived.Deep.CutBlock
import Derived.Deep.RegionHeld3
import Derived.Laws.Rows
import Derived.Lib.AppendStr
import Derived.ArgAppend
import Derived.Laws.IdiomCopy
import Derived.OrdersHeld
import Derived.Laws.BitsLemmas
import Derived.RowKit
import Derived.Maps.OwnSet
import Derived.Maps.OwnOps
import Derived.OneCell
import Derived.BigRegion
import Derived.Deep.Slices
import Derived.ChangeArms
import Derived.ProofKit
import Derived.OpenShut
import Derived.ShutString
import Derived.ChangeOld
import Derived.SizedLaws
import Derived.Test.YtoedcnhgobbnfaaCFnExactOrder1
import Derived.Test.YtoedcnhgobbnfaaCFnExactOrder2
namespace Go.Proofs.Ytoedcnhgobbnfaa.All
open Go.RowKit Go.Proofs.YtoedcnhgobbnfaaW.PrintWords Go.Proofs.YtoedcnhgobbnfaaW.PrintLast Go.Proofs.YtoedcnhgobbnfaaW.PrintMore
attribute [local go_sem] max2_int min2_int max_two min_two max_three min_three max_four min_four   -- for this text's walks alone
set_option linter.unusedVariables false
set_option linter.unusedSimpArgs false

/-! ### spec_l4Build: function 45 -/
def spec_l4Build.f (k : Nat) (a0_0 : ByteArray) (a0_1 : Int) (l0_2 : List Int) (a0_3 : Int) (l0_4 : List (S62)) : Option (List (List Int) × List (List Int)) :=
 if l0_4.length ≤ 2000000 then (rowsOf (fun b => spec_NextBlocks.f k a0_0 a0_1 l0_2 a0_3 l0_4 b) l0_4.length).bind fun rs => if okRows l0_4.length rs = true then some (rs, prevUp rs l0_4.length) else none else none
theorem spec_l4Build.open {k : Nat} {a0_0 : ByteArray} {a0_1 : Int} {l0_2 : List Int} {a0_3 : Int} {l0_4 : List (S62)} {r0 r1 : List (List Int)} (h : spec_l4Build.f k a0_0 a0_1 l0_2 a0_3 l0_4 = some (r0, r1)) :
 l0_4.length ≤ 2000000 ∧ rowsOf (fun b => spec_NextBlocks.f k a0_0 a0_1 l0_2 a0_3 l0_4 b) l0_4.length = some r0 ∧ okRows l0_4.length r0 = true ∧ r1 = prevUp r0 l0_4.length := by
 unfold spec_l4Build.f at h
 split at h
 · rename_i hl
   obtain ⟨rs, h1, h2⟩ := Option.bind_eq_some_iff.mp h
   split at h2
   · rename_i ho
     injection h2 with h2
     injection h2 with h3 h4
     subst h3
     exact ⟨hl, h1, ho, h4.symm⟩
   · cases h2
 · cases h
set_option maxHeartbeats 8000000 in
set_option maxRecDepth 100000 in
theorem spec_l4Build.calls (k : Nat) (a0_0 : ByteArray) (a0_1 : Int) (A0_2 : Option Addr) (c0_2 : Nat) (l0_2 : List Int) (a0_3 : Int) (A0_4 : Option Addr) (c0_4 : Nat) (l0_4 : List (S62)) (r0 r1 : List (List Int)) (w : World) (hr0_2 : Kd.C (Kd.int .i64) w A0_2 l0_2.length l0_2) (hc0_2 : l0_2.length ≤ c0_2) (hr0_4 : Kd.C k62 w A0_4 l0_4.length l0_4) (hc0_4 : l0_4.length ≤ c0_4) (h : spec_l4Build.f k a0_0 a0_1 l0_2 a0_3 l0_4 = some (r0, r1)) :
 Calls Try.prog 45 #[.agg #[.string a0_0, .int .i64 a0_1, .slice A0_2 l0_2.length c0_2, .int .i64 a0_3, .slice A0_4 l0_4.length c0_4]] w fun e w' => ∃ v0_ v1_ : Value, e = .returned (.agg #[v0_, v1_]) ∧ Kd.S (Kd.slice 2 (Kd.int .i64)) 22 w' w.heap.size (fun k_ => some k_ ≠ (v1_ : Value).ownBlock) v0_ r0 ∧ Kd.S (Kd.slice 2 (Kd.int .i64)) 22 w' w.heap.size (fun k_ => some k_ ≠ (v0_ : Value).ownBlock) v1_ r1 ∧ Below w.heap.size w w' := by
 have hu := Try.underlying30
 have hug := Try.underlying52
 obtain ⟨hl, hrows, hok, hr1⟩ := spec_l4Build.open h
 clear h
 subst hr1
 have hlen := rowsOf_len hrows
 have HR2 := Aside0.mk hr0_2
 have HC2 := Aside0.mk hc0_2
 have HR4 := Aside0.mk hr0_4
 have HC4 := Aside0.mk hc0_4
 clear hr0_2 hc0_2 hr0_4 hc0_4
 have HB := Aside0.mk (Below.refl w.heap.size w)
 have HRW := Aside0.mk hrows
 have HOK := Aside0.mk hok
 clear hrows hok
 go_enter Try.func45, Try.ntmps45
 go_wp2_with (first | ((with_reducible refine gate_dst (N := 1) rfl ?_); refine box_event ?hg (N := 1) ?hd (cs := #[.string a0_0, .int .i64 a0_1, .slice A0_2 l0_2.length c0_2, .int .i64 a0_3, .slice A0_4 l0_4.length c0_4]) (t := 30) ?hr ?_; (case hd => rfl); (case hg => rfl); (case hr => first | (go_simp; done) | (go_simp; rfl)); intro g1 hg w1 hbox hb; have n0_ := Aside0.mk (below_step HB.out hb); have GB1 := Aside0.mk (show w.heap.size ≤ g1 from by rw [hg]; exact below_size HB.out); have B1 := Aside0.mk hbox; clear HB; have HB := n0_; clear n0_ hb hbox hg) | ((with_reducible refine gate_dst (N := 2) rfl ?_); refine box_event ?hg (N := 2) ?hd (cs := #[.slice none 0 0, .slice none 0 0]) (t := 52) ?hr ?_; (case hd => rfl); (case hg => rfl); (case hr => first | (go_simp; done) | (go_simp; rfl)); intro g2 hg w2 hbox hb; have m0_ := Aside0.mk (blk_below B1.out hb); have N12 := Aside0.mk (show g1 ≠ g2 from by rw [hg]; exact Nat.ne_of_lt (blk_lt B1.out)); have n0_ := Aside0.mk (below_step HB.out hb); have GB2 := Aside0.mk (show w.heap.size ≤ g2 from by rw [hg]; exact below_size HB.out); have B2 := Aside0.mk hbox; clear HB B1; have HB := n0_; have B1 := m0_; clear n0_ hb hbox hg m0_) | ((with_reducible refine gate_dst (N := 3) rfl ?_); refine box_event ?hg (N := 3) ?hd (cs := #[.slice none 0 0, .slice none 0 0]) (t := 52) ?hr ?_; (case hd => rfl); (case hg => rfl); (case hr => first | (go_simp; done) | (go_simp; rfl)); intro g3 hg w3 hbox hb; have m0_ := Aside0.mk (blk_below B1.out hb); have m1_ := Aside0.mk (blk_below B2.out hb); have N13 := Aside0.mk (show g1 ≠ g3 from by rw [hg]; exact Nat.ne_of_lt (blk_lt B1.out)); have N23 := Aside0.mk (show g2 ≠ g3 from by rw [hg]; exact Nat.ne_of_lt (blk_lt B2.out)); have n0_ := Aside0.mk (below_step HB.out hb); have GB3 := Aside0.mk (show w.heap.size ≤ g3 from by rw [hg]; exact below_size HB.out); have B3 := Aside0.mk hbox; clear HB B1 B2; have HB := n0_; have B1 := m0_; have B2 := m1_; clear n0_ hb hbox hg m0_ m1_; have hcz_B3_0 : w3.cell? ⟨g3, 0, none⟩ = some (.slice none 0 0) := (blk_cell B3.out 0).trans rfl; have hcz_B3_1 : w3.cell? ⟨g3, 1, none⟩ = some (.slice none 0 0) := (blk_cell B3.out 1).trans rfl; have hfz_B3_0 := blk_frozen B3.out 0; have hfz_B3_1 := blk_frozen B3.out 1))
 go_loopw [4] (fun v4 w' => ∃ (m : Nat) (vN vP : Value) (N : List (List Int)) (Pn Pp : Nat → Prop), v4 = .int .i64 (m : Int) ∧ m ≤ l0_4.length ∧ Aside0 (rowsOf (fun b => spec_NextBlocks.f k a0_0 a0_1 l0_2 a0_3 l0_4 b) m = some N) ∧ Aside0 (∀ k_ : Nat, Pn k_ → ¬ Pp k_) ∧ Aside0 (Kd.S (Kd.slice 2 (Kd.int .i64)) 22 w' w.heap.size Pn vN N) ∧ Aside0 (Kd.S (Kd.slice 2 (Kd.int .i64)) 22 w' w.heap.size Pp vP (List.replicate m [])) ∧ Aside0 (w'.heap[g1]? = some (.cells #[.string a0_0, .int .i64 a0_1, .slice A0_2 l0_2.length c0_2, .int .i64 a0_3, .slice A0_4 l0_4.length c0_4] 30 (0, 0))) ∧ Aside0 (w'.heap[g2]? = some (.cells #[.slice none 0 0, .slice none 0 0] 52 (0, 0))) ∧ Aside0 (w'.heap[g3]? = some (.cells #[vN, vP] 52 (0, 0))) ∧ Aside0 (Below w.heap.size w w')) (fun v4 _ => l0_4.length - (intOf v4).toNat)
 case atStart => exact ⟨0, .slice none 0 0, .slice none 0 0, [], fun _ => False, fun _ => False, rfl, Nat.zero_le _, ⟨rfl⟩, ⟨fun _ h _ => h⟩, ⟨Kd.S_nil _ _ _ _ _⟩, ⟨Kd.S_nil _ _ _ _ _⟩, ⟨blk_far (blk_far B1.out N13.out _) N13.out _⟩, ⟨blk_far (blk_far B2.out N23.out _) N23.out _⟩, ⟨blk_put (cs := #[.slice none 0 0, .slice none 0 0]) (blk_put (cs := #[.slice none 0 0, .slice none 0 0]) B3.out 0 (.slice none 0 0) rfl) 1 (.slice none 0 0) rfl⟩, ⟨below_set (below_set HB.out GB3.out) GB3.out⟩⟩
 case round =>
  clear hcz_B3_0 hcz_B3_1 hfz_B3_0 hfz_B3_1 B1 B2 B3 HB
  obtain ⟨m, vN, vP, N, Pn, Pp, rfl, hm, HM, HD, HN, HP, B1, B2, B3, HB⟩ := hrel
  by_cases hlt : m < l0_4.length
  · obtain ⟨N', t, hN', ht, hN1⟩ := rowsOf_at HRW.out m hlt
    obtain rfl := Option.some.inj (HM.out.symm.trans hN')
    have HT := Aside0.mk ht
    have HM1 := Aside0.mk hN1
    have HL := Aside0.mk (rowsOf_len HM.out)
    clear hN' ht hN1
    have c1 : decide ((m : Int) < (l0_4.length : Int)) = true := decide_eq_true (by omega)
    have hcz_B1_0 : wr.cell? ⟨g1, 0, none⟩ = some (.string a0_0) := (blk_cell B1.out 0).trans rfl
    have hfz_B1_0 := blk_frozen B1.out 0
    have hcz_B1_1 : wr.cell? ⟨g1, 1, none⟩ = some (.int .i64 a0_1) := (blk_cell B1.out 1).trans rfl
    have hfz_B1_1 := blk_frozen B1.out 1
    have hcz_B1_2 : wr.cell? ⟨g1, 2, none⟩ = some (.slice A0_2 l0_2.length c0_2) := (blk_cell B1.out 2).trans rfl
    have hfz_B1_2 := blk_frozen B1.out 2
    have hcz_B1_3 : wr.cell? ⟨g1, 3, none⟩ = some (.int .i64 a0_3) := (blk_cell B1.out 3).trans rfl
    have hfz_B1_3 := blk_frozen B1.out 3
    have hcz_B1_4 : wr.cell? ⟨g1, 4, none⟩ = some (.slice A0_4 l0_4.length c0_4) := (blk_cell B1.out 4).trans rfl
    have hfz_B1_4 := blk_frozen B1.out 4
    go_upto_region 5 with (fail)
    clear hcz_B1_0 hfz_B1_0 hcz_B1_1 hfz_B1_1 hcz_B1_2 hfz_B1_2 hcz_B1_3 hfz_B1_3 hcz_B1_4 hfz_B1_4
    refine start_ (n := 9) (S := fun w' => w'.cell? ⟨g3, 0, none⟩ = some vN ∧ w'.cell? ⟨g1, 0, none⟩ = some (.string a0_0) ∧ w'.cell? ⟨g1, 1, none⟩ = some (.int .i64 a0_1) ∧ w'.cell? ⟨g1, 2, none⟩ = some (.slice A0_2 l0_2.length c0_2) ∧ w'.cell? ⟨g1, 3, none⟩ = some (.int .i64 a0_3) ∧ w'.cell? ⟨g1, 4, none⟩ = some (.slice A0_4 l0_4.length c0_4)) (ds := [8]) #[false, false, false, false, false, false, false, false, false] (by kernel_rfl) rfl rfl ⟨(blk_cell B3.out 0).trans rfl, (blk_cell B1.out 0).trans rfl, (blk_cell B1.out 1).trans rfl, (blk_cell B1.out 2).trans rfl, (blk_cell B1.out 3).trans rfl, (blk_cell B1.out 4).trans rfl⟩ (fun hHeld => ?_)
    have HWA := Aside0.mk (show w.heap.size ≤ wr.drew.heap.size from below_size (below_drew HB.out))
    have n0_ := Aside0.mk (Kd.S_drew HN.out)
    have n1_ := Aside0.mk (Kd.S_drew HP.out)
    have n2_ := Aside0.mk (blk_drew B1.out)
    have n3_ := Aside0.mk (blk_drew B2.out)
    have n4_ := Aside0.mk (blk_drew B3.out)
    have n5_ := Aside0.mk (below_drew HB.out)
    clear HN HP B1 B2 B3 HB
    have HN := n0_
    have HP := n1_
    have B1 := n2_
    have B2 := n3_
    have B3 := n4_
    have HB := n5_
    clear n0_ n1_ n2_ n3_ n4_ n5_
    generalize wr.drew = wA at HWA HN HP B1 B2 B3 HB hHeld ⊢
    refine pure_ (i := 0) (N := some 15) (v := ?_) (a' := ?_) #[true, false, false, false, false, false, false, false, false] rfl rfl (by kernel_rfl) (fun _ _ _ h => h) (Or.inl ⟨by rfl, ?_⟩) ?_ ?_
    rotate_left
    · intro w'
      go_simp
      with_reducible rfl
    rotate_left
    · simp only [Act.put, List.setIfInBounds_toArray, List.set_cons_zero, List.set_cons_succ, i64_w, i32_w]
      rfl
    refine pure_ (i := 3) (N := some 18) (v := ?_) (a' := ?_) #[true, false, false, true, false, false, false, false, false] rfl rfl (by kernel_rfl) (fun _ _ _ h => h) (Or.inl ⟨by rfl, ?_⟩) ?_ ?_
    rotate_left
    · intro w'
      go_simp
      with_reducible rfl
    rotate_left
    · simp only [Act.put, List.setIfInBounds_toArray, List.set_cons_zero, List.set_cons_succ, i64_w, i32_w]
      rfl
    refine take_ (i := 1) (N := some 16) (v := ?_) (a' := ?_) #[true, true, false, true, false, false, false, false, false] rfl rfl (by kernel_rfl) (fun _ _ _ h => h) (Or.inl ⟨by rfl, ?_⟩) hHeld ?_ ?_
    rotate_left
    · rintro w' ⟨s0, s1, s2, s3, s4, s5⟩
      go_simp
      with_reducible rfl
    rotate_left
    · simp only [Act.put, List.setIfInBounds_toArray, List.set_cons_zero, List.set_cons_succ, i64_w, i32_w]
      rfl
    refine take_ (i := 2) (N := some 17) (v := ?_) (a' := ?_) #[true, true, true, true, false, false, false, false, false] rfl rfl (by kernel_rfl) (fun _ _ _ h => h) (Or.inl ⟨by rfl, ?_⟩) hHeld ?_ ?_
    rotate_left
    · rintro w' ⟨s0, s1, s2, s3, s4, s5⟩
      go_simp
      with_reducible rfl
    rotate_left
    · simp only [Act.put, List.setIfInBounds_toArray, List.set_cons_zero, List.set_cons_succ, i64_w, i32_w]
      rfl
    refine one_ (i := 4) (N := some 19) #[true, true, true, true, true, false, false, false, false] rfl rfl (by kernel_rfl) (by decide) (fun K hK => ?_)
    refine goes_ Try.func17 (by kernel_rfl) rfl #[.agg #[.string a0_0, .int .i64 a0_1, .slice A0_2 l0_2.length c0_2, .int .i64 a0_3, .slice A0_4 l0_4.length c0_4], .int .i64 (m : Int)] (by rfl) rfl rfl (by (try simp only [List.map_toArray, List.map_cons, List.map_nil]); first | done | rfl | (simp only [List.length_drop, List.length_take]; rfl)) ?_
    with_reducible refine (spec_NextBlocks.calls k a0_0 a0_1 _ _ l0_2 a0_3 _ _ l0_4 (m : Int) t _ ?side1 ?side2 ?side3 ?side4 HT.out).mono ?_
    (case side1 => exact Kd.C_below HR2.out HB.out)
    (case side2 => exact HC2.out)
    (case side3 => exact Kd.C_below HR4.out HB.out)
    (case side4 => exact HC4.out)
    rintro e wB ⟨vT, rfl, hoT, hb⟩
    refine ⟨_, rfl, ?_⟩
    obtain ⟨AT, cT, eT⟩ := Kd.R_slice hoT
    subst eT
    have HAS := Aside0.mk hb.size
    have n0_ := Aside0.mk (Kd.S_old HN.out hb)
    have n1_ := Aside0.mk (Kd.S_old HP.out hb)
    have n2_ := Aside0.mk (blk_below B1.out hb)
    have n3_ := Aside0.mk (blk_below B2.out hb)
    have n4_ := Aside0.mk (blk_below B3.out hb)
    have n5_ := Aside0.mk (below_step HB.out hb)
    clear HN HP B1 B2 B3 HB
    have HN := n0_
    have HP := n1_
    have B1 := n2_
    have B2 := n3_
    have B3 := n4_
    have HB := n5_
    clear n0_ n1_ n2_ n3_ n4_ n5_
    have HoT := Aside0.mk hoT
    clear hoT hb
    refine hK.out _ _ ⟨(blk_cell B3.out 0).trans rfl, (blk_cell B1.out 0).trans rfl, (blk_cell B1.out 1).trans rfl, (blk_cell B1.out 2).trans rfl, (blk_cell B1.out 3).trans rfl, (blk_cell B1.out 4).trans rfl⟩ (fun hHeld => ?_)
    clear hK K
    refine norm_ (a' := ?_) ?_ ?_
    rotate_left
    · show Act.put _ (some 19) _ = _
      simp only [Act.put, List.setIfInBounds_toArray, List.set_cons_zero, List.set_cons_succ, i64_w, i32_w]
      rfl
    refine one_ (i := 5) (N := some 20) #[true, true, true, true, true, true, false, false, false] rfl rfl (by kernel_rfl) (by decide) (fun K hK => ?_)
    refine value_ (w1 := ?_) (v := ?_) (by rfl) rfl ?_ ?_
    rotate_left 2
    · go_simp
      constructor
      · rfl
      · rfl
    refine hK.out _ _ ⟨(blk_cell (blk_alloc B3.out _) 0).trans rfl, (blk_cell (blk_alloc B1.out _) 0).trans rfl, (blk_cell (blk_alloc B1.out _) 1).trans rfl, (blk_cell (blk_alloc B1.out _) 2).trans rfl, (blk_cell (blk_alloc B1.out _) 3).trans rfl, (blk_cell (blk_alloc B1.out _) 4).trans rfl⟩ (fun hHeld => ?_)
    clear hK K
    refine norm_ (a' := ?_) ?_ ?_
    rotate_left
    · show Act.put _ (some 20) _ = _
      simp only [Act.put, List.setIfInBounds_toArray, List.set_cons_zero, List.set_cons_succ, i64_w, i32_w]
      rfl
    refine one_ (i := 6) (N := some 21) #[true, true, true, true, true, true, true, false, false] rfl rfl (by kernel_rfl) (by decide) (fun K hK => ?_)
    refine Kd.S_append_step (Kd.slice 2 (Kd.int .i64)) (w0 := w) w.heap.size (by rfl) (.tmp 16) (.tmp 20) 50 22 (.slice none 0 0) 24 rfl Try.underlying50 (by kernel_rfl) rfl (by decide) (by omega) vN N t [.slice AT t.length cT] (fun k_ => Pn k_ ∨ wA.heap.size ≤ k_) (fun k_ => some k_ = (.slice AT t.length cT : Value).ownBlock) rfl rfl ?aP ?aK ?aF ?aO ?aB ?aS ?aL ?_
    (case aP => exact Kd.M_row (Kd.R_lower (Kd.R_tight rfl HoT.out) HWA.out))
    (case aK => exact fun k_ e_ => ⟨.inr (Kd.R_base HoT.out k_ e_.symm), fun e2_ => by have h1_ := Kd.R_base HoT.out k_ e_.symm; have h2_ := ((Kd.S_R HN.out).1 k_ e2_.symm).2; omega⟩)
    (case aF => exact fun k_ hk => .inr (Nat.le_trans HAS.out hk))
    (case aO => exact Kd.S_mono HN.out (fun k_ hk => ⟨.inl hk.1, fun e_ => by have h1_ := Kd.R_base HoT.out k_ e_.symm; have h2_ := hk.2; omega⟩))
    (case aB => exact HB.out)
    (case aS => exact Nat.le_trans HWA.out HAS.out)
    (case aL => have := HL.out; omega)
    intro vN1 wC ho1 hb1 hg1 hat1
    obtain ⟨AN1, nN1, cN1, eN1⟩ : ∃ A n c, vN1 = .slice A n c := by obtain ⟨A, c, h⟩ := Kd.S_slice ho1; exact ⟨A, _, c, h⟩
    subst eN1
    have n0_ := Aside0.mk (Kd.S_grown HP.out hg1 (fun k_ hk e_ => HD.out k_ ((Kd.S_R HN.out).1 k_ e_.symm).1 hk.1))
    have n1_ := Aside0.mk (blk_grown B1.out hg1 (Kd.S_ne HN.out B1.out (by decide)))
    have n2_ := Aside0.mk (blk_grown B2.out hg1 (Kd.S_ne HN.out B2.out (by decide)))
    have n3_ := Aside0.mk (blk_grown B3.out hg1 (Kd.S_ne HN.out B3.out (by decide)))
    have n4_ := Aside0.mk (ho1)
    have n5_ := Aside0.mk (hb1)
    clear HP B1 B2 B3 HN HB
    have HP := n0_
    have B1 := n1_
    have B2 := n2_
    have B3 := n3_
    have HN := n4_
    have HB := n5_
    clear n0_ n1_ n2_ n3_ n4_ n5_
    have HAC := Aside0.mk (Nat.le_trans HAS.out hg1.size)
    clear ho1 hb1 hg1 hat1 HoT
    have hfzC := blk_frozen B3.out 0
    refine hK.out _ _ ⟨(blk_cell B3.out 0).trans rfl, (blk_cell B1.out 0).trans rfl, (blk_cell B1.out 1).trans rfl, (blk_cell B1.out 2).trans rfl, (blk_cell B1.out 3).trans rfl, (blk_cell B1.out 4).trans rfl⟩ (fun hHeld => ?_)
    clear hK K
    refine norm_ (a' := ?_) ?_ ?_
    rotate_left
    · show Act.put _ (some 21) _ = _
      simp only [Act.put, List.setIfInBounds_toArray, List.set_cons_zero, List.set_cons_succ, i64_w, i32_w]
      rfl
    refine pure_ (i := 7) (N := some 22) (v := ?_) (a' := ?_) #[true, true, true, true, true, true, true, true, false] rfl rfl (by kernel_rfl) (fun _ _ _ h => h) (Or.inl ⟨by rfl, ?_⟩) ?_ ?_
    rotate_left
    · intro w'
      go_simp
      with_reducible rfl
    rotate_left
    · simp only [Act.put, List.setIfInBounds_toArray, List.set_cons_zero, List.set_cons_succ, i64_w, i32_w]
      rfl
    refine last_ (i := 8) (N := none) #[true, true, true, true, true, true, true, true, true] rfl rfl (by kernel_rfl) (by decide) (fun K hK => ?_)
    refine skip_ (w1 := ?_) (by rfl) rfl ?_ ?_
    rotate_left
    · go_simp
      rfl
    refine hK.out _ _ ?_
    clear hK K
    refine done_ (by kernel_rfl) ?_
    obtain ⟨wD, hwD⟩ : ∃ wD, wD = wC.setCell ⟨g3, 0, none⟩ (.slice AN1 nN1 cN1) := ⟨_, rfl⟩
    rw [← hwD]
    have n0_ := Aside0.mk (show Kd.S (Kd.slice 2 (Kd.int .i64)) 22 wD w.heap.size (fun k_ => (Pn k_ ∨ wA.heap.size ≤ k_) ∧ k_ < wC.heap.size) (.slice AN1 nN1 cN1) (N ++ [t]) from by rw [hwD]; exact Kd.S_mono (Kd.S_bound (Kd.S_set HN.out B3.out (by decide) 0 (.slice AN1 nN1 cN1))) (fun k_ h_ => ⟨h_.1, by have h3_ := h_.2.2.1; rw [World.size_setCell] at h3_; exact h3_⟩))
    have n1_ := Aside0.mk (show Kd.S (Kd.slice 2 (Kd.int .i64)) 22 wD w.heap.size _ vP (List.replicate m []) from by rw [hwD]; exact Kd.S_set HP.out B3.out (by decide) 0 (.slice AN1 nN1 cN1))
    have n2_ := Aside0.mk (show wD.heap[g1]? = some (.cells #[.string a0_0, .int .i64 a0_1, .slice A0_2 l0_2.length c0_2, .int .i64 a0_3, .slice A0_4 l0_4.length c0_4] 30 (0, 0)) from by rw [hwD]; exact blk_far B1.out N13.out _)
    have n3_ := Aside0.mk (show wD.heap[g2]? = some (.cells #[.slice none 0 0, .slice none 0 0] 52 (0, 0)) from by rw [hwD]; exact blk_far B2.out N23.out _)
    have n4_ := Aside0.mk (show Below w.heap.size w wD from by rw [hwD]; exact below_set HB.out GB3.out)
    have n5_ := Aside0.mk (show wD.heap[g3]? = some (.cells #[(.slice AN1 nN1 cN1), vP] 52 (0, 0)) from by rw [hwD]; exact blk_put (cs := #[vN, vP]) B3.out 0 (.slice AN1 nN1 cN1) rfl)
    clear HN HP B1 B2 HB B3
    have HN := n0_
    have HP := n1_
    have B1 := n2_
    have B2 := n3_
    have HB := n4_
    have B3 := n5_
    clear n0_ n1_ n2_ n3_ n4_ n5_
    have HS := Aside0.mk (show wC.heap.size ≤ wD.heap.size from by rw [hwD, World.size_setCell]; exact Nat.le_refl _)
    clear hwD HAS hfzC
    have hcz_B3_0 : wD.cell? ⟨g3, 0, none⟩ = some ((.slice AN1 nN1 cN1)) := (blk_cell B3.out 0).trans rfl
    have hfz_B3_0 := blk_frozen B3.out 0
    have hcz_B3_1 : wD.cell? ⟨g3, 1, none⟩ = some (vP) := (blk_cell B3.out 1).trans rfl
    have hfz_B3_1 := blk_frozen B3.out 1
    have hcz_B1_0 : wD.cell? ⟨g1, 0, none⟩ = some (.string a0_0) := (blk_cell B1.out 0).trans rfl
    have hfz_B1_0 := blk_frozen B1.out 0
    have hcz_B1_1 : wD.cell? ⟨g1, 1, none⟩ = some (.int .i64 a0_1) := (blk_cell B1.out 1).trans rfl
    have hfz_B1_1 := blk_frozen B1.out 1
    have hcz_B1_2 : wD.cell? ⟨g1, 2, none⟩ = some (.slice A0_2 l0_2.length c0_2) := (blk_cell B1.out 2).trans rfl
    have hfz_B1_2 := blk_frozen B1.out 2
    have hcz_B1_3 : wD.cell? ⟨g1, 3, none⟩ = some (.int .i64 a0_3) := (blk_cell B1.out 3).trans rfl
    have hfz_B1_3 := blk_frozen B1.out 3
    have hcz_B1_4 : wD.cell? ⟨g1, 4, none⟩ = some (.slice A0_4 l0_4.length c0_4) := (blk_cell B1.out 4).trans rfl
    have hfz_B1_4 := blk_frozen B1.out 4
    go_wp2_with (first | (at_builtin; refine Kd.S_append (Kd.slice 2 (Kd.int .i64)) (w0 := w) w.heap.size rfl (.tmp 24) (.tmp 25) 50 22 (.slice none 0 0) 24 rfl Try.underlying50 (by kernel_rfl) rfl (by decide) (by omega) vP (List.replicate m []) [] [.slice none 0 0] (fun k_ => (Pp k_ ∧ k_ < wA.heap.size) ∨ wD.heap.size ≤ k_) (fun _ => False) rfl rfl ?aP (fun _ hk => hk.elim) ?aF ?aO ?aB ?aS ?aL ?_; (case aP => exact Kd.M_row (Kd.R_nil _ _ _ _ _)); (case aF => exact fun k_ hk => .inr hk); (case aO => exact Kd.S_mono HP.out (fun k_ hk => ⟨.inl hk, fun h_ => h_⟩)); (case aB => exact HB.out); (case aS => exact below_size HB.out); (case aL => rw [List.length_replicate]; omega); intro vP1 wE ho2 hb2 hg2 hat2; obtain ⟨AP1, nP1, cP1, eP1⟩ : ∃ A n c, vP1 = .slice A n c := (by obtain ⟨A, c, h⟩ := Kd.S_slice ho2; exact ⟨A, _, c, h⟩); subst eP1; have n0_ := Aside0.mk (Kd.S_grown HN.out hg2 (fun k_ hk e_ => by have h1_ := (Kd.S_R HP.out).1 k_ e_.symm; rcases hk.1 with h2_ | h2_; exact HD.out k_ h2_ h1_.1; have h3_ := h1_.2; omega)); have n1_ := Aside0.mk (blk_grown B1.out hg2 (Kd.S_ne HP.out B1.out (by decide))); have n2_ := Aside0.mk (blk_grown B2.out hg2 (Kd.S_ne HP.out B2.out (by decide))); have n3_ := Aside0.mk (blk_grown B3.out hg2 (Kd.S_ne HP.out B3.out (by decide))); have n4_ := Aside0.mk ho2; have n5_ := Aside0.mk hb2; clear HN HP B1 B2 B3 HB ho2 hb2 hg2 hat2 hcz_B3_0 hfz_B3_0 hcz_B3_1 hfz_B3_1 hcz_B1_0 hfz_B1_0 hcz_B1_1 hfz_B1_1 hcz_B1_2 hfz_B1_2 hcz_B1_3 hfz_B1_3 hcz_B1_4 hfz_B1_4; have HN := n0_; have B1 := n1_; have B2 := n2_; have B3 := n3_; have HP := n4_; have HB := n5_; clear n0_ n1_ n2_ n3_ n4_ n5_; have hcz_B3_0 : wE.cell? ⟨g3, 0, none⟩ = some (.slice AN1 nN1 cN1) := (blk_cell B3.out 0).trans rfl; have hcz_B3_1 : wE.cell? ⟨g3, 1, none⟩ = some vP := (blk_cell B3.out 1).trans rfl; have hfz_B3_0 := blk_frozen B3.out 0; have hfz_B3_1 := blk_frozen B3.out 1))
    go_roundw
    case measure => simp [intOf]; omega
    case rel => exact ⟨m + 1, (.slice AN1 nN1 cN1), (.slice AP1 nP1 cP1), N ++ [t], (fun k_ => (Pn k_ ∨ wA.heap.size ≤ k_) ∧ k_ < wC.heap.size), (fun k_ => (Pp k_ ∧ k_ < wA.heap.size) ∨ wD.heap.size ≤ k_), by go_num, by omega, HM1, ⟨fun k_ hn hp => by have hS_ := HS.out; rcases hp with h1_ | h1_ <;> rcases hn.1 with h2_ | h2_ <;> first | exact HD.out k_ h2_ h1_.1 | (have h3_ := hn.2; omega)⟩, ⟨Kd.S_set HN.out B3.out (by decide) 1 (.slice AP1 nP1 cP1)⟩, ⟨by rw [List.replicate_succ']; exact Kd.S_set HP.out B3.out (by decide) 1 (.slice AP1 nP1 cP1)⟩, ⟨blk_far B1.out N13.out _⟩, ⟨blk_far B2.out N23.out _⟩, ⟨blk_put (cs := #[(.slice AN1 nN1 cN1), vP]) B3.out 1 (.slice AP1 nP1 cP1) rfl⟩, ⟨below_set HB.out GB3.out⟩⟩
  · obtain rfl : m = l0_4.length := by omega
    have hNe : N = r0 := Option.some.inj (HM.out.symm.trans HRW.out)
    have HN2 : Aside0 (Kd.S (Kd.slice 2 (Kd.int .i64)) 22 wr w.heap.size Pn vN r0) := ⟨by rw [← hNe]; exact HN.out⟩
    have HP2 : Aside0 (Kd.S (Kd.slice 2 (Kd.int .i64)) 22 wr w.heap.size Pp vP (prevUp r0 0)) := ⟨by show Kd.S (Kd.slice 2 (Kd.int .i64)) 22 wr w.heap.size Pp vP (List.replicate r0.length []); rw [hlen]; exact HP.out⟩
    clear HN HP HM hNe N
    obtain ⟨AN, cN, eN⟩ := Kd.S_slice HN2.out
    subst eN
    have c1 : decide ((l0_4.length : Int) < (l0_4.length : Int)) = false := decide_eq_false (by omega)
    have hcz_B1_0 : wr.cell? ⟨g1, 0, none⟩ = some (.string a0_0) := (blk_cell B1.out 0).trans rfl
    have hfz_B1_0 := blk_frozen B1.out 0
    have hcz_B1_1 : wr.cell? ⟨g1, 1, none⟩ = some (.int .i64 a0_1) := (blk_cell B1.out 1).trans rfl
    have hfz_B1_1 := blk_frozen B1.out 1
    have hcz_B1_2 : wr.cell? ⟨g1, 2, none⟩ = some (.slice A0_2 l0_2.length c0_2) := (blk_cell B1.out 2).trans rfl
    have hfz_B1_2 := blk_frozen B1.out 2
    have hcz_B1_3 : wr.cell? ⟨g1, 3, none⟩ = some (.int .i64 a0_3) := (blk_cell B1.out 3).trans rfl
    have hfz_B1_3 := blk_frozen B1.out 3
    have hcz_B1_4 : wr.cell? ⟨g1, 4, none⟩ = some (.slice A0_4 l0_4.length c0_4) := (blk_cell B1.out 4).trans rfl
    have hfz_B1_4 := blk_frozen B1.out 4
    have HLEN := Aside0.mk hlen
    clear hlen
    go_wp2
    go_loopw [5] (fun v5 w' => ∃ (m : Nat) (vP : Value) (Pn Pp : Nat → Prop), v5 = .int .i64 (m : Int) ∧ m ≤ r0.length ∧ Aside0 (∀ k_ : Nat, Pn k_ → ¬ Pp k_) ∧ Aside0 (Kd.S (Kd.slice 2 (Kd.int .i64)) 22 w' w.heap.size Pn (.slice AN r0.length cN) r0) ∧ Aside0 (Kd.S (Kd.slice 2 (Kd.int .i64)) 22 w' w.heap.size Pp vP (prevUp r0 m)) ∧ Aside0 (w'.heap[g1]? = some (.cells #[.string a0_0, .int .i64 a0_1, .slice A0_2 l0_2.length c0_2, .int .i64 a0_3, .slice A0_4 l0_4.length c0_4] 30 (0, 0))) ∧ Aside0 (w'.heap[g2]? = some (.cells #[.slice none 0 0, .slice none 0 0] 52 (0, 0))) ∧ Aside0 (w'.heap[g3]? = some (.cells #[(.slice AN r0.length cN), vP] 52 (0, 0))) ∧ Aside0 (Below w.heap.size w w')) (fun v5 _ => r0.length - (intOf v5).toNat)
    case atStart => exact ⟨0, vP, Pn, Pp, rfl, Nat.zero_le _, HD, HN2, HP2, B1, B2, B3, HB⟩
    case round =>
     clear c1 HN2 HP2 HD B2 B3 HB Pn Pp vP
     clear hcz_B1_0 hfz_B1_0 hcz_B1_1 hfz_B1_1 hcz_B1_2 hfz_B1_2 hcz_B1_3 hfz_B1_3 hcz_B1_4 hfz_B1_4
     clear B1
     obtain ⟨m, vP, Pn, Pp, rfl, hm, HD, HN, HP, B1, B2, B3, HB⟩ := hrel
     by_cases hlt : m < r0.length
     · have c1 : decide ((m : Int) < (r0.length : Int)) = true := decide_eq_true (by omega)
       obtain ⟨row, hrow⟩ : ∃ row, row = r0.getD m [] := ⟨_, rfl⟩
       obtain ⟨hrl, hrt⟩ := okRows_at HOK.out m hlt
       rw [← hrow] at hrl hrt
       have HRT := Aside0.mk hrt
       have HROW := Aside0.mk hrow
       clear hrt hrow
       have hcz_B3_0 : wr.cell? ⟨g3, 0, none⟩ = some (.slice AN r0.length cN) := (blk_cell B3.out 0).trans rfl
       have hfz_B3_0 := blk_frozen B3.out 0
       have hcz_B3_1 : wr.cell? ⟨g3, 1, none⟩ = some (vP) := (blk_cell B3.out 1).trans rfl
       have hfz_B3_1 := blk_frozen B3.out 1
       go_wp2
       go_loopw [6] (fun v6 w' => ∃ (j : Nat) (vP : Value) (Pn Pp : Nat → Prop), v6 = .int .i64 (j : Int) ∧ j ≤ row.length ∧ Aside0 (∀ k_ : Nat, Pn k_ → ¬ Pp k_) ∧ Aside0 (Kd.S (Kd.slice 2 (Kd.int .i64)) 22 w' w.heap.size Pn (.slice AN r0.length cN) r0) ∧ Aside0 (Kd.S (Kd.slice 2 (Kd.int .i64)) 22 w' w.heap.size Pp vP (pushB (prevUp r0 m) (m : Int) (row.take j))) ∧ Aside0 (w'.heap[g1]? = some (.cells #[.string a0_0, .int .i64 a0_1, .slice A0_2 l0_2.length c0_2, .int .i64 a0_3, .slice A0_4 l0_4.length c0_4] 30 (0, 0))) ∧ Aside0 (w'.heap[g2]? = some (.cells #[.slice none 0 0, .slice none 0 0] 52 (0, 0))) ∧ Aside0 (w'.heap[g3]? = some (.cells #[(.slice AN r0.length cN), vP] 52 (0, 0))) ∧ Aside0 (Below w.heap.size w w')) (fun v6 _ => row.length - (intOf v6).toNat)
       case atStart => exact ⟨0, vP, Pn, Pp, rfl, Nat.zero_le _, HD, HN, ⟨by rw [List.take_zero]; exact HP.out⟩, B1, B2, B3, HB⟩
       case round =>
        clear hcz_B3_0 hfz_B3_0 hcz_B3_1 hfz_B3_1
        clear c1 HN HP HD B1 B2 B3 HB Pn Pp vP
        obtain ⟨j, vP, Pn, Pp, rfl, hj, HD, HN, HP, B1, B2, B3, HB⟩ := hrel
        have hN := HN.out
        obtain ⟨gN, cN2, eN, _, _, _⟩ := Kd.S_form hN (by omega)
        injection eN with e1 e2 e3
        subst e1
        clear e2 e3 cN2
        obtain ⟨cx, _, hM, hcc⟩ := Kd.S_get hN [] (m : Int) (by omega) (by omega)
        obtain ⟨vx, rfl, hRi⟩ := hM
        have hcx := hcc 0 vx rfl
        rw [show ((Kd.slice 2 (Kd.int .i64))).sz = 1 from rfl, Nat.mul_one, Nat.add_zero, Int.toNat_natCast, add_plain] at hcx
        rw [Int.toNat_natCast, ← HROW.out] at hRi
        obtain ⟨AI, cI, eI⟩ := Kd.R_slice hRi
        subst eI
        have HRi := Aside0.mk hRi
        have HCX := Aside0.mk hcx
        clear hcc hN hRi
        by_cases hjl : j < row.length
        · have c1 : decide ((m : Int) < (r0.length : Int)) = true := decide_eq_true (by omega)
          have c2 : decide ((j : Int) < (row.length : Int)) = true := decide_eq_true (by omega)
          have i1 : (m : Int) < (r0.length : Int) := by omega
          have i2 : (j : Int) < (row.length : Int) := by omega
          have hcz_B3_0 : wr.cell? ⟨g3, 0, none⟩ = some (.slice (some ⟨gN, 0, none⟩) r0.length cN) := (blk_cell B3.out 0).trans rfl
          have hfz_B3_0 := blk_frozen B3.out 0
          have hcz_B3_1 : wr.cell? ⟨g3, 1, none⟩ = some (vP) := (blk_cell B3.out 1).trans rfl
          have hfz_B3_1 := blk_frozen B3.out 1
          go_upto_region 13 with (fail)
          clear hcz_B3_0 hfz_B3_0 hcz_B3_1 hfz_B3_1
          clear hcx
          have hrd := Kd.reads_of_C (d := (0 : Int)) (Kd.R_reads' HRi.out).2.2
          obtain ⟨adI, e3, hct⟩ := ReadsInt.at_ (k := .i64) hrd (j : Int) (by omega) (by omega)
          subst e3
          rw [Int.toNat_natCast] at hct
          clear hrd
          obtain ⟨htm, htk⟩ := rd_take hjl
          obtain ⟨t, ht⟩ : ∃ t, t = rd row (j : Int) := ⟨_, rfl⟩
          rw [← ht] at hct htm htk
          obtain ⟨ht0, ht1⟩ := HRT.out t htm
          have hlen := HLEN.out
          rw [← hlen] at ht1
          obtain ⟨PR, hPR⟩ : ∃ P_, P_ = pushB (prevUp r0 m) (m : Int) (row.take j) := ⟨_, rfl⟩
          have hPl : PR.length = r0.length := by rw [hPR, pushB_len, prevUp_len]
          have hP := HP.out
          rw [← hPR] at hP
          obtain ⟨gP, cP, eP, hgP, _, _⟩ := Kd.S_form hP (by omega)
          subst eP
          have hP2 : Kd.S (Kd.slice 2 (Kd.int .i64)) 22 wr.drew w.heap.size (fun k_ => (Pp k_ ∧ k_ < wr.drew.heap.size) ∨ wr.drew.heap.size ≤ k_) (.slice (some ⟨gP, 0, none⟩) PR.length cP) PR := Kd.S_drew (Kd.S_mono (Kd.S_bound hP) (fun k_ h_ => .inl ⟨h_.1, h_.2.2.1⟩))
          obtain ⟨cx2, _, hM2, hcc2⟩ := Kd.S_get hP2 [] t ht0 (by omega)
          obtain ⟨vi, rfl, hRv⟩ := hM2
          have hcv := hcc2 0 vi rfl
          rw [show ((Kd.slice 2 (Kd.int .i64))).sz = 1 from rfl, Nat.mul_one, Nat.add_zero, add_plain] at hcv
          clear hcc2 hRv
          obtain ⟨_, _, _, _, hfr⟩ := Kd.R_elem (Kd.S_R hP2) [] t ht0 (by omega)
          have hfv := hfr 0
          rw [show ((Kd.slice 2 (Kd.int .i64))).sz = 1 from rfl, Nat.mul_one, Nat.add_zero] at hfv
          clear hfr
          obtain ⟨oki, hRo, hoki, hpush⟩ := S_push hP2 t ht0 (by omega) hcv
          obtain ⟨xi, hxi⟩ : ∃ x_, x_ = PR.getD t.toNat [] := ⟨_, rfl⟩
          rw [← hxi] at hRo
          obtain ⟨AV, cV, eV⟩ := Kd.R_slice hRo
          subst eV
          have hxl : xi.length ≤ m * 2000000 + j := by
           have h1_ := pushB_row (m : Int) t.toNat (row.take j) (prevUp r0 m)
           have h2_ := prevUp_row HOK.out t.toNat m (by omega)
           rw [List.length_take] at h1_
           rw [hxi, hPR]
           omega
          have hxb : (xi.length + 1) * 8 ≤ 140737488355328 := by
           omega
          have hset : pushB (prevUp r0 m) (m : Int) (row.take (j + 1)) = PR.set t.toNat (xi ++ [(m : Int)]) := by rw [htk, pushB_snoc, ← hPR, ← hxi]
          have HSET := Aside0.mk hset
          have HXB := Aside0.mk hxb
          have i3 : t < (PR.length : Int) := by omega
          clear hset hxb hxl ht1 htm htk hPR hxi ht hPl hlen
          have HWA := Aside0.mk (show w.heap.size ≤ wr.drew.heap.size from below_size (below_drew HB.out))
          have HGP := Aside0.mk (show w.heap.size ≤ gP from hgP)
          have HCT := Aside0.mk (show wr.drew.cell? (adI.add j) = some (.int .i64 t) from hct)
          have n0_ := Aside0.mk (show wr.drew.cell? ⟨gN, m, none⟩ = some (.slice (some adI) row.length cI) from HCX.out)
          have HCV := Aside0.mk hcv
          have HFV := Aside0.mk hfv
          have HPU := Aside0.mk hpush
          have HOI := Aside0.mk hoki
          have HRO := Aside0.mk hRo
          have n1_ := Aside0.mk (Kd.S_drew (Kd.S_mono (Kd.S_bound HN.out) (fun k_ h_ => (⟨h_.1, h_.2.2.1⟩ : Pn k_ ∧ k_ < wr.drew.heap.size))))
          have n2_ := Aside0.mk (Kd.R_drew HRi.out)
          have n3_ := Aside0.mk hP2
          have n4_ := Aside0.mk (blk_drew B1.out)
          have n5_ := Aside0.mk (blk_drew B2.out)
          have n6_ := Aside0.mk (blk_drew B3.out)
          have n7_ := Aside0.mk (below_drew HB.out)
          clear HCX hct hcv hfv hpush hoki hRo HN HRi hP2 hP HP B1 B2 B3 HB hgP
          have HCX := n0_
          have HN := n1_
          have HRi := n2_
          have HP := n3_
          have B1 := n4_
          have B2 := n5_
          have B3 := n6_
          have HB := n7_
          clear n0_ n1_ n2_ n3_ n4_ n5_ n6_ n7_
          refine start_ (n := 27) (S := fun w' => w'.cell? ⟨g3, 0, none⟩ = some (.slice (some ⟨gN, 0, none⟩) r0.length cN) ∧ w'.cell? ⟨g3, 1, none⟩ = some (.slice (some ⟨gP, 0, none⟩) PR.length cP) ∧ w'.cell? ⟨gN, m, none⟩ = some (.slice (some adI) row.length cI) ∧ w'.cell? (adI.add j) = some (.int .i64 t) ∧ w'.cell? ⟨gP, t.toNat, none⟩ = some (.slice AV xi.length cV)) (ds := [26]) #[false, false, false, false, false, false, false, false, false, false, false, false, false, false, false, false, false, false, false, false, false, false, false, false, false, false, false] (by kernel_rfl) rfl rfl ⟨(blk_cell B3.out 0).trans rfl, (blk_cell B3.out 1).trans rfl, HCX.out, HCT.out, HCV.out⟩ (fun hHeld => ?_)
          generalize wr.drew = wA at HWA HCT HCX HCV HFV HPU HOI HRO HN HRi HP B1 B2 B3 HB hHeld ⊢
          refine pure_ (i := 0) (N := some 45) (v := ?_) (a' := ?_) #[true, false, false, false, false, false, false, false, false, false, false, false, false, false, false, false, false, false, false, false, false, false, false, false, false, false, false] rfl rfl (by kernel_rfl) (fun _ _ _ h => h) (Or.inl ⟨by rfl, ?_⟩) ?_ ?_
          rotate_left
          · intro w'
            go_simp
            with_reducible rfl
          rotate_left
          · simp only [Act.put, List.setIfInBounds_toArray, List.set_cons_zero, List.set_cons_succ, i64_w, i32_w]
            rfl
          refine pure_ (i := 2) (N := some 47) (v := ?_) (a' := ?_) #[true, false, true, false, false, false, false, false, false, false, false, false, false, false, false, false, false, false, false, false, false, false, false, false, false, false, false] rfl rfl (by kernel_rfl) (fun _ _ _ h => h) (Or.inl ⟨by rfl, ?_⟩) ?_ ?_
          rotate_left
          · intro w'
            go_simp
            with_reducible rfl
          rotate_left
          · simp only [Act.put, List.setIfInBounds_toArray, List.set_cons_zero, List.set_cons_succ, i64_w, i32_w]
            rfl
          refine pure_ (i := 4) (N := some 49) (v := ?_) (a' := ?_) #[true, false, true, false, true, false, false, false, false, false, false, false, false, false, false, false, false, false, false, false, false, false, false, false, false, false, false] rfl rfl (by kernel_rfl) (fun _ _ _ h => h) (Or.inl ⟨by rfl, ?_⟩) ?_ ?_
          rotate_left
          · intro w'
            go_simp
            with_reducible rfl
          rotate_left
          · simp only [Act.put, List.setIfInBounds_toArray, List.set_cons_zero, List.set_cons_succ, i64_w, i32_w]
            rfl
          refine pure_ (i := 7) (N := some 52) (v := ?_) (a' := ?_) #[true, false, true, false, true, false, false, true, false, false, false, false, false, false, false, false, false, false, false, false, false, false, false, false, false, false, false] rfl rfl (by kernel_rfl) (fun _ _ _ h => h) (Or.inl ⟨by rfl, ?_⟩) ?_ ?_
          rotate_left
          · intro w'
            go_simp
            with_reducible rfl
          rotate_left
          · simp only [Act.put, List.setIfInBounds_toArray, List.set_cons_zero, List.set_cons_succ, i64_w, i32_w]
            rfl
          refine pure_ (i := 10) (N := some 55) (v := ?_) (a' := ?_) #[true, false, true, false, true, false, false, true, false, false, true, false, false, false, false, false, false, false, false, false, false, false, false, false, false, false, false] rfl rfl (by kernel_rfl) (fun _ _ _ h => h) (Or.inl ⟨by rfl, ?_⟩) ?_ ?_
          rotate_left
          · intro w'
            go_simp
            with_reducible rfl
          rotate_left
          · simp only [Act.put, List.setIfInBounds_toArray, List.set_cons_zero, List.set_cons_succ, i64_w, i32_w]
            rfl
          refine pure_ (i := 12) (N := some 57) (v := ?_) (a' := ?_) #[true, false, true, false, true, false, false, true, false, false, true, false, true, false, false, false, false, false, false, false, false, false, false, false, false, false, false] rfl rfl (by kernel_rfl) (fun _ _ _ h => h) (Or.inl ⟨by rfl, ?_⟩) ?_ ?_
          rotate_left
          · intro w'
            go_simp
            with_reducible rfl
          rotate_left
          · simp only [Act.put, List.setIfInBounds_toArray, List.set_cons_zero, List.set_cons_succ, i64_w, i32_w]
            rfl
          refine pure_ (i := 14) (N := some 59) (v := ?_) (a' := ?_) #[true, false, true, false, true, false, false, true, false, false, true, false, true, false, true, false, false, false, false, false, false, false, false, false, false, false, false] rfl rfl (by kernel_rfl) (fun _ _ _ h => h) (Or.inl ⟨by rfl, ?_⟩) ?_ ?_
          rotate_left
          · intro w'
            go_simp
            with_reducible rfl
          rotate_left
          · simp only [Act.put, List.setIfInBounds_toArray, List.set_cons_zero, List.set_cons_succ, i64_w, i32_w]
            rfl
          refine pure_ (i := 17) (N := some 62) (v := ?_) (a' := ?_) #[true, false, true, false, true, false, false, true, false, false, true, false, true, false, true, false, false, true, false, false, false, false, false, false, false, false, false] rfl rfl (by kernel_rfl) (fun _ _ _ h => h) (Or.inl ⟨by rfl, ?_⟩) ?_ ?_
          rotate_left
          · intro w'
            go_simp
            with_reducible rfl
          rotate_left
          · simp only [Act.put, List.setIfInBounds_toArray, List.set_cons_zero, List.set_cons_succ, i64_w, i32_w]
            rfl
          refine pure_ (i := 22) (N := some 67) (v := ?_) (a' := ?_) #[true, false, true, false, true, false, false, true, false, false, true, false, true, false, true, false, false, true, false, false, false, false, true, false, false, false, false] rfl rfl (by kernel_rfl) (fun _ _ _ h => h) (Or.inl ⟨by rfl, ?_⟩) ?_ ?_
          rotate_left
          · intro w'
            go_simp
            with_reducible rfl
          rotate_left
          · simp only [Act.put, List.setIfInBounds_toArray, List.set_cons_zero, List.set_cons_succ, i64_w, i32_w]
            rfl
          refine take_ (i := 1) (N := some 46) (v := ?_) (a' := ?_) #[true, true, true, false, true, false, false, true, false, false, true, false, true, false, true, false, false, true, false, false, false, false, true, false, false, false, false] rfl rfl (by kernel_rfl) (fun _ _ _ h => h) (Or.inl ⟨by rfl, ?_⟩) hHeld ?_ ?_
          rotate_left
          · rintro w' ⟨s0, s1, s2, s3, s4⟩
            go_simp
            with_reducible rfl
          rotate_left
          · simp only [Act.put, List.setIfInBounds_toArray, List.set_cons_zero, List.set_cons_succ, i64_w, i32_w]
            rfl
          refine take_ (i := 3) (N := some 48) (v := ?_) (a' := ?_) #[true, true, true, true, true, false, false, true, false, false, true, false, true, false, true, false, false, true, false, false, false, false, true, false, false, false, false] rfl rfl (by kernel_rfl) (fun _ _ _ h => h) (Or.inl ⟨by rfl, ?_⟩) hHeld ?_ ?_
          rotate_left
          · rintro w' ⟨s0, s1, s2, s3, s4⟩
            go_simp
            with_reducible rfl
          rotate_left
          · simp only [Act.put, List.setIfInBounds_toArray, List.set_cons_zero, List.set_cons_succ, i64_w, i32_w]
            rfl
          refine pure_ (i := 5) (N := some 50) (v := ?_) (a' := ?_) #[true, true, true, true, true, true, false, true, false, false, true, false, true, false, true, false, false, true, false, false, false, false, true, false, false, false, false] rfl rfl (by kernel_rfl) (fun _ _ _ h => h) (Or.inl ⟨by rfl, ?_⟩) ?_ ?_
          rotate_left
          · intro w'
            go_simp
            with_reducible rfl
          rotate_left
          · simp only [Act.put, List.setIfInBounds_toArray, List.set_cons_zero, List.set_cons_succ, i64_w, i32_w]
            rfl
          refine take_ (i := 6) (N := some 51) (v := ?_) (a' := ?_) #[true, true, true, true, true, true, true, true, false, false, true, false, true, false, true, false, false, true, false, false, false, false, true, false, false, false, false] rfl rfl (by kernel_rfl) (fun _ _ _ h => h) (Or.inl ⟨by rfl, ?_⟩) hHeld ?_ ?_
          rotate_left
          · rintro w' ⟨s0, s1, s2, s3, s4⟩
            go_simp
            with_reducible rfl
          rotate_left
          · simp only [Act.put, List.setIfInBounds_toArray, List.set_cons_zero, List.set_cons_succ, i64_w, i32_w]
            rfl
          refine pure_ (i := 8) (N := some 53) (v := ?_) (a' := ?_) #[true, true, true, true, true, true, true, true, true, false, true, false, true, false, true, false, false, true, false, false, false, false, true, false, false, false, false] rfl rfl (by kernel_rfl) (fun _ _ _ h => h) (Or.inl ⟨by rfl, ?_⟩) ?_ ?_
          rotate_left
          · intro w'
            go_simp
            with_reducible rfl
          rotate_left
          · simp only [Act.put, List.setIfInBounds_toArray, List.set_cons_zero, List.set_cons_succ, i64_w, i32_w]
            rfl
          refine take_ (i := 9) (N := some 54) (v := ?_) (a' := ?_) #[true, true, true, true, true, true, true, true, true, true, true, false, true, false, true, false, false, true, false, false, false, false, true, false, false, false, false] rfl rfl (by kernel_rfl) (fun _ _ _ h => h) (Or.inl ⟨by rfl, ?_⟩) hHeld ?_ ?_
          rotate_left
          · rintro w' ⟨s0, s1, s2, s3, s4⟩
            go_simp
            with_reducible rfl
          rotate_left
          · simp only [Act.put, List.setIfInBounds_toArray, List.set_cons_zero, List.set_cons_succ, i64_w, i32_w]
            rfl
          refine take_ (i := 11) (N := some 56) (v := ?_) (a' := ?_) #[true, true, true, true, true, true, true, true, true, true, true, true, true, false, true, false, false, true, false, false, false, false, true, false, false, false, false] rfl rfl (by kernel_rfl) (fun _ _ _ h => h) (Or.inl ⟨by rfl, ?_⟩) hHeld ?_ ?_
          rotate_left
          · rintro w' ⟨s0, s1, s2, s3, s4⟩
            go_simp
            with_reducible rfl
          rotate_left
          · simp only [Act.put, List.setIfInBounds_toArray, List.set_cons_zero, List.set_cons_succ, i64_w, i32_w]
            rfl
          refine take_ (i := 13) (N := some 58) (v := ?_) (a' := ?_) #[true, true, true, true, true, true, true, true, true, true, true, true, true, true, true, false, false, true, false, false, false, false, true, false, false, false, false] rfl rfl (by kernel_rfl) (fun _ _ _ h => h) (Or.inl ⟨by rfl, ?_⟩) hHeld ?_ ?_
          rotate_left
          · rintro w' ⟨s0, s1, s2, s3, s4⟩
            go_simp
            with_reducible rfl
          rotate_left
          · simp only [Act.put, List.setIfInBounds_toArray, List.set_cons_zero, List.set_cons_succ, i64_w, i32_w]
            rfl
          refine pure_ (i := 15) (N := some 60) (v := ?_) (a' := ?_) #[true, true, true, true, true, true, true, true, true, true, true, true, true, true, true, true, false, true, false, false, false, false, true, false, false, false, false] rfl rfl (by kernel_rfl) (fun _ _ _ h => h) (Or.inl ⟨by rfl, ?_⟩) ?_ ?_
          rotate_left
          · intro w'
            go_simp
            with_reducible rfl
          rotate_left
          · simp only [Act.put, List.setIfInBounds_toArray, List.set_cons_zero, List.set_cons_succ, i64_w, i32_w]
            rfl
          refine take_ (i := 16) (N := some 61) (v := ?_) (a' := ?_) #[true, true, true, true, true, true, true, true, true, true, true, true, true, true, true, true, true, true, false, false, false, false, true, false, false, false, false] rfl rfl (by kernel_rfl) (fun _ _ _ h => h) (Or.inl ⟨by rfl, ?_⟩) hHeld ?_ ?_
          rotate_left
          · rintro w' ⟨s0, s1, s2, s3, s4⟩
            go_simp
            with_reducible rfl
          rotate_left
          · simp only [Act.put, List.setIfInBounds_toArray, List.set_cons_zero, List.set_cons_succ, i64_w, i32_w]
            rfl
          refine pure_ (i := 18) (N := some 63) (v := ?_) (a' := ?_) #[true, true, true, true, true, true, true, true, true, true, true, true, true, true, true, true, true, true, true, false, false, false, true, false, false, false, false] rfl rfl (by kernel_rfl) (fun _ _ _ h => h) (Or.inl ⟨by rfl, ?_⟩) ?_ ?_
          rotate_left
          · intro w'
            go_simp
            with_reducible rfl
          rotate_left
          · simp only [Act.put, List.setIfInBounds_toArray, List.set_cons_zero, List.set_cons_succ, i64_w, i32_w]
            rfl
          refine take_ (i := 19) (N := some 64) (v := ?_) (a' := ?_) #[true, true, true, true, true, true, true, true, true, true, true, true, true, true, true, true, true, true, true, true, false, false, true, false, false, false, false] rfl rfl (by kernel_rfl) (fun _ _ _ h => h) (Or.inl ⟨by rfl, ?_⟩) hHeld ?_ ?_
          rotate_left
          · rintro w' ⟨s0, s1, s2, s3, s4⟩
            go_simp
            with_reducible rfl
          rotate_left
          · simp only [Act.put, List.setIfInBounds_toArray, List.set_cons_zero, List.set_cons_succ, i64_w, i32_w]
            rfl
          refine pure_ (i := 20) (N := some 65) (v := ?_) (a' := ?_) #[true, true, true, true, true, true, true, true, true, true, true, true, true, true, true, true, true, true, true, true, true, false, true, false, false, false, false] rfl rfl (by kernel_rfl) (fun _ _ _ h => h) (Or.inl ⟨by rfl, ?_⟩) ?_ ?_
          rotate_left
          · intro w'
            go_simp
            with_reducible rfl
          rotate_left
          · simp only [Act.put, List.setIfInBounds_toArray, List.set_cons_zero, List.set_cons_succ, i64_w, i32_w]
            rfl
          refine take_ (i := 21) (N := some 66) (v := ?_) (a' := ?_) #[true, true, true, true, true, true, true, true, true, true, true, true, true, true, true, true, true, true, true, true, true, true, true, false, false, false, false] rfl rfl (by kernel_rfl) (fun _ _ _ h => h) (Or.inl ⟨by rfl, ?_⟩) hHeld ?_ ?_
          rotate_left
          · rintro w' ⟨s0, s1, s2, s3, s4⟩
            go_simp
            with_reducible rfl
          rotate_left
          · simp only [Act.put, List.setIfInBounds_toArray, List.set_cons_zero, List.set_cons_succ, i64_w, i32_w]
            rfl
          refine one_ (i := 23) (N := some 68) #[true, true, true, true, true, true, true, true, true, true, true, true, true, true, true, true, true, true, true, true, true, true, true, true, false, false, false] rfl rfl (by kernel_rfl) (by decide) (fun K hK => ?_)
          refine value_ (w1 := ?_) (v := ?_) (by rfl) rfl ?_ ?_
          rotate_left 2
          · go_simp
            constructor
            · rfl
            · rfl
          refine hK.out _ _ ⟨(blk_cell (blk_alloc B3.out _) 0).trans rfl, (blk_cell (blk_alloc B3.out _) 1).trans rfl, cell_al HCX.out _, cell_al HCT.out _, cell_al HCV.out _⟩ (fun hHeld => ?_)
          clear hK K
          refine norm_ (a' := ?_) ?_ ?_
          rotate_left
          · show Act.put _ (some 68) _ = _
            simp only [Act.put, List.setIfInBounds_toArray, List.set_cons_zero, List.set_cons_succ, i64_w, i32_w]
            rfl
          refine one_ (i := 24) (N := some 69) #[true, true, true, true, true, true, true, true, true, true, true, true, true, true, true, true, true, true, true, true, true, true, true, true, true, false, false] rfl rfl (by kernel_rfl) (by decide) (fun K hK => ?_)
          refine Kd.R_append_step (Kd.int .i64) (w0 := w) w.heap.size (by rfl) (.tmp 66) (.tmp 68) 22 2 (.int .i64 0) 8 rfl Try.underlying22 (by kernel_rfl) rfl (by decide) (by omega) (.slice AV xi.length cV) xi (m : Int) [.int .i64 (m : Int)] (fun k_ => oki k_ ∨ ((Pp k_ ∧ k_ < wA.heap.size) ∨ wA.heap.size ≤ k_) ∧ wA.heap.size ≤ k_) (fun _ => False) rfl rfl ?aP (fun _ hk => hk.elim) ?aF ?aO ?aB ?aS ?aL ?_
          (case aP => exact rfl)
          (case aF => exact fun k_ hk => .inr ⟨.inr hk, hk⟩)
          (case aO => exact Kd.R_mono HRO.out (fun _ hk => .inl hk))
          (case aB => exact HB.out)
          (case aS => exact HWA.out)
          (case aL => exact HXB.out)
          intro v1 wC ho1 hb1 hg1 hat1
          obtain ⟨A1, n1, c1_, ev1⟩ : ∃ A n c, v1 = .slice A n c := by obtain ⟨A, c, h⟩ := Kd.R_slice ho1; exact ⟨A, _, c, h⟩
          subst ev1
          have hne1 : ∀ k_ : Nat, Pn k_ → k_ < wA.heap.size → some k_ ≠ (.slice AV xi.length cV : Value).ownBlock := fun k_ h1_ h2_ e_ => by
           rcases (HOI.out k_ (HRO.out.1 k_ e_.symm)).1 with h3_ | h3_
           · exact HD.out k_ h1_ h3_.1
           · omega
          have hne2 : some gP ≠ (.slice AV xi.length cV : Value).ownBlock := fun e_ => (HOI.out gP (HRO.out.1 gP e_.symm)).2 rfl
          have hgN := ((Kd.S_R HN.out).1 gN rfl)
          have hgI := (HRi.out.1 adI.block (by simp [Value.ownBlock])).1
          have hab : (adI.add j).block = adI.block := by unfold Addr.add; split <;> rfl
          have hgI2 : adI.block < wA.heap.size := hab ▸ World.block_lt_of_cell? wA _ HCT.out
          have HP0 := HP
          have HG1 := Aside0.mk (fun e_ : g1 = gP => Kd.S_ne HP.out B1.out (by decide) (by rw [e_]; rfl))
          have HG2 := Aside0.mk (fun e_ : g2 = gP => Kd.S_ne HP.out B2.out (by decide) (by rw [e_]; rfl))
          have HG3 := Aside0.mk (fun e_ : g3 = gP => Kd.S_ne HP.out B3.out (by decide) (by rw [e_]; rfl))
          have n0_ := Aside0.mk (Kd.S_grown HN.out hg1 (fun k_ hk => hne1 k_ hk.1 hk.2))
          have n1_ := Aside0.mk (HPU.out wC _ _ hg1 ho1)
          have n2_ := Aside0.mk (blk_grown B1.out hg1 (Kd.R_ne HRO.out B1.out (by decide)))
          have n3_ := Aside0.mk (blk_grown B2.out hg1 (Kd.R_ne HRO.out B2.out (by decide)))
          have n4_ := Aside0.mk (blk_grown B3.out hg1 (Kd.R_ne HRO.out B3.out (by decide)))
          have n5_ := Aside0.mk (hb1)
          have n6_ := Aside0.mk (cell_grown hg1 HCX.out (hne1 gN hgN.1 hgN.2))
          have n7_ := Aside0.mk (cell_grown hg1 HCT.out (by rw [hab]; exact hne1 _ hgI hgI2))
          have n8_ := Aside0.mk (frozen_gr hg1 HCV.out HFV.out hne2)
          have n9_ := Aside0.mk (cell_grown hg1 HCV.out hne2)
          clear HN HP B1 B2 B3 HB HCX HCT HFV HCV
          have HN := n0_
          have HP := n1_
          have B1 := n2_
          have B2 := n3_
          have B3 := n4_
          have HB := n5_
          have HCX := n6_
          have HCT := n7_
          have HFV := n8_
          have HCV := n9_
          clear n0_ n1_ n2_ n3_ n4_ n5_ n6_ n7_ n8_ n9_
          have hPgP : (Pp gP ∧ gP < wA.heap.size) ∨ wA.heap.size ≤ gP := (Kd.S_R HP0.out).1 gP rfl
          have HNP := Aside0.mk (show ∀ k_ : Nat, (Pn k_ ∧ k_ < wA.heap.size) → k_ ≠ gP from fun k_ hk e_ => by subst e_; rcases hPgP with h3_ | h3_; exact HD.out _ hk.1 h3_.1; have := hk.2; omega)
          clear hPgP HP0
          clear ho1 hb1 hat1 hne1 hne2 hgN hgI hgI2 hab hg1 HPU
          have hfzC := HFV.out
          refine hK.out _ _ ⟨(blk_cell B3.out 0).trans rfl, (blk_cell B3.out 1).trans rfl, HCX.out, HCT.out, HCV.out⟩ (fun hHeld => ?_)
          clear hK K
          refine norm_ (a' := ?_) ?_ ?_
          rotate_left
          · show Act.put _ (some 69) _ = _
            simp only [Act.put, List.setIfInBounds_toArray, List.set_cons_zero, List.set_cons_succ, i64_w, i32_w]
            rfl
          refine pure_ (i := 25) (N := some 70) (v := ?_) (a' := ?_) #[true, true, true, true, true, true, true, true, true, true, true, true, true, true, true, true, true, true, true, true, true, true, true, true, true, true, false] rfl rfl (by kernel_rfl) (fun _ _ _ h => h) (Or.inl ⟨by rfl, ?_⟩) ?_ ?_
          rotate_left
          · intro w'
            go_simp
            with_reducible rfl
          rotate_left
          · simp only [Act.put, List.setIfInBounds_toArray, List.set_cons_zero, List.set_cons_succ, i64_w, i32_w]
            rfl
          refine last_ (i := 26) (N := none) #[true, true, true, true, true, true, true, true, true, true, true, true, true, true, true, true, true, true, true, true, true, true, true, true, true, true, true] rfl rfl (by kernel_rfl) (by decide) (fun K hK => ?_)
          refine skip_ (w1 := ?_) (by rfl) rfl ?_ ?_
          rotate_left
          · go_simp
            rfl
          refine hK.out _ _ ?_
          clear hK K
          refine done_ (by kernel_rfl) ?_
          go_wp2
          go_roundw
          case measure => simp [intOf]; omega
          case rel => exact ⟨j + 1, .slice (some ⟨gP, 0, none⟩) PR.length cP, (fun k_ => Pn k_ ∧ k_ < wA.heap.size), (fun k_ => (Pp k_ ∧ k_ < wA.heap.size) ∨ wA.heap.size ≤ k_), by go_num, by omega, ⟨fun k_ hn hp => by rcases hp with h1_ | h1_; exact HD.out k_ hn.1 h1_.1; have := hn.2; omega⟩, ⟨Kd.S_far HN.out HNP.out _⟩, ⟨by rw [HSET.out]; exact HP.out⟩, ⟨blk_far B1.out HG1.out _⟩, ⟨blk_far B2.out HG2.out _⟩, ⟨blk_far B3.out HG3.out _⟩, ⟨below_set HB.out HGP.out⟩⟩
        · obtain rfl : j = row.length := by omega
          have c1 : decide ((m : Int) < (r0.length : Int)) = true := decide_eq_true (by omega)
          have c2 : decide ((row.length : Int) < (row.length : Int)) = false := decide_eq_false (by omega)
          have i1 : (m : Int) < (r0.length : Int) := by omega
          have hcz_B3_0 : wr.cell? ⟨g3, 0, none⟩ = some (.slice (some ⟨gN, 0, none⟩) r0.length cN) := (blk_cell B3.out 0).trans rfl
          have hfz_B3_0 := blk_frozen B3.out 0
          have hcz_B3_1 : wr.cell? ⟨g3, 1, none⟩ = some (vP) := (blk_cell B3.out 1).trans rfl
          have hfz_B3_1 := blk_frozen B3.out 1
          go_wp2
          go_roundw
          case measure => have hlen := HLEN.out; rw [IntWalk.wrap64_in ((m : Int) + 1) (by omega)]; simp [intOf]; omega
          case rel => have hlen := HLEN.out; exact ⟨m + 1, vP, Pn, Pp, by rw [IntWalk.wrap64_in ((m : Int) + 1) (by omega)]; rfl, by omega, HD, HN, ⟨by have h_ := HP.out; rw [List.take_length] at h_; rw [prevUp, ← HROW.out]; exact h_⟩, B1, B2, B3, HB⟩
     · obtain rfl : m = r0.length := by omega
       have c1 : decide ((r0.length : Int) < (r0.length : Int)) = false := decide_eq_false (by omega)
       obtain ⟨AP, nP, cP, eP⟩ : ∃ A n c, vP = .slice A n c := by obtain ⟨A, c, h⟩ := Kd.S_slice HP.out; exact ⟨A, _, c, h⟩
       subst eP
       have hcz_B3_0 : wr.cell? ⟨g3, 0, none⟩ = some (.slice AN r0.length cN) := (blk_cell B3.out 0).trans rfl
       have hfz_B3_0 := blk_frozen B3.out 0
       have hcz_B3_1 : wr.cell? ⟨g3, 1, none⟩ = some (.slice AP nP cP) := (blk_cell B3.out 1).trans rfl
       have hfz_B3_1 := blk_frozen B3.out 1
       have hcz_B2_0 : wr.cell? ⟨g2, 0, none⟩ = some (.slice none 0 0) := (blk_cell B2.out 0).trans rfl
       have hfz_B2_0 := blk_frozen B2.out 0
       have hcz_B2_1 : wr.cell? ⟨g2, 1, none⟩ = some (.slice none 0 0) := (blk_cell B2.out 1).trans rfl
       have hfz_B2_1 := blk_frozen B2.out 1
       have hnb := N23.out
       have hnc := Ne.symm N23.out
       go_wp2
       refine bodyPost_ret (results_cell_row rfl _ _ g2 52 #[.slice AN r0.length cN, .slice AP nP cP] (0, 0) _ rfl (blk_put (cs := #[.slice AN r0.length cN, .slice none 0 0]) (blk_put (cs := #[.slice none 0 0, .slice none 0 0]) B2.out 0 (.slice AN r0.length cN) rfl) 1 (.slice AP nP cP) rfl) Try.underlying52 rfl (by kernel_rfl)) rfl ?_
       exact ⟨_, _, rfl, Kd.S_mono (Kd.S_set (Kd.S_set HN.out B2.out (by decide) 0 _) (blk_put (cs := #[.slice none 0 0, .slice none 0 0]) (cs' := #[.slice AN r0.length cN, .slice none 0 0]) B2.out 0 (.slice AN r0.length cN) rfl) (by decide) 1 _) (fun k_ hk e_ => HD.out k_ hk ((Kd.S_R HP.out).1 k_ e_.symm)), by rw [← HLEN.out]; exact Kd.S_mono (Kd.S_set (Kd.S_set HP.out B2.out (by decide) 0 _) (blk_put (cs := #[.slice none 0 0, .slice none 0 0]) (cs' := #[.slice AN r0.length cN, .slice none 0 0]) B2.out 0 (.slice AN r0.length cN) rfl) (by decide) 1 _) (fun k_ hk e_ => HD.out k_ ((Kd.S_R HN.out).1 k_ e_.symm) hk), below_set (below_set HB.out GB2.out) GB2.out⟩

end Go.Proofs.Ytoedcnhgobbnfaa.All


namespace Go.Proofs.Ytoedcnhgobbnfaa.All
open Go.RowKit Go.Proofs.YtoedcnhgobbnfaaW.PrintWords Go.Proofs.YtoedcnhgobbnfaaW.PrintLast Go.Proofs.YtoedcnhgobbnfaaW.PrintMore
attribute [local go_sem] max2_int min2_int max_two min_two max_three min_three max_four min_four   -- for this text's walks alone
set_option linter.unusedVariables false
set_option linter.unusedSimpArgs false

/-! ### spec_l4LongOrder: function 55 -/
mutual
def spec_l4LongOrder.l0 : Nat → List Bool → List Int → List Int → List Int → List (List Int) → List (List Int) → Option (List Int)
 | 0, _, _, _, _, _, _ => none
 | k + 1, x4, x5, x6, x7, x559000, x559001 => if (x5.length : Int) > 0 then (if 0 ≤ (wrap64 ((x5.length : Int) - 1)) then (if (wrap64 ((x5.length : Int) - 1)) < (x5.length : Int) then (if (wrap64 ((x5.length : Int) - 1)) < (x6.length : Int) then (if 0 ≤ (rd x5 (wrap64 ((x5.length : Int) - 1))) then (if (rd x5 (wrap64 ((x5.length : Int) - 1))) < (x559000.length : Int) then (if (rd x6 (wrap64 ((x5.length : Int) - 1))) = ((rd_L4 x559000 (rd x5 (wrap64 ((x5.length : Int) - 1)))).length : Int) then (if x7.length < 17592186044416 then (if (wrap64 ((x5.length : Int) - 1)) ≤ (x5.length : Int) then (if (wrap64 ((x5.length : Int) - 1)) ≤ (x6.length : Int) then (spec_l4LongOrder.l0 k x4 (x5.take ((wrap64 ((x5.length : Int) - 1)) : Int).toNat) (x6.take ((wrap64 ((x5.length : Int) - 1)) : Int).toNat) (x7 ++ [rd x5 (wrap64 ((x5.length : Int) - 1))]) x559000 x559001) else (none)) else (none)) else (none)) else (if 0 ≤ (rd x6 (wrap64 ((x5.length : Int) - 1))) then (if (rd x6 (wrap64 ((x5.length : Int) - 1))) < ((rd_L4 x559000 (rd x5 (wrap64 ((x5.length : Int) - 1)))).length : Int) then ((some (x6.set ((wrap64 ((x5.length : Int) - 1)) : Int).toNat (wrap64 ((rd x6 (wrap64 ((x5.length : Int) - 1))) + 1)) : List Int)).bind fun y588 => (if 0 ≤ (rd (rd_L4 x559000 (rd x5 (wrap64 ((x5.length : Int) - 1)))) (rd x6 (wrap64 ((x5.length : Int) - 1)))) then (if (rd (rd_L4 x559000 (rd x5 (wrap64 ((x5.length : Int) - 1)))) (rd x6 (wrap64 ((x5.length : Int) - 1)))) < (x4.length : Int) then (if (rdOf false x4 (rd (rd_L4 x559000 (rd x5 (wrap64 ((x5.length : Int) - 1)))) (rd x6 (wrap64 ((x5.length : Int) - 1)))) = true) then (spec_l4LongOrder.l0 k x4 x5 y588 x7 x559000 x559001) else (if x5.length < 17592186044416 then (if y588.length < 17592186044416 then (spec_l4LongOrder.l0 k (x4.set ((rd (rd_L4 x559000 (rd x5 (wrap64 ((x5.length : Int) - 1)))) (rd x6 (wrap64 ((x5.length : Int) - 1)))) : Int).toNat true) (x5 ++ [rd (rd_L4 x559000 (rd x5 (wrap64 ((x5.length : Int) - 1)))) (rd x6 (wrap64 ((x5.length : Int) - 1)))]) (y588 ++ [0]) x7 x559000 x559001) else (none)) else (none))) else (none)) else (none))) else (none)) else (none))) else (none)) else (none)) else (none)) else (none)) else (none)) else (spec_l4LongOrder.l1 k x7 (([] : List Int)) (wrap64 ((x7.length : Int) - 1)))
def spec_l4LongOrder.l1 : Nat → List Int → List Int → Int → Option (List Int)
 | 0, _, _, _ => none
 | k + 1, x7, x11, x12 => if x12 ≥ 0 then (if 0 ≤ x12 then (if x12 < (x7.length : Int) then (if x11.length < 17592186044416 then (spec_l4LongOrder.l1 k x7 (x11 ++ [rd x7 x12]) (wrap64 (x12 - 1))) else (none)) else (none)) else (none)) else (some x11)
end
def spec_l4LongOrder.f (k : Nat) (a0_0 : ByteArray) (a0_1 : Int) (l0_2 : List Int) (a0_3 : Int) (l0_4 : List (S62)) : Option (List Int) := (spec_l4Build.f k a0_0 a0_1 l0_2 a0_3 l0_4).bind fun bt552 => (if 0 ≤ (bt552.1.length : Int) then (if ((bt552.1.length : Int) : Int).toNat ≤ 281474976710656 then ((some (List.replicate ((bt552.1.length : Int) : Int).toNat false : List Bool)).bind fun y559 => (if 0 < (y559.length : Int) then (spec_l4LongOrder.l0 k (y559.set (0 : Int).toNat true) (([0] : List Int)) (([0] : List Int)) (([] : List Int)) bt552.1 bt552.2) else (none))) else (none)) else (none))
set_option maxHeartbeats 8000000 in
set_option maxRecDepth 100000 in
theorem spec_l4LongOrder.calls (k : Nat) (a0_0 : ByteArray) (a0_1 : Int) (A0_2 : Option Addr) (c0_2 : Nat) (l0_2 : List Int) (a0_3 : Int) (A0_4 : Option Addr) (c0_4 : Nat) (l0_4 : List (S62)) (r : List Int) (w : World) (hr0_2 : Kd.C (Kd.int .i64) w A0_2 l0_2.length l0_2) (hc0_2 : l0_2.length ≤ c0_2) (hr0_4 : Kd.C k62 w A0_4 l0_4.length l0_4) (hc0_4 : l0_4.length ≤ c0_4) (h : spec_l4LongOrder.f k a0_0 a0_1 l0_2 a0_3 l0_4 = some r) :
 Calls Try.prog 55 #[.agg #[.string a0_0, .int .i64 a0_1, .slice A0_2 l0_2.length c0_2, .int .i64 a0_3, .slice A0_4 l0_4.length c0_4]] w fun e w' => ∃ v0_ : Value, e = .returned (v0_) ∧ Kd.R (Kd.int .i64) 2 w' w.heap.size (fun _ => True) v0_ r ∧ Below w.heap.size w w' := by
 have hu30 := Try.underlying30
 have hu52 := Try.underlying52
 have HR0_2 := Aside0.mk hr0_2
 have HC0_2 := Aside0.mk hc0_2
 clear hr0_2 hc0_2
 have HR0_4 := Aside0.mk hr0_4
 have HC0_4 := Aside0.mk hc0_4
 clear hr0_4 hc0_4
 have HB := Aside0.mk (Below.refl w.heap.size w)
 have H : ((spec_l4Build.f k a0_0 a0_1 l0_2 a0_3 l0_4).bind fun bt552 => (if 0 ≤ (bt552.1.length : Int) then (if ((bt552.1.length : Int) : Int).toNat ≤ 281474976710656 then ((some (List.replicate ((bt552.1.length : Int) : Int).toNat false : List Bool)).bind fun y559 => (if 0 < (y559.length : Int) then (spec_l4LongOrder.l0 k (y559.set (0 : Int).toNat true) (([0] : List Int)) (([0] : List Int)) (([] : List Int)) bt552.1 bt552.2) else (none))) else (none)) else (none))) = some r := h
 clear h
 replace H := Option.bind_eq_some_iff.mp H
 obtain ⟨⟨t552, t555⟩, A20, H⟩ := H
 replace H : (if 0 ≤ (t552.length : Int) then (if ((t552.length : Int) : Int).toNat ≤ 281474976710656 then ((some (List.replicate ((t552.length : Int) : Int).toNat false : List Bool)).bind fun y559 => (if 0 < (y559.length : Int) then (spec_l4LongOrder.l0 k (y559.set (0 : Int).toNat true) (([0] : List Int)) (([0] : List Int)) (([] : List Int)) t552 t555) else (none))) else (none)) else (none)) = some r := H
 have A2 := Aside0.mk A20
 clear A20
 by_cases c3 : 0 ≤ (t552.length : Int)
 · rw [if_pos c3] at H
   have c3b0 := eq_true c3
   have c3b1 : decide (0 ≤ (t552.length : Int)) = true := decide_eq_true c3
   clear c3
   by_cases c4 : ((t552.length : Int) : Int).toNat ≤ 281474976710656
   · rw [if_pos c4] at H
     have c4b0 := eq_true c4
     have c4b1 : decide (((t552.length : Int) : Int).toNat ≤ 281474976710656) = true := decide_eq_true c4
     clear c4
     obtain ⟨y559, hy559⟩ : ∃ y_ : List Bool, y_ = (List.replicate ((t552.length : Int) : Int).toNat false) := ⟨_, rfl⟩
     replace H : (if 0 < (y559.length : Int) then (spec_l4LongOrder.l0 k (y559.set (0 : Int).toNat true) (([0] : List Int)) (([0] : List Int)) (([] : List Int)) t552 t555) else (none)) = some r := by first | (rw [hy559]; with_reducible exact H) | (have H2_ := (Option.bind_some _ _).symm.trans H; rw [hy559]; with_reducible exact H2_) | (have H2_ := (Option.bind_some _ _).symm.trans H; with_reducible exact H2_) | with_reducible exact H | (rw [hy559]; exact H) | exact H
     have Ny559 := Aside0.mk hy559
     clear hy559
     obtain ⟨y562, hy562⟩ : ∃ y_ : List Int, y_ = (([0] : List Int)) := ⟨_, rfl⟩
     replace H : (if 0 < (y559.length : Int) then (spec_l4LongOrder.l0 k (y559.set (0 : Int).toNat true) y562 (([0] : List Int)) (([] : List Int)) t552 t555) else (none)) = some r := by first | (rw [hy562]; with_reducible exact H) | (have H2_ := (Option.bind_some _ _).symm.trans H; rw [hy562]; with_reducible exact H2_) | (have H2_ := (Option.bind_some _ _).symm.trans H; with_reducible exact H2_) | with_reducible exact H | (rw [hy562]; exact H) | exact H
     have Ny562 := Aside0.mk hy562
     clear hy562
     obtain ⟨y565, hy565⟩ : ∃ y_ : List Int, y_ = (([0] : List Int)) := ⟨_, rfl⟩
     replace H : (if 0 < (y559.length : Int) then (spec_l4LongOrder.l0 k (y559.set (0 : Int).toNat true) y562 y565 (([] : List Int)) t552 t555) else (none)) = some r := by first | (rw [hy565]; with_reducible exact H) | (have H2_ := (Option.bind_some _ _).symm.trans H; rw [hy565]; with_reducible exact H2_) | (have H2_ := (Option.bind_some _ _).symm.trans H; with_reducible exact H2_) | with_reducible exact H | (rw [hy565]; exact H) | exact H
     have Ny565 := Aside0.mk hy565
     clear hy565
     obtain ⟨y568, hy568⟩ : ∃ y_ : List Int, y_ = (([] : List Int)) := ⟨_, rfl⟩
     replace H : (if 0 < (y559.length : Int) then (spec_l4LongOrder.l0 k (y559.set (0 : Int).toNat true) y562 y565 y568 t552 t555) else (none)) = some r := by first | (rw [hy568]; with_reducible exact H) | (have H2_ := (Option.bind_some _ _).symm.trans H; rw [hy568]; with_reducible exact H2_) | (have H2_ := (Option.bind_some _ _).symm.trans H; with_reducible exact H2_) | with_reducible exact H | (rw [hy568]; exact H) | exact H
     have Ny568 := Aside0.mk hy568
     clear hy568
     by_cases c5 : 0 < (y559.length : Int)
     · rw [if_pos c5] at H
       have c5b0 : decide (0 < (y559.length : Int)) = true := decide_eq_true c5
       have c5b1 : decide (0 < y559.length) = true := decide_eq_true (by omega)
       clear c5
       obtain ⟨y571, hy571⟩ : ∃ y_ : List Bool, y_ = (y559.set (0 : Int).toNat true) := ⟨_, rfl⟩
       replace H : (spec_l4LongOrder.l0 k y571 y562 y565 y568 t552 t555) = some r := by first | (rw [hy571]; with_reducible exact H) | (have H2_ := (Option.bind_some _ _).symm.trans H; rw [hy571]; with_reducible exact H2_) | (have H2_ := (Option.bind_some _ _).symm.trans H; with_reducible exact H2_) | with_reducible exact H | (rw [hy571]; exact H) | exact H
       have Ny571 := Aside0.mk hy571
       clear hy571
       have H' := Aside0.mk H
       clear H
       go_enter Try.func55, Try.ntmps55
       go_wp2_with (first | ((with_reducible refine gate_dst (N := 1) rfl ?_); refine box_event ?hg (N := 1) ?hd (cs := #[.string a0_0, .int .i64 a0_1, .slice A0_2 l0_2.length c0_2, .int .i64 a0_3, .slice A0_4 l0_4.length c0_4]) (t := 30) ?hr ?_; (case hd => rfl); (case hg => rfl); (case hr => first | (go_simp; done) | (go_simp; rfl)); intro gb551 hg w7 hbox hb; have n0_ := Aside0.mk (below_step (by repeat (first | (with_reducible first | exact HB.out | apply below_alloc | apply pw_below_drewN | apply below_drew1) | exact HB.out)) hb); have n1_ := Aside0.mk (hbox); have n2_ := Aside0.mk ((by rw [hg]; exact (below_size (by repeat (first | (with_reducible first | exact HB.out | apply below_alloc | apply pw_below_drewN | apply below_drew1) | exact HB.out))) : w.heap.size ≤ gb551)); have n3_ := Aside0.mk ((by rw [hg]; exact (below_size (by repeat (first | (with_reducible first | exact HB.out | apply below_alloc | apply pw_below_drewN | apply below_drew1) | exact HB.out))) : w.heap.size ≤ gb551)); clear HB; have HB := n0_; have BK551 := n1_; have GW551 := n2_; have GE551 := n3_; clear n0_ n1_ n2_ n3_; clear hb hbox hg; have hcz8_0 : w7.cell? ⟨gb551, 0, none⟩ = some (.string a0_0) := (blk_cell BK551.out 0).trans rfl; have hcz8_1 : w7.cell? ⟨gb551, 1, none⟩ = some (.int .i64 a0_1) := (blk_cell BK551.out 1).trans rfl; have hcz8_2 : w7.cell? ⟨gb551, 2, none⟩ = some (.slice A0_2 l0_2.length c0_2) := (blk_cell BK551.out 2).trans rfl; have hcz8_3 : w7.cell? ⟨gb551, 3, none⟩ = some (.int .i64 a0_3) := (blk_cell BK551.out 3).trans rfl; have hcz8_4 : w7.cell? ⟨gb551, 4, none⟩ = some (.slice A0_4 l0_4.length c0_4) := (blk_cell BK551.out 4).trans rfl; have hfz8_0 := blk_frozen BK551.out 0; have hfz8_1 := blk_frozen BK551.out 1; have hfz8_2 := blk_frozen BK551.out 2; have hfz8_3 := blk_frozen BK551.out 3; have hfz8_4 := blk_frozen BK551.out 4) | (go_at_call 45; (with_reducible refine (spec_l4Build.calls k a0_0 a0_1 _ _ l0_2 a0_3 _ _ l0_4 t552 t555 _ ?side1 ?side2 ?side3 ?side4 A2.out).mono ?_); (case side1 => repeat (first | exact (Kd.C_below HR0_2.out HB.out) | (with_reducible refine Kd.C_alloc ?_ _) | (with_reducible refine Kd.C_drewN ?_ _) | (with_reducible refine Kd.C_drew ?_))); (case side2 => exact HC0_2.out); (case side3 => repeat (first | exact (Kd.C_below HR0_4.out HB.out) | (with_reducible refine Kd.C_alloc ?_ _) | (with_reducible refine Kd.C_drewN ?_ _) | (with_reducible refine Kd.C_drew ?_))); (case side4 => exact HC0_4.out); rintro e w9 ⟨v553, v556, rfl, ho0, ho1, hb⟩; have n0_ := Aside0.mk (Kd.S_lower ho0 (below_size (by repeat (first | (with_reducible first | exact HB.out | apply below_alloc | apply pw_below_drewN | apply below_drew1 | refine below_set ?_ GE551.out) | exact HB.out)))); have n1_ := Aside0.mk (Kd.S_lower ho1 (below_size (by repeat (first | (with_reducible first | exact HB.out | apply below_alloc | apply pw_below_drewN | apply below_drew1 | refine below_set ?_ GE551.out) | exact HB.out)))); have n2_ := Aside0.mk (blk_below (g := gb551) (o := .cells #[.string a0_0, .int .i64 a0_1, .slice A0_2 l0_2.length c0_2, .int .i64 a0_3, .slice A0_4 l0_4.length c0_4] 30 (0, 0)) (by (with_reducible repeat (first | refine blk_drewN ?_ _ | refine blk_drew ?_ | refine blk_alloc ?_ _)); exact BK551.out) hb); have n3_ := Aside0.mk (below_step (by repeat (first | (with_reducible first | exact HB.out | apply below_alloc | apply pw_below_drewN | apply below_drew1 | refine below_set ?_ GE551.out) | exact HB.out)) hb); clear BK551; clear HB; have HO554 := n0_; have HO557 := n1_; have BK551 := n2_; have HB := n3_; clear n0_ n1_ n2_ n3_; (try clear hb); (try clear hb2); (try clear hk); (try clear hi); (try clear ho0); (try clear ho1)) | ((with_reducible refine gate_dst (N := 3) rfl ?_); refine box_event ?hg (N := 3) ?hd (cs := #[.slice none 0 0, .slice none 0 0]) (t := 52) ?hr ?_; (case hd => rfl); (case hg => rfl); (case hr => first | (go_simp; done) | (go_simp; rfl)); intro gb558 hg w10 hbox hb; have n0_ := Aside0.mk (Kd.S_below (by (with_reducible repeat (first | apply Kd.S_alloc | apply Kd.S_drewN | apply Kd.S_drew)); exact HO554.out) hb); have n1_ := Aside0.mk (Kd.S_below (by (with_reducible repeat (first | apply Kd.S_alloc | apply Kd.S_drewN | apply Kd.S_drew)); exact HO557.out) hb); have n2_ := Aside0.mk (blk_below (g := gb551) (o := .cells #[.string a0_0, .int .i64 a0_1, .slice A0_2 l0_2.length c0_2, .int .i64 a0_3, .slice A0_4 l0_4.length c0_4] 30 (0, 0)) (by (with_reducible repeat (first | refine blk_drewN ?_ _ | refine blk_drew ?_ | refine blk_alloc ?_ _)); exact BK551.out) hb); have n3_ := Aside0.mk (below_step (by repeat (first | (with_reducible first | exact HB.out | apply below_alloc | apply pw_below_drewN | apply below_drew1 | refine below_set ?_ GE551.out) | exact HB.out)) hb); have n4_ := Aside0.mk (hbox); have n5_ := Aside0.mk ((by rw [hg]; exact (below_size (by repeat (first | (with_reducible first | exact HB.out | apply below_alloc | apply pw_below_drewN | apply below_drew1 | refine below_set ?_ GE551.out) | exact HB.out))) : w.heap.size ≤ gb558)); have n6_ := Aside0.mk ((by rw [hg]; exact (below_size (by repeat (first | (with_reducible first | exact HB.out | apply below_alloc | apply pw_below_drewN | apply below_drew1 | refine below_set ?_ GE551.out) | exact HB.out))) : w.heap.size ≤ gb558)); have n7_ := Aside0.mk ((by rw [hg]; exact Nat.ne_of_lt (blk_lt (g := gb551) (o := .cells #[.string a0_0, .int .i64 a0_1, .slice A0_2 l0_2.length c0_2, .int .i64 a0_3, .slice A0_4 l0_4.length c0_4] 30 (0, 0)) (by (with_reducible repeat (first | refine blk_drewN ?_ _ | refine blk_drew ?_ | refine blk_alloc ?_ _)); exact BK551.out)) : gb551 ≠ gb558)); have n8_ := Aside0.mk ((by rw [hg]; exact Nat.ne_of_gt (blk_lt (g := gb551) (o := .cells #[.string a0_0, .int .i64 a0_1, .slice A0_2 l0_2.length c0_2, .int .i64 a0_3, .slice A0_4 l0_4.length c0_4] 30 (0, 0)) (by (with_reducible repeat (first | refine blk_drewN ?_ _ | refine blk_drew ?_ | refine blk_alloc ?_ _)); exact BK551.out)) : gb558 ≠ gb551)); clear HO554; clear HO557; clear BK551; clear HB; have HO554 := n0_; have HO557 := n1_; have BK551 := n2_; have HB := n3_; have BK558 := n4_; have GW558 := n5_; have GE558 := n6_; have NB551_558 := n7_; have NB558_551 := n8_; clear n0_ n1_ n2_ n3_ n4_ n5_ n6_ n7_ n8_; clear hb hbox hg; obtain ⟨Ao11, co11, eo11⟩ := Kd.S_slice HO554.out; subst eo11; have hnb12 := NB558_551.out; have hnc12 := NB551_558.out; have hcz13_0 : w10.cell? ⟨gb558, 0, none⟩ = some (.slice none 0 0) := (blk_cell BK558.out 0).trans rfl; have hcz13_1 : w10.cell? ⟨gb558, 1, none⟩ = some (.slice none 0 0) := (blk_cell BK558.out 1).trans rfl; have hfz13_0 := blk_frozen BK558.out 0; have hfz13_1 := blk_frozen BK558.out 1; obtain ⟨Ao14, co14, eo14⟩ := Kd.S_slice HO557.out; subst eo14) | ((with_reducible refine gate_dst (N := 18) rfl ?_); refine Kd.R_make Kd.bool _ 4 rfl (N := 18) rfl 54 _ _ rfl (t552.length : Int) rfl rfl Try.underlying54 (.bool false) 1 info4 rfl (by decide) (by omega) false (ok := fun _ => True) (okp := fun _ => True) rfl (fun _ hk => hk) trivial (of_decide_eq_true (by first | (with_reducible assumption) | assumption)) (Nat.le_trans (Nat.mul_le_mul_right _ (of_decide_eq_true (by first | (with_reducible assumption) | assumption) : (t552.length : Int).toNat ≤ 281474976710656)) (by omega)) (Below.refl _ _) (Nat.le_refl _) ?_; intro v560 w15 ho16 hb hg_ hnew_; clear hg_ hnew_; (first | rw [← Ny559.out] at ho16 | (simp only [Int.reduceToNat] at ho16; rw [← Ny559.out] at ho16)); have n0_ := Aside0.mk (Kd.S_below (by (with_reducible repeat (first | apply Kd.S_alloc | apply Kd.S_drewN | apply Kd.S_drew)); exact (Kd.S_mono (Kd.S_far (p := ⟨gb558, 1, none⟩) (Kd.S_far (p := ⟨gb558, 0, none⟩) (Kd.S_types HO554.out BK558.out (by decide)) (fun _ hk => hk.2) (.slice Ao11 t552.length co11)) (fun _ hk => hk.2) (.slice Ao14 t555.length co14)) (fun _ h_ => h_.1))) hb); have n1_ := Aside0.mk (Kd.S_below (by (with_reducible repeat (first | apply Kd.S_alloc | apply Kd.S_drewN | apply Kd.S_drew)); exact (Kd.S_mono (Kd.S_far (p := ⟨gb558, 1, none⟩) (Kd.S_far (p := ⟨gb558, 0, none⟩) (Kd.S_types HO557.out BK558.out (by decide)) (fun _ hk => hk.2) (.slice Ao11 t552.length co11)) (fun _ hk => hk.2) (.slice Ao14 t555.length co14)) (fun _ h_ => h_.1))) hb); have n2_ := Aside0.mk (Kd.R_lower ho16 (below_size (by repeat (first | (with_reducible first | exact HB.out | apply below_alloc | apply pw_below_drewN | apply below_drew1 | refine below_set ?_ GE551.out | refine below_set ?_ GE558.out) | exact HB.out)))); have n3_ := Aside0.mk (blk_below (g := gb551) (o := .cells #[.string a0_0, .int .i64 a0_1, .slice A0_2 l0_2.length c0_2, .int .i64 a0_3, .slice A0_4 l0_4.length c0_4] 30 (0, 0)) (by (with_reducible repeat (first | refine blk_drewN ?_ _ | refine blk_drew ?_ | refine blk_alloc ?_ _)); refine blk_far ?_ NB551_558.out _; (with_reducible repeat (first | refine blk_drewN ?_ _ | refine blk_drew ?_ | refine blk_alloc ?_ _)); refine blk_far ?_ NB551_558.out _; (with_reducible repeat (first | refine blk_drewN ?_ _ | refine blk_drew ?_ | refine blk_alloc ?_ _)); exact BK551.out) hb); have n4_ := Aside0.mk (blk_below (g := gb558) (o := .cells #[.slice Ao11 t552.length co11, .slice Ao14 t555.length co14] 52 (0, 0)) (by (with_reducible repeat (first | refine blk_drewN ?_ _ | refine blk_drew ?_ | refine blk_alloc ?_ _)); refine blk_put (cs := #[.slice Ao11 t552.length co11, .slice none 0 0]) ?_ 1 _ rfl; (with_reducible repeat (first | refine blk_drewN ?_ _ | refine blk_drew ?_ | refine blk_alloc ?_ _)); refine blk_put (cs := #[.slice none 0 0, .slice none 0 0]) ?_ 0 _ rfl; (with_reducible repeat (first | refine blk_drewN ?_ _ | refine blk_drew ?_ | refine blk_alloc ?_ _)); exact BK558.out) hb); have n5_ := Aside0.mk (below_step (by repeat (first | (with_reducible first | exact HB.out | apply below_alloc | apply pw_below_drewN | apply below_drew1 | refine below_set ?_ GE551.out | refine below_set ?_ GE558.out) | exact HB.out)) hb); clear HO554; clear HO557; clear BK551; clear BK558; clear HB; have HO554 := n0_; have HO557 := n1_; have HO561 := n2_; have BK551 := n3_; have BK558 := n4_; have HB := n5_; clear n0_ n1_ n2_ n3_ n4_ n5_; clear hb ho16) | ((with_reducible refine gate_dst (N := 19) rfl ?_); refine Kd.R_lit (Kd.int .i64) _ 2 ?hg (N := 19) ?hd (xs := ([0] : List Int)) (inner := [.int .i64 0]) (ok := fun _ => True) (okp := fun _ => True) ?hr ?hp (fun _ hk => hk) trivial (Below.refl _ _) (Nat.le_refl _) (by simp) ?_; (case hd => rfl); (case hg => rfl); (case hr => first | (go_simp; done) | (go_simp; rfl)); (case hp => exact (Reps.one (show Kd.M (Kd.int .i64) _ _ _ 0 [.int .i64 0] from rfl) (Reps.none _ _))); intro v563 w17 ho18 hb hg_ hnew_; clear hg_ hnew_; (first | rw [← Ny562.out] at ho18 | (simp only [Int.reduceToNat] at ho18; rw [← Ny562.out] at ho18)); have n0_ := Aside0.mk (Kd.S_elder' (by (with_reducible repeat (first | apply Kd.S_alloc | apply Kd.S_drewN | apply Kd.S_drew)); exact HO554.out) (Kd.R_base ho18) hb); have n1_ := Aside0.mk (Kd.S_elder' (by (with_reducible repeat (first | apply Kd.S_alloc | apply Kd.S_drewN | apply Kd.S_drew)); exact HO557.out) (Kd.R_base ho18) hb); have n2_ := Aside0.mk (Kd.R_below (by (with_reducible repeat (first | apply Kd.R_alloc | apply Kd.R_drewN | apply Kd.R_drew)); exact HO561.out) hb); have n3_ := Aside0.mk (Kd.R_lower ho18 (below_size (by repeat (first | (with_reducible first | exact HB.out | apply below_alloc | apply pw_below_drewN | apply below_drew1 | refine below_set ?_ GE551.out | refine below_set ?_ GE558.out) | exact HB.out)))); have n4_ := Aside0.mk (blk_below (g := gb551) (o := .cells #[.string a0_0, .int .i64 a0_1, .slice A0_2 l0_2.length c0_2, .int .i64 a0_3, .slice A0_4 l0_4.length c0_4] 30 (0, 0)) (by (with_reducible repeat (first | refine blk_drewN ?_ _ | refine blk_drew ?_ | refine blk_alloc ?_ _)); exact BK551.out) hb); have n5_ := Aside0.mk (blk_below (g := gb558) (o := .cells #[.slice Ao11 t552.length co11, .slice Ao14 t555.length co14] 52 (0, 0)) (by (with_reducible repeat (first | refine blk_drewN ?_ _ | refine blk_drew ?_ | refine blk_alloc ?_ _)); exact BK558.out) hb); have n6_ := Aside0.mk (below_step (by repeat (first | (with_reducible first | exact HB.out | apply below_alloc | apply pw_below_drewN | apply below_drew1 | refine below_set ?_ GE551.out | refine below_set ?_ GE558.out) | exact HB.out)) hb); clear HO554; clear HO557; clear HO561; clear BK551; clear BK558; clear HB; have HO554 := n0_; have HO557 := n1_; have HO561 := n2_; have HO564 := n3_; have BK551 := n4_; have BK558 := n5_; have HB := n6_; clear n0_ n1_ n2_ n3_ n4_ n5_ n6_; clear hb ho18) | ((with_reducible refine gate_dst (N := 20) rfl ?_); refine Kd.R_lit (Kd.int .i64) _ 3 ?hg (N := 20) ?hd (xs := ([0] : List Int)) (inner := [.int .i64 0]) (ok := fun _ => True) (okp := fun _ => True) ?hr ?hp (fun _ hk => hk) trivial (Below.refl _ _) (Nat.le_refl _) (by simp) ?_; (case hd => rfl); (case hg => rfl); (case hr => first | (go_simp; done) | (go_simp; rfl)); (case hp => exact (Reps.one (show Kd.M (Kd.int .i64) _ _ _ 0 [.int .i64 0] from rfl) (Reps.none _ _))); intro v566 w19 ho20 hb hg_ hnew_; clear hg_ hnew_; (first | rw [← Ny565.out] at ho20 | (simp only [Int.reduceToNat] at ho20; rw [← Ny565.out] at ho20)); have n0_ := Aside0.mk (Kd.S_below (by (with_reducible repeat (first | apply Kd.S_alloc | apply Kd.S_drewN | apply Kd.S_drew)); exact HO554.out) hb); have n1_ := Aside0.mk (Kd.S_below (by (with_reducible repeat (first | apply Kd.S_alloc | apply Kd.S_drewN | apply Kd.S_drew)); exact HO557.out) hb); have n2_ := Aside0.mk (Kd.R_below (by (with_reducible repeat (first | apply Kd.R_alloc | apply Kd.R_drewN | apply Kd.R_drew)); exact HO561.out) hb); have n3_ := Aside0.mk (Kd.R_below (by (with_reducible repeat (first | apply Kd.R_alloc | apply Kd.R_drewN | apply Kd.R_drew)); exact HO564.out) hb); have n4_ := Aside0.mk (Kd.R_lower ho20 (below_size (by repeat (first | (with_reducible first | exact HB.out | apply below_alloc | apply pw_below_drewN | apply below_drew1 | refine below_set ?_ GE551.out | refine below_set ?_ GE558.out) | exact HB.out)))); have n5_ := Aside0.mk (blk_below (g := gb551) (o := .cells #[.string a0_0, .int .i64 a0_1, .slice A0_2 l0_2.length c0_2, .int .i64 a0_3, .slice A0_4 l0_4.length c0_4] 30 (0, 0)) (by (with_reducible repeat (first | refine blk_drewN ?_ _ | refine blk_drew ?_ | refine blk_alloc ?_ _)); exact BK551.out) hb); have n6_ := Aside0.mk (blk_below (g := gb558) (o := .cells #[.slice Ao11 t552.length co11, .slice Ao14 t555.length co14] 52 (0, 0)) (by (with_reducible repeat (first | refine blk_drewN ?_ _ | refine blk_drew ?_ | refine blk_alloc ?_ _)); exact BK558.out) hb); have n7_ := Aside0.mk (below_step (by repeat (first | (with_reducible first | exact HB.out | apply below_alloc | apply pw_below_drewN | apply below_drew1 | refine below_set ?_ GE551.out | refine below_set ?_ GE558.out) | exact HB.out)) hb); clear HO554; clear HO557; clear HO561; clear HO564; clear BK551; clear BK558; clear HB; have HO554 := n0_; have HO557 := n1_; have HO561 := n2_; have HO564 := n3_; have HO567 := n4_; have BK551 := n5_; have BK558 := n6_; have HB := n7_; clear n0_ n1_ n2_ n3_ n4_ n5_ n6_ n7_; clear hb ho20) | ((with_reducible refine gate_dst (N := 21) rfl ?_); refine Kd.R_lit (Kd.int .i64) _ 2 ?hg (N := 21) ?hd (xs := ([] : List Int)) (inner := []) (ok := fun _ => True) (okp := fun _ => True) ?hr ?hp (fun _ hk => hk) trivial (Below.refl _ _) (Nat.le_refl _) (by simp) ?_; (case hd => rfl); (case hg => rfl); (case hr => first | (go_simp; done) | (go_simp; rfl)); (case hp => exact (Reps.none _ _)); intro v569 w21 ho22 hb hg_ hnew_; clear hg_ hnew_; (first | rw [← Ny568.out] at ho22 | (simp only [Int.reduceToNat] at ho22; rw [← Ny568.out] at ho22)); have n0_ := Aside0.mk (Kd.S_elder' (by (with_reducible repeat (first | apply Kd.S_alloc | apply Kd.S_drewN | apply Kd.S_drew)); exact HO554.out) (Kd.R_base ho22) hb); have n1_ := Aside0.mk (Kd.S_elder' (by (with_reducible repeat (first | apply Kd.S_alloc | apply Kd.S_drewN | apply Kd.S_drew)); exact HO557.out) (Kd.R_base ho22) hb); have n2_ := Aside0.mk (Kd.R_below (by (with_reducible repeat (first | apply Kd.R_alloc | apply Kd.R_drewN | apply Kd.R_drew)); exact HO561.out) hb); have n3_ := Aside0.mk (Kd.R_elder' (by (with_reducible repeat (first | apply Kd.R_alloc | apply Kd.R_drewN | apply Kd.R_drew)); exact HO564.out) (Kd.R_base ho22) hb); have n4_ := Aside0.mk (Kd.R_below (by (with_reducible repeat (first | apply Kd.R_alloc | apply Kd.R_drewN | apply Kd.R_drew)); exact HO567.out) hb); have n5_ := Aside0.mk (Kd.R_lower (Kd.R_new' ho22 (Kd.R_lt (by (with_reducible repeat (first | apply Kd.R_alloc | apply Kd.R_drewN | apply Kd.R_drew)); exact HO564.out))) (below_size (by repeat (first | (with_reducible first | exact HB.out | apply below_alloc | apply pw_below_drewN | apply below_drew1 | refine below_set ?_ GE551.out | refine below_set ?_ GE558.out) | exact HB.out)))); have n6_ := Aside0.mk (blk_below (g := gb551) (o := .cells #[.string a0_0, .int .i64 a0_1, .slice A0_2 l0_2.length c0_2, .int .i64 a0_3, .slice A0_4 l0_4.length c0_4] 30 (0, 0)) (by (with_reducible repeat (first | refine blk_drewN ?_ _ | refine blk_drew ?_ | refine blk_alloc ?_ _)); exact BK551.out) hb); have n7_ := Aside0.mk (blk_below (g := gb558) (o := .cells #[.slice Ao11 t552.length co11, .slice Ao14 t555.length co14] 52 (0, 0)) (by (with_reducible repeat (first | refine blk_drewN ?_ _ | refine blk_drew ?_ | refine blk_alloc ?_ _)); exact BK558.out) hb); have n8_ := Aside0.mk (below_step (by repeat (first | (with_reducible first | exact HB.out | apply below_alloc | apply pw_below_drewN | apply below_drew1 | refine below_set ?_ GE551.out | refine below_set ?_ GE558.out) | exact HB.out)) hb); clear HO554; clear HO557; clear HO561; clear HO564; clear HO567; clear BK551; clear BK558; clear HB; have HO554 := n0_; have HO557 := n1_; have HO561 := n2_; have HO564 := n3_; have HO567 := n4_; have HO570 := n5_; have BK551 := n6_; have BK558 := n7_; have HB := n8_; clear n0_ n1_ n2_ n3_ n4_ n5_ n6_ n7_ n8_; clear hb ho22; have p6 : 0 ≤ (0 : Int) := (by omega); have q6 : (0 : Int) < ((y559.length : Int) : Int) := of_decide_eq_true (by first | (with_reducible assumption) | assumption); have qi6 : (0 < y559.length) = True := eq_true (by omega); obtain ⟨go6, co6, eo6, gb6, gl6, cl6, HG6⟩ := Kd.R_form HO561.out (by omega); (first | cases eo6 | (injection eo6 with ea_ en_ ec_; (first | subst ea_ | (injection ea_ with ea_; subst ea_)); subst ec_; clear en_)); have GB6 := Aside0.mk gb6; have GG6 := Aside0.mk HG6; clear gb6 gl6 HG6; obtain ⟨hx6_0, hf6_0⟩ := Kd.R_celln false HO561.out (0 : Int) p6 q6; (try rw [show ((0 : Int)).toNat = 0 from rfl] at hx6_0); (try simp only [Nat.reduceMul, Nat.zero_mul, Nat.zero_add, Nat.reduceAdd] at hx6_0); (try rw [show ((0 : Int)).toNat = 0 from rfl] at hf6_0); (try simp only [Nat.reduceMul, Nat.zero_mul, Nat.zero_add, Nat.reduceAdd] at hf6_0); replace p6 := eq_true p6; replace q6 := eq_true q6; obtain ⟨hy23_, hz23_⟩ := Kd.R_celln false HO561.out (0 : Int) (by omega) (of_decide_eq_true (by first | (with_reducible assumption) | assumption)); (try simp only [Int.reduceToNat, Int.toNat_zero, Int.toNat_ofNat, Nat.reduceMul, Nat.zero_mul, Nat.zero_add] at hy23_ hz23_); (try rw [show ((0 : Int)).toNat = 0 from rfl] at hy23_); (try rw [show ((0 : Int)).toNat = 0 from rfl] at hz23_); have HP23 := Kd.R_putg HO561.out (0 : Int) true) | ((with_reducible refine gate_store (t := 4) (p := 23) rfl ?_); (try (rw [drewN_self w21]; generalize hq_ : World.drewN w21 _ = w21; have n0_ := Aside0.mk (Kd.S_at hq_ HO554.out); have n1_ := Aside0.mk (Kd.S_at hq_ HO557.out); have n2_ := Aside0.mk (Kd.R_at hq_ HO561.out); have n3_ := Aside0.mk (Kd.R_at hq_ HO564.out); have n4_ := Aside0.mk (Kd.R_at hq_ HO567.out); have n5_ := Aside0.mk (Kd.R_at hq_ HO570.out); have n6_ := Aside0.mk (blk_at hq_ BK551.out); have n7_ := Aside0.mk (blk_at hq_ BK558.out); have n8_ := Aside0.mk (below_at hq_ HB.out); clear hq_ HO554 HO557 HO561 HO564 HO567 HO570 BK551 BK558 HB; have HO554 := n0_; have HO557 := n1_; have HO561 := n2_; have HO564 := n3_; have HO567 := n4_; have HO570 := n5_; have BK551 := n6_; have BK558 := n7_; have HB := n8_; clear n0_ n1_ n2_ n3_ n4_ n5_ n6_ n7_ n8_; (try (obtain ⟨hy23_, hz23_⟩ := Kd.R_celln false HO561.out (0 : Int) (by omega) (of_decide_eq_true (by first | (with_reducible assumption) | assumption)))); (try (try simp only [Int.reduceToNat, Int.toNat_zero, Int.toNat_ofNat, Nat.reduceMul, Nat.zero_mul, Nat.zero_add] at hy23_ hz23_)); (try (try rw [show ((0 : Int)).toNat = 0 from rfl] at hy23_)); (try (try rw [show ((0 : Int)).toNat = 0 from rfl] at hz23_)); (try (have HP23 := Kd.R_putg HO561.out (0 : Int) true)))); refine store_event (t := 4) (p := 23) (v := ?vo_w24) (w1 := (w21.setCell ⟨go6, (0 : Int).toNat, none⟩ (.bool true))) ?hg ?ho ?hn ?hr ?_; (case ho => rfl); (case hg => rfl); (case hn => rfl); (case hr => first | (go_simp; done) | (go_simp; rfl)); intro w24 hw; have hg : w21.grownBy w24 (some go6) := (by rw [hw]; exact HP23.2); have hp_ : Kd.R Kd.bool 4 w24 w.heap.size (fun _ => True) (.slice (some ⟨go6, 0, none⟩) y559.length co6) y571 := (by rw [hw, Ny571.out]; exact HP23.1); clear HP23; have n0_ := Aside0.mk (blk_grown (g := gb551) (o := .cells #[.string a0_0, .int .i64 a0_1, .slice A0_2 l0_2.length c0_2, .int .i64 a0_3, .slice A0_4 l0_4.length c0_4] 30 (0, 0)) (by (with_reducible repeat (first | refine blk_drewN ?_ _ | refine blk_drew ?_ | refine blk_alloc ?_ _)); exact BK551.out) hg (Kd.R_ne HO561.out BK551.out (by decide))); have n1_ := Aside0.mk (Kd.S_over' (v := (.slice (some ⟨go6, 0, none⟩) y559.length co6)) (by (with_reducible repeat (first | apply Kd.S_alloc | apply Kd.S_drewN | apply Kd.S_drew)); exact HO554.out) (Kd.R_typed HO561.out) (by decide) hg); have n2_ := Aside0.mk (Kd.S_over' (v := (.slice (some ⟨go6, 0, none⟩) y559.length co6)) (by (with_reducible repeat (first | apply Kd.S_alloc | apply Kd.S_drewN | apply Kd.S_drew)); exact HO557.out) (Kd.R_typed HO561.out) (by decide) hg); have n3_ := Aside0.mk (blk_grown (g := gb558) (o := .cells #[.slice Ao11 t552.length co11, .slice Ao14 t555.length co14] 52 (0, 0)) (by (with_reducible repeat (first | refine blk_drewN ?_ _ | refine blk_drew ?_ | refine blk_alloc ?_ _)); exact BK558.out) hg (Kd.R_ne HO561.out BK558.out (by decide))); have n4_ := Aside0.mk (hp_); have n5_ := Aside0.mk (Kd.R_over' (v := (.slice (some ⟨go6, 0, none⟩) y559.length co6)) (by (with_reducible repeat (first | apply Kd.R_alloc | apply Kd.R_drewN | apply Kd.R_drew)); exact HO564.out) (Kd.R_typed HO561.out) (by decide) hg); have n6_ := Aside0.mk (Kd.R_over' (v := (.slice (some ⟨go6, 0, none⟩) y559.length co6)) (by (with_reducible repeat (first | apply Kd.R_alloc | apply Kd.R_drewN | apply Kd.R_drew)); exact HO567.out) (Kd.R_typed HO561.out) (by decide) hg); have n7_ := Aside0.mk (Kd.R_over' (v := (.slice (some ⟨go6, 0, none⟩) y559.length co6)) (by (with_reducible repeat (first | apply Kd.R_alloc | apply Kd.R_drewN | apply Kd.R_drew)); exact HO570.out) (Kd.R_typed HO561.out) (by decide) hg); have n8_ := Aside0.mk ((by rw [hw]; exact below_set (HB.out) GB6.out : Below w.heap.size w w24)); clear BK551; clear HO554; clear HO557; clear BK558; clear HO561; clear HO564; clear HO567; clear HO570; clear HB; have BK551 := n0_; have HO554 := n1_; have HO557 := n2_; have BK558 := n3_; have HO561 := n4_; have HO564 := n5_; have HO567 := n6_; have HO570 := n7_; have HB := n8_; clear n0_ n1_ n2_ n3_ n4_ n5_ n6_ n7_ n8_; clear hg hw hp_))
       repeat (go_quiet (fail); try go_wp2)
       go_loopg [5, 6, 7] k (fun kq v5 v6 v7 w' => ∃ (x4_1 : List Bool) (x5_1 : List Int) (x6_1 : List Int) (x7_1 : List Int), Aside0 (spec_l4LongOrder.l0 kq x4_1 x5_1 x6_1 x7_1 t552 t555 = some r) ∧ Aside0 (kq ≤ k) ∧ Aside0 (Kd.R Kd.bool 4 w' w.heap.size (fun _ => True) (.slice (some ⟨go6, 0, none⟩) y559.length co6) x4_1) ∧ Aside0 (Kd.R (Kd.int .i64) 2 w' w.heap.size (fun k_ => some k_ ≠ (v7 : Value).ownBlock) v5 x5_1) ∧ Aside0 (Kd.R (Kd.int .i64) 3 w' w.heap.size (fun _ => True) v6 x6_1) ∧ Aside0 (Kd.R (Kd.int .i64) 2 w' w.heap.size (fun k_ => some k_ ≠ (v5 : Value).ownBlock) v7 x7_1) ∧ Aside0 (Kd.S (Kd.slice 2 (Kd.int .i64)) 22 w' w.heap.size (fun k_ => some k_ ≠ (v5 : Value).ownBlock ∧ some k_ ≠ (v7 : Value).ownBlock ∧ some k_ ≠ ((.slice Ao14 t555.length co14) : Value).ownBlock) (.slice Ao11 t552.length co11) t552) ∧ Aside0 (Kd.S (Kd.slice 2 (Kd.int .i64)) 22 w' w.heap.size (fun k_ => some k_ ≠ (v5 : Value).ownBlock ∧ some k_ ≠ (v7 : Value).ownBlock ∧ some k_ ≠ ((.slice Ao11 t552.length co11) : Value).ownBlock) (.slice Ao14 t555.length co14) t555) ∧ Aside0 (w'.heap[gb551]? = some (.cells #[.string a0_0, .int .i64 a0_1, (.slice A0_2 l0_2.length c0_2), .int .i64 a0_3, (.slice A0_4 l0_4.length c0_4)] 30 (0, 0))) ∧ Aside0 (w'.heap[gb558]? = some (.cells #[(.slice Ao11 t552.length co11), (.slice Ao14 t555.length co14)] 52 (0, 0))) ∧ Aside0 (Below w.heap.size w w'))
       case atStart => exact ⟨(y571), (y562), (y565), (y568), H', ⟨Nat.le_refl _⟩, ⟨by (with_reducible repeat (first | apply Kd.R_alloc | apply Kd.R_drewN | apply Kd.R_drew)); exact HO561.out⟩, ⟨by (with_reducible repeat (first | apply Kd.R_alloc | apply Kd.R_drewN | apply Kd.R_drew)); exact Kd.R_mono HO564.out (fun _ hk => hk.2)⟩, ⟨by (with_reducible repeat (first | apply Kd.R_alloc | apply Kd.R_drewN | apply Kd.R_drew)); exact HO567.out⟩, ⟨by (with_reducible repeat (first | apply Kd.R_alloc | apply Kd.R_drewN | apply Kd.R_drew)); exact Kd.R_mono HO570.out (fun _ hk => hk.2)⟩, ⟨by (with_reducible repeat (first | apply Kd.S_alloc | apply Kd.S_drewN | apply Kd.S_drew)); exact Kd.S_mono HO554.out (fun _ hk => ⟨hk.1.2, ⟨hk.2, hk.1.1⟩⟩)⟩, ⟨by (with_reducible repeat (first | apply Kd.S_alloc | apply Kd.S_drewN | apply Kd.S_drew)); exact Kd.S_mono HO557.out (fun _ hk => ⟨hk.1.2, ⟨hk.2, hk.1.1⟩⟩)⟩, ⟨by (with_reducible repeat (first | refine blk_drewN ?_ _ | refine blk_drew ?_ | refine blk_alloc ?_ _)); exact BK551.out⟩, ⟨by (with_reducible repeat (first | refine blk_drewN ?_ _ | refine blk_drew ?_ | refine blk_alloc ?_ _)); exact BK558.out⟩, ⟨by repeat (first | (with_reducible first | exact HB.out | apply below_alloc | apply pw_below_drewN | apply below_drew1 | refine below_set ?_ GE551.out | refine below_set ?_ GE558.out) | exact HB.out)⟩⟩
       case round =>
        clear H'
        try clear c1
        try clear p2
        try clear c3
        try clear c3b0
        try clear c3b1
        try clear c4
        try clear c4b0
        try clear c4b1
        try clear c5
        try clear c5b0
        try clear c5b1
        try clear p6
        try clear q6
        try clear hx6
        try clear qi6
        try clear hf6
        try clear c12
        try clear hcz13_0
        try clear hcz13_1
        try clear hcz8_0
        try clear hcz8_1
        try clear hcz8_2
        try clear hcz8_3
        try clear hcz8_4
        try clear hfz13_0
        try clear hfz13_1
        try clear hfz8_0
        try clear hfz8_1
        try clear hfz8_2
        try clear hfz8_3
        try clear hfz8_4
        try clear hx6_0
        try clear p6
        try clear q6
        obtain ⟨x4_1, x5_1, x6_1, x7_1, HA, HK1, HO_4, HO_5, HO_6, HO_7, HO_559000, HO_559001, BK551, BK558, HB⟩ := hrel
        have hl4_1 := (Kd.R_reads' HO_4.out).1
        rw [hl4_1] at HO_4
        (try simp only [hl4_1])
        (try simp only [hl4_1] at BK551)
        (try simp only [hl4_1] at BK558)
        (try simp only [hl4_1] at HO_5)
        (try simp only [hl4_1] at HO_6)
        (try simp only [hl4_1] at HO_7)
        (try simp only [hl4_1] at HO_559000)
        (try simp only [hl4_1] at HO_559001)
        cases gk with
        | zero => exact absurd HA.out (by simp [spec_l4LongOrder.l0])
        | succ k1 =>
         have H := HA.out
         clear HA
         simp only [spec_l4LongOrder.l0] at H
         by_cases c25 : (x5_1.length : Int) > 0
         · rw [if_pos c25] at H
           have c25b0 : decide (0 < (x5_1.length : Int)) = true := decide_eq_true c25
           have c25b1 : decide (0 < x5_1.length) = true := decide_eq_true (by omega)
           clear c25
           obtain ⟨ji26, hji26⟩ : ∃ j_ : Int, (wrap64 ((x5_1.length : Int) - 1)) = j_ := ⟨_, rfl⟩
           replace H : (if 0 ≤ (ji26) then (if (ji26) < (x5_1.length : Int) then (if (ji26) < (x6_1.length : Int) then (if 0 ≤ (rd x5_1 (ji26)) then (if (rd x5_1 (ji26)) < (t552.length : Int) then (if (rd x6_1 (ji26)) = ((rd_L4 t552 (rd x5_1 (ji26))).length : Int) then (if x7_1.length < 17592186044416 then (if (ji26) ≤ (x5_1.length : Int) then (if (ji26) ≤ (x6_1.length : Int) then (spec_l4LongOrder.l0 k1 x4_1 (x5_1.take ((ji26) : Int).toNat) (x6_1.take ((ji26) : Int).toNat) (x7_1 ++ [rd x5_1 (ji26)]) t552 t555) else (none)) else (none)) else (none)) else (if 0 ≤ (rd x6_1 (ji26)) then (if (rd x6_1 (ji26)) < ((rd_L4 t552 (rd x5_1 (ji26))).length : Int) then ((some (x6_1.set ((ji26) : Int).toNat (wrap64 ((rd x6_1 (ji26)) + 1)) : List Int)).bind fun y588 => (if 0 ≤ (rd (rd_L4 t552 (rd x5_1 (ji26))) (rd x6_1 (ji26))) then (if (rd (rd_L4 t552 (rd x5_1 (ji26))) (rd x6_1 (ji26))) < (x4_1.length : Int) then (if (rdOf false x4_1 (rd (rd_L4 t552 (rd x5_1 (ji26))) (rd x6_1 (ji26))) = true) then (spec_l4LongOrder.l0 k1 x4_1 x5_1 y588 x7_1 t552 t555) else (if x5_1.length < 17592186044416 then (if y588.length < 17592186044416 then (spec_l4LongOrder.l0 k1 (x4_1.set ((rd (rd_L4 t552 (rd x5_1 (ji26))) (rd x6_1 (ji26))) : Int).toNat true) (x5_1 ++ [rd (rd_L4 t552 (rd x5_1 (ji26))) (rd x6_1 (ji26))]) (y588 ++ [0]) x7_1 t552 t555) else (none)) else (none))) else (none)) else (none))) else (none)) else (none))) else (none)) else (none)) else (none)) else (none)) else (none)) = some r := by first | (rw [hji26] at H; exact H) | (simp only [hji26] at H ⊢; exact H)
           have hji26w : (IntKind.i64.wrap ((x5_1.length : Int) - 1)) = ji26 := (i64_w _).trans hji26
           by_cases c27 : 0 ≤ (ji26)
           · rw [if_pos c27] at H
             have c27b0 : decide (0 ≤ (ji26)) = true := decide_eq_true c27
             clear c27
             by_cases c28 : (ji26) < (x5_1.length : Int)
             · rw [if_pos c28] at H
               have c28b0 : decide ((ji26) < (x5_1.length : Int)) = true := decide_eq_true c28
               clear c28
               by_cases c29 : (ji26) < (x6_1.length : Int)
               · rw [if_pos c29] at H
                 have c29b0 : decide ((ji26) < (x6_1.length : Int)) = true := decide_eq_true c29
                 clear c29
                 by_cases c30 : 0 ≤ (rd x5_1 (ji26))
                 · rw [if_pos c30] at H
                   have c30b0 : decide (0 ≤ (rd x5_1 (ji26))) = true := decide_eq_true c30
                   clear c30
                   by_cases c31 : (rd x5_1 (ji26)) < (t552.length : Int)
                   · rw [if_pos c31] at H
                     have c31b0 : decide ((rd x5_1 (ji26)) < (t552.length : Int)) = true := decide_eq_true c31
                     clear c31
                     by_cases c32 : (rd x6_1 (ji26)) = ((rd_L4 t552 (rd x5_1 (ji26))).length : Int)
                     · rw [if_pos c32] at H
                       have c32b0 : ((rd x6_1 (ji26)) == ((rd_L4 t552 (rd x5_1 (ji26))).length : Int)) = true := beq_iff_eq.mpr c32
                       have c32b1 : ((rd x6_1 (ji26)) != ((rd_L4 t552 (rd x5_1 (ji26))).length : Int)) = false := bne_eq_false_iff_eq.mpr c32
                       clear c32
                       by_cases c33 : x7_1.length < 17592186044416
                       · rw [if_pos c33] at H
                         have LMc33 := Aside0.mk c33
                         clear c33
                         obtain ⟨y575, hy575⟩ : ∃ y_ : List Int, y_ = (x7_1 ++ [rd x5_1 (ji26)]) := ⟨_, rfl⟩
                         replace H : (if (ji26) ≤ (x5_1.length : Int) then (if (ji26) ≤ (x6_1.length : Int) then (spec_l4LongOrder.l0 k1 x4_1 (x5_1.take ((ji26) : Int).toNat) (x6_1.take ((ji26) : Int).toNat) y575 t552 t555) else (none)) else (none)) = some r := by first | (rw [hy575]; with_reducible exact H) | (have H2_ := (Option.bind_some _ _).symm.trans H; rw [hy575]; with_reducible exact H2_) | (have H2_ := (Option.bind_some _ _).symm.trans H; with_reducible exact H2_) | with_reducible exact H | (rw [hy575]; exact H) | exact H
                         have Ny575 := Aside0.mk hy575
                         clear hy575
                         by_cases c34 : (ji26) ≤ (x5_1.length : Int)
                         · rw [if_pos c34] at H
                           have c34b0 := eq_true c34
                           have c34b1 : decide ((ji26) ≤ (x5_1.length : Int)) = true := decide_eq_true c34
                           clear c34
                           obtain ⟨y578, hy578⟩ : ∃ y_ : List Int, y_ = (x5_1.take ((ji26) : Int).toNat) := ⟨_, rfl⟩
                           replace H : (if (ji26) ≤ (x6_1.length : Int) then (spec_l4LongOrder.l0 k1 x4_1 y578 (x6_1.take ((ji26) : Int).toNat) y575 t552 t555) else (none)) = some r := by first | (rw [hy578]; with_reducible exact H) | (have H2_ := (Option.bind_some _ _).symm.trans H; rw [hy578]; with_reducible exact H2_) | (have H2_ := (Option.bind_some _ _).symm.trans H; with_reducible exact H2_) | with_reducible exact H | (rw [hy578]; exact H) | exact H
                           have Ny578 := Aside0.mk hy578
                           clear hy578
                           by_cases c35 : (ji26) ≤ (x6_1.length : Int)
                           · rw [if_pos c35] at H
                             have c35b0 := eq_true c35
                             have c35b1 : decide ((ji26) ≤ (x6_1.length : Int)) = true := decide_eq_true c35
                             clear c35
                             obtain ⟨y581, hy581⟩ : ∃ y_ : List Int, y_ = (x6_1.take ((ji26) : Int).toNat) := ⟨_, rfl⟩
                             replace H : (spec_l4LongOrder.l0 k1 x4_1 y578 y581 y575 t552 t555) = some r := by first | (rw [hy581]; with_reducible exact H) | (have H2_ := (Option.bind_some _ _).symm.trans H; rw [hy581]; with_reducible exact H2_) | (have H2_ := (Option.bind_some _ _).symm.trans H; with_reducible exact H2_) | with_reducible exact H | (rw [hy581]; exact H) | exact H
                             have Ny581 := Aside0.mk hy581
                             clear hy581
                             have H' := Aside0.mk H
                             clear H
                             obtain ⟨Ao36, co36, eo36⟩ := Kd.R_slice HO_5.out
                             subst eo36
                             have p572 : 0 ≤ ((ji26) : Int) := of_decide_eq_true (by first | (with_reducible assumption) | assumption)
                             have q572 : (ji26) < (x5_1.length : Int) := of_decide_eq_true (by first | (with_reducible assumption) | assumption)
                             obtain ⟨ad572, e572, hx572_0⟩ := Kd.at_int (Kd.R_reads' HO_5.out).2.2 (ji26) p572 q572
                             cases e572
                             replace p572 := eq_true p572
                             replace q572 := eq_true q572
                             obtain ⟨Ao37, co37, eo37⟩ := Kd.R_slice HO_6.out
                             subst eo37
                             have p573 : 0 ≤ ((ji26) : Int) := of_decide_eq_true (by first | (with_reducible assumption) | assumption)
                             have q573 : (ji26) < (x6_1.length : Int) := of_decide_eq_true (by first | (with_reducible assumption) | assumption)
                             obtain ⟨ad573, e573, hx573_0⟩ := Kd.at_int (Kd.R_reads' HO_6.out).2.2 (ji26) p573 q573
                             cases e573
                             replace p573 := eq_true p573
                             replace q573 := eq_true q573
                             have hnb38 := NB558_551.out
                             have hnc38 := NB551_558.out
                             have hcz39_0 : wr.cell? ⟨gb558, 0, none⟩ = some (.slice Ao11 t552.length co11) := (blk_cell BK558.out 0).trans rfl
                             have hcz39_1 : wr.cell? ⟨gb558, 1, none⟩ = some (.slice Ao14 t555.length co14) := (blk_cell BK558.out 1).trans rfl
                             have hfz39_0 := blk_frozen BK558.out 0
                             have hfz39_1 := blk_frozen BK558.out 1
                             have p574 : 0 ≤ ((rd x5_1 (ji26)) : Int) := of_decide_eq_true (by first | (with_reducible assumption) | assumption)
                             have q574 : (rd x5_1 (ji26)) < (t552.length : Int) := of_decide_eq_true (by first | (with_reducible assumption) | assumption)
                             obtain ⟨ad574, A574_0, c574_0, e574, hx574_0, hl574_0, hi574_0⟩ := at_L4 (Kd.S_reads' HO_559000.out).2.2 (rd x5_1 (ji26)) p574 q574
                             cases e574
                             obtain ⟨ce574, hce574, hMe574, hcc574⟩ := Kd.S_get HO_559000.out [] (rd x5_1 (ji26)) p574 (by first | exact q574 | exact of_decide_eq_true (by first | (with_reducible assumption) | assumption) | (have e_ := (Kd.S_reads' HO_559000.out).1; omega))
                             obtain ⟨ve574_0, rfl, ge574_0⟩ := hMe574
                             have hv574_0 := hcc574 0 _ rfl
                             rw [Nat.add_zero, show ((Kd.slice 2 (Kd.int .i64))).sz = 1 from rfl, Nat.mul_one] at hv574_0
                             replace hv574_0 := Option.some.inj (hv574_0.symm.trans hx574_0)
                             rw [hv574_0] at ge574_0
                             have HL574_0 := Aside0.mk (show Kd.R (Kd.int .i64) 2 _ _ _ _ (rd_L4 t552 (rd x5_1 (ji26))) from ge574_0)
                             clear hv574_0 ge574_0
                             clear hcc574 hce574
                             have HR574_0 := Aside0.mk hi574_0
                             have HC574_0 := Aside0.mk hl574_0
                             clear hi574_0 hl574_0
                             replace p574 := eq_true p574
                             replace q574 := eq_true q574
                             go_wp2
                             repeat (go_quiet (fail); try go_wp2_with (first | ((with_reducible refine gate_builtin (b := .append) (xs := #[.tmp 45, .tmp 47]) rfl ?_); at_builtin; refine Kd.R_append (Kd.int .i64) (w0 := w) w.heap.size rfl (.tmp 45) (.tmp 47) 22 2 (.int .i64 0) 8 rfl Try.underlying22 info2 rfl (by decide) (by omega) u7 x7_1 (rd x5_1 (ji26)) [.int .i64 (rd x5_1 (ji26))] (fun k_ => some k_ ≠ (.slice (some ad572) x5_1.length co36 : Value).ownBlock) (fun _ => False) rfl rfl ?aP (fun _ hk => hk.elim) ?aF ?aO ?aB ?aS ?aL ?_; (case aP => exact rfl); (case aB => exact (by repeat (first | (with_reducible first | exact HB.out | apply below_alloc | apply pw_below_drewN | apply below_drew1 | refine below_set ?_ GE551.out | refine below_set ?_ GE558.out) | exact HB.out))); (case aF => exact (fun k_ hk => Kd.fresh' (Kd.R_lt (by (with_reducible repeat (first | apply Kd.R_alloc | apply Kd.R_drewN | apply Kd.R_drew)); exact HO_5.out)) k_ hk)); (case aO => exact (by (with_reducible repeat (first | apply Kd.R_alloc | apply Kd.R_drewN | apply Kd.R_drew)); exact HO_7.out)); (case aS => exact (below_size (by repeat (first | (with_reducible first | exact HB.out | apply below_alloc | apply pw_below_drewN | apply below_drew1 | refine below_set ?_ GE551.out | refine below_set ?_ GE558.out) | exact HB.out)))); (case aL => have := LMc33.out; omega); intro v576 w40 ho hb hg hat; rw [← Ny575.out] at ho; have n0_ := Aside0.mk (Kd.R_over' (by (with_reducible repeat (first | apply Kd.R_alloc | apply Kd.R_drewN | apply Kd.R_drew)); exact HO_4.out) (Kd.R_typed (by (with_reducible repeat (first | apply Kd.R_alloc | apply Kd.R_drewN | apply Kd.R_drew)); exact HO_7.out)) (by decide) hg); have n1_ := Aside0.mk (Kd.R_after (ok := (fun _ => True)) (by (with_reducible repeat (first | apply Kd.R_alloc | apply Kd.R_drewN | apply Kd.R_drew)); exact Kd.R_mono HO_5.out (fun _ hk => ⟨trivial, hk⟩)) hg hat); have n2_ := Aside0.mk (Kd.R_over' (by (with_reducible repeat (first | apply Kd.R_alloc | apply Kd.R_drewN | apply Kd.R_drew)); exact HO_6.out) (Kd.R_typed (by (with_reducible repeat (first | apply Kd.R_alloc | apply Kd.R_drewN | apply Kd.R_drew)); exact HO_7.out)) (by decide) hg); have n3_ := Aside0.mk (Kd.S_after (ok := (fun k_ => some k_ ≠ (.slice (some ad572) x5_1.length co36 : Value).ownBlock ∧ some k_ ≠ (.slice Ao14 t555.length co14 : Value).ownBlock)) (by (with_reducible repeat (first | apply Kd.S_alloc | apply Kd.S_drewN | apply Kd.S_drew)); exact Kd.S_mono HO_559000.out (fun _ hk => ⟨⟨hk.1, hk.2.2⟩, hk.2.1⟩)) hg hat); have n4_ := Aside0.mk (Kd.S_after (ok := (fun k_ => some k_ ≠ (.slice (some ad572) x5_1.length co36 : Value).ownBlock ∧ some k_ ≠ (.slice (some ad574) t552.length co11 : Value).ownBlock)) (by (with_reducible repeat (first | apply Kd.S_alloc | apply Kd.S_drewN | apply Kd.S_drew)); exact Kd.S_mono HO_559001.out (fun _ hk => ⟨⟨hk.1, hk.2.2⟩, hk.2.1⟩)) hg hat); have n5_ := Aside0.mk (blk_grown (g := gb551) (o := .cells #[.string a0_0, .int .i64 a0_1, .slice A0_2 l0_2.length c0_2, .int .i64 a0_3, .slice A0_4 l0_4.length c0_4] 30 (0, 0)) (by (with_reducible repeat (first | refine blk_drewN ?_ _ | refine blk_drew ?_ | refine blk_alloc ?_ _)); exact BK551.out) hg (Kd.R_ne HO_7.out BK551.out (by decide))); have n6_ := Aside0.mk (blk_grown (g := gb558) (o := .cells #[.slice (some ad574) t552.length co11, .slice Ao14 t555.length co14] 52 (0, 0)) (by (with_reducible repeat (first | refine blk_drewN ?_ _ | refine blk_drew ?_ | refine blk_alloc ?_ _)); exact BK558.out) hg (Kd.R_ne HO_7.out BK558.out (by decide))); have n7_ := Aside0.mk (Kd.R_after (ok := (fun k_ => some k_ ≠ (.slice (some ad572) x5_1.length co36 : Value).ownBlock ∧ some k_ ≠ (.slice (some ad574) t552.length co11 : Value).ownBlock ∧ some k_ ≠ (.slice Ao14 t555.length co14 : Value).ownBlock)) (by (with_reducible repeat (first | apply Kd.R_alloc | apply Kd.R_drewN | apply Kd.R_drew)); exact Kd.R_mono HL574_0.out (fun _ hk => ⟨⟨hk.1.1, ⟨hk.2, hk.1.2.2⟩⟩, hk.1.2.1⟩)) hg hat); have n8_ := Aside0.mk (hb); have n9_ := Aside0.mk (ho); clear HO_4; clear HO_5; clear HO_6; clear HO_559000; clear HO_559001; clear BK551; clear BK558; clear HL574_0; clear HB; clear HO_7; have HO_4 := n0_; have HO_5 := n1_; have HO_6 := n2_; have HO_559000 := n3_; have HO_559001 := n4_; have BK551 := n5_; have BK558 := n6_; have HL574_0 := n7_; have HB := n8_; have HO577 := n9_; clear n0_ n1_ n2_ n3_ n4_ n5_ n6_ n7_ n8_ n9_; clear ho hb hg hat; have q41 : ((ji26) : Int) ≤ ((x5_1.length : Int) : Int) := of_decide_eq_true (by first | (with_reducible assumption) | assumption); obtain ⟨i041, hi041, _, hsz41, _⟩ := info_parts info2; have hcut41 := cut_to (P := Try.prog) 22 2 .i64 Try.underlying22 hi041 (some ad572) x5_1.length co36 (ji26) (of_decide_eq_true (by first | (with_reducible assumption) | assumption)) q41 (Kd.R_reads' HO_5.out).2.1; have hr41 := Kd.R_take (m := ((ji26) : Int).toNat) HO_5.out (by omega); have hy41 : y578.length = ((ji26) : Int).toNat := (by rw [Ny578.out, List.length_take]; omega); rw [← Ny578.out] at hr41; rw [← hy41] at hr41 hcut41; clear hy41 hi041 hsz41 HO_5; have HO580 := Aside0.mk hr41; clear hr41; replace q41 := eq_true q41; have q42 : ((ji26) : Int) ≤ ((x6_1.length : Int) : Int) := of_decide_eq_true (by first | (with_reducible assumption) | assumption); obtain ⟨i042, hi042, _, hsz42, _⟩ := info_parts info3; have hcut42 := cut_to (P := Try.prog) 100 3 .i64 Try.underlying100 hi042 (some ad573) x6_1.length co37 (ji26) (of_decide_eq_true (by first | (with_reducible assumption) | assumption)) q42 (Kd.R_reads' HO_6.out).2.1; have hr42 := Kd.R_take (m := ((ji26) : Int).toNat) HO_6.out (by omega); have hy42 : y581.length = ((ji26) : Int).toNat := (by rw [Ny581.out, List.length_take]; omega); rw [← Ny581.out] at hr42; rw [← hy42] at hr42 hcut42; clear hy42 hi042 hsz42 HO_6; have HO583 := Aside0.mk hr42; clear hr42; replace q42 := eq_true q42)))
                             (try simp only [← hl4_1])
                             go_roundg k1
                             case measure => have := HK1.out; omega
                             case rel => exact ⟨(x4_1), (y578), (y581), (y575), H', ⟨by have := HK1.out; omega⟩, ⟨by (try simp only [hl4_1]); (with_reducible repeat (first | apply Kd.R_alloc | apply Kd.R_drewN | apply Kd.R_drew)); exact HO_4.out⟩, ⟨by (try simp only [hl4_1]); (with_reducible repeat (first | apply Kd.R_alloc | apply Kd.R_drewN | apply Kd.R_drew)); exact Kd.R_mono HO580.out (fun _ hk => hk.2)⟩, ⟨by (try simp only [hl4_1]); (with_reducible repeat (first | apply Kd.R_alloc | apply Kd.R_drewN | apply Kd.R_drew)); exact HO583.out⟩, ⟨by (try simp only [hl4_1]); (with_reducible repeat (first | apply Kd.R_alloc | apply Kd.R_drewN | apply Kd.R_drew)); exact HO577.out⟩, ⟨by (try simp only [hl4_1]); (with_reducible repeat (first | apply Kd.S_alloc | apply Kd.S_drewN | apply Kd.S_drew)); exact Kd.S_mono HO_559000.out (fun _ hk => ⟨hk.1.1, ⟨hk.2, hk.1.2⟩⟩)⟩, ⟨by (try simp only [hl4_1]); (with_reducible repeat (first | apply Kd.S_alloc | apply Kd.S_drewN | apply Kd.S_drew)); exact Kd.S_mono HO_559001.out (fun _ hk => ⟨hk.1.1, ⟨hk.2, hk.1.2⟩⟩)⟩, ⟨by (try simp only [hl4_1]); (with_reducible repeat (first | refine blk_drewN ?_ _ | refine blk_drew ?_ | refine blk_alloc ?_ _)); exact BK551.out⟩, ⟨by (try simp only [hl4_1]); (with_reducible repeat (first | refine blk_drewN ?_ _ | refine blk_drew ?_ | refine blk_alloc ?_ _)); exact BK558.out⟩, ⟨by repeat (first | (with_reducible first | exact HB.out | apply below_alloc | apply pw_below_drewN | apply below_drew1 | refine below_set ?_ GE551.out | refine below_set ?_ GE558.out) | exact HB.out)⟩⟩
                           · rw [if_neg c35] at H
                             exact absurd H (by simp)
                         · rw [if_neg c34] at H
                           exact absurd H (by simp)
                       · rw [if_neg c33] at H
                         exact absurd H (by simp)
                     · rw [if_neg c32] at H
                       have c32b0 : ((rd x6_1 (ji26)) == ((rd_L4 t552 (rd x5_1 (ji26))).length : Int)) = false := beq_eq_false_iff_ne.mpr c32
                       have c32b1 : ((rd x6_1 (ji26)) != ((rd_L4 t552 (rd x5_1 (ji26))).length : Int)) = true := bne_iff_ne.mpr c32
                       by_cases c43 : 0 ≤ (rd x6_1 (ji26))
                       · rw [if_pos c43] at H
                         have c43b0 : decide (0 ≤ (rd x6_1 (ji26))) = true := decide_eq_true c43
                         clear c43
                         by_cases c44 : (rd x6_1 (ji26)) < ((rd_L4 t552 (rd x5_1 (ji26))).length : Int)
                         · rw [if_pos c44] at H
                           have c44b0 : decide ((rd x6_1 (ji26)) < ((rd_L4 t552 (rd x5_1 (ji26))).length : Int)) = true := decide_eq_true c44
                           clear c44
                           obtain ⟨y588, hy588⟩ : ∃ y_ : List Int, y_ = (x6_1.set ((ji26) : Int).toNat (wrap64 ((rd x6_1 (ji26)) + 1))) := ⟨_, rfl⟩
                           replace H : (if 0 ≤ (rd (rd_L4 t552 (rd x5_1 (ji26))) (rd x6_1 (ji26))) then (if (rd (rd_L4 t552 (rd x5_1 (ji26))) (rd x6_1 (ji26))) < (x4_1.length : Int) then (if (rdOf false x4_1 (rd (rd_L4 t552 (rd x5_1 (ji26))) (rd x6_1 (ji26))) = true) then (spec_l4LongOrder.l0 k1 x4_1 x5_1 y588 x7_1 t552 t555) else (if x5_1.length < 17592186044416 then (if y588.length < 17592186044416 then (spec_l4LongOrder.l0 k1 (x4_1.set ((rd (rd_L4 t552 (rd x5_1 (ji26))) (rd x6_1 (ji26))) : Int).toNat true) (x5_1 ++ [rd (rd_L4 t552 (rd x5_1 (ji26))) (rd x6_1 (ji26))]) (y588 ++ [0]) x7_1 t552 t555) else (none)) else (none))) else (none)) else (none)) = some r := by first | (rw [hy588]; with_reducible exact H) | (have H2_ := (Option.bind_some _ _).symm.trans H; rw [hy588]; with_reducible exact H2_) | (have H2_ := (Option.bind_some _ _).symm.trans H; with_reducible exact H2_) | with_reducible exact H | (rw [hy588]; exact H) | exact H
                           have Ny588 := Aside0.mk hy588
                           clear hy588
                           by_cases c46 : 0 ≤ (rd (rd_L4 t552 (rd x5_1 (ji26))) (rd x6_1 (ji26)))
                           · rw [if_pos c46] at H
                             have c46b0 : decide (0 ≤ (rd (rd_L4 t552 (rd x5_1 (ji26))) (rd x6_1 (ji26)))) = true := decide_eq_true c46
                             clear c46
                             by_cases c47 : (rd (rd_L4 t552 (rd x5_1 (ji26))) (rd x6_1 (ji26))) < (x4_1.length : Int)
                             · rw [if_pos c47] at H
                               have c47b0 : decide ((rd (rd_L4 t552 (rd x5_1 (ji26))) (rd x6_1 (ji26))) < (x4_1.length : Int)) = true := decide_eq_true c47
                               clear c47
                               obtain ⟨bq48, hbq48⟩ : ∃ b_ : Bool, b_ = (rdOf false x4_1 (rd (rd_L4 t552 (rd x5_1 (ji26))) (rd x6_1 (ji26)))) := ⟨_, rfl⟩
                               replace H : (if (bq48 = true) then (spec_l4LongOrder.l0 k1 x4_1 x5_1 y588 x7_1 t552 t555) else (if x5_1.length < 17592186044416 then (if y588.length < 17592186044416 then (spec_l4LongOrder.l0 k1 (x4_1.set ((rd (rd_L4 t552 (rd x5_1 (ji26))) (rd x6_1 (ji26))) : Int).toNat true) (x5_1 ++ [rd (rd_L4 t552 (rd x5_1 (ji26))) (rd x6_1 (ji26))]) (y588 ++ [0]) x7_1 t552 t555) else (none)) else (none))) = some r := by rw [← hbq48] at H; exact H
                               have Nbq48 := Aside0.mk hbq48
                               clear hbq48
                               by_cases c49 : (bq48 = true)
                               · subst c49
                                 have H1 : (spec_l4LongOrder.l0 k1 x4_1 x5_1 y588 x7_1 t552 t555) = some r := by rw [if_pos rfl] at H; exact H
                                 clear H
                                 have H := H1
                                 clear H1
                                 have H' := Aside0.mk H
                                 clear H
                                 obtain ⟨Ao50, co50, eo50⟩ := Kd.R_slice HO_5.out
                                 subst eo50
                                 have p572 : 0 ≤ ((ji26) : Int) := of_decide_eq_true (by first | (with_reducible assumption) | assumption)
                                 have q572 : (ji26) < (x5_1.length : Int) := of_decide_eq_true (by first | (with_reducible assumption) | assumption)
                                 obtain ⟨ad572, e572, hx572_0⟩ := Kd.at_int (Kd.R_reads' HO_5.out).2.2 (ji26) p572 q572
                                 cases e572
                                 replace p572 := eq_true p572
                                 replace q572 := eq_true q572
                                 obtain ⟨Ao51, co51, eo51⟩ := Kd.R_slice HO_6.out
                                 subst eo51
                                 have p573 : 0 ≤ ((ji26) : Int) := of_decide_eq_true (by first | (with_reducible assumption) | assumption)
                                 have q573 : (ji26) < (x6_1.length : Int) := of_decide_eq_true (by first | (with_reducible assumption) | assumption)
                                 obtain ⟨ad573, e573, hx573_0⟩ := Kd.at_int (Kd.R_reads' HO_6.out).2.2 (ji26) p573 q573
                                 cases e573
                                 replace p573 := eq_true p573
                                 replace q573 := eq_true q573
                                 have hnb52 := NB558_551.out
                                 have hnc52 := NB551_558.out
                                 have hcz53_0 : wr.cell? ⟨gb558, 0, none⟩ = some (.slice Ao11 t552.length co11) := (blk_cell BK558.out 0).trans rfl
                                 have hcz53_1 : wr.cell? ⟨gb558, 1, none⟩ = some (.slice Ao14 t555.length co14) := (blk_cell BK558.out 1).trans rfl
                                 have hfz53_0 := blk_frozen BK558.out 0
                                 have hfz53_1 := blk_frozen BK558.out 1
                                 have p574 : 0 ≤ ((rd x5_1 (ji26)) : Int) := of_decide_eq_true (by first | (with_reducible assumption) | assumption)
                                 have q574 : (rd x5_1 (ji26)) < (t552.length : Int) := of_decide_eq_true (by first | (with_reducible assumption) | assumption)
                                 obtain ⟨ad574, A574_0, c574_0, e574, hx574_0, hl574_0, hi574_0⟩ := at_L4 (Kd.S_reads' HO_559000.out).2.2 (rd x5_1 (ji26)) p574 q574
                                 cases e574
                                 obtain ⟨ce574, hce574, hMe574, hcc574⟩ := Kd.S_get HO_559000.out [] (rd x5_1 (ji26)) p574 (by first | exact q574 | exact of_decide_eq_true (by first | (with_reducible assumption) | assumption) | (have e_ := (Kd.S_reads' HO_559000.out).1; omega))
                                 obtain ⟨ve574_0, rfl, ge574_0⟩ := hMe574
                                 have hv574_0 := hcc574 0 _ rfl
                                 rw [Nat.add_zero, show ((Kd.slice 2 (Kd.int .i64))).sz = 1 from rfl, Nat.mul_one] at hv574_0
                                 replace hv574_0 := Option.some.inj (hv574_0.symm.trans hx574_0)
                                 rw [hv574_0] at ge574_0
                                 have HL574_0 := Aside0.mk (show Kd.R (Kd.int .i64) 2 _ _ _ _ (rd_L4 t552 (rd x5_1 (ji26))) from ge574_0)
                                 clear hv574_0 ge574_0
                                 clear hcc574 hce574
                                 have HR574_0 := Aside0.mk hi574_0
                                 have HC574_0 := Aside0.mk hl574_0
                                 clear hi574_0 hl574_0
                                 replace p574 := eq_true p574
                                 replace q574 := eq_true q574
                                 have p584 : 0 ≤ ((rd x5_1 (ji26)) : Int) := of_decide_eq_true (by first | (with_reducible assumption) | assumption)
                                 have q584 : (rd x5_1 (ji26)) < (t552.length : Int) := of_decide_eq_true (by first | (with_reducible assumption) | assumption)
                                 obtain ⟨ad584, A584_0, c584_0, e584, hx584_0, hl584_0, hi584_0⟩ := at_L4 (Kd.S_reads' HO_559000.out).2.2 (rd x5_1 (ji26)) p584 q584
                                 obtain rfl : ad574 = ad584 := (by injection e584)
                                 obtain ⟨ce584, hce584, hMe584, hcc584⟩ := Kd.S_get HO_559000.out [] (rd x5_1 (ji26)) p584 (by first | exact q584 | exact of_decide_eq_true (by first | (with_reducible assumption) | assumption) | (have e_ := (Kd.S_reads' HO_559000.out).1; omega))
                                 obtain ⟨ve584_0, rfl, ge584_0⟩ := hMe584
                                 have hv584_0 := hcc584 0 _ rfl
                                 rw [Nat.add_zero, show ((Kd.slice 2 (Kd.int .i64))).sz = 1 from rfl, Nat.mul_one] at hv584_0
                                 replace hv584_0 := Option.some.inj (hv584_0.symm.trans hx584_0)
                                 rw [hv584_0] at ge584_0
                                 have HL584_0 := Aside0.mk (show Kd.R (Kd.int .i64) 2 _ _ _ _ (rd_L4 t552 (rd x5_1 (ji26))) from ge584_0)
                                 clear hv584_0 ge584_0
                                 clear hcc584 hce584
                                 have HR584_0 := Aside0.mk hi584_0
                                 have HC584_0 := Aside0.mk hl584_0
                                 clear hi584_0 hl584_0
                                 replace p584 := eq_true p584
                                 replace q584 := eq_true q584
                                 have ea_ := Option.some.inj (hx574_0.symm.trans hx584_0)
                                 injection ea_ with ea_ en_ ec_
                                 subst ea_
                                 subst ec_
                                 clear en_
                                 have p585 : 0 ≤ ((ji26) : Int) := of_decide_eq_true (by first | (with_reducible assumption) | assumption)
                                 have q585 : (ji26) < (x6_1.length : Int) := of_decide_eq_true (by first | (with_reducible assumption) | assumption)
                                 obtain ⟨ad585, e585, hx585_0⟩ := Kd.at_int (Kd.R_reads' HO_6.out).2.2 (ji26) p585 q585
                                 obtain rfl : ad573 = ad585 := (by injection e585)
                                 replace p585 := eq_true p585
                                 replace q585 := eq_true q585
                                 have p586 : 0 ≤ ((rd x6_1 (ji26)) : Int) := of_decide_eq_true (by first | (with_reducible assumption) | assumption)
                                 have q586 : (rd x6_1 (ji26)) < ((rd_L4 t552 (rd x5_1 (ji26))).length : Int) := of_decide_eq_true (by first | (with_reducible assumption) | assumption)
                                 obtain ⟨ad586, e586, hx586_0⟩ := Kd.at_int (by repeat (first | (with_reducible exact HR584_0.out) | (with_reducible refine Kd.C_alloc ?_ _) | (with_reducible refine Kd.C_drewN ?_ _) | (with_reducible refine Kd.C_drew ?_) | exact HR584_0.out)) (rd x6_1 (ji26)) p586 q586
                                 cases e586
                                 replace p586 := eq_true p586
                                 replace q586 := eq_true q586
                                 have p587 : 0 ≤ ((ji26) : Int) := of_decide_eq_true (by first | (with_reducible assumption) | assumption)
                                 have q587 : (ji26) < (x6_1.length : Int) := of_decide_eq_true (by first | (with_reducible assumption) | assumption)
                                 obtain ⟨ad587, e587, hx587_0⟩ := Kd.at_int (Kd.R_reads' HO_6.out).2.2 (ji26) p587 q587
                                 obtain rfl : ad573 = ad587 := (by injection e587)
                                 replace p587 := eq_true p587
                                 replace q587 := eq_true q587
                                 have p45 : 0 ≤ ((ji26) : Int) := of_decide_eq_true (by first | (with_reducible assumption) | assumption)
                                 have q45 : ((ji26) : Int) < ((x6_1.length : Int) : Int) := of_decide_eq_true (by first | (with_reducible assumption) | assumption)
                                 obtain ⟨go45, co45, eo45, gb45, gl45, cl45, HG45⟩ := Kd.R_form HO_6.out (by omega)
                                 (first | cases eo45 | (injection eo45 with ea_ en_ ec_; (first | subst ea_ | (injection ea_ with ea_; subst ea_)); subst ec_; clear en_))
                                 have GB45 := Aside0.mk gb45
                                 have GG45 := Aside0.mk HG45
                                 clear gb45 gl45 HG45
                                 (first | simp only [add_plain] at hx573_0 | skip)
                                 (first | simp only [add_plain] at hx585_0 | skip)
                                 (first | simp only [add_plain] at hx587_0 | skip)
                                 obtain ⟨hx45_0, hf45_0⟩ := Kd.R_celln 0 HO_6.out ((ji26) : Int) p45 q45
                                 replace p45 := eq_true p45
                                 replace q45 := eq_true q45
                                 have HP54 := Kd.R_putg HO_6.out ((ji26) : Int) (wrap64 ((rd x6_1 (ji26)) + 1))
                                 go_wp2
                                 repeat (go_quiet (fail); try go_wp2_with (first | ((with_reducible refine gate_store (t := 3) (p := 71) rfl ?_); (try (rw [drewN_self wr]; generalize hq_ : World.drewN wr _ = wr; have n0_ := Aside0.mk (Kd.R_at hq_ HO_4.out); have n1_ := Aside0.mk (Kd.R_at hq_ HO_5.out); have n2_ := Aside0.mk (Kd.R_at hq_ HO_6.out); have n3_ := Aside0.mk (Kd.R_at hq_ HO_7.out); have n4_ := Aside0.mk (Kd.S_at hq_ HO_559000.out); have n5_ := Aside0.mk (Kd.S_at hq_ HO_559001.out); have n6_ := Aside0.mk (Kd.R_at hq_ HL574_0.out); have n7_ := Aside0.mk (Kd.R_at hq_ HL584_0.out); have n8_ := Aside0.mk (blk_at hq_ BK551.out); have n9_ := Aside0.mk (blk_at hq_ BK558.out); have n10_ := Aside0.mk (below_at hq_ HB.out); clear hq_ HO_4 HO_5 HO_6 HO_7 HO_559000 HO_559001 HL574_0 HL584_0 BK551 BK558 HB; have HO_4 := n0_; have HO_5 := n1_; have HO_6 := n2_; have HO_7 := n3_; have HO_559000 := n4_; have HO_559001 := n5_; have HL574_0 := n6_; have HL584_0 := n7_; have BK551 := n8_; have BK558 := n9_; have HB := n10_; clear n0_ n1_ n2_ n3_ n4_ n5_ n6_ n7_ n8_ n9_ n10_; (try (have HP54 := Kd.R_putg HO_6.out ((ji26) : Int) (wrap64 ((rd x6_1 (ji26)) + 1)))); obtain ⟨hxs_, hfs_⟩ := Kd.R_celln 0 HO_6.out ((ji26) : Int) (of_eq_true p45) (of_eq_true q45))); refine store_event (t := 3) (p := 71) (v := ?vo_w55) (w1 := (wr.setCell ⟨go45, ((ji26) : Int).toNat, none⟩ (.int .i64 (wrap64 ((rd x6_1 (ji26)) + 1))))) ?hg ?ho ?hn ?hr ?_; (case ho => rfl); (case hg => rfl); (case hn => rfl); (case hr => first | (go_simp; done) | (go_simp; rfl)); intro w55 hw; have hg : wr.grownBy w55 (some go45) := (by rw [hw]; exact HP54.2); have hp_ : Kd.R (Kd.int .i64) 3 w55 w.heap.size (fun _ => True) (.slice (some ⟨go45, 0, none⟩) x6_1.length co51) y588 := (by rw [hw, Ny588.out]; exact HP54.1); clear HP54; have n0_ := Aside0.mk (Kd.R_over' (v := (.slice (some ⟨go45, 0, none⟩) x6_1.length co51)) (by (with_reducible repeat (first | apply Kd.R_alloc | apply Kd.R_drewN | apply Kd.R_drew)); exact HO_4.out) (Kd.R_typed HO_6.out) (by decide) hg); have n1_ := Aside0.mk (Kd.R_over' (v := (.slice (some ⟨go45, 0, none⟩) x6_1.length co51)) (by (with_reducible repeat (first | apply Kd.R_alloc | apply Kd.R_drewN | apply Kd.R_drew)); exact HO_5.out) (Kd.R_typed HO_6.out) (by decide) hg); have n2_ := Aside0.mk (hp_); have n3_ := Aside0.mk (Kd.R_over' (v := (.slice (some ⟨go45, 0, none⟩) x6_1.length co51)) (by (with_reducible repeat (first | apply Kd.R_alloc | apply Kd.R_drewN | apply Kd.R_drew)); exact HO_7.out) (Kd.R_typed HO_6.out) (by decide) hg); have n4_ := Aside0.mk (Kd.S_over' (v := (.slice (some ⟨go45, 0, none⟩) x6_1.length co51)) (by (with_reducible repeat (first | apply Kd.S_alloc | apply Kd.S_drewN | apply Kd.S_drew)); exact HO_559000.out) (Kd.R_typed HO_6.out) (by decide) hg); have n5_ := Aside0.mk (Kd.S_over' (v := (.slice (some ⟨go45, 0, none⟩) x6_1.length co51)) (by (with_reducible repeat (first | apply Kd.S_alloc | apply Kd.S_drewN | apply Kd.S_drew)); exact HO_559001.out) (Kd.R_typed HO_6.out) (by decide) hg); have n6_ := Aside0.mk (blk_grown (g := gb551) (o := .cells #[.string a0_0, .int .i64 a0_1, .slice A0_2 l0_2.length c0_2, .int .i64 a0_3, .slice A0_4 l0_4.length c0_4] 30 (0, 0)) (by (with_reducible repeat (first | refine blk_drewN ?_ _ | refine blk_drew ?_ | refine blk_alloc ?_ _)); exact BK551.out) hg (Kd.R_ne HO_6.out BK551.out (by decide))); have n7_ := Aside0.mk (blk_grown (g := gb558) (o := .cells #[.slice (some ad574) t552.length co11, .slice Ao14 t555.length co14] 52 (0, 0)) (by (with_reducible repeat (first | refine blk_drewN ?_ _ | refine blk_drew ?_ | refine blk_alloc ?_ _)); exact BK558.out) hg (Kd.R_ne HO_6.out BK558.out (by decide))); have n8_ := Aside0.mk (Kd.R_over' (v := (.slice (some ⟨go45, 0, none⟩) x6_1.length co51)) (by (with_reducible repeat (first | apply Kd.R_alloc | apply Kd.R_drewN | apply Kd.R_drew)); exact HL574_0.out) (Kd.R_typed HO_6.out) (by decide) hg); have n9_ := Aside0.mk (Kd.R_over' (v := (.slice (some ⟨go45, 0, none⟩) x6_1.length co51)) (by (with_reducible repeat (first | apply Kd.R_alloc | apply Kd.R_drewN | apply Kd.R_drew)); exact HL584_0.out) (Kd.R_typed HO_6.out) (by decide) hg); have n10_ := Aside0.mk ((by rw [hw]; exact below_set (HB.out) GB45.out : Below w.heap.size w w55)); clear HO_4; clear HO_5; clear HO_6; clear HO_7; clear HO_559000; clear HO_559001; clear BK551; clear BK558; clear HL574_0; clear HL584_0; clear HB; have HO_4 := n0_; have HO_5 := n1_; have HO_6 := n2_; have HO_7 := n3_; have HO_559000 := n4_; have HO_559001 := n5_; have BK551 := n6_; have BK558 := n7_; have HL574_0 := n8_; have HL584_0 := n9_; have HB := n10_; clear n0_ n1_ n2_ n3_ n4_ n5_ n6_ n7_ n8_ n9_ n10_; clear hg hw hp_; have p589 : 0 ≤ ((rd (rd_L4 t552 (rd x5_1 (ji26))) (rd x6_1 (ji26))) : Int) := of_decide_eq_true (by first | (with_reducible assumption) | assumption); have q589 : (rd (rd_L4 t552 (rd x5_1 (ji26))) (rd x6_1 (ji26))) < (x4_1.length : Int) := of_decide_eq_true (by first | (with_reducible assumption) | assumption); obtain ⟨ad589, e589, hx589_0⟩ := Kd.at_bool (Kd.R_reads' HO_4.out).2.2 (rd (rd_L4 t552 (rd x5_1 (ji26))) (rd x6_1 (ji26))) p589 q589; (try rw [← Nbq48.out] at hx589_0); obtain rfl : (⟨go6, 0, none⟩ : Addr) = ad589 := (by injection e589); (first | simp only [add_plain] at hx589_0 | simp only [add_at] at hx589_0 | simp only [Addr.add, Nat.zero_add] at hx589_0 | skip); replace p589 := eq_true p589; replace q589 := eq_true q589)))
                                 (try simp only [← hl4_1])
                                 go_roundg k1
                                 case measure => have := HK1.out; omega
                                 case rel => exact ⟨(x4_1), (x5_1), (y588), (x7_1), H', ⟨by have := HK1.out; omega⟩, ⟨by (try simp only [hl4_1]); (with_reducible repeat (first | apply Kd.R_alloc | apply Kd.R_drewN | apply Kd.R_drew)); exact HO_4.out⟩, ⟨by (try simp only [hl4_1]); (with_reducible repeat (first | apply Kd.R_alloc | apply Kd.R_drewN | apply Kd.R_drew)); exact HO_5.out⟩, ⟨by (try simp only [hl4_1]); (with_reducible repeat (first | apply Kd.R_alloc | apply Kd.R_drewN | apply Kd.R_drew)); exact HO_6.out⟩, ⟨by (try simp only [hl4_1]); (with_reducible repeat (first | apply Kd.R_alloc | apply Kd.R_drewN | apply Kd.R_drew)); exact HO_7.out⟩, ⟨by (try simp only [hl4_1]); (with_reducible repeat (first | apply Kd.S_alloc | apply Kd.S_drewN | apply Kd.S_drew)); exact HO_559000.out⟩, ⟨by (try simp only [hl4_1]); (with_reducible repeat (first | apply Kd.S_alloc | apply Kd.S_drewN | apply Kd.S_drew)); exact HO_559001.out⟩, ⟨by (try simp only [hl4_1]); (with_reducible repeat (first | refine blk_drewN ?_ _ | refine blk_drew ?_ | refine blk_alloc ?_ _)); exact BK551.out⟩, ⟨by (try simp only [hl4_1]); (with_reducible repeat (first | refine blk_drewN ?_ _ | refine blk_drew ?_ | refine blk_alloc ?_ _)); exact BK558.out⟩, ⟨by repeat (first | (with_reducible first | exact HB.out | apply below_alloc | apply pw_below_drewN | apply below_drew1 | refine below_set ?_ GE551.out | refine below_set ?_ GE558.out) | exact HB.out)⟩⟩
                               · replace c49 := Bool.eq_false_iff.mpr c49
                                 subst c49
                                 have H1 : (if x5_1.length < 17592186044416 then (if y588.length < 17592186044416 then (spec_l4LongOrder.l0 k1 (x4_1.set ((rd (rd_L4 t552 (rd x5_1 (ji26))) (rd x6_1 (ji26))) : Int).toNat true) (x5_1 ++ [rd (rd_L4 t552 (rd x5_1 (ji26))) (rd x6_1 (ji26))]) (y588 ++ [0]) x7_1 t552 t555) else (none)) else (none)) = some r := by rw [if_neg (show ¬ (false = true) by decide)] at H; exact H
                                 clear H
                                 have H := H1
                                 clear H1
                                 obtain ⟨y590, hy590⟩ : ∃ y_ : List Bool, y_ = (x4_1.set ((rd (rd_L4 t552 (rd x5_1 (ji26))) (rd x6_1 (ji26))) : Int).toNat true) := ⟨_, rfl⟩
                                 replace H : (if x5_1.length < 17592186044416 then (if y588.length < 17592186044416 then (spec_l4LongOrder.l0 k1 y590 (x5_1 ++ [rd (rd_L4 t552 (rd x5_1 (ji26))) (rd x6_1 (ji26))]) (y588 ++ [0]) x7_1 t552 t555) else (none)) else (none)) = some r := by first | (rw [hy590]; with_reducible exact H) | (have H2_ := (Option.bind_some _ _).symm.trans H; rw [hy590]; with_reducible exact H2_) | (have H2_ := (Option.bind_some _ _).symm.trans H; with_reducible exact H2_) | with_reducible exact H | (rw [hy590]; exact H) | exact H
                                 have Ny590 := Aside0.mk hy590
                                 clear hy590
                                 by_cases c57 : x5_1.length < 17592186044416
                                 · rw [if_pos c57] at H
                                   have LMc57 := Aside0.mk c57
                                   clear c57
                                   obtain ⟨y591, hy591⟩ : ∃ y_ : List Int, y_ = (x5_1 ++ [rd (rd_L4 t552 (rd x5_1 (ji26))) (rd x6_1 (ji26))]) := ⟨_, rfl⟩
                                   replace H : (if y588.length < 17592186044416 then (spec_l4LongOrder.l0 k1 y590 y591 (y588 ++ [0]) x7_1 t552 t555) else (none)) = some r := by first | (rw [hy591]; with_reducible exact H) | (have H2_ := (Option.bind_some _ _).symm.trans H; rw [hy591]; with_reducible exact H2_) | (have H2_ := (Option.bind_some _ _).symm.trans H; with_reducible exact H2_) | with_reducible exact H | (rw [hy591]; exact H) | exact H
                                   have Ny591 := Aside0.mk hy591
                                   clear hy591
                                   by_cases c58 : y588.length < 17592186044416
                                   · rw [if_pos c58] at H
                                     have LMc58 := Aside0.mk c58
                                     clear c58
                                     obtain ⟨y594, hy594⟩ : ∃ y_ : List Int, y_ = (y588 ++ [0]) := ⟨_, rfl⟩
                                     replace H : (spec_l4LongOrder.l0 k1 y590 y591 y594 x7_1 t552 t555) = some r := by first | (rw [hy594]; with_reducible exact H) | (have H2_ := (Option.bind_some _ _).symm.trans H; rw [hy594]; with_reducible exact H2_) | (have H2_ := (Option.bind_some _ _).symm.trans H; with_reducible exact H2_) | with_reducible exact H | (rw [hy594]; exact H) | exact H
                                     have Ny594 := Aside0.mk hy594
                                     clear hy594
                                     have H' := Aside0.mk H
                                     clear H
                                     obtain ⟨Ao59, co59, eo59⟩ := Kd.R_slice HO_5.out
                                     subst eo59
                                     have p572 : 0 ≤ ((ji26) : Int) := of_decide_eq_true (by first | (with_reducible assumption) | assumption)
                                     have q572 : (ji26) < (x5_1.length : Int) := of_decide_eq_true (by first | (with_reducible assumption) | assumption)
                                     obtain ⟨ad572, e572, hx572_0⟩ := Kd.at_int (Kd.R_reads' HO_5.out).2.2 (ji26) p572 q572
                                     cases e572
                                     replace p572 := eq_true p572
                                     replace q572 := eq_true q572
                                     obtain ⟨Ao60, co60, eo60⟩ := Kd.R_slice HO_6.out
                                     subst eo60
                                     have p573 : 0 ≤ ((ji26) : Int) := of_decide_eq_true (by first | (with_reducible assumption) | assumption)
                                     have q573 : (ji26) < (x6_1.length : Int) := of_decide_eq_true (by first | (with_reducible assumption) | assumption)
                                     obtain ⟨ad573, e573, hx573_0⟩ := Kd.at_int (Kd.R_reads' HO_6.out).2.2 (ji26) p573 q573
                                     cases e573
                                     replace p573 := eq_true p573
                                     replace q573 := eq_true q573
                                     have hnb61 := NB558_551.out
                                     have hnc61 := NB551_558.out
                                     have hcz62_0 : wr.cell? ⟨gb558, 0, none⟩ = some (.slice Ao11 t552.length co11) := (blk_cell BK558.out 0).trans rfl
                                     have hcz62_1 : wr.cell? ⟨gb558, 1, none⟩ = some (.slice Ao14 t555.length co14) := (blk_cell BK558.out 1).trans rfl
                                     have hfz62_0 := blk_frozen BK558.out 0
                                     have hfz62_1 := blk_frozen BK558.out 1
                                     have p574 : 0 ≤ ((rd x5_1 (ji26)) : Int) := of_decide_eq_true (by first | (with_reducible assumption) | assumption)
                                     have q574 : (rd x5_1 (ji26)) < (t552.length : Int) := of_decide_eq_true (by first | (with_reducible assumption) | assumption)
                                     obtain ⟨ad574, A574_0, c574_0, e574, hx574_0, hl574_0, hi574_0⟩ := at_L4 (Kd.S_reads' HO_559000.out).2.2 (rd x5_1 (ji26)) p574 q574
                                     cases e574
                                     obtain ⟨ce574, hce574, hMe574, hcc574⟩ := Kd.S_get HO_559000.out [] (rd x5_1 (ji26)) p574 (by first | exact q574 | exact of_decide_eq_true (by first | (with_reducible assumption) | assumption) | (have e_ := (Kd.S_reads' HO_559000.out).1; omega))
                                     obtain ⟨ve574_0, rfl, ge574_0⟩ := hMe574
                                     have hv574_0 := hcc574 0 _ rfl
                                     rw [Nat.add_zero, show ((Kd.slice 2 (Kd.int .i64))).sz = 1 from rfl, Nat.mul_one] at hv574_0
                                     replace hv574_0 := Option.some.inj (hv574_0.symm.trans hx574_0)
                                     rw [hv574_0] at ge574_0
                                     have HL574_0 := Aside0.mk (show Kd.R (Kd.int .i64) 2 _ _ _ _ (rd_L4 t552 (rd x5_1 (ji26))) from ge574_0)
                                     clear hv574_0 ge574_0
                                     clear hcc574 hce574
                                     have HR574_0 := Aside0.mk hi574_0
                                     have HC574_0 := Aside0.mk hl574_0
                                     clear hi574_0 hl574_0
                                     replace p574 := eq_true p574
                                     replace q574 := eq_true q574
                                     have p584 : 0 ≤ ((rd x5_1 (ji26)) : Int) := of_decide_eq_true (by first | (with_reducible assumption) | assumption)
                                     have q584 : (rd x5_1 (ji26)) < (t552.length : Int) := of_decide_eq_true (by first | (with_reducible assumption) | assumption)
                                     obtain ⟨ad584, A584_0, c584_0, e584, hx584_0, hl584_0, hi584_0⟩ := at_L4 (Kd.S_reads' HO_559000.out).2.2 (rd x5_1 (ji26)) p584 q584
                                     obtain rfl : ad574 = ad584 := (by injection e584)
                                     obtain ⟨ce584, hce584, hMe584, hcc584⟩ := Kd.S_get HO_559000.out [] (rd x5_1 (ji26)) p584 (by first | exact q584 | exact of_decide_eq_true (by first | (with_reducible assumption) | assumption) | (have e_ := (Kd.S_reads' HO_559000.out).1; omega))
                                     obtain ⟨ve584_0, rfl, ge584_0⟩ := hMe584
                                     have hv584_0 := hcc584 0 _ rfl
                                     rw [Nat.add_zero, show ((Kd.slice 2 (Kd.int .i64))).sz = 1 from rfl, Nat.mul_one] at hv584_0
                                     replace hv584_0 := Option.some.inj (hv584_0.symm.trans hx584_0)
                                     rw [hv584_0] at ge584_0
                                     have HL584_0 := Aside0.mk (show Kd.R (Kd.int .i64) 2 _ _ _ _ (rd_L4 t552 (rd x5_1 (ji26))) from ge584_0)
                                     clear hv584_0 ge584_0
                                     clear hcc584 hce584
                                     have HR584_0 := Aside0.mk hi584_0
                                     have HC584_0 := Aside0.mk hl584_0
                                     clear hi584_0 hl584_0
                                     replace p584 := eq_true p584
                                     replace q584 := eq_true q584
                                     have ea_ := Option.some.inj (hx574_0.symm.trans hx584_0)
                                     injection ea_ with ea_ en_ ec_
                                     subst ea_
                                     subst ec_
                                     clear en_
                                     have p585 : 0 ≤ ((ji26) : Int) := of_decide_eq_true (by first | (with_reducible assumption) | assumption)
                                     have q585 : (ji26) < (x6_1.length : Int) := of_decide_eq_true (by first | (with_reducible assumption) | assumption)
                                     obtain ⟨ad585, e585, hx585_0⟩ := Kd.at_int (Kd.R_reads' HO_6.out).2.2 (ji26) p585 q585
                                     obtain rfl : ad573 = ad585 := (by injection e585)
                                     replace p585 := eq_true p585
                                     replace q585 := eq_true q585
                                     have p586 : 0 ≤ ((rd x6_1 (ji26)) : Int) := of_decide_eq_true (by first | (with_reducible assumption) | assumption)
                                     have q586 : (rd x6_1 (ji26)) < ((rd_L4 t552 (rd x5_1 (ji26))).length : Int) := of_decide_eq_true (by first | (with_reducible assumption) | assumption)
                                     obtain ⟨ad586, e586, hx586_0⟩ := Kd.at_int (by repeat (first | (with_reducible exact HR584_0.out) | (with_reducible refine Kd.C_alloc ?_ _) | (with_reducible refine Kd.C_drewN ?_ _) | (with_reducible refine Kd.C_drew ?_) | exact HR584_0.out)) (rd x6_1 (ji26)) p586 q586
                                     cases e586
                                     replace p586 := eq_true p586
                                     replace q586 := eq_true q586
                                     have p587 : 0 ≤ ((ji26) : Int) := of_decide_eq_true (by first | (with_reducible assumption) | assumption)
                                     have q587 : (ji26) < (x6_1.length : Int) := of_decide_eq_true (by first | (with_reducible assumption) | assumption)
                                     obtain ⟨ad587, e587, hx587_0⟩ := Kd.at_int (Kd.R_reads' HO_6.out).2.2 (ji26) p587 q587
                                     obtain rfl : ad573 = ad587 := (by injection e587)
                                     replace p587 := eq_true p587
                                     replace q587 := eq_true q587
                                     have p45 : 0 ≤ ((ji26) : Int) := of_decide_eq_true (by first | (with_reducible assumption) | assumption)
                                     have q45 : ((ji26) : Int) < ((x6_1.length : Int) : Int) := of_decide_eq_true (by first | (with_reducible assumption) | assumption)
                                     obtain ⟨go45, co45, eo45, gb45, gl45, cl45, HG45⟩ := Kd.R_form HO_6.out (by omega)
                                     (first | cases eo45 | (injection eo45 with ea_ en_ ec_; (first | subst ea_ | (injection ea_ with ea_; subst ea_)); subst ec_; clear en_))
                                     have GB45 := Aside0.mk gb45
                                     have GG45 := Aside0.mk HG45
                                     clear gb45 gl45 HG45
                                     (first | simp only [add_plain] at hx573_0 | skip)
                                     (first | simp only [add_plain] at hx585_0 | skip)
                                     (first | simp only [add_plain] at hx587_0 | skip)
                                     obtain ⟨hx45_0, hf45_0⟩ := Kd.R_celln 0 HO_6.out ((ji26) : Int) p45 q45
                                     replace p45 := eq_true p45
                                     replace q45 := eq_true q45
                                     have HP63 := Kd.R_putg HO_6.out ((ji26) : Int) (wrap64 ((rd x6_1 (ji26)) + 1))
                                     go_wp2
                                     repeat (go_quiet (fail); try go_wp2_with (first | ((with_reducible refine gate_store (t := 3) (p := 71) rfl ?_); (try (rw [drewN_self wr]; generalize hq_ : World.drewN wr _ = wr; have n0_ := Aside0.mk (Kd.R_at hq_ HO_4.out); have n1_ := Aside0.mk (Kd.R_at hq_ HO_5.out); have n2_ := Aside0.mk (Kd.R_at hq_ HO_6.out); have n3_ := Aside0.mk (Kd.R_at hq_ HO_7.out); have n4_ := Aside0.mk (Kd.S_at hq_ HO_559000.out); have n5_ := Aside0.mk (Kd.S_at hq_ HO_559001.out); have n6_ := Aside0.mk (Kd.R_at hq_ HL574_0.out); have n7_ := Aside0.mk (Kd.R_at hq_ HL584_0.out); have n8_ := Aside0.mk (blk_at hq_ BK551.out); have n9_ := Aside0.mk (blk_at hq_ BK558.out); have n10_ := Aside0.mk (below_at hq_ HB.out); clear hq_ HO_4 HO_5 HO_6 HO_7 HO_559000 HO_559001 HL574_0 HL584_0 BK551 BK558 HB; have HO_4 := n0_; have HO_5 := n1_; have HO_6 := n2_; have HO_7 := n3_; have HO_559000 := n4_; have HO_559001 := n5_; have HL574_0 := n6_; have HL584_0 := n7_; have BK551 := n8_; have BK558 := n9_; have HB := n10_; clear n0_ n1_ n2_ n3_ n4_ n5_ n6_ n7_ n8_ n9_ n10_; (try (have HP63 := Kd.R_putg HO_6.out ((ji26) : Int) (wrap64 ((rd x6_1 (ji26)) + 1)))); obtain ⟨hxs_, hfs_⟩ := Kd.R_celln 0 HO_6.out ((ji26) : Int) (of_eq_true p45) (of_eq_true q45))); refine store_event (t := 3) (p := 71) (v := ?vo_w64) (w1 := (wr.setCell ⟨go45, ((ji26) : Int).toNat, none⟩ (.int .i64 (wrap64 ((rd x6_1 (ji26)) + 1))))) ?hg ?ho ?hn ?hr ?_; (case ho => rfl); (case hg => rfl); (case hn => rfl); (case hr => first | (go_simp; done) | (go_simp; rfl)); intro w64 hw; have hg : wr.grownBy w64 (some go45) := (by rw [hw]; exact HP63.2); have hp_ : Kd.R (Kd.int .i64) 3 w64 w.heap.size (fun _ => True) (.slice (some ⟨go45, 0, none⟩) x6_1.length co60) y588 := (by rw [hw, Ny588.out]; exact HP63.1); clear HP63; have n0_ := Aside0.mk (Kd.R_over' (v := (.slice (some ⟨go45, 0, none⟩) x6_1.length co60)) (by (with_reducible repeat (first | apply Kd.R_alloc | apply Kd.R_drewN | apply Kd.R_drew)); exact HO_4.out) (Kd.R_typed HO_6.out) (by decide) hg); have n1_ := Aside0.mk (Kd.R_over' (v := (.slice (some ⟨go45, 0, none⟩) x6_1.length co60)) (by (with_reducible repeat (first | apply Kd.R_alloc | apply Kd.R_drewN | apply Kd.R_drew)); exact HO_5.out) (Kd.R_typed HO_6.out) (by decide) hg); have n2_ := Aside0.mk (hp_); have n3_ := Aside0.mk (Kd.R_over' (v := (.slice (some ⟨go45, 0, none⟩) x6_1.length co60)) (by (with_reducible repeat (first | apply Kd.R_alloc | apply Kd.R_drewN | apply Kd.R_drew)); exact HO_7.out) (Kd.R_typed HO_6.out) (by decide) hg); have n4_ := Aside0.mk (Kd.S_over' (v := (.slice (some ⟨go45, 0, none⟩) x6_1.length co60)) (by (with_reducible repeat (first | apply Kd.S_alloc | apply Kd.S_drewN | apply Kd.S_drew)); exact HO_559000.out) (Kd.R_typed HO_6.out) (by decide) hg); have n5_ := Aside0.mk (Kd.S_over' (v := (.slice (some ⟨go45, 0, none⟩) x6_1.length co60)) (by (with_reducible repeat (first | apply Kd.S_alloc | apply Kd.S_drewN | apply Kd.S_drew)); exact HO_559001.out) (Kd.R_typed HO_6.out) (by decide) hg); have n6_ := Aside0.mk (blk_grown (g := gb551) (o := .cells #[.string a0_0, .int .i64 a0_1, .slice A0_2 l0_2.length c0_2, .int .i64 a0_3, .slice A0_4 l0_4.length c0_4] 30 (0, 0)) (by (with_reducible repeat (first | refine blk_drewN ?_ _ | refine blk_drew ?_ | refine blk_alloc ?_ _)); exact BK551.out) hg (Kd.R_ne HO_6.out BK551.out (by decide))); have n7_ := Aside0.mk (blk_grown (g := gb558) (o := .cells #[.slice (some ad574) t552.length co11, .slice Ao14 t555.length co14] 52 (0, 0)) (by (with_reducible repeat (first | refine blk_drewN ?_ _ | refine blk_drew ?_ | refine blk_alloc ?_ _)); exact BK558.out) hg (Kd.R_ne HO_6.out BK558.out (by decide))); have n8_ := Aside0.mk (Kd.R_over' (v := (.slice (some ⟨go45, 0, none⟩) x6_1.length co60)) (by (with_reducible repeat (first | apply Kd.R_alloc | apply Kd.R_drewN | apply Kd.R_drew)); exact HL574_0.out) (Kd.R_typed HO_6.out) (by decide) hg); have n9_ := Aside0.mk (Kd.R_over' (v := (.slice (some ⟨go45, 0, none⟩) x6_1.length co60)) (by (with_reducible repeat (first | apply Kd.R_alloc | apply Kd.R_drewN | apply Kd.R_drew)); exact HL584_0.out) (Kd.R_typed HO_6.out) (by decide) hg); have n10_ := Aside0.mk ((by rw [hw]; exact below_set (HB.out) GB45.out : Below w.heap.size w w64)); clear HO_4; clear HO_5; clear HO_6; clear HO_7; clear HO_559000; clear HO_559001; clear BK551; clear BK558; clear HL574_0; clear HL584_0; clear HB; have HO_4 := n0_; have HO_5 := n1_; have HO_6 := n2_; have HO_7 := n3_; have HO_559000 := n4_; have HO_559001 := n5_; have BK551 := n6_; have BK558 := n7_; have HL574_0 := n8_; have HL584_0 := n9_; have HB := n10_; clear n0_ n1_ n2_ n3_ n4_ n5_ n6_ n7_ n8_ n9_ n10_; clear hg hw hp_; have p589 : 0 ≤ ((rd (rd_L4 t552 (rd x5_1 (ji26))) (rd x6_1 (ji26))) : Int) := of_decide_eq_true (by first | (with_reducible assumption) | assumption); have q589 : (rd (rd_L4 t552 (rd x5_1 (ji26))) (rd x6_1 (ji26))) < (x4_1.length : Int) := of_decide_eq_true (by first | (with_reducible assumption) | assumption); obtain ⟨ad589, e589, hx589_0⟩ := Kd.at_bool (Kd.R_reads' HO_4.out).2.2 (rd (rd_L4 t552 (rd x5_1 (ji26))) (rd x6_1 (ji26))) p589 q589; (try rw [← Nbq48.out] at hx589_0); obtain rfl : (⟨go6, 0, none⟩ : Addr) = ad589 := (by injection e589); (first | simp only [add_plain] at hx589_0 | simp only [add_at] at hx589_0 | simp only [Addr.add, Nat.zero_add] at hx589_0 | skip); replace p589 := eq_true p589; replace q589 := eq_true q589; have p56 : 0 ≤ ((rd (rd_L4 t552 (rd x5_1 (ji26))) (rd x6_1 (ji26))) : Int) := of_decide_eq_true (by first | (with_reducible assumption) | assumption); have q56 : ((rd (rd_L4 t552 (rd x5_1 (ji26))) (rd x6_1 (ji26))) : Int) < ((x4_1.length : Int) : Int) := of_decide_eq_true (by first | (with_reducible assumption) | assumption); obtain ⟨hx56_0, hf56_0⟩ := Kd.R_celln false HO_4.out ((rd (rd_L4 t552 (rd x5_1 (ji26))) (rd x6_1 (ji26))) : Int) p56 q56; replace p56 := eq_true p56; replace q56 := eq_true q56; obtain ⟨hy65_, hz65_⟩ := Kd.R_celln false HO_4.out ((rd (rd_L4 t552 (rd x5_1 (ji26))) (rd x6_1 (ji26))) : Int) (of_decide_eq_true (by first | (with_reducible assumption) | assumption)) (of_decide_eq_true (by first | (with_reducible assumption) | assumption)); have HP65 := Kd.R_putg HO_4.out ((rd (rd_L4 t552 (rd x5_1 (ji26))) (rd x6_1 (ji26))) : Int) true) | ((with_reducible refine gate_store (t := 4) (p := 79) rfl ?_); (try (rw [drewN_self w64]; generalize hq_ : World.drewN w64 _ = w64; have n0_ := Aside0.mk (Kd.R_at hq_ HO_4.out); have n1_ := Aside0.mk (Kd.R_at hq_ HO_5.out); have n2_ := Aside0.mk (Kd.R_at hq_ HO_6.out); have n3_ := Aside0.mk (Kd.R_at hq_ HO_7.out); have n4_ := Aside0.mk (Kd.S_at hq_ HO_559000.out); have n5_ := Aside0.mk (Kd.S_at hq_ HO_559001.out); have n6_ := Aside0.mk (Kd.R_at hq_ HL574_0.out); have n7_ := Aside0.mk (Kd.R_at hq_ HL584_0.out); have n8_ := Aside0.mk (blk_at hq_ BK551.out); have n9_ := Aside0.mk (blk_at hq_ BK558.out); have n10_ := Aside0.mk (below_at hq_ HB.out); clear hq_ HO_4 HO_5 HO_6 HO_7 HO_559000 HO_559001 HL574_0 HL584_0 BK551 BK558 HB; have HO_4 := n0_; have HO_5 := n1_; have HO_6 := n2_; have HO_7 := n3_; have HO_559000 := n4_; have HO_559001 := n5_; have HL574_0 := n6_; have HL584_0 := n7_; have BK551 := n8_; have BK558 := n9_; have HB := n10_; clear n0_ n1_ n2_ n3_ n4_ n5_ n6_ n7_ n8_ n9_ n10_; (try (obtain ⟨hy65_, hz65_⟩ := Kd.R_celln false HO_4.out ((rd (rd_L4 t552 (rd x5_1 (ji26))) (rd x6_1 (ji26))) : Int) (of_decide_eq_true (by first | (with_reducible assumption) | assumption)) (of_decide_eq_true (by first | (with_reducible assumption) | assumption)))); (try (have HP65 := Kd.R_putg HO_4.out ((rd (rd_L4 t552 (rd x5_1 (ji26))) (rd x6_1 (ji26))) : Int) true)))); refine store_event (t := 4) (p := 79) (v := ?vo_w66) (w1 := (w64.setCell ⟨go6, ((rd (rd_L4 t552 (rd x5_1 (ji26))) (rd x6_1 (ji26))) : Int).toNat, none⟩ (.bool true))) ?hg ?ho ?hn ?hr ?_; (case ho => rfl); (case hg => rfl); (case hn => rfl); (case hr => first | (go_simp; done) | (go_simp; rfl)); intro w66 hw; have hg : w64.grownBy w66 (some go6) := (by rw [hw]; exact HP65.2); have hp_ : Kd.R Kd.bool 4 w66 w.heap.size (fun _ => True) (.slice (some ⟨go6, 0, none⟩) x4_1.length co6) y590 := (by rw [hw, Ny590.out]; exact HP65.1); clear HP65; have n0_ := Aside0.mk (hp_); have n1_ := Aside0.mk (Kd.R_over' (v := (.slice (some ⟨go6, 0, none⟩) x4_1.length co6)) (by (with_reducible repeat (first | apply Kd.R_alloc | apply Kd.R_drewN | apply Kd.R_drew)); exact HO_5.out) (Kd.R_typed HO_4.out) (by decide) hg); have n2_ := Aside0.mk (Kd.R_over' (v := (.slice (some ⟨go6, 0, none⟩) x4_1.length co6)) (by (with_reducible repeat (first | apply Kd.R_alloc | apply Kd.R_drewN | apply Kd.R_drew)); exact HO_6.out) (Kd.R_typed HO_4.out) (by decide) hg); have n3_ := Aside0.mk (Kd.R_over' (v := (.slice (some ⟨go6, 0, none⟩) x4_1.length co6)) (by (with_reducible repeat (first | apply Kd.R_alloc | apply Kd.R_drewN | apply Kd.R_drew)); exact HO_7.out) (Kd.R_typed HO_4.out) (by decide) hg); have n4_ := Aside0.mk (Kd.S_over' (v := (.slice (some ⟨go6, 0, none⟩) x4_1.length co6)) (by (with_reducible repeat (first | apply Kd.S_alloc | apply Kd.S_drewN | apply Kd.S_drew)); exact HO_559000.out) (Kd.R_typed HO_4.out) (by decide) hg); have n5_ := Aside0.mk (Kd.S_over' (v := (.slice (some ⟨go6, 0, none⟩) x4_1.length co6)) (by (with_reducible repeat (first | apply Kd.S_alloc | apply Kd.S_drewN | apply Kd.S_drew)); exact HO_559001.out) (Kd.R_typed HO_4.out) (by decide) hg); have n6_ := Aside0.mk (blk_grown (g := gb551) (o := .cells #[.string a0_0, .int .i64 a0_1, .slice A0_2 l0_2.length c0_2, .int .i64 a0_3, .slice A0_4 l0_4.length c0_4] 30 (0, 0)) (by (with_reducible repeat (first | refine blk_drewN ?_ _ | refine blk_drew ?_ | refine blk_alloc ?_ _)); exact BK551.out) hg (Kd.R_ne HO_4.out BK551.out (by decide))); have n7_ := Aside0.mk (blk_grown (g := gb558) (o := .cells #[.slice (some ad574) t552.length co11, .slice Ao14 t555.length co14] 52 (0, 0)) (by (with_reducible repeat (first | refine blk_drewN ?_ _ | refine blk_drew ?_ | refine blk_alloc ?_ _)); exact BK558.out) hg (Kd.R_ne HO_4.out BK558.out (by decide))); have n8_ := Aside0.mk (Kd.R_over' (v := (.slice (some ⟨go6, 0, none⟩) x4_1.length co6)) (by (with_reducible repeat (first | apply Kd.R_alloc | apply Kd.R_drewN | apply Kd.R_drew)); exact HL574_0.out) (Kd.R_typed HO_4.out) (by decide) hg); have n9_ := Aside0.mk (Kd.R_over' (v := (.slice (some ⟨go6, 0, none⟩) x4_1.length co6)) (by (with_reducible repeat (first | apply Kd.R_alloc | apply Kd.R_drewN | apply Kd.R_drew)); exact HL584_0.out) (Kd.R_typed HO_4.out) (by decide) hg); have n10_ := Aside0.mk ((by rw [hw]; exact below_set (HB.out) GB6.out : Below w.heap.size w w66)); clear HO_4; clear HO_5; clear HO_6; clear HO_7; clear HO_559000; clear HO_559001; clear BK551; clear BK558; clear HL574_0; clear HL584_0; clear HB; have HO_4 := n0_; have HO_5 := n1_; have HO_6 := n2_; have HO_7 := n3_; have HO_559000 := n4_; have HO_559001 := n5_; have BK551 := n6_; have BK558 := n7_; have HL574_0 := n8_; have HL584_0 := n9_; have HB := n10_; clear n0_ n1_ n2_ n3_ n4_ n5_ n6_ n7_ n8_ n9_ n10_; clear hg hw hp_) | ((with_reducible refine gate_builtin (b := .append) (xs := #[.tmp 80, .tmp 82]) rfl ?_); at_builtin; refine Kd.R_append (Kd.int .i64) (w0 := w) w.heap.size rfl (.tmp 80) (.tmp 82) 22 2 (.int .i64 0) 8 rfl Try.underlying22 info2 rfl (by decide) (by omega) (.slice (some ad572) x5_1.length co59) x5_1 (rd (rd_L4 t552 (rd x5_1 (ji26))) (rd x6_1 (ji26))) [.int .i64 (rd (rd_L4 t552 (rd x5_1 (ji26))) (rd x6_1 (ji26)))] (fun k_ => some k_ ≠ (u7 : Value).ownBlock) (fun _ => False) rfl rfl ?aP (fun _ hk => hk.elim) ?aF ?aO ?aB ?aS ?aL ?_; (case aP => exact rfl); (case aB => exact (by repeat (first | (with_reducible first | exact HB.out | apply below_alloc | apply pw_below_drewN | apply below_drew1 | refine below_set ?_ GE551.out | refine below_set ?_ GE558.out) | exact HB.out))); (case aF => exact (fun k_ hk => Kd.fresh' (Kd.R_lt (by (with_reducible repeat (first | apply Kd.R_alloc | apply Kd.R_drewN | apply Kd.R_drew)); exact HO_7.out)) k_ hk)); (case aO => exact (by (with_reducible repeat (first | apply Kd.R_alloc | apply Kd.R_drewN | apply Kd.R_drew)); exact HO_5.out)); (case aS => exact (below_size (by repeat (first | (with_reducible first | exact HB.out | apply below_alloc | apply pw_below_drewN | apply below_drew1 | refine below_set ?_ GE551.out | refine below_set ?_ GE558.out) | exact HB.out)))); (case aL => have := LMc57.out; omega); intro v592 w67 ho hb hg hat; rw [← Ny591.out] at ho; have n0_ := Aside0.mk (Kd.R_over' (by (with_reducible repeat (first | apply Kd.R_alloc | apply Kd.R_drewN | apply Kd.R_drew)); exact HO_4.out) (Kd.R_typed (by (with_reducible repeat (first | apply Kd.R_alloc | apply Kd.R_drewN | apply Kd.R_drew)); exact HO_5.out)) (by decide) hg); have n1_ := Aside0.mk (Kd.R_over' (by (with_reducible repeat (first | apply Kd.R_alloc | apply Kd.R_drewN | apply Kd.R_drew)); exact HO_6.out) (Kd.R_typed (by (with_reducible repeat (first | apply Kd.R_alloc | apply Kd.R_drewN | apply Kd.R_drew)); exact HO_5.out)) (by decide) hg); have n2_ := Aside0.mk (Kd.R_after (ok := (fun _ => True)) (by (with_reducible repeat (first | apply Kd.R_alloc | apply Kd.R_drewN | apply Kd.R_drew)); exact Kd.R_mono HO_7.out (fun _ hk => ⟨trivial, hk⟩)) hg hat); have n3_ := Aside0.mk (Kd.S_after (ok := (fun k_ => some k_ ≠ (u7 : Value).ownBlock ∧ some k_ ≠ (.slice Ao14 t555.length co14 : Value).ownBlock)) (by (with_reducible repeat (first | apply Kd.S_alloc | apply Kd.S_drewN | apply Kd.S_drew)); exact Kd.S_mono HO_559000.out (fun _ hk => ⟨⟨hk.2.1, hk.2.2⟩, hk.1⟩)) hg hat); have n4_ := Aside0.mk (Kd.S_after (ok := (fun k_ => some k_ ≠ (u7 : Value).ownBlock ∧ some k_ ≠ (.slice (some ad574) t552.length co11 : Value).ownBlock)) (by (with_reducible repeat (first | apply Kd.S_alloc | apply Kd.S_drewN | apply Kd.S_drew)); exact Kd.S_mono HO_559001.out (fun _ hk => ⟨⟨hk.2.1, hk.2.2⟩, hk.1⟩)) hg hat); have n5_ := Aside0.mk (blk_grown (g := gb551) (o := .cells #[.string a0_0, .int .i64 a0_1, .slice A0_2 l0_2.length c0_2, .int .i64 a0_3, .slice A0_4 l0_4.length c0_4] 30 (0, 0)) (by (with_reducible repeat (first | refine blk_drewN ?_ _ | refine blk_drew ?_ | refine blk_alloc ?_ _)); exact BK551.out) hg (Kd.R_ne HO_5.out BK551.out (by decide))); have n6_ := Aside0.mk (blk_grown (g := gb558) (o := .cells #[.slice (some ad574) t552.length co11, .slice Ao14 t555.length co14] 52 (0, 0)) (by (with_reducible repeat (first | refine blk_drewN ?_ _ | refine blk_drew ?_ | refine blk_alloc ?_ _)); exact BK558.out) hg (Kd.R_ne HO_5.out BK558.out (by decide))); have n7_ := Aside0.mk (Kd.R_after (ok := (fun k_ => some k_ ≠ (u7 : Value).ownBlock ∧ some k_ ≠ (.slice (some ad574) t552.length co11 : Value).ownBlock ∧ some k_ ≠ (.slice Ao14 t555.length co14 : Value).ownBlock)) (by (with_reducible repeat (first | apply Kd.R_alloc | apply Kd.R_drewN | apply Kd.R_drew)); exact Kd.R_mono HL574_0.out (fun _ hk => ⟨⟨hk.1.2.1, ⟨hk.2, hk.1.2.2⟩⟩, hk.1.1⟩)) hg hat); have n8_ := Aside0.mk (Kd.R_after (ok := (fun k_ => some k_ ≠ (u7 : Value).ownBlock ∧ some k_ ≠ (.slice (some ad574) t552.length co11 : Value).ownBlock ∧ some k_ ≠ (.slice Ao14 t555.length co14 : Value).ownBlock)) (by (with_reducible repeat (first | apply Kd.R_alloc | apply Kd.R_drewN | apply Kd.R_drew)); exact Kd.R_mono HL584_0.out (fun _ hk => ⟨⟨hk.1.2.1, ⟨hk.2, hk.1.2.2⟩⟩, hk.1.1⟩)) hg hat); have n9_ := Aside0.mk (hb); have n10_ := Aside0.mk (ho); clear HO_4; clear HO_6; clear HO_7; clear HO_559000; clear HO_559001; clear BK551; clear BK558; clear HL574_0; clear HL584_0; clear HB; clear HO_5; have HO_4 := n0_; have HO_6 := n1_; have HO_7 := n2_; have HO_559000 := n3_; have HO_559001 := n4_; have BK551 := n5_; have BK558 := n6_; have HL574_0 := n7_; have HL584_0 := n8_; have HB := n9_; have HO593 := n10_; clear n0_ n1_ n2_ n3_ n4_ n5_ n6_ n7_ n8_ n9_ n10_; clear ho hb hg hat) | ((with_reducible refine gate_builtin (b := .append) (xs := #[.tmp 84, .tmp 85]) rfl ?_); at_builtin; refine Kd.R_append (Kd.int .i64) (w0 := w) w.heap.size rfl (.tmp 84) (.tmp 85) 100 3 (.int .i64 0) 8 rfl Try.underlying100 info3 rfl (by decide) (by omega) (.slice (some ⟨go45, 0, none⟩) x6_1.length co60) y588 0 [.int .i64 0] (fun _ => True) (fun _ => False) rfl rfl ?aP (fun _ hk => hk.elim) ?aF ?aO ?aB ?aS ?aL ?_; (case aP => exact rfl); (case aB => exact (by repeat (first | (with_reducible first | exact HB.out | apply below_alloc | apply pw_below_drewN | apply below_drew1 | refine below_set ?_ GE551.out | refine below_set ?_ GE558.out) | exact HB.out))); (case aF => exact (fun _ _ => trivial)); (case aO => exact (by (with_reducible repeat (first | apply Kd.R_alloc | apply Kd.R_drewN | apply Kd.R_drew)); exact HO_6.out)); (case aS => exact (below_size (by repeat (first | (with_reducible first | exact HB.out | apply below_alloc | apply pw_below_drewN | apply below_drew1 | refine below_set ?_ GE551.out | refine below_set ?_ GE558.out) | exact HB.out)))); (case aL => have := LMc58.out; omega); intro v595 w68 ho hb hg hat; rw [← Ny594.out] at ho; have n0_ := Aside0.mk (Kd.R_over' (by (with_reducible repeat (first | apply Kd.R_alloc | apply Kd.R_drewN | apply Kd.R_drew)); exact HO_4.out) (Kd.R_typed (by (with_reducible repeat (first | apply Kd.R_alloc | apply Kd.R_drewN | apply Kd.R_drew)); exact HO_6.out)) (by decide) hg); have n1_ := Aside0.mk (Kd.R_over' (by (with_reducible repeat (first | apply Kd.R_alloc | apply Kd.R_drewN | apply Kd.R_drew)); exact HO_7.out) (Kd.R_typed (by (with_reducible repeat (first | apply Kd.R_alloc | apply Kd.R_drewN | apply Kd.R_drew)); exact HO_6.out)) (by decide) hg); have n2_ := Aside0.mk (Kd.S_over' (by (with_reducible repeat (first | apply Kd.S_alloc | apply Kd.S_drewN | apply Kd.S_drew)); exact HO_559000.out) (Kd.R_typed (by (with_reducible repeat (first | apply Kd.R_alloc | apply Kd.R_drewN | apply Kd.R_drew)); exact HO_6.out)) (by decide) hg); have n3_ := Aside0.mk (Kd.S_over' (by (with_reducible repeat (first | apply Kd.S_alloc | apply Kd.S_drewN | apply Kd.S_drew)); exact HO_559001.out) (Kd.R_typed (by (with_reducible repeat (first | apply Kd.R_alloc | apply Kd.R_drewN | apply Kd.R_drew)); exact HO_6.out)) (by decide) hg); have n4_ := Aside0.mk (blk_grown (g := gb551) (o := .cells #[.string a0_0, .int .i64 a0_1, .slice A0_2 l0_2.length c0_2, .int .i64 a0_3, .slice A0_4 l0_4.length c0_4] 30 (0, 0)) (by (with_reducible repeat (first | refine blk_drewN ?_ _ | refine blk_drew ?_ | refine blk_alloc ?_ _)); exact BK551.out) hg (Kd.R_ne HO_6.out BK551.out (by decide))); have n5_ := Aside0.mk (blk_grown (g := gb558) (o := .cells #[.slice (some ad574) t552.length co11, .slice Ao14 t555.length co14] 52 (0, 0)) (by (with_reducible repeat (first | refine blk_drewN ?_ _ | refine blk_drew ?_ | refine blk_alloc ?_ _)); exact BK558.out) hg (Kd.R_ne HO_6.out BK558.out (by decide))); have n6_ := Aside0.mk (Kd.R_over' (by (with_reducible repeat (first | apply Kd.R_alloc | apply Kd.R_drewN | apply Kd.R_drew)); exact HL574_0.out) (Kd.R_typed (by (with_reducible repeat (first | apply Kd.R_alloc | apply Kd.R_drewN | apply Kd.R_drew)); exact HO_6.out)) (by decide) hg); have n7_ := Aside0.mk (Kd.R_over' (by (with_reducible repeat (first | apply Kd.R_alloc | apply Kd.R_drewN | apply Kd.R_drew)); exact HL584_0.out) (Kd.R_typed (by (with_reducible repeat (first | apply Kd.R_alloc | apply Kd.R_drewN | apply Kd.R_drew)); exact HO_6.out)) (by decide) hg); have n8_ := Aside0.mk (Kd.R_over' (by (with_reducible repeat (first | apply Kd.R_alloc | apply Kd.R_drewN | apply Kd.R_drew)); exact HO593.out) (Kd.R_typed (by (with_reducible repeat (first | apply Kd.R_alloc | apply Kd.R_drewN | apply Kd.R_drew)); exact HO_6.out)) (by decide) hg); have n9_ := Aside0.mk (hb); have n10_ := Aside0.mk (ho); clear HO_4; clear HO_7; clear HO_559000; clear HO_559001; clear BK551; clear BK558; clear HL574_0; clear HL584_0; clear HO593; clear HB; clear HO_6; have HO_4 := n0_; have HO_7 := n1_; have HO_559000 := n2_; have HO_559001 := n3_; have BK551 := n4_; have BK558 := n5_; have HL574_0 := n6_; have HL584_0 := n7_; have HO593 := n8_; have HB := n9_; have HO596 := n10_; clear n0_ n1_ n2_ n3_ n4_ n5_ n6_ n7_ n8_ n9_ n10_; clear ho hb hg hat)))
                                     (try simp only [← hl4_1])
                                     go_roundg k1
                                     case measure => have := HK1.out; omega
                                     case rel => exact ⟨(y590), (y591), (y594), (x7_1), H', ⟨by have := HK1.out; omega⟩, ⟨by (try simp only [hl4_1]); (with_reducible repeat (first | apply Kd.R_alloc | apply Kd.R_drewN | apply Kd.R_drew)); exact HO_4.out⟩, ⟨by (try simp only [hl4_1]); (with_reducible repeat (first | apply Kd.R_alloc | apply Kd.R_drewN | apply Kd.R_drew)); exact HO593.out⟩, ⟨by (try simp only [hl4_1]); (with_reducible repeat (first | apply Kd.R_alloc | apply Kd.R_drewN | apply Kd.R_drew)); exact HO596.out⟩, ⟨by (try simp only [hl4_1]); (with_reducible repeat (first | apply Kd.R_alloc | apply Kd.R_drewN | apply Kd.R_drew)); exact Kd.R_mono HO_7.out (fun _ hk => hk.2)⟩, ⟨by (try simp only [hl4_1]); (with_reducible repeat (first | apply Kd.S_alloc | apply Kd.S_drewN | apply Kd.S_drew)); exact Kd.S_mono HO_559000.out (fun _ hk => ⟨hk.2, ⟨hk.1.1, hk.1.2⟩⟩)⟩, ⟨by (try simp only [hl4_1]); (with_reducible repeat (first | apply Kd.S_alloc | apply Kd.S_drewN | apply Kd.S_drew)); exact Kd.S_mono HO_559001.out (fun _ hk => ⟨hk.2, ⟨hk.1.1, hk.1.2⟩⟩)⟩, ⟨by (try simp only [hl4_1]); (with_reducible repeat (first | refine blk_drewN ?_ _ | refine blk_drew ?_ | refine blk_alloc ?_ _)); exact BK551.out⟩, ⟨by (try simp only [hl4_1]); (with_reducible repeat (first | refine blk_drewN ?_ _ | refine blk_drew ?_ | refine blk_alloc ?_ _)); exact BK558.out⟩, ⟨by repeat (first | (with_reducible first | exact HB.out | apply below_alloc | apply pw_below_drewN | apply below_drew1 | refine below_set ?_ GE551.out | refine below_set ?_ GE558.out) | exact HB.out)⟩⟩
                                   · rw [if_neg c58] at H
                                     exact absurd H (by simp)
                                 · rw [if_neg c57] at H
                                   exact absurd H (by simp)
                             · rw [if_neg c47] at H
                               exact absurd H (by simp)
                           · rw [if_neg c46] at H
                             exact absurd H (by simp)
                         · rw [if_neg c44] at H
                           exact absurd H (by simp)
                       · rw [if_neg c43] at H
                         exact absurd H (by simp)
                   · rw [if_neg c31] at H
                     exact absurd H (by simp)
                 · rw [if_neg c30] at H
                   exact absurd H (by simp)
               · rw [if_neg c29] at H
                 exact absurd H (by simp)
             · rw [if_neg c28] at H
               exact absurd H (by simp)
           · rw [if_neg c27] at H
             exact absurd H (by simp)
         · rw [if_neg c25] at H
           have c25b0 : decide (0 < (x5_1.length : Int)) = false := decide_eq_false c25
           have c25b1 : decide (0 < x5_1.length) = false := decide_eq_false (by omega)
           clear c25
           obtain ⟨y597, hy597⟩ : ∃ y_ : List Int, y_ = (([] : List Int)) := ⟨_, rfl⟩
           replace H : (spec_l4LongOrder.l1 k1 x7_1 y597 (wrap64 ((x7_1.length : Int) - 1))) = some r := by first | (rw [hy597]; with_reducible exact H) | (have H2_ := (Option.bind_some _ _).symm.trans H; rw [hy597]; with_reducible exact H2_) | (have H2_ := (Option.bind_some _ _).symm.trans H; with_reducible exact H2_) | with_reducible exact H | (rw [hy597]; exact H) | exact H
           have Ny597 := Aside0.mk hy597
           clear hy597
           have H' := Aside0.mk H
           clear H
           obtain ⟨Ao69, co69, eo69⟩ := Kd.R_slice HO_5.out
           subst eo69
           go_wp2_with (first | ((with_reducible refine gate_dst (N := 87) rfl ?_); refine Kd.R_lit (Kd.int .i64) _ 2 ?hg (N := 87) ?hd (xs := ([] : List Int)) (inner := []) (ok := fun _ => True) (okp := fun _ => True) ?hr ?hp (fun _ hk => hk) trivial (Below.refl _ _) (Nat.le_refl _) (by simp) ?_; (case hd => rfl); (case hg => rfl); (case hr => first | (go_simp; done) | (go_simp; rfl)); (case hp => exact (Reps.none _ _)); intro v598 w70 ho71 hb hg_ hnew_; clear hg_ hnew_; (first | rw [← Ny597.out] at ho71 | (simp only [Int.reduceToNat] at ho71; rw [← Ny597.out] at ho71)); have n0_ := Aside0.mk (Kd.R_below (by (with_reducible repeat (first | apply Kd.R_alloc | apply Kd.R_drewN | apply Kd.R_drew)); exact HO_4.out) hb); have n1_ := Aside0.mk (Kd.R_elder' (by (with_reducible repeat (first | apply Kd.R_alloc | apply Kd.R_drewN | apply Kd.R_drew)); exact HO_5.out) (Kd.R_base ho71) hb); have n2_ := Aside0.mk (Kd.R_below (by (with_reducible repeat (first | apply Kd.R_alloc | apply Kd.R_drewN | apply Kd.R_drew)); exact HO_6.out) hb); have n3_ := Aside0.mk (Kd.R_elder' (by (with_reducible repeat (first | apply Kd.R_alloc | apply Kd.R_drewN | apply Kd.R_drew)); exact HO_7.out) (Kd.R_base ho71) hb); have n4_ := Aside0.mk (Kd.S_elder' (by (with_reducible repeat (first | apply Kd.S_alloc | apply Kd.S_drewN | apply Kd.S_drew)); exact HO_559000.out) (Kd.R_base ho71) hb); have n5_ := Aside0.mk (Kd.S_elder' (by (with_reducible repeat (first | apply Kd.S_alloc | apply Kd.S_drewN | apply Kd.S_drew)); exact HO_559001.out) (Kd.R_base ho71) hb); have n6_ := Aside0.mk (Kd.R_lower (Kd.R_new' (Kd.R_new' ho71 (Kd.R_lt (by (with_reducible repeat (first | apply Kd.R_alloc | apply Kd.R_drewN | apply Kd.R_drew)); exact HO_5.out))) (Kd.R_lt (by (with_reducible repeat (first | apply Kd.R_alloc | apply Kd.R_drewN | apply Kd.R_drew)); exact HO_7.out))) (below_size (by repeat (first | (with_reducible first | exact HB.out | apply below_alloc | apply pw_below_drewN | apply below_drew1 | refine below_set ?_ GE551.out | refine below_set ?_ GE558.out) | exact HB.out)))); have n7_ := Aside0.mk (blk_below (g := gb551) (o := .cells #[.string a0_0, .int .i64 a0_1, .slice A0_2 l0_2.length c0_2, .int .i64 a0_3, .slice A0_4 l0_4.length c0_4] 30 (0, 0)) (by (with_reducible repeat (first | refine blk_drewN ?_ _ | refine blk_drew ?_ | refine blk_alloc ?_ _)); exact BK551.out) hb); have n8_ := Aside0.mk (blk_below (g := gb558) (o := .cells #[.slice Ao11 t552.length co11, .slice Ao14 t555.length co14] 52 (0, 0)) (by (with_reducible repeat (first | refine blk_drewN ?_ _ | refine blk_drew ?_ | refine blk_alloc ?_ _)); exact BK558.out) hb); have n9_ := Aside0.mk (below_step (by repeat (first | (with_reducible first | exact HB.out | apply below_alloc | apply pw_below_drewN | apply below_drew1 | refine below_set ?_ GE551.out | refine below_set ?_ GE558.out) | exact HB.out)) hb); clear HO_4; clear HO_5; clear HO_6; clear HO_7; clear HO_559000; clear HO_559001; clear BK551; clear BK558; clear HB; have HO_4 := n0_; have HO_5 := n1_; have HO_6 := n2_; have HO_7 := n3_; have HO_559000 := n4_; have HO_559001 := n5_; have HO599 := n6_; have BK551 := n7_; have BK558 := n8_; have HB := n9_; clear n0_ n1_ n2_ n3_ n4_ n5_ n6_ n7_ n8_ n9_; clear hb ho71; obtain ⟨Ao72, co72, eo72⟩ := Kd.R_slice HO_7.out; subst eo72))
           repeat (go_quiet (fail); try go_wp2)
           go_loopg [11, 12] k1 (fun kq v11 v12 w' => ∃ (x11_2 : List Int) (x12_2 : Int), v12 = .int .i64 x12_2 ∧ Aside0 (spec_l4LongOrder.l1 kq x7_1 x11_2 x12_2 = some r) ∧ Aside0 (kq ≤ k1) ∧ Aside0 (Kd.R (Kd.int .i64) 2 w' w.heap.size (fun k_ => some k_ ≠ (v11 : Value).ownBlock) (.slice Ao72 x7_1.length co72) x7_1) ∧ Aside0 (Kd.R (Kd.int .i64) 2 w' w.heap.size (fun k_ => some k_ ≠ ((.slice Ao72 x7_1.length co72) : Value).ownBlock) v11 x11_2) ∧ Aside0 (Kd.S (Kd.slice 2 (Kd.int .i64)) 22 w' w.heap.size (fun k_ => some k_ ≠ ((.slice Ao72 x7_1.length co72) : Value).ownBlock ∧ some k_ ≠ (v11 : Value).ownBlock ∧ some k_ ≠ ((.slice Ao14 t555.length co14) : Value).ownBlock) (.slice Ao11 t552.length co11) t552) ∧ Aside0 (Kd.S (Kd.slice 2 (Kd.int .i64)) 22 w' w.heap.size (fun k_ => some k_ ≠ ((.slice Ao72 x7_1.length co72) : Value).ownBlock ∧ some k_ ≠ (v11 : Value).ownBlock ∧ some k_ ≠ ((.slice Ao11 t552.length co11) : Value).ownBlock) (.slice Ao14 t555.length co14) t555) ∧ Aside0 (w'.heap[gb551]? = some (.cells #[.string a0_0, .int .i64 a0_1, (.slice A0_2 l0_2.length c0_2), .int .i64 a0_3, (.slice A0_4 l0_4.length c0_4)] 30 (0, 0))) ∧ Aside0 (w'.heap[gb558]? = some (.cells #[(.slice Ao11 t552.length co11), (.slice Ao14 t555.length co14)] 52 (0, 0))) ∧ Aside0 (Below w.heap.size w w'))
           case atStart => exact ⟨(y597), (wrap64 ((x7_1.length : Int) - 1)), (by first | rfl | (simp; done) | (simp [*]; done)), H', ⟨Nat.le_refl _⟩, ⟨by (try simp only [hl4_1]); (with_reducible repeat (first | apply Kd.R_alloc | apply Kd.R_drewN | apply Kd.R_drew)); exact Kd.R_mono HO_7.out (fun _ hk => hk.2)⟩, ⟨by (try simp only [hl4_1]); (with_reducible repeat (first | apply Kd.R_alloc | apply Kd.R_drewN | apply Kd.R_drew)); exact Kd.R_mono HO599.out (fun _ hk => hk.2)⟩, ⟨by (try simp only [hl4_1]); (with_reducible repeat (first | apply Kd.S_alloc | apply Kd.S_drewN | apply Kd.S_drew)); exact Kd.S_mono HO_559000.out (fun _ hk => ⟨hk.1.2.1, ⟨hk.2, hk.1.2.2⟩⟩)⟩, ⟨by (try simp only [hl4_1]); (with_reducible repeat (first | apply Kd.S_alloc | apply Kd.S_drewN | apply Kd.S_drew)); exact Kd.S_mono HO_559001.out (fun _ hk => ⟨hk.1.2.1, ⟨hk.2, hk.1.2.2⟩⟩)⟩, ⟨by (try simp only [hl4_1]); (with_reducible repeat (first | refine blk_drewN ?_ _ | refine blk_drew ?_ | refine blk_alloc ?_ _)); exact BK551.out⟩, ⟨by (try simp only [hl4_1]); (with_reducible repeat (first | refine blk_drewN ?_ _ | refine blk_drew ?_ | refine blk_alloc ?_ _)); exact BK558.out⟩, ⟨by repeat (first | (with_reducible first | exact HB.out | apply below_alloc | apply pw_below_drewN | apply below_drew1 | refine below_set ?_ GE551.out | refine below_set ?_ GE558.out) | exact HB.out)⟩⟩
           case round =>
            clear H'
            try clear c1
            try clear c2
            try clear p2
            try clear c3
            try clear c3b0
            try clear c3b1
            try clear c4
            try clear c4b0
            try clear c4b1
            try clear p4
            try clear q4
            try clear hx4
            try clear hf4
            try clear c5
            try clear c5b0
            try clear c5b1
            try clear p5
            try clear q5
            try clear hx5
            try clear hf5
            try clear c6
            try clear p6
            try clear q6
            try clear hx6
            try clear qi6
            try clear hf6
            try clear c12
            try clear c25
            try clear c25b0
            try clear c25b1
            try clear c27
            try clear c27b0
            try clear c28
            try clear c28b0
            try clear c29
            try clear c29b0
            try clear c30
            try clear c30b0
            try clear c31
            try clear c31b0
            try clear c32
            try clear c32b0
            try clear c32b1
            try clear c33
            try clear c34
            try clear c34b0
            try clear c34b1
            try clear c35
            try clear c35b0
            try clear c35b1
            try clear c38
            try clear q41
            try clear q42
            try clear c43
            try clear c43b0
            try clear c44
            try clear c44b0
            try clear p45
            try clear q45
            try clear hx45
            try clear hf45
            try clear c46
            try clear c46b0
            try clear c47
            try clear c47b0
            try clear q48
            try clear c49
            try clear c52
            try clear c55
            try clear p56
            try clear q56
            try clear hx56
            try clear hf56
            try clear c57
            try clear p57
            try clear q57
            try clear hx57
            try clear c58
            try clear p58
            try clear q58
            try clear hx58
            try clear c61
            try clear p64
            try clear hcz13_0
            try clear hcz13_1
            try clear hcz39_0
            try clear hcz39_1
            try clear hcz53_0
            try clear hcz53_1
            try clear hcz62_0
            try clear hcz62_1
            try clear hcz8_0
            try clear hcz8_1
            try clear hcz8_2
            try clear hcz8_3
            try clear hcz8_4
            try clear hfz13_0
            try clear hfz13_1
            try clear hfz39_0
            try clear hfz39_1
            try clear hfz53_0
            try clear hfz53_1
            try clear hfz62_0
            try clear hfz62_1
            try clear hfz8_0
            try clear hfz8_1
            try clear hfz8_2
            try clear hfz8_3
            try clear hfz8_4
            try clear hx45_0
            try clear hx56_0
            try clear hx572_0
            try clear hx573_0
            try clear hx574_0
            try clear hx584_0
            try clear hx585_0
            try clear hx586_0
            try clear hx587_0
            try clear hx589_0
            try clear hx6_0
            try clear p2
            try clear p45
            try clear p56
            try clear p572
            try clear p573
            try clear p574
            try clear p584
            try clear p585
            try clear p586
            try clear p587
            try clear p589
            try clear p6
            try clear q41
            try clear q42
            try clear q45
            try clear q56
            try clear q572
            try clear q573
            try clear q574
            try clear q584
            try clear q585
            try clear q586
            try clear q587
            try clear q589
            try clear q6
            obtain ⟨x11_2, x12_2, rfl, HA, HK2, HO_7, HO_11, HO_559000, HO_559001, BK551, BK558, HB⟩ := hrel
            cases gk with
            | zero => exact absurd HA.out (by simp [spec_l4LongOrder.l1])
            | succ k2 =>
             have H := HA.out
             clear HA
             simp only [spec_l4LongOrder.l1] at H
             by_cases c73 : x12_2 ≥ 0
             · rw [if_pos c73] at H
               have c73b0 : decide (0 ≤ x12_2) = true := decide_eq_true c73
               clear c73
               by_cases c74 : 0 ≤ x12_2
               · rw [if_pos c74] at H
                 have c74b0 : decide (0 ≤ x12_2) = true := decide_eq_true c74
                 clear c74
                 by_cases c75 : x12_2 < (x7_1.length : Int)
                 · rw [if_pos c75] at H
                   have c75b0 : decide (x12_2 < (x7_1.length : Int)) = true := decide_eq_true c75
                   clear c75
                   by_cases c76 : x11_2.length < 17592186044416
                   · rw [if_pos c76] at H
                     have LMc76 := Aside0.mk c76
                     clear c76
                     obtain ⟨y601, hy601⟩ : ∃ y_ : List Int, y_ = (x11_2 ++ [rd x7_1 x12_2]) := ⟨_, rfl⟩
                     replace H : (spec_l4LongOrder.l1 k2 x7_1 y601 (wrap64 (x12_2 - 1))) = some r := by first | (rw [hy601]; with_reducible exact H) | (have H2_ := (Option.bind_some _ _).symm.trans H; rw [hy601]; with_reducible exact H2_) | (have H2_ := (Option.bind_some _ _).symm.trans H; with_reducible exact H2_) | with_reducible exact H | (rw [hy601]; exact H) | exact H
                     have Ny601 := Aside0.mk hy601
                     clear hy601
                     have H' := Aside0.mk H
                     clear H
                     have p600 : 0 ≤ (x12_2 : Int) := of_decide_eq_true (by first | (with_reducible assumption) | assumption)
                     have q600 : x12_2 < (x7_1.length : Int) := of_decide_eq_true (by first | (with_reducible assumption) | assumption)
                     obtain ⟨ad600, e600, hx600_0⟩ := Kd.at_int (Kd.R_reads' HO_7.out).2.2 x12_2 p600 q600
                     cases e600
                     replace p600 := eq_true p600
                     replace q600 := eq_true q600
                     go_wp2_with (first | ((with_reducible refine gate_builtin (b := .append) (xs := #[.tmp 95, .tmp 100]) rfl ?_); at_builtin; refine Kd.R_append (Kd.int .i64) (w0 := w) w.heap.size rfl (.tmp 95) (.tmp 100) 22 2 (.int .i64 0) 8 rfl Try.underlying22 info2 rfl (by decide) (by omega) u11 x11_2 (rd x7_1 x12_2) [.int .i64 (rd x7_1 x12_2)] (fun k_ => some k_ ≠ (.slice (some ad600) x7_1.length co72 : Value).ownBlock) (fun _ => False) rfl rfl ?aP (fun _ hk => hk.elim) ?aF ?aO ?aB ?aS ?aL ?_; (case aP => exact rfl); (case aB => exact (by repeat (first | (with_reducible first | exact HB.out | apply below_alloc | apply pw_below_drewN | apply below_drew1 | refine below_set ?_ GE551.out | refine below_set ?_ GE558.out) | exact HB.out))); (case aF => exact (fun k_ hk => Kd.fresh' (Kd.R_lt (by (with_reducible repeat (first | apply Kd.R_alloc | apply Kd.R_drewN | apply Kd.R_drew)); exact HO_7.out)) k_ hk)); (case aO => exact (by (with_reducible repeat (first | apply Kd.R_alloc | apply Kd.R_drewN | apply Kd.R_drew)); exact HO_11.out)); (case aS => exact (below_size (by repeat (first | (with_reducible first | exact HB.out | apply below_alloc | apply pw_below_drewN | apply below_drew1 | refine below_set ?_ GE551.out | refine below_set ?_ GE558.out) | exact HB.out)))); (case aL => have := LMc76.out; omega); intro v602 w77 ho hb hg hat; rw [← Ny601.out] at ho; have n0_ := Aside0.mk (Kd.R_after (ok := (fun _ => True)) (by (with_reducible repeat (first | apply Kd.R_alloc | apply Kd.R_drewN | apply Kd.R_drew)); exact Kd.R_mono HO_7.out (fun _ hk => ⟨trivial, hk⟩)) hg hat); have n1_ := Aside0.mk (Kd.S_after (ok := (fun k_ => some k_ ≠ (.slice (some ad600) x7_1.length co72 : Value).ownBlock ∧ some k_ ≠ (.slice Ao14 t555.length co14 : Value).ownBlock)) (by (with_reducible repeat (first | apply Kd.S_alloc | apply Kd.S_drewN | apply Kd.S_drew)); exact Kd.S_mono HO_559000.out (fun _ hk => ⟨⟨hk.1, hk.2.2⟩, hk.2.1⟩)) hg hat); have n2_ := Aside0.mk (Kd.S_after (ok := (fun k_ => some k_ ≠ (.slice (some ad600) x7_1.length co72 : Value).ownBlock ∧ some k_ ≠ (.slice Ao11 t552.length co11 : Value).ownBlock)) (by (with_reducible repeat (first | apply Kd.S_alloc | apply Kd.S_drewN | apply Kd.S_drew)); exact Kd.S_mono HO_559001.out (fun _ hk => ⟨⟨hk.1, hk.2.2⟩, hk.2.1⟩)) hg hat); have n3_ := Aside0.mk (blk_grown (g := gb551) (o := .cells #[.string a0_0, .int .i64 a0_1, .slice A0_2 l0_2.length c0_2, .int .i64 a0_3, .slice A0_4 l0_4.length c0_4] 30 (0, 0)) (by (with_reducible repeat (first | refine blk_drewN ?_ _ | refine blk_drew ?_ | refine blk_alloc ?_ _)); exact BK551.out) hg (Kd.R_ne HO_11.out BK551.out (by decide))); have n4_ := Aside0.mk (blk_grown (g := gb558) (o := .cells #[.slice Ao11 t552.length co11, .slice Ao14 t555.length co14] 52 (0, 0)) (by (with_reducible repeat (first | refine blk_drewN ?_ _ | refine blk_drew ?_ | refine blk_alloc ?_ _)); exact BK558.out) hg (Kd.R_ne HO_11.out BK558.out (by decide))); have n5_ := Aside0.mk (hb); have n6_ := Aside0.mk (ho); clear HO_7; clear HO_559000; clear HO_559001; clear BK551; clear BK558; clear HB; clear HO_11; have HO_7 := n0_; have HO_559000 := n1_; have HO_559001 := n2_; have BK551 := n3_; have BK558 := n4_; have HB := n5_; have HO603 := n6_; clear n0_ n1_ n2_ n3_ n4_ n5_ n6_; clear ho hb hg hat))
                     repeat (go_quiet (fail); try go_wp2)
                     go_roundg k2
                     case measure => have := HK1.out; have := HK2.out; omega
                     case rel => exact ⟨(y601), (wrap64 (x12_2 - 1)), (by first | rfl | (simp; done) | (simp [*]; done)), H', ⟨by have := HK1.out; have := HK2.out; omega⟩, ⟨by (try simp only [hl4_1]); (with_reducible repeat (first | apply Kd.R_alloc | apply Kd.R_drewN | apply Kd.R_drew)); exact Kd.R_mono HO_7.out (fun _ hk => hk.2)⟩, ⟨by (try simp only [hl4_1]); (with_reducible repeat (first | apply Kd.R_alloc | apply Kd.R_drewN | apply Kd.R_drew)); exact HO603.out⟩, ⟨by (try simp only [hl4_1]); (with_reducible repeat (first | apply Kd.S_alloc | apply Kd.S_drewN | apply Kd.S_drew)); exact Kd.S_mono HO_559000.out (fun _ hk => ⟨hk.1.1, ⟨hk.2, hk.1.2⟩⟩)⟩, ⟨by (try simp only [hl4_1]); (with_reducible repeat (first | apply Kd.S_alloc | apply Kd.S_drewN | apply Kd.S_drew)); exact Kd.S_mono HO_559001.out (fun _ hk => ⟨hk.1.1, ⟨hk.2, hk.1.2⟩⟩)⟩, ⟨by (try simp only [hl4_1]); (with_reducible repeat (first | refine blk_drewN ?_ _ | refine blk_drew ?_ | refine blk_alloc ?_ _)); exact BK551.out⟩, ⟨by (try simp only [hl4_1]); (with_reducible repeat (first | refine blk_drewN ?_ _ | refine blk_drew ?_ | refine blk_alloc ?_ _)); exact BK558.out⟩, ⟨by repeat (first | (with_reducible first | exact HB.out | apply below_alloc | apply pw_below_drewN | apply below_drew1 | refine below_set ?_ GE551.out | refine below_set ?_ GE558.out) | exact HB.out)⟩⟩
                   · rw [if_neg c76] at H
                     exact absurd H (by simp)
                 · rw [if_neg c75] at H
                   exact absurd H (by simp)
               · rw [if_neg c74] at H
                 exact absurd H (by simp)
             · rw [if_neg c73] at H
               have c73b0 : decide (0 ≤ x12_2) = false := decide_eq_false c73
               clear c73
               obtain rfl := Option.some.inj H
               go_wp2
               repeat (go_quiet (fail); try go_wp2)
               go_ret
               exact ⟨_, by first | rfl | (simp [errW_none, errW_some] <;> rfl) | (simp [*, errW_none, errW_some] <;> rfl), by (with_reducible repeat (first | apply Kd.R_alloc | apply Kd.R_drewN | apply Kd.R_drew)); exact Kd.R_mono HO_11.out (fun _ hk => trivial), by repeat (first | (with_reducible first | exact HB.out | apply below_alloc | apply pw_below_drewN | apply below_drew1 | refine below_set ?_ GE551.out | refine below_set ?_ GE558.out) | exact HB.out)⟩
     · rw [if_neg c5] at H
       exact absurd H (by simp)
   · rw [if_neg c4] at H
     exact absurd H (by simp)
 · rw [if_neg c3] at H
   exact absurd H (by simp)

end Go.Proofs.Ytoedcnhgobbnfaa.All


namespace Go.Proofs.Ytoedcnhgobbnfaa.All
open Go.RowKit Go.Proofs.YtoedcnhgobbnfaaW.PrintWords Go.Proofs.YtoedcnhgobbnfaaW.PrintLast Go.Proofs.YtoedcnhgobbnfaaW.PrintMore
attribute [local go_sem] max2_int min2_int max_two min_two max_three min_three max_four min_four   -- for this text's walks alone
set_option linter.unusedVariables false
set_option linter.unusedSimpArgs false

/-! ### spec_l4Walk: function 73 -/
mutual
def spec_l4Walk.l0 : Nat → Int → List Bool → List Int → Int → List (List Int) → List (List Int) → Option (List Int × List Bool)
 | 0, _, _, _, _, _, _ => none
 | k + 1, x1, x2, x3, x9, x605000, x605001 => if 0 ≤ x1 then (if x1 < (x605000.length : Int) then (if x9 < ((rd_L4 x605000 x1).length : Int) then (if 0 ≤ x9 then (if 0 ≤ (rd (rd_L4 x605000 x1) x9) then (if (rd (rd_L4 x605000 x1) x9) < (x2.length : Int) then (if (rdOf false x2 (rd (rd_L4 x605000 x1) x9) = true) then (spec_l4Walk.l0 k x1 x2 x3 (wrap64 (x9 + 1)) x605000 x605001) else ((spec_l4Walk.f k x605000 x605001 (rd (rd_L4 x605000 x1) x9) x2 x3).bind fun bt612 => (spec_l4Walk.l0 k x1 bt612.2 bt612.1 (wrap64 (x9 + 1)) x605000 x605001))) else (none)) else (none)) else (none)) else (if x3.length < 17592186044416 then (some ((x3 ++ [x1]), x2)) else (none))) else (none)) else (none)
def spec_l4Walk.f : Nat → List (List Int) → List (List Int) → Int → List Bool → List Int → Option (List Int × List Bool)
 | 0, _, _, _, _, _ => none
 | k + 1, l0_0, l0_1, a1, l2, l3 => if 0 ≤ a1 then (if a1 < (l2.length : Int) then (spec_l4Walk.l0 k a1 (l2.set (a1 : Int).toNat true) l3 0 l0_0 l0_1) else (none)) else (none)
end
def spec_l4Walk.T6 : Bool × List (List Nat × List Nat) := (true, [([], []), ([], []), ([1], [1]), ([], []), ([2, 3], [2, 3]), ([4], [4]), ([], []), ([5, 6], [5, 6]), ([7], [7]), ([], []), ([], []), ([0, 8, 9, 10], [0, 8, 9, 10]), ([11, 11, 0, 1, 2, 3, 4, 5, 6, 7, 8, 9, 10, 11], [10, 11])])
def spec_l4Walk.B6 : List Nat := [0, 0, 2, 0, 14, 30, 0, 126, 254, 0, 0, 2047, 4095]
theorem spec_l4Walk.tab6 : rtab .any (opsOf Try.f73 6) = spec_l4Walk.T6 := by kernel_rfl
theorem spec_l4Walk.bits6 : waitsOk spec_l4Walk.T6.2 spec_l4Walk.B6 = true := by kernel_rfl
set_option maxHeartbeats 8000000 in
set_option maxRecDepth 100000 in
theorem spec_l4Walk.calls (k : Nat) : ∀ (A0_0 : Option Addr) (c0_0 : Nat) (l0_0 : List (List Int)) (A0_1 : Option Addr) (c0_1 : Nat) (l0_1 : List (List Int)) (a1 : Int) (P2_ : Nat → Prop) (u9000_ : Value) (l2 : List Bool) (P3_ : Nat → Prop) (u9001_ : Value) (l3 : List Int) (r1 : List Int) (r2 : List Bool) (w0 w : World) (hB : Below w0.heap.size w0 w) (hr0_0 : ∀ W_, Kept w W_ (fun k_ => P2_ k_ ∨ P3_ k_) → Kd.C (Kd.slice 2 (Kd.int .i64)) W_ A0_0 l0_0.length l0_0) (hc0_0 : l0_0.length ≤ c0_0) (hr0_1 : ∀ W_, Kept w W_ (fun k_ => P2_ k_ ∨ P3_ k_) → Kd.C (Kd.slice 2 (Kd.int .i64)) W_ A0_1 l0_1.length l0_1) (hc0_1 : l0_1.length ≤ c0_1) (ho2 : Kd.R Kd.bool 4 w w0.heap.size P2_ u9000_ l2) (ho3 : Kd.R (Kd.int .i64) 2 w w0.heap.size P3_ u9001_ l3) (h : spec_l4Walk.f k l0_0 l0_1 a1 l2 l3 = some (r1, r2)),
 Calls Try.prog 73 #[.agg #[.slice A0_0 l0_0.length c0_0, .slice A0_1 l0_1.length c0_1], .int .i64 a1, u9000_, u9001_] w fun e w' => ∃ v0_ : Value, e = .returned (v0_) ∧ Kd.R (Kd.int .i64) 2 w' w0.heap.size (fun k_ => ((P2_ k_ ∨ P3_ k_) ∨ w.heap.size ≤ k_)) v0_ r1 ∧ Kd.R Kd.bool 4 w' w0.heap.size (fun k_ => ((P2_ k_ ∨ P3_ k_) ∨ w.heap.size ≤ k_)) u9000_ r2 ∧ Below w0.heap.size w0 w' ∧ Kept w w' (fun k_ => P2_ k_ ∨ P3_ k_) := by
 induction k using Nat.strongRecOn with
 | _ k ih =>
 intro A0_0 c0_0 l0_0 A0_1 c0_1 l0_1 a1 P2_ u9000_ l2 P3_ u9001_ l3 r1 r2 w0 w hB hr0_0 hc0_0 hr0_1 hc0_1 ho2 ho3 h
 cases k with
 | zero => exact absurd h (by simp [spec_l4Walk.f])
 | succ k =>
 simp only [spec_l4Walk.f] at h
 have hu52 := Try.underlying52
 have HR0_0 := Aside0.mk hr0_0
 have HC0_0 := Aside0.mk hc0_0
 clear hr0_0 hc0_0
 have HR0_1 := Aside0.mk hr0_1
 have HC0_1 := Aside0.mk hc0_1
 clear hr0_1 hc0_1
 have HO2 := Aside0.mk (show Kd.R Kd.bool 4 w w0.heap.size (fun k_ => ((P2_ k_ ∨ P3_ k_) ∨ w.heap.size ≤ k_)) u9000_ l2 from Kd.R_mono ho2 (fun k_ hk => (.inl (.inl hk))))
 have HO3 := Aside0.mk (show Kd.R (Kd.int .i64) 2 w w0.heap.size (fun k_ => ((P2_ k_ ∨ P3_ k_) ∨ w.heap.size ≤ k_)) u9001_ l3 from Kd.R_mono ho3 (fun k_ hk => (.inl (.inr hk))))
 have HK := Aside0.mk (Kept.refl w (fun k_ => P2_ k_ ∨ P3_ k_))
 have HW0 := Aside0.mk hB.size
 have HB := Aside0.mk hB
 clear hB
 have H : (if 0 ≤ a1 then (if a1 < (l2.length : Int) then (spec_l4Walk.l0 k a1 (l2.set (a1 : Int).toNat true) l3 0 l0_0 l0_1) else (none)) else (none)) = some (r1, r2) := h
 clear h
 by_cases c5 : 0 ≤ a1
 · rw [if_pos c5] at H
   have c5b0 : decide (0 ≤ a1) = true := decide_eq_true c5
   clear c5
   by_cases c6 : a1 < (l2.length : Int)
   · rw [if_pos c6] at H
     have c6b0 : decide (a1 < (l2.length : Int)) = true := decide_eq_true c6
     clear c6
     obtain ⟨y605, hy605⟩ : ∃ y_ : List Bool, y_ = (l2.set (a1 : Int).toNat true) := ⟨_, rfl⟩
     replace H : (spec_l4Walk.l0 k a1 y605 l3 0 l0_0 l0_1) = some (r1, r2) := by first | (rw [hy605]; with_reducible exact H) | (have H2_ := (Option.bind_some _ _).symm.trans H; rw [hy605]; with_reducible exact H2_) | (have H2_ := (Option.bind_some _ _).symm.trans H; with_reducible exact H2_) | with_reducible exact H | (rw [hy605]; exact H) | exact H
     have Ny605 := Aside0.mk hy605
     clear hy605
     have H' := Aside0.mk H
     clear H
     go_enter Try.func73, Try.ntmps73
     go_wp2_with (first | ((with_reducible refine gate_dst (N := 4) rfl ?_); refine box_event ?hg (N := 4) ?hd (cs := #[.slice A0_0 l0_0.length c0_0, .slice A0_1 l0_1.length c0_1]) (t := 52) ?hr ?_; (case hd => rfl); (case hg => rfl); (case hr => first | (go_simp; done) | (go_simp; rfl)); intro gb604 hg w8 hbox hb; have n0_ := Aside0.mk (Kd.R_below (by (with_reducible repeat (first | apply Kd.R_alloc | apply Kd.R_drewN | apply Kd.R_drew)); exact HO2.out) hb); have n1_ := Aside0.mk (Kd.R_below (by (with_reducible repeat (first | apply Kd.R_alloc | apply Kd.R_drewN | apply Kd.R_drew)); exact HO3.out) hb); have n2_ := Aside0.mk (Kept.below (S := (fun k_ => P2_ k_ ∨ P3_ k_)) (by repeat (first | (with_reducible first | exact HK.out | apply Kept.alloc | apply Kept.drewN | apply Kept.drew) | exact HK.out)) hb); have n3_ := Aside0.mk (below_step (by repeat (first | (with_reducible first | exact HB.out | apply below_alloc | apply pw_below_drewN | apply below_drew1) | exact HB.out)) hb); have n4_ := Aside0.mk (hbox); have n5_ := Aside0.mk ((by rw [hg]; exact (by first | exact HK.out.1 | exact (show Kept w _ (fun k_ => P2_ k_ ∨ P3_ k_) from by repeat (first | (with_reducible first | exact HK.out | apply Kept.alloc | apply Kept.drewN | apply Kept.drew) | exact HK.out)).1) : w.heap.size ≤ gb604)); have n6_ := Aside0.mk ((by rw [hg]; exact (below_size (by repeat (first | (with_reducible first | exact HB.out | apply below_alloc | apply pw_below_drewN | apply below_drew1) | exact HB.out))) : w0.heap.size ≤ gb604)); clear HO2; clear HO3; clear HK; clear HB; have HO2 := n0_; have HO3 := n1_; have HK := n2_; have HB := n3_; have BK604 := n4_; have GW604 := n5_; have GE604 := n6_; clear n0_ n1_ n2_ n3_ n4_ n5_ n6_; clear hb hbox hg; have p7 : 0 ≤ (a1 : Int) := of_decide_eq_true (by first | (with_reducible assumption) | assumption); have q7 : (a1 : Int) < ((l2.length : Int) : Int) := of_decide_eq_true (by first | (with_reducible assumption) | assumption); obtain ⟨go7, co7, eo7, gb7, gl7, cl7, HG7⟩ := Kd.R_form HO2.out (by omega); (first | cases eo7 | (injection eo7 with ea_ en_ ec_; (first | subst ea_ | (injection ea_ with ea_; subst ea_)); subst ec_; clear en_)); have GB7 := Aside0.mk gb7; have GG7 := Aside0.mk HG7; clear gb7 gl7 HG7; have HMgo7 := Aside0.mk (show ((P2_ go7 ∨ P3_ go7) ∨ w.heap.size ≤ go7) from (HO2.out.1 _ rfl)); obtain ⟨hx7_0, hf7_0⟩ := Kd.R_celln false HO2.out (a1 : Int) p7 q7; replace p7 := eq_true p7; replace q7 := eq_true q7; obtain ⟨hy9_, hz9_⟩ := Kd.R_celln false HO2.out (a1 : Int) (of_decide_eq_true (by first | (with_reducible assumption) | assumption)) (of_decide_eq_true (by first | (with_reducible assumption) | assumption)); have HP9 := Kd.R_putg HO2.out (a1 : Int) true) | ((with_reducible refine gate_store (t := 4) (p := 12) rfl ?_); refine store_event (t := 4) (p := 12) (v := ?vo_w10) (w1 := (w8.setCell ⟨go7, (a1 : Int).toNat, none⟩ (.bool true))) ?hg ?ho ?hn ?hr ?_; (case ho => rfl); (case hg => rfl); (case hn => rfl); (case hr => first | (go_simp; done) | (go_simp; rfl)); intro w10 hw; have hg : w8.grownBy w10 (some go7) := (by rw [hw]; exact HP9.2); have hp_ : Kd.R Kd.bool 4 w10 w0.heap.size (fun k_ => ((P2_ k_ ∨ P3_ k_) ∨ w.heap.size ≤ k_)) (.slice (some ⟨go7, 0, none⟩) l2.length co7) y605 := (by rw [hw, Ny605.out]; exact HP9.1); clear HP9; have n0_ := Aside0.mk (hp_); have n1_ := Aside0.mk (Kd.R_over' (v := (.slice (some ⟨go7, 0, none⟩) l2.length co7)) (by (with_reducible repeat (first | apply Kd.R_alloc | apply Kd.R_drewN | apply Kd.R_drew)); exact HO3.out) (Kd.R_typed HO2.out) (by decide) hg); have n2_ := Aside0.mk (blk_grown (g := gb604) (o := .cells #[.slice A0_0 l0_0.length c0_0, .slice A0_1 l0_1.length c0_1] 52 (0, 0)) (by (with_reducible repeat (first | refine blk_drewN ?_ _ | refine blk_drew ?_ | refine blk_alloc ?_ _)); exact BK604.out) hg (Kd.R_ne HO2.out BK604.out (by decide))); have n3_ := Aside0.mk ((by rw [hw]; exact below_set (HB.out) GB7.out : Below w0.heap.size w0 w10)); have n4_ := Aside0.mk (Kept.of_grown (S := (fun k_ => P2_ k_ ∨ P3_ k_)) hg (by repeat (first | (with_reducible first | exact HK.out | apply Kept.alloc | apply Kept.drewN | apply Kept.drew | refine Kept.setCell ?_ (.inr GW604.out) _) | exact HK.out)) (fun k_ e_ => (HO2.out.1 k_ e_))); clear HO2; clear HO3; clear BK604; clear HB; clear HK; have HO2 := n0_; have HO3 := n1_; have BK604 := n2_; have HB := n3_; have HK := n4_; clear n0_ n1_ n2_ n3_ n4_; clear hg hw hp_))
     go_loopg [3, 9] k (fun kq v3 v9 w' => ∃ (x2_1 : List Bool) (x3_1 : List Int) (x9_1 : Int), v9 = .int .i64 x9_1 ∧ Aside0 (spec_l4Walk.l0 kq a1 x2_1 x3_1 x9_1 l0_0 l0_1 = some (r1, r2)) ∧ Aside0 (kq ≤ k) ∧ Aside0 (Kd.R Kd.bool 4 w' w0.heap.size (fun k_ => ((P2_ k_ ∨ P3_ k_) ∨ w.heap.size ≤ k_)) (.slice (some ⟨go7, 0, none⟩) l2.length co7) x2_1) ∧ Aside0 (Kd.R (Kd.int .i64) 2 w' w0.heap.size (fun k_ => ((P2_ k_ ∨ P3_ k_) ∨ w.heap.size ≤ k_)) v3 x3_1) ∧ Aside0 (w'.heap[gb604]? = some (.cells #[(.slice A0_0 l0_0.length c0_0), (.slice A0_1 l0_1.length c0_1)] 52 (0, 0))) ∧ Aside0 (Kept w w' (fun k_ => P2_ k_ ∨ P3_ k_)) ∧ Aside0 (Below w0.heap.size w0 w'))
     case atStart => exact ⟨(y605), (l3), (0), (by first | rfl | (simp; done) | (simp [*]; done)), H', ⟨Nat.le_refl _⟩, ⟨by (with_reducible repeat (first | apply Kd.R_alloc | apply Kd.R_drewN | apply Kd.R_drew)); exact HO2.out⟩, ⟨by (with_reducible repeat (first | apply Kd.R_alloc | apply Kd.R_drewN | apply Kd.R_drew)); exact HO3.out⟩, ⟨by (with_reducible repeat (first | refine blk_drewN ?_ _ | refine blk_drew ?_ | refine blk_alloc ?_ _)); exact BK604.out⟩, ⟨by repeat (first | (with_reducible first | exact HK.out | apply Kept.alloc | apply Kept.drewN | apply Kept.drew | refine Kept.setCell ?_ (.inr GW604.out) _) | exact HK.out)⟩, ⟨by repeat (first | (with_reducible first | exact HB.out | apply below_alloc | apply pw_below_drewN | apply below_drew1 | refine below_set ?_ GE604.out) | exact HB.out)⟩⟩
     case round =>
      clear H'
      try clear p2
      try clear c5
      try clear c5b0
      try clear c6
      try clear c6b0
      try clear c7
      try clear p7
      try clear q7
      try clear hx7
      try clear hf7
      try clear hx7_0
      try clear p7
      try clear q7
      obtain ⟨x2_1, x3_1, x9_1, rfl, HA, HK1, HO_2, HO_3, BK604, HK, HB⟩ := hrel
      have hl2_1 := (Kd.R_reads' HO_2.out).1
      rw [hl2_1] at HO_2
      (try simp only [hl2_1])
      (try simp only [hl2_1] at BK604)
      (try simp only [hl2_1] at HO_3)
      cases gk with
      | zero => exact absurd HA.out (by simp [spec_l4Walk.l0])
      | succ k1 =>
       have H := HA.out
       clear HA
       simp only [spec_l4Walk.l0] at H
       by_cases c11 : 0 ≤ a1
       · rw [if_pos c11] at H
         have c11b0 : decide (0 ≤ a1) = true := decide_eq_true c11
         clear c11
         by_cases c12 : a1 < (l0_0.length : Int)
         · rw [if_pos c12] at H
           have c12b0 : decide (a1 < (l0_0.length : Int)) = true := decide_eq_true c12
           clear c12
           by_cases c13 : x9_1 < ((rd_L4 l0_0 a1).length : Int)
           · rw [if_pos c13] at H
             have c13b0 : decide (x9_1 < ((rd_L4 l0_0 a1).length : Int)) = true := decide_eq_true c13
             clear c13
             by_cases c14 : 0 ≤ x9_1
             · rw [if_pos c14] at H
               have c14b0 : decide (0 ≤ x9_1) = true := decide_eq_true c14
               clear c14
               by_cases c15 : 0 ≤ (rd (rd_L4 l0_0 a1) x9_1)
               · rw [if_pos c15] at H
                 have c15b0 : decide (0 ≤ (rd (rd_L4 l0_0 a1) x9_1)) = true := decide_eq_true c15
                 clear c15
                 by_cases c16 : (rd (rd_L4 l0_0 a1) x9_1) < (x2_1.length : Int)
                 · rw [if_pos c16] at H
                   have c16b0 : decide ((rd (rd_L4 l0_0 a1) x9_1) < (x2_1.length : Int)) = true := decide_eq_true c16
                   clear c16
                   obtain ⟨bq17, hbq17⟩ : ∃ b_ : Bool, b_ = (rdOf false x2_1 (rd (rd_L4 l0_0 a1) x9_1)) := ⟨_, rfl⟩
                   replace H : (if (bq17 = true) then (spec_l4Walk.l0 k1 a1 x2_1 x3_1 (wrap64 (x9_1 + 1)) l0_0 l0_1) else ((spec_l4Walk.f k1 l0_0 l0_1 (rd (rd_L4 l0_0 a1) x9_1) x2_1 x3_1).bind fun bt612 => (spec_l4Walk.l0 k1 a1 bt612.2 bt612.1 (wrap64 (x9_1 + 1)) l0_0 l0_1))) = some (r1, r2) := by rw [← hbq17] at H; exact H
                   have Nbq17 := Aside0.mk hbq17
                   clear hbq17
                   by_cases c18 : (bq17 = true)
                   · subst c18
                     have H1 : (spec_l4Walk.l0 k1 a1 x2_1 x3_1 (wrap64 (x9_1 + 1)) l0_0 l0_1) = some (r1, r2) := by rw [if_pos rfl] at H; exact H
                     clear H
                     have H := H1
                     clear H1
                     have H' := Aside0.mk H
                     clear H
                     have hcz19_0 : wr.cell? ⟨gb604, 0, none⟩ = some (.slice A0_0 l0_0.length c0_0) := (blk_cell BK604.out 0).trans rfl
                     have hcz19_1 : wr.cell? ⟨gb604, 1, none⟩ = some (.slice A0_1 l0_1.length c0_1) := (blk_cell BK604.out 1).trans rfl
                     have hfz19_0 := blk_frozen BK604.out 0
                     have hfz19_1 := blk_frozen BK604.out 1
                     have p606 : 0 ≤ (a1 : Int) := of_decide_eq_true (by first | (with_reducible assumption) | assumption)
                     have q606 : a1 < (l0_0.length : Int) := of_decide_eq_true (by first | (with_reducible assumption) | assumption)
                     obtain ⟨ad606, A606_0, c606_0, e606, hx606_0, hl606_0, hi606_0⟩ := at_L4 (Kd.C_kept_now HR0_0.out HK.out) a1 p606 q606
                     cases e606
                     have HR606_0 := Aside0.mk hi606_0
                     have HC606_0 := Aside0.mk hl606_0
                     clear hi606_0 hl606_0
                     replace p606 := eq_true p606
                     replace q606 := eq_true q606
                     have p607 : 0 ≤ (a1 : Int) := of_decide_eq_true (by first | (with_reducible assumption) | assumption)
                     have q607 : a1 < (l0_0.length : Int) := of_decide_eq_true (by first | (with_reducible assumption) | assumption)
                     obtain ⟨ad607, A607_0, c607_0, e607, hx607_0, hl607_0, hi607_0⟩ := at_L4 (Kd.C_kept_now HR0_0.out HK.out) a1 p607 q607
                     obtain rfl : ad606 = ad607 := (by injection e607)
                     have HR607_0 := Aside0.mk hi607_0
                     have HC607_0 := Aside0.mk hl607_0
                     clear hi607_0 hl607_0
                     replace p607 := eq_true p607
                     replace q607 := eq_true q607
                     have ea_ := Option.some.inj (hx606_0.symm.trans hx607_0)
                     injection ea_ with ea_ en_ ec_
                     subst ea_
                     subst ec_
                     clear en_
                     have p608 : 0 ≤ (x9_1 : Int) := of_decide_eq_true (by first | (with_reducible assumption) | assumption)
                     have q608 : x9_1 < ((rd_L4 l0_0 a1).length : Int) := of_decide_eq_true (by first | (with_reducible assumption) | assumption)
                     obtain ⟨ad608, e608, hx608_0⟩ := Kd.at_int (by repeat (first | (with_reducible exact HR607_0.out) | (with_reducible refine Kd.C_alloc ?_ _) | (with_reducible refine Kd.C_drewN ?_ _) | (with_reducible refine Kd.C_drew ?_) | exact HR607_0.out)) x9_1 p608 q608
                     cases e608
                     replace p608 := eq_true p608
                     replace q608 := eq_true q608
                     have p609 : 0 ≤ ((rd (rd_L4 l0_0 a1) x9_1) : Int) := of_decide_eq_true (by first | (with_reducible assumption) | assumption)
                     have q609 : (rd (rd_L4 l0_0 a1) x9_1) < (x2_1.length : Int) := of_decide_eq_true (by first | (with_reducible assumption) | assumption)
                     obtain ⟨ad609, e609, hx609_0⟩ := Kd.at_bool (Kd.R_reads' HO_2.out).2.2 (rd (rd_L4 l0_0 a1) x9_1) p609 q609
                     (try rw [← Nbq17.out] at hx609_0)
                     obtain rfl : (⟨go7, 0, none⟩ : Addr) = ad609 := (by injection e609)
                     (first | simp only [add_plain] at hx609_0 | simp only [add_at] at hx609_0 | simp only [Addr.add, Nat.zero_add] at hx609_0 | skip)
                     replace p609 := eq_true p609
                     replace q609 := eq_true q609
                     go_wp2
                     (try simp only [← hl2_1])
                     go_roundg k1
                     case measure => have := HK1.out; omega
                     case rel => exact ⟨(x2_1), (x3_1), (wrap64 (x9_1 + 1)), (by first | rfl | (simp; done) | (simp [*]; done)), H', ⟨by have := HK1.out; omega⟩, ⟨by (try simp only [hl2_1]); (with_reducible repeat (first | apply Kd.R_alloc | apply Kd.R_drewN | apply Kd.R_drew)); exact HO_2.out⟩, ⟨by (try simp only [hl2_1]); (with_reducible repeat (first | apply Kd.R_alloc | apply Kd.R_drewN | apply Kd.R_drew)); exact HO_3.out⟩, ⟨by (try simp only [hl2_1]); (with_reducible repeat (first | refine blk_drewN ?_ _ | refine blk_drew ?_ | refine blk_alloc ?_ _)); exact BK604.out⟩, ⟨by repeat (first | (with_reducible first | exact HK.out | apply Kept.alloc | apply Kept.drewN | apply Kept.drew | refine Kept.setCell ?_ (.inr GW604.out) _) | exact HK.out)⟩, ⟨by repeat (first | (with_reducible first | exact HB.out | apply below_alloc | apply pw_below_drewN | apply below_drew1 | refine below_set ?_ GE604.out) | exact HB.out)⟩⟩
                   · replace c18 := Bool.eq_false_iff.mpr c18
                     subst c18
                     have H1 : ((spec_l4Walk.f k1 l0_0 l0_1 (rd (rd_L4 l0_0 a1) x9_1) x2_1 x3_1).bind fun bt612 => (spec_l4Walk.l0 k1 a1 bt612.2 bt612.1 (wrap64 (x9_1 + 1)) l0_0 l0_1)) = some (r1, r2) := by rw [if_neg (show ¬ (false = true) by decide)] at H; exact H
                     clear H
                     have H := H1
                     clear H1
                     replace H := Option.bind_eq_some_iff.mp H
                     obtain ⟨⟨t612, t615⟩, A200, H⟩ := H
                     replace H : (spec_l4Walk.l0 k1 a1 t615 t612 (wrap64 (x9_1 + 1)) l0_0 l0_1) = some (r1, r2) := H
                     have A20 := Aside0.mk A200
                     clear A200
                     have H' := Aside0.mk H
                     clear H
                     have hcz21_0 : wr.cell? ⟨gb604, 0, none⟩ = some (.slice A0_0 l0_0.length c0_0) := (blk_cell BK604.out 0).trans rfl
                     have hcz21_1 : wr.cell? ⟨gb604, 1, none⟩ = some (.slice A0_1 l0_1.length c0_1) := (blk_cell BK604.out 1).trans rfl
                     have hfz21_0 := blk_frozen BK604.out 0
                     have hfz21_1 := blk_frozen BK604.out 1
                     have p606 : 0 ≤ (a1 : Int) := of_decide_eq_true (by first | (with_reducible assumption) | assumption)
                     have q606 : a1 < (l0_0.length : Int) := of_decide_eq_true (by first | (with_reducible assumption) | assumption)
                     obtain ⟨ad606, A606_0, c606_0, e606, hx606_0, hl606_0, hi606_0⟩ := at_L4 (Kd.C_kept_now HR0_0.out HK.out) a1 p606 q606
                     cases e606
                     have HR606_0 := Aside0.mk hi606_0
                     have HC606_0 := Aside0.mk hl606_0
                     clear hi606_0 hl606_0
                     replace p606 := eq_true p606
                     replace q606 := eq_true q606
                     have p607 : 0 ≤ (a1 : Int) := of_decide_eq_true (by first | (with_reducible assumption) | assumption)
                     have q607 : a1 < (l0_0.length : Int) := of_decide_eq_true (by first | (with_reducible assumption) | assumption)
                     obtain ⟨ad607, A607_0, c607_0, e607, hx607_0, hl607_0, hi607_0⟩ := at_L4 (Kd.C_kept_now HR0_0.out HK.out) a1 p607 q607
                     obtain rfl : ad606 = ad607 := (by injection e607)
                     have HR607_0 := Aside0.mk hi607_0
                     have HC607_0 := Aside0.mk hl607_0
                     clear hi607_0 hl607_0
                     replace p607 := eq_true p607
                     replace q607 := eq_true q607
                     have ea_ := Option.some.inj (hx606_0.symm.trans hx607_0)
                     injection ea_ with ea_ en_ ec_
                     subst ea_
                     subst ec_
                     clear en_
                     have p608 : 0 ≤ (x9_1 : Int) := of_decide_eq_true (by first | (with_reducible assumption) | assumption)
                     have q608 : x9_1 < ((rd_L4 l0_0 a1).length : Int) := of_decide_eq_true (by first | (with_reducible assumption) | assumption)
                     obtain ⟨ad608, e608, hx608_0⟩ := Kd.at_int (by repeat (first | (with_reducible exact HR607_0.out) | (with_reducible refine Kd.C_alloc ?_ _) | (with_reducible refine Kd.C_drewN ?_ _) | (with_reducible refine Kd.C_drew ?_) | exact HR607_0.out)) x9_1 p608 q608
                     cases e608
                     replace p608 := eq_true p608
                     replace q608 := eq_true q608
                     have p609 : 0 ≤ ((rd (rd_L4 l0_0 a1) x9_1) : Int) := of_decide_eq_true (by first | (with_reducible assumption) | assumption)
                     have q609 : (rd (rd_L4 l0_0 a1) x9_1) < (x2_1.length : Int) := of_decide_eq_true (by first | (with_reducible assumption) | assumption)
                     obtain ⟨ad609, e609, hx609_0⟩ := Kd.at_bool (Kd.R_reads' HO_2.out).2.2 (rd (rd_L4 l0_0 a1) x9_1) p609 q609
                     (try rw [← Nbq17.out] at hx609_0)
                     obtain rfl : (⟨go7, 0, none⟩ : Addr) = ad609 := (by injection e609)
                     (first | simp only [add_plain] at hx609_0 | simp only [add_at] at hx609_0 | simp only [Addr.add, Nat.zero_add] at hx609_0 | skip)
                     replace p609 := eq_true p609
                     replace q609 := eq_true q609
                     try go_wp2
                     have n0_ := Aside0.mk (Kd.R_drew HO_2.out)
                     have n1_ := Aside0.mk (Kd.R_drew HO_3.out)
                     have n2_ := Aside0.mk (blk_drew BK604.out)
                     have n3_ := Aside0.mk (Kd.C_drew HR606_0.out)
                     have n4_ := Aside0.mk (Kd.C_drew HR607_0.out)
                     have n5_ := Aside0.mk (Kept.drew HK.out)
                     have n6_ := Aside0.mk (below_drew1 HB.out)
                     clear HO_2
                     clear HO_3
                     clear BK604
                     clear HR606_0
                     clear HR607_0
                     clear HK
                     clear HB
                     have HO_2 := n0_
                     have HO_3 := n1_
                     have BK604 := n2_
                     have HR606_0 := n3_
                     have HR607_0 := n4_
                     have HK := n5_
                     have HB := n6_
                     clear n0_ n1_ n2_ n3_ n4_ n5_ n6_
                     have p610 : 0 ≤ (a1 : Int) := of_decide_eq_true (by first | (with_reducible assumption) | assumption)
                     have q610 : a1 < (l0_0.length : Int) := of_decide_eq_true (by first | (with_reducible assumption) | assumption)
                     obtain ⟨ad610, A610_0, c610_0, e610, hx610_0, hl610_0, hi610_0⟩ := at_L4 (Kd.C_kept_now HR0_0.out HK.out) a1 p610 q610
                     have hw610_0 := hx610_0
                     (try rw [← Nbq17.out] at hw610_0)
                     obtain rfl : ad606 = ad610 := (by injection e610)
                     have HR610_0 := Aside0.mk hi610_0
                     have HC610_0 := Aside0.mk hl610_0
                     clear hi610_0 hl610_0
                     replace p610 := eq_true p610
                     replace q610 := eq_true q610
                     have p611 : 0 ≤ (x9_1 : Int) := of_decide_eq_true (by first | (with_reducible assumption) | assumption)
                     have q611 : x9_1 < ((rd_L4 l0_0 a1).length : Int) := of_decide_eq_true (by first | (with_reducible assumption) | assumption)
                     obtain ⟨ad611, e611, hx611_0⟩ := Kd.at_int (by repeat (first | (with_reducible exact HR610_0.out) | (with_reducible refine Kd.C_alloc ?_ _) | (with_reducible refine Kd.C_drewN ?_ _) | (with_reducible refine Kd.C_drew ?_) | exact HR610_0.out)) x9_1 p611 q611
                     cases e611
                     replace p611 := eq_true p611
                     replace q611 := eq_true q611
                     obtain ⟨Ao23, co23, eo23⟩ := Kd.R_slice HO_3.out
                     (first | subst eo23 | (injection eo23 with f1_ f2_ f3_; have f4_ := f1_.symm; have f5_ := f3_.symm; clear f1_ f2_ f3_; subst f4_; subst f5_))
                     refine start_ (n := 13) (S := fun w' => w'.cell? ⟨gb604, 0, none⟩ = some (.slice (some ad606) l0_0.length c0_0) ∧ w'.cell? ⟨gb604, 1, none⟩ = some (.slice A0_1 l0_1.length c0_1) ∧ w'.cell? (ad606.add (a1).toNat) = some (.slice (some ad611) (rd_L4 l0_0 a1).length c610_0) ∧ w'.cell? (ad611.add (x9_1).toNat) = some (.int .i64 (rd (rd_L4 l0_0 a1) x9_1))) (ds := [11]) #[false, false, false, false, false, false, false, false, false, false, false, false, false] (by kernel_rfl) rfl rfl ⟨(blk_cell BK604.out 0).trans rfl, (blk_cell BK604.out 1).trans rfl, hx610_0, hx611_0⟩ (fun hHeld => ?_); refine with_tabW spec_l4Walk.tab6 spec_l4Walk.bits6 (fun HT_ HW_ => ?_)
                     generalize wr.drew = w22 at HO_2 HO_3 BK604 HR606_0 HR607_0 HK HB HR610_0 hx610_0 hx611_0 hHeld ⊢
                     refine pure_ (i := 1) (N := some 36) (v := ?_) (a' := ?_) #[false, true, false, false, false, false, false, false, false, false, false, false, false] rfl rfl (any_of HT_.out (by kernel_rfl)) (fun _ _ _ h => h) (Or.inl ⟨by rfl, ?_⟩) ?_ ?_
                     rotate_left
                     · intro w'
                       go_simp
                       with_reducible rfl
                     rotate_left
                     · simp only [Act.put, List.setIfInBounds_toArray, List.set_cons_zero, List.set_cons_succ, i64_w, i32_w]
                       rfl
                     refine pure_ (i := 3) (N := some 38) (v := ?_) (a' := ?_) #[false, true, false, true, false, false, false, false, false, false, false, false, false] rfl rfl (any_of HT_.out (by kernel_rfl)) (fun _ _ _ h => h) (Or.inl ⟨by rfl, ?_⟩) ?_ ?_
                     rotate_left
                     · intro w'
                       go_simp
                       with_reducible rfl
                     rotate_left
                     · simp only [Act.put, List.setIfInBounds_toArray, List.set_cons_zero, List.set_cons_succ, i64_w, i32_w]
                       rfl
                     refine pure_ (i := 6) (N := some 41) (v := ?_) (a' := ?_) #[false, true, false, true, false, false, true, false, false, false, false, false, false] rfl rfl (any_of HT_.out (by kernel_rfl)) (fun _ _ _ h => h) (Or.inl ⟨by rfl, ?_⟩) ?_ ?_
                     rotate_left
                     · intro w'
                       go_simp
                       with_reducible rfl
                     rotate_left
                     · simp only [Act.put, List.setIfInBounds_toArray, List.set_cons_zero, List.set_cons_succ, i64_w, i32_w]
                       rfl
                     refine pure_ (i := 9) (N := some 44) (v := ?_) (a' := ?_) #[false, true, false, true, false, false, true, false, false, true, false, false, false] rfl rfl (any_of HT_.out (by kernel_rfl)) (fun _ _ _ h => h) (Or.inl ⟨by rfl, ?_⟩) ?_ ?_
                     rotate_left
                     · intro w'
                       go_simp
                       with_reducible rfl
                     rotate_left
                     · simp only [Act.put, List.setIfInBounds_toArray, List.set_cons_zero, List.set_cons_succ, i64_w, i32_w]
                       rfl
                     refine pure_ (i := 10) (N := some 45) (v := ?_) (a' := ?_) #[false, true, false, true, false, false, true, false, false, true, true, false, false] rfl rfl (any_of HT_.out (by kernel_rfl)) (fun _ _ _ h => h) (Or.inl ⟨by rfl, ?_⟩) ?_ ?_
                     rotate_left
                     · intro w'
                       go_simp
                       with_reducible rfl
                     rotate_left
                     · simp only [Act.put, List.setIfInBounds_toArray, List.set_cons_zero, List.set_cons_succ, i64_w, i32_w]
                       rfl
                     refine take_ (i := 0) (N := some 35) (v := ?_) (a' := ?_) #[true, true, false, true, false, false, true, false, false, true, true, false, false] rfl rfl (take_ofW HT_.out HW_.out (by kernel_rfl)) (fun _ _ _ h => h) (Or.inl ⟨by rfl, ?_⟩) hHeld ?_ ?_
                     rotate_left
                     · rintro w' ⟨s0, s1, s2, s3⟩
                       go_simp
                       with_reducible rfl
                     rotate_left
                     · simp only [Act.put, List.setIfInBounds_toArray, List.set_cons_zero, List.set_cons_succ, i64_w, i32_w]
                       rfl
                     refine take_ (i := 2) (N := some 37) (v := ?_) (a' := ?_) #[true, true, true, true, false, false, true, false, false, true, true, false, false] rfl rfl (take_ofW HT_.out HW_.out (by kernel_rfl)) (fun _ _ _ h => h) (Or.inl ⟨by rfl, ?_⟩) hHeld ?_ ?_
                     rotate_left
                     · rintro w' ⟨s0, s1, s2, s3⟩
                       go_simp
                       with_reducible rfl
                     rotate_left
                     · simp only [Act.put, List.setIfInBounds_toArray, List.set_cons_zero, List.set_cons_succ, i64_w, i32_w]
                       rfl
                     refine pure_ (i := 4) (N := some 39) (v := ?_) (a' := ?_) #[true, true, true, true, true, false, true, false, false, true, true, false, false] rfl rfl (any_of HT_.out (by kernel_rfl)) (fun _ _ _ h => h) (Or.inl ⟨by rfl, ?_⟩) ?_ ?_
                     rotate_left
                     · intro w'
                       go_simp
                       with_reducible rfl
                     rotate_left
                     · simp only [Act.put, List.setIfInBounds_toArray, List.set_cons_zero, List.set_cons_succ, i64_w, i32_w]
                       rfl
                     refine take_ (i := 5) (N := some 40) (v := ?_) (a' := ?_) #[true, true, true, true, true, true, true, false, false, true, true, false, false] rfl rfl (take_ofW HT_.out HW_.out (by kernel_rfl)) (fun _ _ _ h => h) (Or.inl ⟨by rfl, ?_⟩) hHeld ?_ ?_
                     rotate_left
                     · rintro w' ⟨s0, s1, s2, s3⟩
                       go_simp
                       with_reducible rfl
                     rotate_left
                     · simp only [Act.put, List.setIfInBounds_toArray, List.set_cons_zero, List.set_cons_succ, i64_w, i32_w]
                       rfl
                     refine pure_ (i := 7) (N := some 42) (v := ?_) (a' := ?_) #[true, true, true, true, true, true, true, true, false, true, true, false, false] rfl rfl (any_of HT_.out (by kernel_rfl)) (fun _ _ _ h => h) (Or.inl ⟨by rfl, ?_⟩) ?_ ?_
                     rotate_left
                     · intro w'
                       go_simp
                       with_reducible rfl
                     rotate_left
                     · simp only [Act.put, List.setIfInBounds_toArray, List.set_cons_zero, List.set_cons_succ, i64_w, i32_w]
                       rfl
                     refine take_ (i := 8) (N := some 43) (v := ?_) (a' := ?_) #[true, true, true, true, true, true, true, true, true, true, true, false, false] rfl rfl (take_ofW HT_.out HW_.out (by kernel_rfl)) (fun _ _ _ h => h) (Or.inl ⟨by rfl, ?_⟩) hHeld ?_ ?_
                     rotate_left
                     · rintro w' ⟨s0, s1, s2, s3⟩
                       go_simp
                       with_reducible rfl
                     rotate_left
                     · simp only [Act.put, List.setIfInBounds_toArray, List.set_cons_zero, List.set_cons_succ, i64_w, i32_w]
                       rfl
                     refine last_ (i := 11) (N := some 46) #[true, true, true, true, true, true, true, true, true, true, true, true, false] rfl rfl (one_of HT_.out (by kernel_rfl)) (by decide) (fun K hK => ?_)
                     refine goes_ Try.func73 (by kernel_rfl) rfl #[.agg #[.slice (some ad606) l0_0.length c0_0, .slice A0_1 l0_1.length c0_1], .int .i64 (rd (rd_L4 l0_0 a1) x9_1), .slice (some ⟨go7, 0, none⟩) x2_1.length co7, .slice Ao23 x3_1.length co23] (by rfl) rfl rfl (by (try simp only [List.map_toArray, List.map_cons, List.map_nil]); first | done | rfl | (simp only [List.length_drop, List.length_take]; rfl)) ?_
                     with_reducible refine (ih k1 (by have := HK1.out; omega) _ _ l0_0 _ _ l0_1 (rd (rd_L4 l0_0 a1) x9_1) (fun k_ => some k_ = (.slice (some ⟨go7, 0, none⟩) x2_1.length co7 : Value).ownBlock) (.slice (some ⟨go7, 0, none⟩) x2_1.length co7) x2_1 (fun k_ => some k_ = (.slice Ao23 x3_1.length co23 : Value).ownBlock) (.slice Ao23 x3_1.length co23) x3_1 t612 t615 w0 _ ?side1 ?side2 ?side3 ?side4 ?side5 ?side6 ?side7 A20.out).mono ?_
                     (case side1 => repeat (first | (with_reducible first | exact HB.out | apply below_alloc | apply pw_below_drewN | apply below_drew1 | refine below_set ?_ GE604.out) | exact HB.out))
                     (case side2 => exact Kd.C_kept_call HR0_0.out (by repeat (first | (with_reducible first | exact HK.out | apply Kept.alloc | apply Kept.drewN | apply Kept.drew | refine Kept.setCell ?_ (.inr GW604.out) _) | exact HK.out)) (fun k_ hs_ => Or.elim hs_ (fun e_ => (fun e_ => (HO_2.out.1 k_ e_.symm)) e_) (fun e_ => (fun e_ => (HO_3.out.1 k_ e_.symm)) e_)))
                     (case side3 => exact HC0_0.out)
                     (case side4 => exact Kd.C_kept_call HR0_1.out (by repeat (first | (with_reducible first | exact HK.out | apply Kept.alloc | apply Kept.drewN | apply Kept.drew | refine Kept.setCell ?_ (.inr GW604.out) _) | exact HK.out)) (fun k_ hs_ => Or.elim hs_ (fun e_ => (fun e_ => (HO_2.out.1 k_ e_.symm)) e_) (fun e_ => (fun e_ => (HO_3.out.1 k_ e_.symm)) e_)))
                     (case side5 => exact HC0_1.out)
                     (case side6 => exact Kd.R_tight rfl HO_2.out)
                     (case side7 => exact Kd.R_tight rfl HO_3.out)
                     rintro e w24 ⟨v613, rfl, ho0, hy0, hb, hkp⟩
                     refine ⟨_, rfl, ?_⟩
                     have n0_ := Aside0.mk (Kd.R_reok rfl hy0 (fun k_ e_ => HO_2.out.1 k_ e_))
                     have n1_ := Aside0.mk (blk_kept (by (with_reducible repeat (first | refine blk_drewN ?_ _ | refine blk_drew ?_ | refine blk_alloc ?_ _)); exact BK604.out) hkp (fun hs_ => Or.elim hs_ (fun e_ => (fun e_ => (Kd.R_ne HO_2.out BK604.out (by decide)) e_) e_) (fun e_ => (fun e_ => (Kd.R_ne HO_3.out BK604.out (by decide)) e_) e_)))
                     have n2_ := Aside0.mk (Kd.R_mono (ok' := fun k_ => ((P2_ k_ ∨ P3_ k_) ∨ w.heap.size ≤ k_)) ho0 (fun k_ hk_ => Or.elim hk_ (fun hs_ => Or.elim hs_ (fun hs_ => (HO_2.out.1 k_ (hs_).symm)) (fun hs_ => (HO_3.out.1 k_ (hs_).symm))) (fun hn_ => (.inr (Nat.le_trans (by first | exact HK.out.1 | exact (show Kept w _ (fun k_ => P2_ k_ ∨ P3_ k_) from by repeat (first | (with_reducible first | exact HK.out | apply Kept.alloc | apply Kept.drewN | apply Kept.drew | refine Kept.setCell ?_ (.inr GW604.out) _) | exact HK.out)).1) hn_)))))
                     have n3_ := Aside0.mk (Kept.then_ (S := (fun k_ => P2_ k_ ∨ P3_ k_)) (by repeat (first | (with_reducible first | exact HK.out | apply Kept.alloc | apply Kept.drewN | apply Kept.drew | refine Kept.setCell ?_ (.inr GW604.out) _) | exact HK.out)) hkp (fun k_ hs_ => Or.elim hs_ (fun e_ => (fun e_ => (HO_2.out.1 k_ e_.symm)) e_) (fun e_ => (fun e_ => (HO_3.out.1 k_ e_.symm)) e_)))
                     have n4_ := Aside0.mk (hb)
                     clear HO_2
                     clear BK604
                     clear HK
                     clear HB
                     clear HO_3
                     have HO_2 := n0_
                     have BK604 := n1_
                     have HO614 := n2_
                     have HK := n3_
                     have HB := n4_
                     clear n0_ n1_ n2_ n3_ n4_
                     (try clear hb)
                     (try clear hkp)
                     (try clear ho0)
                     (try clear hy0)
                     refine hK.out _ _ ?_
                     clear hK K
                     refine norm_ (a' := ?_) ?_ ?_
                     rotate_left
                     · show Act.put _ (some 46) _ = _
                       simp only [Act.put, List.setIfInBounds_toArray, List.set_cons_zero, List.set_cons_succ, i64_w, i32_w]
                       rfl
                     refine pure_ (i := 12) (N := some 3) (v := ?_) (a' := ?_) #[true, true, true, true, true, true, true, true, true, true, true, true, true] rfl rfl (any_of HT_.out (by kernel_rfl)) (fun _ _ _ h => h) (Or.inl ⟨by rfl, ?_⟩) ?_ ?_
                     rotate_left
                     · intro w'
                       go_simp
                       with_reducible rfl
                     rotate_left
                     · simp only [Act.put, List.setIfInBounds_toArray, List.set_cons_zero, List.set_cons_succ, i64_w, i32_w]
                       rfl
                     refine done_ (done_of HT_.out (by kernel_rfl)) ?_
                     try go_wp2
                     (try simp only [← hl2_1])
                     go_roundg k1
                     case measure => have := HK1.out; omega
                     case rel => exact ⟨(t615), (t612), (wrap64 (x9_1 + 1)), (by first | rfl | (simp; done) | (simp [*]; done)), H', ⟨by have := HK1.out; omega⟩, ⟨by (try simp only [hl2_1]); (with_reducible repeat (first | apply Kd.R_alloc | apply Kd.R_drewN | apply Kd.R_drew)); exact HO_2.out⟩, ⟨by (try simp only [hl2_1]); (with_reducible repeat (first | apply Kd.R_alloc | apply Kd.R_drewN | apply Kd.R_drew)); exact HO614.out⟩, ⟨by (try simp only [hl2_1]); (with_reducible repeat (first | refine blk_drewN ?_ _ | refine blk_drew ?_ | refine blk_alloc ?_ _)); exact BK604.out⟩, ⟨by repeat (first | (with_reducible first | exact HK.out | apply Kept.alloc | apply Kept.drewN | apply Kept.drew | refine Kept.setCell ?_ (.inr GW604.out) _) | exact HK.out)⟩, ⟨by repeat (first | (with_reducible first | exact HB.out | apply below_alloc | apply pw_below_drewN | apply below_drew1 | refine below_set ?_ GE604.out) | exact HB.out)⟩⟩
                 · rw [if_neg c16] at H
                   exact absurd H (by simp)
               · rw [if_neg c15] at H
                 exact absurd H (by simp)
             · rw [if_neg c14] at H
               exact absurd H (by simp)
           · rw [if_neg c13] at H
             have c13b0 : decide (x9_1 < ((rd_L4 l0_0 a1).length : Int)) = false := decide_eq_false c13
             clear c13
             by_cases c25 : x3_1.length < 17592186044416
             · rw [if_pos c25] at H
               have LMc25 := Aside0.mk c25
               clear c25
               obtain ⟨y616, hy616⟩ : ∃ y_ : List Int, y_ = (x3_1 ++ [a1]) := ⟨_, rfl⟩
               replace H : (some (y616, x2_1)) = some (r1, r2) := by first | (rw [hy616]; with_reducible exact H) | (have H2_ := (Option.bind_some _ _).symm.trans H; rw [hy616]; with_reducible exact H2_) | (have H2_ := (Option.bind_some _ _).symm.trans H; with_reducible exact H2_) | with_reducible exact H | (rw [hy616]; exact H) | exact H
               have Ny616 := Aside0.mk hy616
               clear hy616
               simp only [Option.some.injEq, Prod.mk.injEq] at H
               obtain ⟨rfl, rfl⟩ := H
               have hcz26_0 : wr.cell? ⟨gb604, 0, none⟩ = some (.slice A0_0 l0_0.length c0_0) := (blk_cell BK604.out 0).trans rfl
               have hcz26_1 : wr.cell? ⟨gb604, 1, none⟩ = some (.slice A0_1 l0_1.length c0_1) := (blk_cell BK604.out 1).trans rfl
               have hfz26_0 := blk_frozen BK604.out 0
               have hfz26_1 := blk_frozen BK604.out 1
               have p606 : 0 ≤ (a1 : Int) := of_decide_eq_true (by first | (with_reducible assumption) | assumption)
               have q606 : a1 < (l0_0.length : Int) := of_decide_eq_true (by first | (with_reducible assumption) | assumption)
               obtain ⟨ad606, A606_0, c606_0, e606, hx606_0, hl606_0, hi606_0⟩ := at_L4 (Kd.C_kept_now HR0_0.out HK.out) a1 p606 q606
               cases e606
               have HR606_0 := Aside0.mk hi606_0
               have HC606_0 := Aside0.mk hl606_0
               clear hi606_0 hl606_0
               replace p606 := eq_true p606
               replace q606 := eq_true q606
               go_wp2_with (first | ((with_reducible refine gate_builtin (b := .append) (xs := #[.tmp 47, .tmp 49]) rfl ?_); at_builtin; refine Kd.R_append (Kd.int .i64) (w0 := w0) w0.heap.size rfl (.tmp 47) (.tmp 49) 22 2 (.int .i64 0) 8 rfl Try.underlying22 info2 rfl (by decide) (by omega) u3 x3_1 a1 [.int .i64 a1] (fun k_ => ((P2_ k_ ∨ P3_ k_) ∨ w.heap.size ≤ k_)) (fun _ => False) rfl rfl ?aP (fun _ hk => hk.elim) ?aF ?aO ?aB ?aS ?aL ?_; (case aP => exact rfl); (case aB => exact (by repeat (first | (with_reducible first | exact HB.out | apply below_alloc | apply pw_below_drewN | apply below_drew1 | refine below_set ?_ GE604.out) | exact HB.out))); (case aF => exact (fun k_ hk => (.inr (Nat.le_trans (by first | exact HK.out.1 | exact (show Kept w _ (fun k_ => P2_ k_ ∨ P3_ k_) from by repeat (first | (with_reducible first | exact HK.out | apply Kept.alloc | apply Kept.drewN | apply Kept.drew | refine Kept.setCell ?_ (.inr GW604.out) _) | exact HK.out)).1) hk)))); (case aO => exact (by (with_reducible repeat (first | apply Kd.R_alloc | apply Kd.R_drewN | apply Kd.R_drew)); exact HO_3.out)); (case aS => exact (below_size (by repeat (first | (with_reducible first | exact HB.out | apply below_alloc | apply pw_below_drewN | apply below_drew1 | refine below_set ?_ GE604.out) | exact HB.out)))); (case aL => have := LMc25.out; omega); intro v617 w27 ho hb hg hat; rw [← Ny616.out] at ho; have n0_ := Aside0.mk (Kd.R_over' (by (with_reducible repeat (first | apply Kd.R_alloc | apply Kd.R_drewN | apply Kd.R_drew)); exact HO_2.out) (Kd.R_typed (by (with_reducible repeat (first | apply Kd.R_alloc | apply Kd.R_drewN | apply Kd.R_drew)); exact HO_3.out)) (by decide) hg); have n1_ := Aside0.mk (blk_grown (g := gb604) (o := .cells #[.slice (some ad606) l0_0.length c0_0, .slice A0_1 l0_1.length c0_1] 52 (0, 0)) (by (with_reducible repeat (first | refine blk_drewN ?_ _ | refine blk_drew ?_ | refine blk_alloc ?_ _)); exact BK604.out) hg (Kd.R_ne HO_3.out BK604.out (by decide))); have n2_ := Aside0.mk (hb); have n3_ := Aside0.mk (Kept.of_grown (S := (fun k_ => P2_ k_ ∨ P3_ k_)) hg (by repeat (first | (with_reducible first | exact HK.out | apply Kept.alloc | apply Kept.drewN | apply Kept.drew | refine Kept.setCell ?_ (.inr GW604.out) _) | exact HK.out)) (fun k_ e_ => (HO_3.out.1 k_ e_))); have n4_ := Aside0.mk (ho); clear HO_2; clear BK604; clear HB; clear HK; clear HO_3; have HO_2 := n0_; have BK604 := n1_; have HB := n2_; have HK := n3_; have HO618 := n4_; clear n0_ n1_ n2_ n3_ n4_; clear ho hb hg hat))
               go_ret
               exact ⟨_, by first | rfl | (simp [errW_none, errW_some] <;> rfl) | (simp [*, errW_none, errW_some] <;> rfl), by (with_reducible repeat (first | apply Kd.R_alloc | apply Kd.R_drewN | apply Kd.R_drew)); exact HO618.out, (by first | exact (by (with_reducible repeat (first | apply Kd.R_alloc | apply Kd.R_drewN | apply Kd.R_drew)); exact HO_2.out) | (simp only [hl2_1]; exact (by (with_reducible repeat (first | apply Kd.R_alloc | apply Kd.R_drewN | apply Kd.R_drew)); exact HO_2.out))), by repeat (first | (with_reducible first | exact HB.out | apply below_alloc | apply pw_below_drewN | apply below_drew1 | refine below_set ?_ GE604.out) | exact HB.out), by repeat (first | (with_reducible first | exact HK.out | apply Kept.alloc | apply Kept.drewN | apply Kept.drew | refine Kept.setCell ?_ (.inr GW604.out) _) | exact HK.out)⟩
             · rw [if_neg c25] at H
               exact absurd H (by simp)
         · rw [if_neg c12] at H
           exact absurd H (by simp)
       · rw [if_neg c11] at H
         exact absurd H (by simp)
   · rw [if_neg c6] at H
     exact absurd H (by simp)
 · rw [if_neg c5] at H
   exact absurd H (by simp)

end Go.Proofs.Ytoedcnhgobbnfaa.All


namespace Go.Proofs.Ytoedcnhgobbnfaa.All
open Go.RowKit Go.Proofs.YtoedcnhgobbnfaaW.PrintWords Go.Proofs.YtoedcnhgobbnfaaW.PrintLast Go.Proofs.YtoedcnhgobbnfaaW.PrintMore
attribute [local go_sem] max2_int min2_int max_two min_two max_three min_three max_four min_four   -- for this text's walks alone
set_option linter.unusedVariables false
set_option linter.unusedSimpArgs false

/-! ### spec_l4Order: function 56 -/
def spec_l4Order.l0 : Nat → List Int → List Int → Int → Option (List Int)
 | 0, _, _, _ => none
 | k + 1, x3, x4, x5 => if x5 ≥ 0 then (if 0 ≤ x5 then (if x5 < (x4.length : Int) then (if x3.length < 17592186044416 then (spec_l4Order.l0 k (x3 ++ [rd x4 x5]) x4 (wrap64 (x5 - 1))) else (none)) else (none)) else (none)) else (some x3)
def spec_l4Order.f (k : Nat) (l0_0 : List (List Int)) (l0_1 : List (List Int)) : Option (List Int) := (some (([] : List Int) : List Int)).bind fun y620 => (if (l0_0.length : Int) = 0 then (some y620) else (if 0 ≤ (l0_0.length : Int) then (if ((l0_0.length : Int) : Int).toNat ≤ 281474976710656 then ((spec_l4Walk.f k l0_0 l0_1 0 (List.replicate ((l0_0.length : Int) : Int).toNat false) ([] : List Int)).bind fun bt626 => (spec_l4Order.l0 k y620 bt626.1 (wrap64 ((bt626.1.length : Int) - 1)))) else (none)) else (none)))
set_option maxHeartbeats 8000000 in
set_option maxRecDepth 100000 in
theorem spec_l4Order.calls (k : Nat) (A0_0 : Option Addr) (c0_0 : Nat) (l0_0 : List (List Int)) (A0_1 : Option Addr) (c0_1 : Nat) (l0_1 : List (List Int)) (r : List Int) (w : World) (hr0_0 : Kd.C (Kd.slice 2 (Kd.int .i64)) w A0_0 l0_0.length l0_0) (hc0_0 : l0_0.length ≤ c0_0) (hr0_1 : Kd.C (Kd.slice 2 (Kd.int .i64)) w A0_1 l0_1.length l0_1) (hc0_1 : l0_1.length ≤ c0_1) (h : spec_l4Order.f k l0_0 l0_1 = some r) :
 Calls Try.prog 56 #[.agg #[.slice A0_0 l0_0.length c0_0, .slice A0_1 l0_1.length c0_1]] w fun e w' => ∃ v0_ : Value, e = .returned (v0_) ∧ Kd.R (Kd.int .i64) 2 w' w.heap.size (fun _ => True) v0_ r ∧ Below w.heap.size w w' := by
 have hu52 := Try.underlying52
 have HR0_0 := Aside0.mk hr0_0
 have HC0_0 := Aside0.mk hc0_0
 clear hr0_0 hc0_0
 have HR0_1 := Aside0.mk hr0_1
 have HC0_1 := Aside0.mk hc0_1
 clear hr0_1 hc0_1
 have HB := Aside0.mk (Below.refl w.heap.size w)
 have H : ((some (([] : List Int) : List Int)).bind fun y620 => (if (l0_0.length : Int) = 0 then (some y620) else (if 0 ≤ (l0_0.length : Int) then (if ((l0_0.length : Int) : Int).toNat ≤ 281474976710656 then ((spec_l4Walk.f k l0_0 l0_1 0 (List.replicate ((l0_0.length : Int) : Int).toNat false) ([] : List Int)).bind fun bt626 => (spec_l4Order.l0 k y620 bt626.1 (wrap64 ((bt626.1.length : Int) - 1)))) else (none)) else (none)))) = some r := h
 clear h
 obtain ⟨y620, hy620⟩ : ∃ y_ : List Int, y_ = (([] : List Int)) := ⟨_, rfl⟩
 replace H : (if (l0_0.length : Int) = 0 then (some y620) else (if 0 ≤ (l0_0.length : Int) then (if ((l0_0.length : Int) : Int).toNat ≤ 281474976710656 then ((spec_l4Walk.f k l0_0 l0_1 0 (List.replicate ((l0_0.length : Int) : Int).toNat false) ([] : List Int)).bind fun bt626 => (spec_l4Order.l0 k y620 bt626.1 (wrap64 ((bt626.1.length : Int) - 1)))) else (none)) else (none))) = some r := by first | (rw [hy620]; with_reducible exact H) | (have H2_ := (Option.bind_some _ _).symm.trans H; rw [hy620]; with_reducible exact H2_) | (have H2_ := (Option.bind_some _ _).symm.trans H; with_reducible exact H2_) | with_reducible exact H | (rw [hy620]; exact H) | exact H
 have Ny620 := Aside0.mk hy620
 clear hy620
 by_cases c2 : (l0_0.length : Int) = 0
 · rw [if_pos c2] at H
   have c2b0 : ((l0_0.length : Int) == 0) = true := beq_iff_eq.mpr c2
   have c2b1 : ((l0_0.length : Int) != 0) = false := bne_eq_false_iff_eq.mpr c2
   clear c2
   obtain rfl := Option.some.inj H
   go_enter Try.func56, Try.ntmps56
   go_wp2_with (first | ((with_reducible refine gate_dst (N := 1) rfl ?_); refine box_event ?hg (N := 1) ?hd (cs := #[.slice A0_0 l0_0.length c0_0, .slice A0_1 l0_1.length c0_1]) (t := 52) ?hr ?_; (case hd => rfl); (case hg => rfl); (case hr => first | (go_simp; done) | (go_simp; rfl)); intro gb619 hg w3 hbox hb; have n0_ := Aside0.mk (below_step (by repeat (first | (with_reducible first | exact HB.out | apply below_alloc | apply pw_below_drewN | apply below_drew1) | exact HB.out)) hb); have n1_ := Aside0.mk (hbox); have n2_ := Aside0.mk ((by rw [hg]; exact (below_size (by repeat (first | (with_reducible first | exact HB.out | apply below_alloc | apply pw_below_drewN | apply below_drew1) | exact HB.out))) : w.heap.size ≤ gb619)); have n3_ := Aside0.mk ((by rw [hg]; exact (below_size (by repeat (first | (with_reducible first | exact HB.out | apply below_alloc | apply pw_below_drewN | apply below_drew1) | exact HB.out))) : w.heap.size ≤ gb619)); clear HB; have HB := n0_; have BK619 := n1_; have GW619 := n2_; have GE619 := n3_; clear n0_ n1_ n2_ n3_; clear hb hbox hg) | ((with_reducible refine gate_dst (N := 6) rfl ?_); refine Kd.R_lit (Kd.int .i64) _ 2 ?hg (N := 6) ?hd (xs := ([] : List Int)) (inner := []) (ok := fun _ => True) (okp := fun _ => True) ?hr ?hp (fun _ hk => hk) trivial (Below.refl _ _) (Nat.le_refl _) (by simp) ?_; (case hd => rfl); (case hg => rfl); (case hr => first | (go_simp; done) | (go_simp; rfl)); (case hp => exact (Reps.none _ _)); intro v621 w4 ho5 hb hg_ hnew_; clear hg_ hnew_; (first | rw [← Ny620.out] at ho5 | (simp only [Int.reduceToNat] at ho5; rw [← Ny620.out] at ho5)); have n0_ := Aside0.mk (Kd.R_lower ho5 (below_size (by repeat (first | (with_reducible first | exact HB.out | apply below_alloc | apply pw_below_drewN | apply below_drew1 | refine below_set ?_ GE619.out) | exact HB.out)))); have n1_ := Aside0.mk (blk_below (g := gb619) (o := .cells #[.slice A0_0 l0_0.length c0_0, .slice A0_1 l0_1.length c0_1] 52 (0, 0)) (by (with_reducible repeat (first | refine blk_drewN ?_ _ | refine blk_drew ?_ | refine blk_alloc ?_ _)); exact BK619.out) hb); have n2_ := Aside0.mk (below_step (by repeat (first | (with_reducible first | exact HB.out | apply below_alloc | apply pw_below_drewN | apply below_drew1 | refine below_set ?_ GE619.out) | exact HB.out)) hb); clear BK619; clear HB; have HO622 := n0_; have BK619 := n1_; have HB := n2_; clear n0_ n1_ n2_; clear hb ho5; have hcz6_0 : w4.cell? ⟨gb619, 0, none⟩ = some (.slice A0_0 l0_0.length c0_0) := (blk_cell BK619.out 0).trans rfl; have hcz6_1 : w4.cell? ⟨gb619, 1, none⟩ = some (.slice A0_1 l0_1.length c0_1) := (blk_cell BK619.out 1).trans rfl; have hfz6_0 := blk_frozen BK619.out 0; have hfz6_1 := blk_frozen BK619.out 1))
   go_ret
   exact ⟨_, by first | rfl | (simp [errW_none, errW_some] <;> rfl) | (simp [*, errW_none, errW_some] <;> rfl), by (with_reducible repeat (first | apply Kd.R_alloc | apply Kd.R_drewN | apply Kd.R_drew)); exact HO622.out, by repeat (first | (with_reducible first | exact HB.out | apply below_alloc | apply pw_below_drewN | apply below_drew1 | refine below_set ?_ GE619.out) | exact HB.out)⟩
 · rw [if_neg c2] at H
   have c2b0 : ((l0_0.length : Int) == 0) = false := beq_eq_false_iff_ne.mpr c2
   have c2b1 : ((l0_0.length : Int) != 0) = true := bne_iff_ne.mpr c2
   have c2b2 : ¬ (l0_0 = []) := fun h_ => c2 (by rw [h_]; rfl)
   by_cases c7 : 0 ≤ (l0_0.length : Int)
   · rw [if_pos c7] at H
     have c7b0 := eq_true c7
     have c7b1 : decide (0 ≤ (l0_0.length : Int)) = true := decide_eq_true c7
     clear c7
     by_cases c8 : ((l0_0.length : Int) : Int).toNat ≤ 281474976710656
     · rw [if_pos c8] at H
       have c8b0 := eq_true c8
       have c8b1 : decide (((l0_0.length : Int) : Int).toNat ≤ 281474976710656) = true := decide_eq_true c8
       clear c8
       obtain ⟨y623, hy623⟩ : ∃ y_ : List Bool, y_ = (List.replicate ((l0_0.length : Int) : Int).toNat false) := ⟨_, rfl⟩
       replace H : ((spec_l4Walk.f k l0_0 l0_1 0 y623 ([] : List Int)).bind fun bt626 => (spec_l4Order.l0 k y620 bt626.1 (wrap64 ((bt626.1.length : Int) - 1)))) = some r := by first | (rw [hy623]; with_reducible exact H) | (have H2_ := (Option.bind_some _ _).symm.trans H; rw [hy623]; with_reducible exact H2_) | (have H2_ := (Option.bind_some _ _).symm.trans H; with_reducible exact H2_) | with_reducible exact H | (rw [hy623]; exact H) | exact H
       have Ny623 := Aside0.mk hy623
       clear hy623
       replace H := Option.bind_eq_some_iff.mp H
       obtain ⟨⟨t626, t629⟩, A90, H⟩ := H
       replace H : (spec_l4Order.l0 k y620 t626 (wrap64 ((t626.length : Int) - 1))) = some r := H
       have A9 := Aside0.mk A90
       clear A90
       have H' := Aside0.mk H
       clear H
       go_enter Try.func56, Try.ntmps56
       try go_wp2_with (first | ((with_reducible refine gate_dst (N := 1) rfl ?_); refine box_event ?hg (N := 1) ?hd (cs := #[.slice A0_0 l0_0.length c0_0, .slice A0_1 l0_1.length c0_1]) (t := 52) ?hr ?_; (case hd => rfl); (case hg => rfl); (case hr => first | (go_simp; done) | (go_simp; rfl)); intro gb619 hg w10 hbox hb; have n0_ := Aside0.mk (below_step (by repeat (first | (with_reducible first | exact HB.out | apply below_alloc | apply pw_below_drewN | apply below_drew1) | exact HB.out)) hb); have n1_ := Aside0.mk (hbox); have n2_ := Aside0.mk ((by rw [hg]; exact (below_size (by repeat (first | (with_reducible first | exact HB.out | apply below_alloc | apply pw_below_drewN | apply below_drew1) | exact HB.out))) : w.heap.size ≤ gb619)); have n3_ := Aside0.mk ((by rw [hg]; exact (below_size (by repeat (first | (with_reducible first | exact HB.out | apply below_alloc | apply pw_below_drewN | apply below_drew1) | exact HB.out))) : w.heap.size ≤ gb619)); clear HB; have HB := n0_; have BK619 := n1_; have GW619 := n2_; have GE619 := n3_; clear n0_ n1_ n2_ n3_; clear hb hbox hg) | ((with_reducible refine gate_dst (N := 6) rfl ?_); refine Kd.R_lit (Kd.int .i64) _ 2 ?hg (N := 6) ?hd (xs := ([] : List Int)) (inner := []) (ok := fun _ => True) (okp := fun _ => True) ?hr ?hp (fun _ hk => hk) trivial (Below.refl _ _) (Nat.le_refl _) (by simp) ?_; (case hd => rfl); (case hg => rfl); (case hr => first | (go_simp; done) | (go_simp; rfl)); (case hp => exact (Reps.none _ _)); intro v621 w11 ho12 hb hg_ hnew_; clear hg_ hnew_; (first | rw [← Ny620.out] at ho12 | (simp only [Int.reduceToNat] at ho12; rw [← Ny620.out] at ho12)); have n0_ := Aside0.mk (Kd.R_lower ho12 (below_size (by repeat (first | (with_reducible first | exact HB.out | apply below_alloc | apply pw_below_drewN | apply below_drew1 | refine below_set ?_ GE619.out) | exact HB.out)))); have n1_ := Aside0.mk (blk_below (g := gb619) (o := .cells #[.slice A0_0 l0_0.length c0_0, .slice A0_1 l0_1.length c0_1] 52 (0, 0)) (by (with_reducible repeat (first | refine blk_drewN ?_ _ | refine blk_drew ?_ | refine blk_alloc ?_ _)); exact BK619.out) hb); have n2_ := Aside0.mk (below_step (by repeat (first | (with_reducible first | exact HB.out | apply below_alloc | apply pw_below_drewN | apply below_drew1 | refine below_set ?_ GE619.out) | exact HB.out)) hb); clear BK619; clear HB; have HO622 := n0_; have BK619 := n1_; have HB := n2_; clear n0_ n1_ n2_; clear hb ho12; have hcz13_0 : w11.cell? ⟨gb619, 0, none⟩ = some (.slice A0_0 l0_0.length c0_0) := (blk_cell BK619.out 0).trans rfl; have hcz13_1 : w11.cell? ⟨gb619, 1, none⟩ = some (.slice A0_1 l0_1.length c0_1) := (blk_cell BK619.out 1).trans rfl; have hfz13_0 := blk_frozen BK619.out 0; have hfz13_1 := blk_frozen BK619.out 1))
       have n0_ := Aside0.mk (Kd.R_drew HO622.out)
       have n1_ := Aside0.mk (blk_drew BK619.out)
       have n2_ := Aside0.mk (below_drew1 HB.out)
       clear HO622
       clear BK619
       clear HB
       have HO622 := n0_
       have BK619 := n1_
       have HB := n2_
       clear n0_ n1_ n2_
       refine start_ (n := 7) (S := fun w' => w'.cell? ⟨gb619, 0, none⟩ = some (.slice A0_0 l0_0.length c0_0) ∧ w'.cell? ⟨gb619, 1, none⟩ = some (.slice A0_1 l0_1.length c0_1)) (ds := []) #[false, false, false, false, false, false, false] (by kernel_rfl) rfl rfl ⟨(blk_cell BK619.out 0).trans rfl, (blk_cell BK619.out 1).trans rfl⟩ (fun hHeld => ?_)
       generalize w11.drew = w14 at HO622 BK619 HB hHeld ⊢
       refine pure_ (i := 1) (N := some 13) (v := ?_) (a' := ?_) #[false, true, false, false, false, false, false] rfl rfl (by kernel_rfl) (fun _ _ _ h => h) (Or.inl ⟨by rfl, ?_⟩) ?_ ?_
       rotate_left
       · intro w'
         go_simp
         with_reducible rfl
       rotate_left
       · simp only [Act.put, List.setIfInBounds_toArray, List.set_cons_zero, List.set_cons_succ, i64_w, i32_w]
         rfl
       refine take_ (i := 0) (N := some 12) (v := ?_) (a' := ?_) #[true, true, false, false, false, false, false] rfl rfl (by kernel_rfl) (fun _ _ _ h => h) (Or.inl ⟨by rfl, ?_⟩) hHeld ?_ ?_
       rotate_left
       · rintro w' ⟨s0, s1⟩
         go_simp
         with_reducible rfl
       rotate_left
       · simp only [Act.put, List.setIfInBounds_toArray, List.set_cons_zero, List.set_cons_succ, i64_w, i32_w]
         rfl
       refine take_ (i := 2) (N := some 14) (v := ?_) (a' := ?_) #[true, true, true, false, false, false, false] rfl rfl (by kernel_rfl) (fun _ _ _ h => h) (Or.inl ⟨by rfl, ?_⟩) hHeld ?_ ?_
       rotate_left
       · rintro w' ⟨s0, s1⟩
         go_simp
         with_reducible rfl
       rotate_left
       · simp only [Act.put, List.setIfInBounds_toArray, List.set_cons_zero, List.set_cons_succ, i64_w, i32_w]
         rfl
       refine pure_ (i := 3) (N := some 15) (v := ?_) (a' := ?_) #[true, true, true, true, false, false, false] rfl rfl (by kernel_rfl) (fun _ _ _ h => h) (Or.inl ⟨by rfl, ?_⟩) ?_ ?_
       rotate_left
       · intro w'
         go_simp
         with_reducible rfl
       rotate_left
       · simp only [Act.put, List.setIfInBounds_toArray, List.set_cons_zero, List.set_cons_succ, i64_w, i32_w]
         rfl
       refine one_ (i := 4) (N := some 16) #[true, true, true, true, true, false, false] rfl rfl (by kernel_rfl) (by decide) (fun K hK => ?_)
       refine Kd.R_make_step Kd.bool _ 4 (by rfl) (N := 16) rfl 54 _ _ rfl (l0_0.length : Int) rfl rfl Try.underlying54 (.bool false) 1 info4 rfl (by decide) (by omega) false (ok := fun _ => True) (okp := fun _ => True) rfl (fun _ hk => hk) trivial (of_decide_eq_true (by first | (with_reducible assumption) | assumption)) (Nat.le_trans (Nat.mul_le_mul_right _ (of_decide_eq_true (by first | (with_reducible assumption) | assumption) : (l0_0.length : Int).toNat ≤ 281474976710656)) (by omega)) (Below.refl _ _) (Nat.le_refl _) ?_
       intro v624 w15 ho16 hb hg_ hnew_
       clear hg_ hnew_
       (first | rw [← Ny623.out] at ho16 | (simp only [Int.reduceToNat] at ho16; rw [← Ny623.out] at ho16))
       have n0_ := Aside0.mk (Kd.R_below (by (with_reducible repeat (first | apply Kd.R_alloc | apply Kd.R_drewN | apply Kd.R_drew)); exact HO622.out) hb)
       have n1_ := Aside0.mk (Kd.R_lower ho16 (below_size (by repeat (first | (with_reducible first | exact HB.out | apply below_alloc | apply pw_below_drewN | apply below_drew1 | refine below_set ?_ GE619.out) | exact HB.out))))
       have n2_ := Aside0.mk (blk_below (g := gb619) (o := .cells #[.slice A0_0 l0_0.length c0_0, .slice A0_1 l0_1.length c0_1] 52 (0, 0)) (by (with_reducible repeat (first | refine blk_drewN ?_ _ | refine blk_drew ?_ | refine blk_alloc ?_ _)); exact BK619.out) hb)
       have n3_ := Aside0.mk (below_step (by repeat (first | (with_reducible first | exact HB.out | apply below_alloc | apply pw_below_drewN | apply below_drew1 | refine below_set ?_ GE619.out) | exact HB.out)) hb)
       clear HO622
       clear BK619
       clear HB
       have HO622 := n0_
       have HO625 := n1_
       have BK619 := n2_
       have HB := n3_
       clear n0_ n1_ n2_ n3_
       clear hb ho16
       obtain ⟨Ao17, co17, eo17⟩ := Kd.R_slice HO625.out
       (first | subst eo17 | (injection eo17 with f1_ f2_ f3_; have f4_ := f1_.symm; have f5_ := f3_.symm; clear f1_ f2_ f3_; subst f4_; subst f5_))
       refine hK.out _ _ ⟨(blk_cell BK619.out 0).trans rfl, (blk_cell BK619.out 1).trans rfl⟩ (fun hHeld => ?_)
       clear hK K
       refine norm_ (a' := ?_) ?_ ?_
       rotate_left
       · show Act.put _ (some 16) _ = _
         simp only [Act.put, List.setIfInBounds_toArray, List.set_cons_zero, List.set_cons_succ, i64_w, i32_w]
         rfl
       refine one_ (i := 5) (N := some 17) #[true, true, true, true, true, true, false] rfl rfl (by kernel_rfl) (by decide) (fun K hK => ?_)
       refine goes_ Try.func73 (by kernel_rfl) rfl #[.agg #[.slice A0_0 l0_0.length c0_0, .slice A0_1 l0_1.length c0_1], .int .i64 0, .slice Ao17 y623.length co17, .slice none 0 0] (by rfl) rfl rfl (by (try simp only [List.map_toArray, List.map_cons, List.map_nil]); first | done | rfl | (simp only [List.length_drop, List.length_take]; rfl)) ?_
       refine (spec_l4Walk.calls k _ _ l0_0 _ _ l0_1 0 (fun k_ => some k_ = (.slice Ao17 y623.length co17 : Value).ownBlock) (.slice Ao17 y623.length co17) y623 (fun k_ => some k_ = (.slice none 0 0 : Value).ownBlock) (.slice none 0 0) ([] : List Int) t626 t629 w _ ?side1 ?side2 ?side3 ?side4 ?side5 ?side6 ?side7 A9.out).mono ?_
       (case side1 => repeat (first | (with_reducible first | exact HB.out | apply below_alloc | apply pw_below_drewN | apply below_drew1 | refine below_set ?_ GE619.out) | exact HB.out))
       (case side2 => exact Kd.C_kept_came (Kd.heap_slice 2 (Kd.heap_int .i64)) HR0_0.out (by repeat (first | (with_reducible first | exact HB.out | apply below_alloc | apply pw_below_drewN | apply below_drew1 | refine below_set ?_ GE619.out) | exact HB.out)) (fun k_ hs_ => Or.elim hs_ (fun e_ => (fun e_ => Kd.R_base HO625.out k_ e_.symm) e_) (fun e_ => (fun e_ => by simp [Value.ownBlock] at e_) e_)))
       (case side3 => exact HC0_0.out)
       (case side4 => exact Kd.C_kept_came (Kd.heap_slice 2 (Kd.heap_int .i64)) HR0_1.out (by repeat (first | (with_reducible first | exact HB.out | apply below_alloc | apply pw_below_drewN | apply below_drew1 | refine below_set ?_ GE619.out) | exact HB.out)) (fun k_ hs_ => Or.elim hs_ (fun e_ => (fun e_ => Kd.R_base HO625.out k_ e_.symm) e_) (fun e_ => (fun e_ => by simp [Value.ownBlock] at e_) e_)))
       (case side5 => exact HC0_1.out)
       (case side6 => exact Kd.R_tight rfl HO625.out)
       (case side7 => exact Kd.R_nil _ _ _ _ _)
       rintro e w18 ⟨v627, rfl, ho0, hy0, hb, hkp⟩
       refine ⟨_, rfl, ?_⟩
       have n0_ := Aside0.mk (blk_kept (by (with_reducible repeat (first | refine blk_drewN ?_ _ | refine blk_drew ?_ | refine blk_alloc ?_ _)); exact BK619.out) hkp (fun hs_ => Or.elim hs_ (fun e_ => (fun e_ => (Kd.R_ne HO625.out BK619.out (by decide)) e_) e_) (fun e_ => (fun e_ => by simp [Value.ownBlock] at e_) e_)))
       have n1_ := Aside0.mk (Kd.R_mono (ok' := fun k_ => some k_ ≠ (v627 : Value).ownBlock) (Kd.R_keptB ((Kd.R_apart' HO622.out (Kd.R_typed HO625.out) (by decide))) hkp (fun k_ hk_ hs_ => Or.elim hs_ (fun e_ => (hk_.2) e_) (fun e_ => (fun e_ => by simp [Value.ownBlock] at e_) e_))) (fun k_ hk_ => fun e_ => Or.elim (ho0.1 k_ e_.symm) (fun hs_ => hk_.2.1 hs_) (fun hn_ => Nat.not_le.2 hk_.2.2 hn_)))
       have n2_ := Aside0.mk (Kd.R_reok rfl hy0 (fun k_ e_ => HO625.out.1 k_ e_))
       have n3_ := Aside0.mk (Kd.R_mono (ok' := fun k_ => some k_ ≠ (v621 : Value).ownBlock) ho0 (fun k_ hk_ => Or.elim hk_ (fun hs_ => Or.elim hs_ (fun hs_ => fun e_ => ((((Kd.R_apart' HO622.out (Kd.R_typed HO625.out) (by decide))).1 k_ e_.symm).2) hs_) (fun hs_ => absurd hs_ (by simp [Value.ownBlock]))) (fun hn_ => (Kd.fresh' (Kd.R_lt (by (with_reducible repeat (first | apply Kd.R_alloc | apply Kd.R_drewN | apply Kd.R_drew)); exact HO622.out)) k_ hn_))))
       have n4_ := Aside0.mk (hb)
       clear BK619
       clear HO622
       clear HO625
       clear HB
       have BK619 := n0_
       have HO622 := n1_
       have HO625 := n2_
       have HO628 := n3_
       have HB := n4_
       clear n0_ n1_ n2_ n3_ n4_
       (try clear hb)
       (try clear hkp)
       (try clear ho0)
       (try clear hy0)
       refine hK.out _ _ ⟨(blk_cell BK619.out 0).trans rfl, (blk_cell BK619.out 1).trans rfl⟩ (fun hHeld => ?_)
       clear hK K
       refine norm_ (a' := ?_) ?_ ?_
       rotate_left
       · show Act.put _ (some 17) _ = _
         simp only [Act.put, List.setIfInBounds_toArray, List.set_cons_zero, List.set_cons_succ, i64_w, i32_w]
         rfl
       refine pure_ (i := 6) (N := some 4) (v := ?_) (a' := ?_) #[true, true, true, true, true, true, true] rfl rfl (by kernel_rfl) (fun _ _ _ h => h) (Or.inl ⟨by rfl, ?_⟩) ?_ ?_
       rotate_left
       · intro w'
         go_simp
         with_reducible rfl
       rotate_left
       · simp only [Act.put, List.setIfInBounds_toArray, List.set_cons_zero, List.set_cons_succ, i64_w, i32_w]
         rfl
       refine done_ (by kernel_rfl) ?_
       obtain ⟨Ao19, co19, eo19⟩ := Kd.R_slice HO628.out
       subst eo19
       try go_wp2
       go_loopg [3, 5] k (fun kq v3 v5 w' => ∃ (x3_1 : List Int) (x5_1 : Int), v5 = .int .i64 x5_1 ∧ Aside0 (spec_l4Order.l0 kq x3_1 t626 x5_1 = some r) ∧ Aside0 (kq ≤ k) ∧ Aside0 (Kd.R (Kd.int .i64) 2 w' w.heap.size (fun k_ => some k_ ≠ ((.slice Ao19 t626.length co19) : Value).ownBlock) v3 x3_1) ∧ Aside0 (Kd.R (Kd.int .i64) 2 w' w.heap.size (fun k_ => some k_ ≠ (v3 : Value).ownBlock) (.slice Ao19 t626.length co19) t626) ∧ Aside0 (w'.heap[gb619]? = some (.cells #[(.slice A0_0 l0_0.length c0_0), (.slice A0_1 l0_1.length c0_1)] 52 (0, 0))) ∧ Aside0 (Below w.heap.size w w'))
       case atStart => exact ⟨(y620), (wrap64 ((t626.length : Int) - 1)), (by first | rfl | (simp; done) | (simp [*]; done)), H', ⟨Nat.le_refl _⟩, ⟨by (with_reducible repeat (first | apply Kd.R_alloc | apply Kd.R_drewN | apply Kd.R_drew)); exact HO622.out⟩, ⟨by (with_reducible repeat (first | apply Kd.R_alloc | apply Kd.R_drewN | apply Kd.R_drew)); exact HO628.out⟩, ⟨by (with_reducible repeat (first | refine blk_drewN ?_ _ | refine blk_drew ?_ | refine blk_alloc ?_ _)); exact BK619.out⟩, ⟨by repeat (first | (with_reducible first | exact HB.out | apply below_alloc | apply pw_below_drewN | apply below_drew1 | refine below_set ?_ GE619.out) | exact HB.out)⟩⟩
       case round =>
        clear H'
        try clear c2
        try clear c2b0
        try clear c2b1
        try clear c2b2
        try clear p2
        try clear c5
        try clear p6
        try clear c7
        try clear c7b0
        try clear c7b1
        try clear c8
        try clear c8b0
        try clear c8b1
        try clear hcz13_0
        try clear hcz13_1
        try clear hcz6_0
        try clear hcz6_1
        try clear hfz13_0
        try clear hfz13_1
        try clear hfz6_0
        try clear hfz6_1
        obtain ⟨x3_1, x5_1, rfl, HA, HK1, HO_3, HO_4, BK619, HB⟩ := hrel
        cases gk with
        | zero => exact absurd HA.out (by simp [spec_l4Order.l0])
        | succ k1 =>
         have H := HA.out
         clear HA
         simp only [spec_l4Order.l0] at H
         by_cases c20 : x5_1 ≥ 0
         · rw [if_pos c20] at H
           have c20b0 : decide (0 ≤ x5_1) = true := decide_eq_true c20
           clear c20
           by_cases c21 : 0 ≤ x5_1
           · rw [if_pos c21] at H
             have c21b0 : decide (0 ≤ x5_1) = true := decide_eq_true c21
             clear c21
             by_cases c22 : x5_1 < (t626.length : Int)
             · rw [if_pos c22] at H
               have c22b0 : decide (x5_1 < (t626.length : Int)) = true := decide_eq_true c22
               clear c22
               by_cases c23 : x3_1.length < 17592186044416
               · rw [if_pos c23] at H
                 have LMc23 := Aside0.mk c23
                 clear c23
                 obtain ⟨y631, hy631⟩ : ∃ y_ : List Int, y_ = (x3_1 ++ [rd t626 x5_1]) := ⟨_, rfl⟩
                 replace H : (spec_l4Order.l0 k1 y631 t626 (wrap64 (x5_1 - 1))) = some r := by first | (rw [hy631]; with_reducible exact H) | (have H2_ := (Option.bind_some _ _).symm.trans H; rw [hy631]; with_reducible exact H2_) | (have H2_ := (Option.bind_some _ _).symm.trans H; with_reducible exact H2_) | with_reducible exact H | (rw [hy631]; exact H) | exact H
                 have Ny631 := Aside0.mk hy631
                 clear hy631
                 have H' := Aside0.mk H
                 clear H
                 have p630 : 0 ≤ (x5_1 : Int) := of_decide_eq_true (by first | (with_reducible assumption) | assumption)
                 have q630 : x5_1 < (t626.length : Int) := of_decide_eq_true (by first | (with_reducible assumption) | assumption)
                 obtain ⟨ad630, e630, hx630_0⟩ := Kd.at_int (Kd.R_reads' HO_4.out).2.2 x5_1 p630 q630
                 cases e630
                 replace p630 := eq_true p630
                 replace q630 := eq_true q630
                 go_wp2_with (first | ((with_reducible refine gate_builtin (b := .append) (xs := #[.tmp 25, .tmp 30]) rfl ?_); at_builtin; refine Kd.R_append (Kd.int .i64) (w0 := w) w.heap.size rfl (.tmp 25) (.tmp 30) 22 2 (.int .i64 0) 8 rfl Try.underlying22 info2 rfl (by decide) (by omega) u3 x3_1 (rd t626 x5_1) [.int .i64 (rd t626 x5_1)] (fun k_ => some k_ ≠ (.slice (some ad630) t626.length co19 : Value).ownBlock) (fun _ => False) rfl rfl ?aP (fun _ hk => hk.elim) ?aF ?aO ?aB ?aS ?aL ?_; (case aP => exact rfl); (case aB => exact (by repeat (first | (with_reducible first | exact HB.out | apply below_alloc | apply pw_below_drewN | apply below_drew1 | refine below_set ?_ GE619.out) | exact HB.out))); (case aF => exact (fun k_ hk => Kd.fresh' (Kd.R_lt (by (with_reducible repeat (first | apply Kd.R_alloc | apply Kd.R_drewN | apply Kd.R_drew)); exact HO_4.out)) k_ hk)); (case aO => exact (by (with_reducible repeat (first | apply Kd.R_alloc | apply Kd.R_drewN | apply Kd.R_drew)); exact HO_3.out)); (case aS => exact (below_size (by repeat (first | (with_reducible first | exact HB.out | apply below_alloc | apply pw_below_drewN | apply below_drew1 | refine below_set ?_ GE619.out) | exact HB.out)))); (case aL => have := LMc23.out; omega); intro v632 w24 ho hb hg hat; rw [← Ny631.out] at ho; have n0_ := Aside0.mk (Kd.R_after (ok := (fun _ => True)) (by (with_reducible repeat (first | apply Kd.R_alloc | apply Kd.R_drewN | apply Kd.R_drew)); exact Kd.R_mono HO_4.out (fun _ hk => ⟨trivial, hk⟩)) hg hat); have n1_ := Aside0.mk (blk_grown (g := gb619) (o := .cells #[.slice A0_0 l0_0.length c0_0, .slice A0_1 l0_1.length c0_1] 52 (0, 0)) (by (with_reducible repeat (first | refine blk_drewN ?_ _ | refine blk_drew ?_ | refine blk_alloc ?_ _)); exact BK619.out) hg (Kd.R_ne HO_3.out BK619.out (by decide))); have n2_ := Aside0.mk (hb); have n3_ := Aside0.mk (ho); clear HO_4; clear BK619; clear HB; clear HO_3; have HO_4 := n0_; have BK619 := n1_; have HB := n2_; have HO633 := n3_; clear n0_ n1_ n2_ n3_; clear ho hb hg hat))
                 go_roundg k1
                 case measure => have := HK1.out; omega
                 case rel => exact ⟨(y631), (wrap64 (x5_1 - 1)), (by first | rfl | (simp; done) | (simp [*]; done)), H', ⟨by have := HK1.out; omega⟩, ⟨by (with_reducible repeat (first | apply Kd.R_alloc | apply Kd.R_drewN | apply Kd.R_drew)); exact HO633.out⟩, ⟨by (with_reducible repeat (first | apply Kd.R_alloc | apply Kd.R_drewN | apply Kd.R_drew)); exact Kd.R_mono HO_4.out (fun _ hk => hk.2)⟩, ⟨by (with_reducible repeat (first | refine blk_drewN ?_ _ | refine blk_drew ?_ | refine blk_alloc ?_ _)); exact BK619.out⟩, ⟨by repeat (first | (with_reducible first | exact HB.out | apply below_alloc | apply pw_below_drewN | apply below_drew1 | refine below_set ?_ GE619.out) | exact HB.out)⟩⟩
               · rw [if_neg c23] at H
                 exact absurd H (by simp)
             · rw [if_neg c22] at H
               exact absurd H (by simp)
           · rw [if_neg c21] at H
             exact absurd H (by simp)
         · rw [if_neg c20] at H
           have c20b0 : decide (0 ≤ x5_1) = false := decide_eq_false c20
           clear c20
           obtain rfl := Option.some.inj H
           go_wp2
           go_ret
           exact ⟨_, by first | rfl | (simp [errW_none, errW_some] <;> rfl) | (simp [*, errW_none, errW_some] <;> rfl), by (with_reducible repeat (first | apply Kd.R_alloc | apply Kd.R_drewN | apply Kd.R_drew)); exact Kd.R_mono HO_3.out (fun _ hk => trivial), by repeat (first | (with_reducible first | exact HB.out | apply below_alloc | apply pw_below_drewN | apply below_drew1 | refine below_set ?_ GE619.out) | exact HB.out)⟩
     · rw [if_neg c8] at H
       exact absurd H (by simp)
   · rw [if_neg c7] at H
     exact absurd H (by simp)

end Go.Proofs.Ytoedcnhgobbnfaa.All


namespace Go.Proofs.Ytoedcnhgobbnfaa.All
open Go.RowKit Go.Proofs.YtoedcnhgobbnfaaW.PrintWords Go.Proofs.YtoedcnhgobbnfaaW.PrintLast Go.Proofs.YtoedcnhgobbnfaaW.PrintMore
attribute [local go_sem] max2_int min2_int max_two min_two max_three min_three max_four min_four   -- for this text's walks alone
set_option linter.unusedVariables false
set_option linter.unusedSimpArgs false

/-! ### spec_Order: function 30 -/
def spec_Order.f (k : Nat) (a0_0 : ByteArray) (a0_1 : Int) (l0_2 : List Int) (a0_3 : Int) (l0_4 : List (S62)) : Option (List Int) := if (l0_4.length : Int) > 4096 then ((spec_l4LongOrder.f k a0_0 a0_1 l0_2 a0_3 l0_4).bind fun t635 => (some t635)) else ((spec_l4Build.f k a0_0 a0_1 l0_2 a0_3 l0_4).bind fun bt638 => ((spec_l4Order.f k bt638.1 bt638.2).bind fun t644 => (some t644)))
set_option maxHeartbeats 8000000 in
set_option maxRecDepth 100000 in
theorem spec_Order.calls (k : Nat) (a0_0 : ByteArray) (a0_1 : Int) (A0_2 : Option Addr) (c0_2 : Nat) (l0_2 : List Int) (a0_3 : Int) (A0_4 : Option Addr) (c0_4 : Nat) (l0_4 : List (S62)) (r : List Int) (w : World) (hr0_2 : Kd.C (Kd.int .i64) w A0_2 l0_2.length l0_2) (hc0_2 : l0_2.length ≤ c0_2) (hr0_4 : Kd.C k62 w A0_4 l0_4.length l0_4) (hc0_4 : l0_4.length ≤ c0_4) (h : spec_Order.f k a0_0 a0_1 l0_2 a0_3 l0_4 = some r) :
 Calls Try.prog 30 #[.agg #[.string a0_0, .int .i64 a0_1, .slice A0_2 l0_2.length c0_2, .int .i64 a0_3, .slice A0_4 l0_4.length c0_4]] w fun e w' => ∃ v0_ : Value, e = .returned (v0_) ∧ Kd.R (Kd.int .i64) 2 w' w.heap.size (fun _ => True) v0_ r ∧ Below w.heap.size w w' := by
 have hu30 := Try.underlying30
 have HR0_2 := Aside0.mk hr0_2
 have HC0_2 := Aside0.mk hc0_2
 clear hr0_2 hc0_2
 have HR0_4 := Aside0.mk hr0_4
 have HC0_4 := Aside0.mk hc0_4
 clear hr0_4 hc0_4
 have HB := Aside0.mk (Below.refl w.heap.size w)
 have H : (if (l0_4.length : Int) > 4096 then ((spec_l4LongOrder.f k a0_0 a0_1 l0_2 a0_3 l0_4).bind fun t635 => (some t635)) else ((spec_l4Build.f k a0_0 a0_1 l0_2 a0_3 l0_4).bind fun bt638 => ((spec_l4Order.f k bt638.1 bt638.2).bind fun t644 => (some t644)))) = some r := h
 clear h
 by_cases c2 : (l0_4.length : Int) > 4096
 · rw [if_pos c2] at H
   have c2b0 : decide (4096 < (l0_4.length : Int)) = true := decide_eq_true c2
   have c2b1 : decide (4096 < l0_4.length) = true := decide_eq_true (by omega)
   clear c2
   replace H := Option.bind_eq_some_iff.mp H
   obtain ⟨t635, A30, H⟩ := H
   replace H : (some t635) = some r := H
   have A3 := Aside0.mk A30
   clear A30
   obtain rfl := Option.some.inj H
   go_enter Try.func30, Try.ntmps30
   go_wp2_with (first | ((with_reducible refine gate_dst (N := 1) rfl ?_); refine box_event ?hg (N := 1) ?hd (cs := #[.string a0_0, .int .i64 a0_1, .slice A0_2 l0_2.length c0_2, .int .i64 a0_3, .slice A0_4 l0_4.length c0_4]) (t := 30) ?hr ?_; (case hd => rfl); (case hg => rfl); (case hr => first | (go_simp; done) | (go_simp; rfl)); intro gb634 hg w4 hbox hb; have n0_ := Aside0.mk (below_step (by repeat (first | (with_reducible first | exact HB.out | apply below_alloc | apply pw_below_drewN | apply below_drew1) | exact HB.out)) hb); have n1_ := Aside0.mk (hbox); have n2_ := Aside0.mk ((by rw [hg]; exact (below_size (by repeat (first | (with_reducible first | exact HB.out | apply below_alloc | apply pw_below_drewN | apply below_drew1) | exact HB.out))) : w.heap.size ≤ gb634)); have n3_ := Aside0.mk ((by rw [hg]; exact (below_size (by repeat (first | (with_reducible first | exact HB.out | apply below_alloc | apply pw_below_drewN | apply below_drew1) | exact HB.out))) : w.heap.size ≤ gb634)); clear HB; have HB := n0_; have BK634 := n1_; have GW634 := n2_; have GE634 := n3_; clear n0_ n1_ n2_ n3_; clear hb hbox hg; have hcz5_0 : w4.cell? ⟨gb634, 0, none⟩ = some (.string a0_0) := (blk_cell BK634.out 0).trans rfl; have hcz5_1 : w4.cell? ⟨gb634, 1, none⟩ = some (.int .i64 a0_1) := (blk_cell BK634.out 1).trans rfl; have hcz5_2 : w4.cell? ⟨gb634, 2, none⟩ = some (.slice A0_2 l0_2.length c0_2) := (blk_cell BK634.out 2).trans rfl; have hcz5_3 : w4.cell? ⟨gb634, 3, none⟩ = some (.int .i64 a0_3) := (blk_cell BK634.out 3).trans rfl; have hcz5_4 : w4.cell? ⟨gb634, 4, none⟩ = some (.slice A0_4 l0_4.length c0_4) := (blk_cell BK634.out 4).trans rfl; have hfz5_0 := blk_frozen BK634.out 0; have hfz5_1 := blk_frozen BK634.out 1; have hfz5_2 := blk_frozen BK634.out 2; have hfz5_3 := blk_frozen BK634.out 3; have hfz5_4 := blk_frozen BK634.out 4) | ((with_reducible refine gate_callee (f := 55) rfl ?_); refine goesL_ (some 8) rfl rfl Try.func55 (by kernel_rfl) rfl #[.agg #[.string a0_0, .int .i64 a0_1, .slice A0_2 l0_2.length c0_2, .int .i64 a0_3, .slice A0_4 l0_4.length c0_4]] rfl (by (try simp only [List.map_toArray, List.map_cons, List.map_nil]); first | done | rfl | (simp only [List.length_drop, List.length_take]; rfl)) ?_; (with_reducible refine (spec_l4LongOrder.calls k a0_0 a0_1 _ _ l0_2 a0_3 _ _ l0_4 t635 _ ?side1 ?side2 ?side3 ?side4 A3.out).mono ?_); (case side1 => repeat (first | exact (Kd.C_below HR0_2.out HB.out) | (with_reducible refine Kd.C_alloc ?_ _) | (with_reducible refine Kd.C_drewN ?_ _) | (with_reducible refine Kd.C_drew ?_))); (case side2 => exact HC0_2.out); (case side3 => repeat (first | exact (Kd.C_below HR0_4.out HB.out) | (with_reducible refine Kd.C_alloc ?_ _) | (with_reducible refine Kd.C_drewN ?_ _) | (with_reducible refine Kd.C_drew ?_))); (case side4 => exact HC0_4.out); rintro e w6 ⟨v636, rfl, ho0, hb⟩; refine ⟨_, rfl, ?_⟩; have n0_ := Aside0.mk (Kd.R_lower ho0 (below_size (by repeat (first | (with_reducible first | exact HB.out | apply below_alloc | apply pw_below_drewN | apply below_drew1 | refine below_set ?_ GE634.out) | exact HB.out)))); have n1_ := Aside0.mk (blk_below (g := gb634) (o := .cells #[.string a0_0, .int .i64 a0_1, .slice A0_2 l0_2.length c0_2, .int .i64 a0_3, .slice A0_4 l0_4.length c0_4] 30 (0, 0)) (by (with_reducible repeat (first | refine blk_drewN ?_ _ | refine blk_drew ?_ | refine blk_alloc ?_ _)); exact BK634.out) hb); have n2_ := Aside0.mk (below_step (by repeat (first | (with_reducible first | exact HB.out | apply below_alloc | apply pw_below_drewN | apply below_drew1 | refine below_set ?_ GE634.out) | exact HB.out)) hb); clear BK634; clear HB; have HO637 := n0_; have BK634 := n1_; have HB := n2_; clear n0_ n1_ n2_; (try clear hb); (try clear hb2); (try clear hk); (try clear hi); (try clear ho0)))
   go_ret
   exact ⟨_, by first | rfl | (simp [errW_none, errW_some] <;> rfl) | (simp [*, errW_none, errW_some] <;> rfl), by (with_reducible repeat (first | apply Kd.R_alloc | apply Kd.R_drewN | apply Kd.R_drew)); exact HO637.out, by repeat (first | (with_reducible first | exact HB.out | apply below_alloc | apply pw_below_drewN | apply below_drew1 | refine below_set ?_ GE634.out) | exact HB.out)⟩
 · rw [if_neg c2] at H
   have c2b0 : decide (4096 < (l0_4.length : Int)) = false := decide_eq_false c2
   have c2b1 : decide (4096 < l0_4.length) = false := decide_eq_false (by omega)
   clear c2
   replace H := Option.bind_eq_some_iff.mp H
   obtain ⟨⟨t638, t641⟩, A70, H⟩ := H
   replace H : ((spec_l4Order.f k t638 t641).bind fun t644 => (some t644)) = some r := H
   have A7 := Aside0.mk A70
   clear A70
   replace H := Option.bind_eq_some_iff.mp H
   obtain ⟨t644, A80, H⟩ := H
   replace H : (some t644) = some r := H
   have A8 := Aside0.mk A80
   clear A80
   obtain rfl := Option.some.inj H
   go_enter Try.func30, Try.ntmps30
   go_wp2_with (first | ((with_reducible refine gate_dst (N := 1) rfl ?_); refine box_event ?hg (N := 1) ?hd (cs := #[.string a0_0, .int .i64 a0_1, .slice A0_2 l0_2.length c0_2, .int .i64 a0_3, .slice A0_4 l0_4.length c0_4]) (t := 30) ?hr ?_; (case hd => rfl); (case hg => rfl); (case hr => first | (go_simp; done) | (go_simp; rfl)); intro gb634 hg w9 hbox hb; have n0_ := Aside0.mk (below_step (by repeat (first | (with_reducible first | exact HB.out | apply below_alloc | apply pw_below_drewN | apply below_drew1) | exact HB.out)) hb); have n1_ := Aside0.mk (hbox); have n2_ := Aside0.mk ((by rw [hg]; exact (below_size (by repeat (first | (with_reducible first | exact HB.out | apply below_alloc | apply pw_below_drewN | apply below_drew1) | exact HB.out))) : w.heap.size ≤ gb634)); have n3_ := Aside0.mk ((by rw [hg]; exact (below_size (by repeat (first | (with_reducible first | exact HB.out | apply below_alloc | apply pw_below_drewN | apply below_drew1) | exact HB.out))) : w.heap.size ≤ gb634)); clear HB; have HB := n0_; have BK634 := n1_; have GW634 := n2_; have GE634 := n3_; clear n0_ n1_ n2_ n3_; clear hb hbox hg; have hcz10_0 : w9.cell? ⟨gb634, 0, none⟩ = some (.string a0_0) := (blk_cell BK634.out 0).trans rfl; have hcz10_1 : w9.cell? ⟨gb634, 1, none⟩ = some (.int .i64 a0_1) := (blk_cell BK634.out 1).trans rfl; have hcz10_2 : w9.cell? ⟨gb634, 2, none⟩ = some (.slice A0_2 l0_2.length c0_2) := (blk_cell BK634.out 2).trans rfl; have hcz10_3 : w9.cell? ⟨gb634, 3, none⟩ = some (.int .i64 a0_3) := (blk_cell BK634.out 3).trans rfl; have hcz10_4 : w9.cell? ⟨gb634, 4, none⟩ = some (.slice A0_4 l0_4.length c0_4) := (blk_cell BK634.out 4).trans rfl; have hfz10_0 := blk_frozen BK634.out 0; have hfz10_1 := blk_frozen BK634.out 1; have hfz10_2 := blk_frozen BK634.out 2; have hfz10_3 := blk_frozen BK634.out 3; have hfz10_4 := blk_frozen BK634.out 4) | ((with_reducible refine gate_callee (f := 45) rfl ?_); refine goesL_ (some 10) rfl rfl Try.func45 (by kernel_rfl) rfl #[.agg #[.string a0_0, .int .i64 a0_1, .slice A0_2 l0_2.length c0_2, .int .i64 a0_3, .slice A0_4 l0_4.length c0_4]] rfl (by (try simp only [List.map_toArray, List.map_cons, List.map_nil]); first | done | rfl | (simp only [List.length_drop, List.length_take]; rfl)) ?_; (with_reducible refine (spec_l4Build.calls k a0_0 a0_1 _ _ l0_2 a0_3 _ _ l0_4 t638 t641 _ ?side1 ?side2 ?side3 ?side4 A7.out).mono ?_); (case side1 => repeat (first | exact (Kd.C_below HR0_2.out HB.out) | (with_reducible refine Kd.C_alloc ?_ _) | (with_reducible refine Kd.C_drewN ?_ _) | (with_reducible refine Kd.C_drew ?_))); (case side2 => exact HC0_2.out); (case side3 => repeat (first | exact (Kd.C_below HR0_4.out HB.out) | (with_reducible refine Kd.C_alloc ?_ _) | (with_reducible refine Kd.C_drewN ?_ _) | (with_reducible refine Kd.C_drew ?_))); (case side4 => exact HC0_4.out); rintro e w11 ⟨v639, v642, rfl, ho0, ho1, hb⟩; refine ⟨_, rfl, ?_⟩; have n0_ := Aside0.mk (Kd.S_lower ho0 (below_size (by repeat (first | (with_reducible first | exact HB.out | apply below_alloc | apply pw_below_drewN | apply below_drew1 | refine below_set ?_ GE634.out) | exact HB.out)))); have n1_ := Aside0.mk (Kd.S_lower ho1 (below_size (by repeat (first | (with_reducible first | exact HB.out | apply below_alloc | apply pw_below_drewN | apply below_drew1 | refine below_set ?_ GE634.out) | exact HB.out)))); have n2_ := Aside0.mk (blk_below (g := gb634) (o := .cells #[.string a0_0, .int .i64 a0_1, .slice A0_2 l0_2.length c0_2, .int .i64 a0_3, .slice A0_4 l0_4.length c0_4] 30 (0, 0)) (by (with_reducible repeat (first | refine blk_drewN ?_ _ | refine blk_drew ?_ | refine blk_alloc ?_ _)); exact BK634.out) hb); have n3_ := Aside0.mk (below_step (by repeat (first | (with_reducible first | exact HB.out | apply below_alloc | apply pw_below_drewN | apply below_drew1 | refine below_set ?_ GE634.out) | exact HB.out)) hb); clear BK634; clear HB; have HO640 := n0_; have HO643 := n1_; have BK634 := n2_; have HB := n3_; clear n0_ n1_ n2_ n3_; (try clear hb); (try clear hb2); (try clear hk); (try clear hi); (try clear ho0); (try clear ho1); obtain ⟨Ao12, co12, eo12⟩ := Kd.S_slice HO640.out; subst eo12; obtain ⟨Ao13, co13, eo13⟩ := Kd.S_slice HO643.out; subst eo13) | ((with_reducible refine gate_callee (f := 56) rfl ?_); refine goesL_ (some 11) rfl rfl Try.func56 (by kernel_rfl) rfl #[.agg #[.slice Ao12 t638.length co12, .slice Ao13 t641.length co13]] rfl (by (try simp only [List.map_toArray, List.map_cons, List.map_nil]); first | done | rfl | (simp only [List.length_drop, List.length_take]; rfl)) ?_; (with_reducible refine (spec_l4Order.calls k _ _ t638 _ _ t641 t644 _ ?side1 ?side2 ?side3 ?side4 A8.out).mono ?_); (case side1 => repeat (first | exact (Kd.S_reads' HO640.out).2.2 | (with_reducible refine Kd.C_alloc ?_ _) | (with_reducible refine Kd.C_drewN ?_ _) | (with_reducible refine Kd.C_drew ?_))); (case side2 => exact (Kd.S_reads' HO640.out).2.1); (case side3 => repeat (first | exact (Kd.S_reads' HO643.out).2.2 | (with_reducible refine Kd.C_alloc ?_ _) | (with_reducible refine Kd.C_drewN ?_ _) | (with_reducible refine Kd.C_drew ?_))); (case side4 => exact (Kd.S_reads' HO643.out).2.1); rintro e w14 ⟨v645, rfl, ho0, hb⟩; refine ⟨_, rfl, ?_⟩; have n0_ := Aside0.mk (Kd.S_elder' (by (with_reducible repeat (first | apply Kd.S_alloc | apply Kd.S_drewN | apply Kd.S_drew)); exact HO640.out) (Kd.R_base ho0) hb); have n1_ := Aside0.mk (Kd.S_elder' (by (with_reducible repeat (first | apply Kd.S_alloc | apply Kd.S_drewN | apply Kd.S_drew)); exact HO643.out) (Kd.R_base ho0) hb); have n2_ := Aside0.mk (Kd.R_lower ho0 (below_size (by repeat (first | (with_reducible first | exact HB.out | apply below_alloc | apply pw_below_drewN | apply below_drew1 | refine below_set ?_ GE634.out) | exact HB.out)))); have n3_ := Aside0.mk (blk_below (g := gb634) (o := .cells #[.string a0_0, .int .i64 a0_1, .slice A0_2 l0_2.length c0_2, .int .i64 a0_3, .slice A0_4 l0_4.length c0_4] 30 (0, 0)) (by (with_reducible repeat (first | refine blk_drewN ?_ _ | refine blk_drew ?_ | refine blk_alloc ?_ _)); exact BK634.out) hb); have n4_ := Aside0.mk (below_step (by repeat (first | (with_reducible first | exact HB.out | apply below_alloc | apply pw_below_drewN | apply below_drew1 | refine below_set ?_ GE634.out) | exact HB.out)) hb); clear HO640; clear HO643; clear BK634; clear HB; have HO640 := n0_; have HO643 := n1_; have HO646 := n2_; have BK634 := n3_; have HB := n4_; clear n0_ n1_ n2_ n3_ n4_; (try clear hb); (try clear hb2); (try clear hk); (try clear hi); (try clear ho0)))
   go_ret
   exact ⟨_, by first | rfl | (simp [errW_none, errW_some] <;> rfl) | (simp [*, errW_none, errW_some] <;> rfl), by (with_reducible repeat (first | apply Kd.R_alloc | apply Kd.R_drewN | apply Kd.R_drew)); exact HO646.out, by repeat (first | (with_reducible first | exact HB.out | apply below_alloc | apply pw_below_drewN | apply below_drew1 | refine below_set ?_ GE634.out) | exact HB.out)⟩

end Go.Proofs.Ytoedcnhgobbnfaa.All


/- Maps of bools that a call makes: as sets of numbers. -/
namespace Go.Proofs.Ytoedcnhgobbnfaa.All
open Go.RowKit Go.Proofs.YtoedcnhgobbnfaaW.PrintWords Go.Proofs.YtoedcnhgobbnfaaW.PrintLast Go.Proofs.YtoedcnhgobbnfaaW.PrintMore
set_option linter.unusedVariables false
set_option linter.unusedSimpArgs false
open Go.Maps (Keyed)
theorem plainElem_bool_inv {H : Type} {P : Program} {e : TypeId} (he : P.underlying e = some .bool) {v : Value} {z : DataW H × List MemPlace} (h : plainElem P e v = some z) : ∃ x, v = .bool x ∧ z = (.lit (.bool x), []) := by
  unfold plainElem at h
  rw [he] at h
  cases v <;> simp at h
  exact ⟨_, rfl, h.symm⟩
/-- Block b is a map of at most n entries from int64 (type k) to bool (type e); S is what is told of a number. -/
def IsSet (P : Program) (k e : TypeId) (w : World) (b n : Nat) (S : Int → Bool) : Prop :=
  ∃ D : DataW Unit, w.ownsMap P k (plainElem P e) b n D ∧ ∀ x, (Lit.int .i64 x).wf = true → D.atKey (.int .i64 x) (.lit (.bool false)) = .lit (.bool (S x))
section
variable {P : Program} {k e : TypeId} {w w1 : World} {b n : Nat} {S : Int → Bool}
theorem IsSet.made (w : World) (P : Program) (k e : TypeId) : IsSet P k e (w.alloc (.map #[] 0)) w.heap.size 0 (fun _ => false) :=
  ⟨.map [], World.ownsMap_made w P k _, fun x _ => by simp [DataW.atKey]⟩
theorem IsSet.kept {row : Option Nat} (h : IsSet P k e w b n S) (hg : w.grownBy w1 row) (hne : some b ≠ row) : IsSet P k e w1 b n S := by
  obtain ⟨D, h1, h2⟩ := h
  exact ⟨D, h1.kept hg hne, h2⟩
theorem IsSet.below (h : IsSet P k e w b n S) (hb : Below w.heap.size w w1) : IsSet P k e w1 b n S := h.kept (grown_of_below hb none) (by simp)
theorem IsSet.alloc (h : IsSet P k e w b n S) (o : Obj) : IsSet P k e (w.alloc o) b n S := h.below (below_alloc (Below.refl _ _) o)
theorem IsSet.drewN (h : IsSet P k e w b n S) (m : Nat) : IsSet P k e (w.drewN m) b n S := h
theorem IsSet.drew (h : IsSet P k e w b n S) : IsSet P k e w.drew b n S := h
theorem IsSet.lt (h : IsSet P k e w b n S) : b < w.heap.size := by obtain ⟨D, h1, _⟩ := h; exact h1.lt
theorem IsSet.mono (h : IsSet P k e w b n S) {n' : Nat} (hn : n ≤ n') : IsSet P k e w b n' S := by obtain ⟨D, h1, h2⟩ := h; exact ⟨D, h1.mono hn, h2⟩
theorem IsSet.congr {S' : Int → Bool} (h : IsSet P k e w b n S) (he : ∀ x, S' x = S x) : IsSet P k e w b n S' := by obtain ⟨D, h1, h2⟩ := h; exact ⟨D, h1, fun x hx => by rw [he]; exact h2 x hx⟩
theorem IsSet.look {t : TypeId} (h : IsSet P k e w b n S) (hk : P.underlying k = some (.int .i64)) (ht : P.underlying t = some (.map k e)) (he : P.underlying e = some .bool) (hz : (zeroValue e).run P w = .ok (.bool false) w) {x : Int} (hx : (Lit.int .i64 x).wf = true) :
    (Instr.lookup t (.map (some b)) (.int .i64 x) false).run P w = .ok (.bool (S x)) w := by
  obtain ⟨D, h1, h2⟩ := h
  obtain ⟨v, ps, hrun, hv⟩ := h1.lookup (Maps.int_keyed hk) ht hz (plainElem_bool he false) (Maps.keyOf_int_mk hk hx)
  obtain ⟨c, rfl, hc⟩ := plainElem_bool_inv he hv
  simp only [Prod.mk.injEq] at hc
  have := h2 x hx
  rw [hc.1] at this
  injection this with this
  injection this with this
  rw [this] at hrun
  exact hrun
theorem IsSet.put {t : TypeId} (h : IsSet P k e w b n S) (hk : P.underlying k = some (.int .i64)) (ht : P.underlying t = some (.map k e)) (he : P.underlying e = some .bool) (hn : n < maxLen) {x : Int} (hx : (Lit.int .i64 x).wf = true) (v : Bool) :
    ∃ w', (Instr.mapUpdate t (.map (some b)) (.int .i64 x) (.bool v)).run P w = .ok () w' ∧ IsSet P k e w' b (n + 1) (fun y => if y = x then v else S y) ∧ w.grownBy w' (some b) := by
  obtain ⟨D, h1, h2⟩ := h
  have hm := h1.isMap
  obtain ⟨w', hrun, h3, hg⟩ := h1.update (Maps.int_keyed hk) ht hn (Maps.keyOf_int_mk hk hx) (plainElem_bool he v)
  refine ⟨w', hrun, ⟨_, h3, fun y hy => ?_⟩, hg⟩
  by_cases hxy : y = x
  · subst hxy
    rw [Maps.atKey_put_same hm (by simp [WideAt.IsKeyLit])]
    simp
  · rw [Maps.atKey_put_other (by simpa using hxy), h2 y hy]
    simp [hxy]
end
section
variable {P : Program} {ops : Array Oper} {rest : List Oper} {o : Oper} {a : Act} {Q : Exit → Act → World → Prop} {w : World}
theorem wpList_look_set (hg : o.guard = none) (m x : Operand) (t : TypeId) (hop : o.op = Op.lookup t m x false) (k e : TypeId) (hk : P.underlying k = some (.int .i64)) (ht : P.underlying t = some (.map k e)) (he : P.underlying e = some .bool)
    (hz : (zeroValue e).run P w = .ok (.bool false) w) (b n : Nat) (S : Int → Bool) (hm : a.eval m = .map (some b)) (hs : IsSet P k e w b n S) (i : Int) (hx : a.eval x = .int .i64 i) (hw : (Lit.int .i64 i).wf = true)
    (hK : wpList P ops Q rest (a.put o.dst (.bool (S i))) w) : wpList P ops Q (o :: rest) a w := by
  refine wpList_plain hg fun K' hK' => ?_
  have hrun := hs.look hk ht he hz hw
  unfold Oper.wp
  simp [execOp, hop, hm, hx, hrun, Result.andThen]
  exact hK' _ _ hK
theorem wpList_put_set (hg : o.guard = none) (m x v : Operand) (t : TypeId) (hop : o.op = Op.mapUpdate t m x v) (k e : TypeId) (hk : P.underlying k = some (.int .i64)) (ht : P.underlying t = some (.map k e)) (he : P.underlying e = some .bool)
    (b n : Nat) (S : Int → Bool) (hm : a.eval m = .map (some b)) (hs : IsSet P k e w b n S) (hn : n < maxLen) (i : Int) (hx : a.eval x = .int .i64 i) (hw : (Lit.int .i64 i).wf = true) (c : Bool) (hv : a.eval v = .bool c)
    (hK : ∀ w', IsSet P k e w' b (n + 1) (fun y => if y = i then c else S y) → w.grownBy w' (some b) → wpList P ops Q rest (a.put o.dst undef) w') : wpList P ops Q (o :: rest) a w := by
  refine wpList_plain hg fun K' hK' => ?_
  obtain ⟨w', hrun, r1, r2⟩ := hs.put hk ht he hn hw c
  unfold Oper.wp
  simp [execOp, hop, hm, hx, hv, hrun, Result.andThen]
  exact hK' _ _ (hK w' r1 r2)
end
/-- A row of one's own is no map. -/
theorem Kd.R_notset {α : Type} {d : Kd α} {P : Program} {e : Nat} {k t : TypeId} {w : World} {base b n : Nat} {ok : Nat → Prop} {v : Value} {xs : List α} {S : Int → Bool} (h : d.R e w base ok v xs) (hs : IsSet P k t w b n S) : d.R e w base (fun j => ok j ∧ j ≠ b) v xs := by
  obtain ⟨D, ⟨es, clock, hb, _⟩, _⟩ := hs
  refine Kd.R_mono (Kd.R_bound h) (fun j hj => ⟨hj.1, ?_⟩)
  rintro rfl
  obtain ⟨_, _, _, q, _, cells, hc⟩ := hj
  rw [hc] at hb
  injection hb with hb
  cases hb
theorem Kd.R_notset_own {α : Type} {d : Kd α} {P : Program} {e : Nat} {k t : TypeId} {w : World} {base b n : Nat} {ok : Nat → Prop} {v : Value} {xs : List α} {S : Int → Bool} (h : d.R e w base ok v xs) (hs : IsSet P k t w b n S) : some b ≠ v.ownBlock := fun he => ((Kd.R_notset h hs).1 b he.symm).2 rfl
end Go.Proofs.Ytoedcnhgobbnfaa.All

