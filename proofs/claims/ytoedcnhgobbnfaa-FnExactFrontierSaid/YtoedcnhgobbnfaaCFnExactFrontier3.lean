/- Part 3 of the proof of FnExactFrontier: functions of the translation with what they return, and plain laws of these. Written by programs of this session over the kit's print, and by hand. -/
import Derived.Test.YtoedcnhgobbnfaaProg
import Derived.Test.YtoedcnhgobbnfaaCFnExactFrontierWApart
import Derived.Test.YtoedcnhgobbnfaaCFnExactFrontierWArr
import Derived.Test.YtoedcnhgobbnfaaCFnExactFrontierWFoot
import Derived.Test.YtoedcnhgobbnfaaCFnExactFrontierWGuard
import Derived.Test.YtoedcnhgobbnfaaCFnExactFrontierWKept
import Derived.Test.YtoedcnhgobbnfaaCFnExactFrontierWLast
import Derived.Test.YtoedcnhgobbnfaaCFnExactFrontierWMore
import Derived.Test.YtoedcnhgobbnfaaCFnExactFrontierWN
import Derived.Test.YtoedcnhgobbnfaaCFnExactFrontierWNEv
import Derived.Test.YtoedcnhgobbnfaaCFnExactFrontierWQPut
import Derived.Test.YtoedcnhgobbnfaaCFnExactFrontierWRepsOne
import Derived.Test.YtoedcnhgobbnfaaCFnExactFrontierWShare
import Derived.Test.YtoedcnhgobbnfaaCFnExactFrontierWTab
import Derived.Test.YtoedcnhgobbnfaaCFnExactFrontierWWords
import Derived.Test.YtoedcnhgobbnfaaCFnExactFrontierWZeros
import Derived.Below
import Derived.Deep.Draws
import Derived.Deep.AppendLies
import Derived.Maps.AppendAt
import Derived.OwnWalk
import Derived.Laws.BytesArg
import Derived.Laws.MakeOwn
import Derived.Laws.OwnMore
import Derived.Deep.OwnRows
import Derived.Tactics
import Derived.Lib.ConvBytes
import Derived.Laws.Slices
import Derived.WalkKit
import Derived.KernelRfl
import Derived.RowKit3
import Derived.Deep.LoopGhost
import Derived.Deep.QuietTactic
import Derived.BigQuiet
import Derived.WideLaws
import Derived.Deep.DeepCutAuto
import Derived.Deep.CutBlock
import Derived.Deep.RegionHeld3
import Derived.Laws.Rows
import Derived.Lib.AppendStr
import Derived.ArgAppend
import Derived.Laws.IdiomCopy
import Derived.OrdersHeld
import Derived.Laws.BitsLemmas
import Derived.RowKit
import Derived.Maps.OwnSet
import Derived.Maps.OwnOps
import Derived.Deep.Slices
import Derived.ChangeArms
import Derived.ProofKit
import Derived.OpenShut
import Derived.ShutString
import Derived.ChangeOld
import Derived.SizedLaws
import Derived.Test.YtoedcnhgobbnfaaCFnExactFrontier1
import Derived.Test.YtoedcnhgobbnfaaCFnExactFrontier2
namespace Go.Proofs.Ytoedcnhgobbnfaa.All
open Go.RowKit Go.Proofs.YtoedcnhgobbnfaaW.PrintWords Go.Proofs.YtoedcnhgobbnfaaW.PrintLast Go.Proofs.YtoedcnhgobbnfaaW.PrintMore
attribute [local go_sem] max2_int min2_int max_two min_two max_three min_three max_four min_four   -- for this text's walks alone
set_option linter.unusedVariables false
set_option linter.unusedSimpArgs false

/-! ### spec_l4Build: function 45 -/
def spec_l4Build.f (k : Nat) (a0_0 : ByteArray) (a0_1 : Int) (l0_2 : List Int) (a0_3 : Int) (l0_4 : List (S62)) : Option (List (List Int) × List (List Int)) :=
 if l0_4.length ≤ 2000000 then (rowsOf (fun b => spec_NextBlocks.f k a0_0 a0_1 l0_2 a0_3 l0_4 b) l0_4.length).bind fun rs => if okRows l0_4.length rs = true then some (rs, prevUp rs l0_4.length) else none else none
theorem spec_l4Build.open {k : Nat} {a0_0 : ByteArray} {a0_1 : Int} {l0_2 : List Int} {a0_3 : Int} {l0_4 : List (S62)} {r0 r1 : List (List Int)} (h : spec_l4Build.f k a0_0 a0_1 l0_2 a0_3 l0_4 = some (r0, r1)) :
 l0_4.length ≤ 2000000 ∧ rowsOf (fun b => spec_NextBlocks.f k a0_0 a0_1 l0_2 a0_3 l0_4 b) l0_4.length = some r0 ∧ okRows l0_4.length r0 = true ∧ r1 = prevUp r0 l0_4.length := by
 unfold spec_l4Build.f at h
 split at h
 · rename_i hl
   obtain ⟨rs, h1, h2⟩ := Option.bind_eq_some_iff.mp h
   split at h2
   · rename_i ho
     injection h2 with h2
     injection h2 with h3 h4
     subst h3
     exact ⟨hl, h1, ho, h4.symm⟩
   · cases h2
 · cases h
set_option maxHeartbeats 8000000 in
set_option maxRecDepth 100000 in
theorem spec_l4Build.calls (k : Nat) (a0_0 : ByteArray) (a0_1 : Int) (A0_2 : Option Addr) (c0_2 : Nat) (l0_2 : List Int) (a0_3 : Int) (A0_4 : Option Addr) (c0_4 : Nat) (l0_4 : List (S62)) (r0 r1 : List (List Int)) (w : World) (hr0_2 : Kd.C (Kd.int .i64) w A0_2 l0_2.length l0_2) (hc0_2 : l0_2.length ≤ c0_2) (hr0_4 : Kd.C k62 w A0_4 l0_4.length l0_4) (hc0_4 : l0_4.length ≤ c0_4) (h : spec_l4Build.f k a0_0 a0_1 l0_2 a0_3 l0_4 = some (r0, r1)) :
 Calls Try.prog 45 #[.agg #[.string a0_0, .int .i64 a0_1, .slice A0_2 l0_2.length c0_2, .int .i64 a0_3, .slice A0_4 l0_4.length c0_4]] w fun e w' => ∃ v0_ v1_ : Value, e = .returned (.agg #[v0_, v1_]) ∧ Kd.S (Kd.slice 2 (Kd.int .i64)) 22 w' w.heap.size (fun k_ => some k_ ≠ (v1_ : Value).ownBlock) v0_ r0 ∧ Kd.S (Kd.slice 2 (Kd.int .i64)) 22 w' w.heap.size (fun k_ => some k_ ≠ (v0_ : Value).ownBlock) v1_ r1 ∧ Below w.heap.size w w' := by
 have hu := Try.underlying30
 have hug := Try.underlying52
 obtain ⟨hl, hrows, hok, hr1⟩ := spec_l4Build.open h
 clear h
 subst hr1
 have hlen := rowsOf_len hrows
 have HR2 := Aside0.mk hr0_2
 have HC2 := Aside0.mk hc0_2
 have HR4 := Aside0.mk hr0_4
 have HC4 := Aside0.mk hc0_4
 clear hr0_2 hc0_2 hr0_4 hc0_4
 have HB := Aside0.mk (Below.refl w.heap.size w)
 have HRW := Aside0.mk hrows
 have HOK := Aside0.mk hok
 clear hrows hok
 go_enter Try.func45, Try.ntmps45
 go_wp2_with (first | ((with_reducible refine gate_dst (N := 1) rfl ?_); refine box_event ?hg (N := 1) ?hd (cs := #[.string a0_0, .int .i64 a0_1, .slice A0_2 l0_2.length c0_2, .int .i64 a0_3, .slice A0_4 l0_4.length c0_4]) (t := 30) ?hr ?_; (case hd => rfl); (case hg => rfl); (case hr => first | (go_simp; done) | (go_simp; rfl)); intro g1 hg w1 hbox hb; have n0_ := Aside0.mk (below_step HB.out hb); have GB1 := Aside0.mk (show w.heap.size ≤ g1 from by rw [hg]; exact below_size HB.out); have B1 := Aside0.mk hbox; clear HB; have HB := n0_; clear n0_ hb hbox hg) | ((with_reducible refine gate_dst (N := 2) rfl ?_); refine box_event ?hg (N := 2) ?hd (cs := #[.slice none 0 0, .slice none 0 0]) (t := 52) ?hr ?_; (case hd => rfl); (case hg => rfl); (case hr => first | (go_simp; done) | (go_simp; rfl)); intro g2 hg w2 hbox hb; have m0_ := Aside0.mk (blk_below B1.out hb); have N12 := Aside0.mk (show g1 ≠ g2 from by rw [hg]; exact Nat.ne_of_lt (blk_lt B1.out)); have n0_ := Aside0.mk (below_step HB.out hb); have GB2 := Aside0.mk (show w.heap.size ≤ g2 from by rw [hg]; exact below_size HB.out); have B2 := Aside0.mk hbox; clear HB B1; have HB := n0_; have B1 := m0_; clear n0_ hb hbox hg m0_) | ((with_reducible refine gate_dst (N := 3) rfl ?_); refine box_event ?hg (N := 3) ?hd (cs := #[.slice none 0 0, .slice none 0 0]) (t := 52) ?hr ?_; (case hd => rfl); (case hg => rfl); (case hr => first | (go_simp; done) | (go_simp; rfl)); intro g3 hg w3 hbox hb; have m0_ := Aside0.mk (blk_below B1.out hb); have m1_ := Aside0.mk (blk_below B2.out hb); have N13 := Aside0.mk (show g1 ≠ g3 from by rw [hg]; exact Nat.ne_of_lt (blk_lt B1.out)); have N23 := Aside0.mk (show g2 ≠ g3 from by rw [hg]; exact Nat.ne_of_lt (blk_lt B2.out)); have n0_ := Aside0.mk (below_step HB.out hb); have GB3 := Aside0.mk (show w.heap.size ≤ g3 from by rw [hg]; exact below_size HB.out); have B3 := Aside0.mk hbox; clear HB B1 B2; have HB := n0_; have B1 := m0_; have B2 := m1_; clear n0_ hb hbox hg m0_ m1_; have hcz_B3_0 : w3.cell? ⟨g3, 0, none⟩ = some (.slice none 0 0) := (blk_cell B3.out 0).trans rfl; have hcz_B3_1 : w3.cell? ⟨g3, 1, none⟩ = some (.slice none 0 0) := (blk_cell B3.out 1).trans rfl; have hfz_B3_0 := blk_frozen B3.out 0; have hfz_B3_1 := blk_frozen B3.out 1))
 go_loopw [4] (fun v4 w' => ∃ (m : Nat) (vN vP : Value) (N : List (List Int)) (Pn Pp : Nat → Prop), v4 = .int .i64 (m : Int) ∧ m ≤ l0_4.length ∧ Aside0 (rowsOf (fun b => spec_NextBlocks.f k a0_0 a0_1 l0_2 a0_3 l0_4 b) m = some N) ∧ Aside0 (∀ k_ : Nat, Pn k_ → ¬ Pp k_) ∧ Aside0 (Kd.S (Kd.slice 2 (Kd.int .i64)) 22 w' w.heap.size Pn vN N) ∧ Aside0 (Kd.S (Kd.slice 2 (Kd.int .i64)) 22 w' w.heap.size Pp vP (List.replicate m [])) ∧ Aside0 (w'.heap[g1]? = some (.cells #[.string a0_0, .int .i64 a0_1, .slice A0_2 l0_2.length c0_2, .int .i64 a0_3, .slice A0_4 l0_4.length c0_4] 30 (0, 0))) ∧ Aside0 (w'.heap[g2]? = some (.cells #[.slice none 0 0, .slice none 0 0] 52 (0, 0))) ∧ Aside0 (w'.heap[g3]? = some (.cells #[vN, vP] 52 (0, 0))) ∧ Aside0 (Below w.heap.size w w')) (fun v4 _ => l0_4.length - (intOf v4).toNat)
 case atStart => exact ⟨0, .slice none 0 0, .slice none 0 0, [], fun _ => False, fun _ => False, rfl, Nat.zero_le _, ⟨rfl⟩, ⟨fun _ h _ => h⟩, ⟨Kd.S_nil _ _ _ _ _⟩, ⟨Kd.S_nil _ _ _ _ _⟩, ⟨blk_far (blk_far B1.out N13.out _) N13.out _⟩, ⟨blk_far (blk_far B2.out N23.out _) N23.out _⟩, ⟨blk_put (cs := #[.slice none 0 0, .slice none 0 0]) (blk_put (cs := #[.slice none 0 0, .slice none 0 0]) B3.out 0 (.slice none 0 0) rfl) 1 (.slice none 0 0) rfl⟩, ⟨below_set (below_set HB.out GB3.out) GB3.out⟩⟩
 case round =>
  clear hcz_B3_0 hcz_B3_1 hfz_B3_0 hfz_B3_1 B1 B2 B3 HB
  obtain ⟨m, vN, vP, N, Pn, Pp, rfl, hm, HM, HD, HN, HP, B1, B2, B3, HB⟩ := hrel
  by_cases hlt : m < l0_4.length
  · obtain ⟨N', t, hN', ht, hN1⟩ := rowsOf_at HRW.out m hlt
    obtain rfl := Option.some.inj (HM.out.symm.trans hN')
    have HT := Aside0.mk ht
    have HM1 := Aside0.mk hN1
    have HL := Aside0.mk (rowsOf_len HM.out)
    clear hN' ht hN1
    have c1 : decide ((m : Int) < (l0_4.length : Int)) = true := decide_eq_true (by omega)
    have hcz_B1_0 : wr.cell? ⟨g1, 0, none⟩ = some (.string a0_0) := (blk_cell B1.out 0).trans rfl
    have hfz_B1_0 := blk_frozen B1.out 0
    have hcz_B1_1 : wr.cell? ⟨g1, 1, none⟩ = some (.int .i64 a0_1) := (blk_cell B1.out 1).trans rfl
    have hfz_B1_1 := blk_frozen B1.out 1
    have hcz_B1_2 : wr.cell? ⟨g1, 2, none⟩ = some (.slice A0_2 l0_2.length c0_2) := (blk_cell B1.out 2).trans rfl
    have hfz_B1_2 := blk_frozen B1.out 2
    have hcz_B1_3 : wr.cell? ⟨g1, 3, none⟩ = some (.int .i64 a0_3) := (blk_cell B1.out 3).trans rfl
    have hfz_B1_3 := blk_frozen B1.out 3
    have hcz_B1_4 : wr.cell? ⟨g1, 4, none⟩ = some (.slice A0_4 l0_4.length c0_4) := (blk_cell B1.out 4).trans rfl
    have hfz_B1_4 := blk_frozen B1.out 4
    go_upto_region 5 with (fail)
    clear hcz_B1_0 hfz_B1_0 hcz_B1_1 hfz_B1_1 hcz_B1_2 hfz_B1_2 hcz_B1_3 hfz_B1_3 hcz_B1_4 hfz_B1_4
    refine start_ (n := 9) (S := fun w' => w'.cell? ⟨g3, 0, none⟩ = some vN ∧ w'.cell? ⟨g1, 0, none⟩ = some (.string a0_0) ∧ w'.cell? ⟨g1, 1, none⟩ = some (.int .i64 a0_1) ∧ w'.cell? ⟨g1, 2, none⟩ = some (.slice A0_2 l0_2.length c0_2) ∧ w'.cell? ⟨g1, 3, none⟩ = some (.int .i64 a0_3) ∧ w'.cell? ⟨g1, 4, none⟩ = some (.slice A0_4 l0_4.length c0_4)) (ds := [8]) #[false, false, false, false, false, false, false, false, false] (by kernel_rfl) rfl rfl ⟨(blk_cell B3.out 0).trans rfl, (blk_cell B1.out 0).trans rfl, (blk_cell B1.out 1).trans rfl, (blk_cell B1.out 2).trans rfl, (blk_cell B1.out 3).trans rfl, (blk_cell B1.out 4).trans rfl⟩ (fun hHeld => ?_)
    have HWA := Aside0.mk (show w.heap.size ≤ wr.drew.heap.size from below_size (below_drew HB.out))
    have n0_ := Aside0.mk (Kd.S_drew HN.out)
    have n1_ := Aside0.mk (Kd.S_drew HP.out)
    have n2_ := Aside0.mk (blk_drew B1.out)
    have n3_ := Aside0.mk (blk_drew B2.out)
    have n4_ := Aside0.mk (blk_drew B3.out)
    have n5_ := Aside0.mk (below_drew HB.out)
    clear HN HP B1 B2 B3 HB
    have HN := n0_
    have HP := n1_
    have B1 := n2_
    have B2 := n3_
    have B3 := n4_
    have HB := n5_
    clear n0_ n1_ n2_ n3_ n4_ n5_
    generalize wr.drew = wA at HWA HN HP B1 B2 B3 HB hHeld ⊢
    refine pure_ (i := 0) (N := some 15) (v := ?_) (a' := ?_) #[true, false, false, false, false, false, false, false, false] rfl rfl (by kernel_rfl) (fun _ _ _ h => h) (Or.inl ⟨by rfl, ?_⟩) ?_ ?_
    rotate_left
    · intro w'
      go_simp
      with_reducible rfl
    rotate_left
    · simp only [Act.put, List.setIfInBounds_toArray, List.set_cons_zero, List.set_cons_succ, i64_w, i32_w]
      rfl
    refine pure_ (i := 3) (N := some 18) (v := ?_) (a' := ?_) #[true, false, false, true, false, false, false, false, false] rfl rfl (by kernel_rfl) (fun _ _ _ h => h) (Or.inl ⟨by rfl, ?_⟩) ?_ ?_
    rotate_left
    · intro w'
      go_simp
      with_reducible rfl
    rotate_left
    · simp only [Act.put, List.setIfInBounds_toArray, List.set_cons_zero, List.set_cons_succ, i64_w, i32_w]
      rfl
    refine take_ (i := 1) (N := some 16) (v := ?_) (a' := ?_) #[true, true, false, true, false, false, false, false, false] rfl rfl (by kernel_rfl) (fun _ _ _ h => h) (Or.inl ⟨by rfl, ?_⟩) hHeld ?_ ?_
    rotate_left
    · rintro w' ⟨s0, s1, s2, s3, s4, s5⟩
      go_simp
      with_reducible rfl
    rotate_left
    · simp only [Act.put, List.setIfInBounds_toArray, List.set_cons_zero, List.set_cons_succ, i64_w, i32_w]
      rfl
    refine take_ (i := 2) (N := some 17) (v := ?_) (a' := ?_) #[true, true, true, true, false, false, false, false, false] rfl rfl (by kernel_rfl) (fun _ _ _ h => h) (Or.inl ⟨by rfl, ?_⟩) hHeld ?_ ?_
    rotate_left
    · rintro w' ⟨s0, s1, s2, s3, s4, s5⟩
      go_simp
      with_reducible rfl
    rotate_left
    · simp only [Act.put, List.setIfInBounds_toArray, List.set_cons_zero, List.set_cons_succ, i64_w, i32_w]
      rfl
    refine one_ (i := 4) (N := some 19) #[true, true, true, true, true, false, false, false, false] rfl rfl (by kernel_rfl) (by decide) (fun K hK => ?_)
    refine goes_ Try.func17 (by kernel_rfl) rfl #[.agg #[.string a0_0, .int .i64 a0_1, .slice A0_2 l0_2.length c0_2, .int .i64 a0_3, .slice A0_4 l0_4.length c0_4], .int .i64 (m : Int)] (by rfl) rfl rfl (by (try simp only [List.map_toArray, List.map_cons, List.map_nil]); first | done | rfl | (simp only [List.length_drop, List.length_take]; rfl)) ?_
    with_reducible refine (spec_NextBlocks.calls k a0_0 a0_1 _ _ l0_2 a0_3 _ _ l0_4 (m : Int) t _ ?side1 ?side2 ?side3 ?side4 HT.out).mono ?_
    (case side1 => exact Kd.C_below HR2.out HB.out)
    (case side2 => exact HC2.out)
    (case side3 => exact Kd.C_below HR4.out HB.out)
    (case side4 => exact HC4.out)
    rintro e wB ⟨vT, rfl, hoT, hb⟩
    refine ⟨_, rfl, ?_⟩
    obtain ⟨AT, cT, eT⟩ := Kd.R_slice hoT
    subst eT
    have HAS := Aside0.mk hb.size
    have n0_ := Aside0.mk (Kd.S_old HN.out hb)
    have n1_ := Aside0.mk (Kd.S_old HP.out hb)
    have n2_ := Aside0.mk (blk_below B1.out hb)
    have n3_ := Aside0.mk (blk_below B2.out hb)
    have n4_ := Aside0.mk (blk_below B3.out hb)
    have n5_ := Aside0.mk (below_step HB.out hb)
    clear HN HP B1 B2 B3 HB
    have HN := n0_
    have HP := n1_
    have B1 := n2_
    have B2 := n3_
    have B3 := n4_
    have HB := n5_
    clear n0_ n1_ n2_ n3_ n4_ n5_
    have HoT := Aside0.mk hoT
    clear hoT hb
    refine hK.out _ _ ⟨(blk_cell B3.out 0).trans rfl, (blk_cell B1.out 0).trans rfl, (blk_cell B1.out 1).trans rfl, (blk_cell B1.out 2).trans rfl, (blk_cell B1.out 3).trans rfl, (blk_cell B1.out 4).trans rfl⟩ (fun hHeld => ?_)
    clear hK K
    refine norm_ (a' := ?_) ?_ ?_
    rotate_left
    · show Act.put _ (some 19) _ = _
      simp only [Act.put, List.setIfInBounds_toArray, List.set_cons_zero, List.set_cons_succ, i64_w, i32_w]
      rfl
    refine one_ (i := 5) (N := some 20) #[true, true, true, true, true, true, false, false, false] rfl rfl (by kernel_rfl) (by decide) (fun K hK => ?_)
    refine value_ (w1 := ?_) (v := ?_) (by rfl) rfl ?_ ?_
    rotate_left 2
    · go_simp
      constructor
      · rfl
      · rfl
    refine hK.out _ _ ⟨(blk_cell (blk_alloc B3.out _) 0).trans rfl, (blk_cell (blk_alloc B1.out _) 0).trans rfl, (blk_cell (blk_alloc B1.out _) 1).trans rfl, (blk_cell (blk_alloc B1.out _) 2).trans rfl, (blk_cell (blk_alloc B1.out _) 3).trans rfl, (blk_cell (blk_alloc B1.out _) 4).trans rfl⟩ (fun hHeld => ?_)
    clear hK K
    refine norm_ (a' := ?_) ?_ ?_
    rotate_left
    · show Act.put _ (some 20) _ = _
      simp only [Act.put, List.setIfInBounds_toArray, List.set_cons_zero, List.set_cons_succ, i64_w, i32_w]
      rfl
    refine one_ (i := 6) (N := some 21) #[true, true, true, true, true, true, true, false, false] rfl rfl (by kernel_rfl) (by decide) (fun K hK => ?_)
    refine Kd.S_append_step (Kd.slice 2 (Kd.int .i64)) (w0 := w) w.heap.size (by rfl) (.tmp 16) (.tmp 20) 50 22 (.slice none 0 0) 24 rfl Try.underlying50 (by kernel_rfl) rfl (by decide) (by omega) vN N t [.slice AT t.length cT] (fun k_ => Pn k_ ∨ wA.heap.size ≤ k_) (fun k_ => some k_ = (.slice AT t.length cT : Value).ownBlock) rfl rfl ?aP ?aK ?aF ?aO ?aB ?aS ?aL ?_
    (case aP => exact Kd.M_row (Kd.R_lower (Kd.R_tight rfl HoT.out) HWA.out))
    (case aK => exact fun k_ e_ => ⟨.inr (Kd.R_base HoT.out k_ e_.symm), fun e2_ => by have h1_ := Kd.R_base HoT.out k_ e_.symm; have h2_ := ((Kd.S_R HN.out).1 k_ e2_.symm).2; omega⟩)
    (case aF => exact fun k_ hk => .inr (Nat.le_trans HAS.out hk))
    (case aO => exact Kd.S_mono HN.out (fun k_ hk => ⟨.inl hk.1, fun e_ => by have h1_ := Kd.R_base HoT.out k_ e_.symm; have h2_ := hk.2; omega⟩))
    (case aB => exact HB.out)
    (case aS => exact Nat.le_trans HWA.out HAS.out)
    (case aL => have := HL.out; omega)
    intro vN1 wC ho1 hb1 hg1 hat1
    obtain ⟨AN1, nN1, cN1, eN1⟩ : ∃ A n c, vN1 = .slice A n c := by obtain ⟨A, c, h⟩ := Kd.S_slice ho1; exact ⟨A, _, c, h⟩
    subst eN1
    have n0_ := Aside0.mk (Kd.S_grown HP.out hg1 (fun k_ hk e_ => HD.out k_ ((Kd.S_R HN.out).1 k_ e_.symm).1 hk.1))
    have n1_ := Aside0.mk (blk_grown B1.out hg1 (Kd.S_ne HN.out B1.out (by decide)))
    have n2_ := Aside0.mk (blk_grown B2.out hg1 (Kd.S_ne HN.out B2.out (by decide)))
    have n3_ := Aside0.mk (blk_grown B3.out hg1 (Kd.S_ne HN.out B3.out (by decide)))
    have n4_ := Aside0.mk (ho1)
    have n5_ := Aside0.mk (hb1)
    clear HP B1 B2 B3 HN HB
    have HP := n0_
    have B1 := n1_
    have B2 := n2_
    have B3 := n3_
    have HN := n4_
    have HB := n5_
    clear n0_ n1_ n2_ n3_ n4_ n5_
    have HAC := Aside0.mk (Nat.le_trans HAS.out hg1.size)
    clear ho1 hb1 hg1 hat1 HoT
    have hfzC := blk_frozen B3.out 0
    refine hK.out _ _ ⟨(blk_cell B3.out 0).trans rfl, (blk_cell B1.out 0).trans rfl, (blk_cell B1.out 1).trans rfl, (blk_cell B1.out 2).trans rfl, (blk_cell B1.out 3).trans rfl, (blk_cell B1.out 4).trans rfl⟩ (fun hHeld => ?_)
    clear hK K
    refine norm_ (a' := ?_) ?_ ?_
    rotate_left
    · show Act.put _ (some 21) _ = _
      simp only [Act.put, List.setIfInBounds_toArray, List.set_cons_zero, List.set_cons_succ, i64_w, i32_w]
      rfl
    refine pure_ (i := 7) (N := some 22) (v := ?_) (a' := ?_) #[true, true, true, true, true, true, true, true, false] rfl rfl (by kernel_rfl) (fun _ _ _ h => h) (Or.inl ⟨by rfl, ?_⟩) ?_ ?_
    rotate_left
    · intro w'
      go_simp
      with_reducible rfl
    rotate_left
    · simp only [Act.put, List.setIfInBounds_toArray, List.set_cons_zero, List.set_cons_succ, i64_w, i32_w]
      rfl
    refine last_ (i := 8) (N := none) #[true, true, true, true, true, true, true, true, true] rfl rfl (by kernel_rfl) (by decide) (fun K hK => ?_)
    refine skip_ (w1 := ?_) (by rfl) rfl ?_ ?_
    rotate_left
    · go_simp
      rfl
    refine hK.out _ _ ?_
    clear hK K
    refine done_ (by kernel_rfl) ?_
    obtain ⟨wD, hwD⟩ : ∃ wD, wD = wC.setCell ⟨g3, 0, none⟩ (.slice AN1 nN1 cN1) := ⟨_, rfl⟩
    rw [← hwD]
    have n0_ := Aside0.mk (show Kd.S (Kd.slice 2 (Kd.int .i64)) 22 wD w.heap.size (fun k_ => (Pn k_ ∨ wA.heap.size ≤ k_) ∧ k_ < wC.heap.size) (.slice AN1 nN1 cN1) (N ++ [t]) from by rw [hwD]; exact Kd.S_mono (Kd.S_bound (Kd.S_set HN.out B3.out (by decide) 0 (.slice AN1 nN1 cN1))) (fun k_ h_ => ⟨h_.1, by have h3_ := h_.2.2.1; rw [World.size_setCell] at h3_; exact h3_⟩))
    have n1_ := Aside0.mk (show Kd.S (Kd.slice 2 (Kd.int .i64)) 22 wD w.heap.size _ vP (List.replicate m []) from by rw [hwD]; exact Kd.S_set HP.out B3.out (by decide) 0 (.slice AN1 nN1 cN1))
    have n2_ := Aside0.mk (show wD.heap[g1]? = some (.cells #[.string a0_0, .int .i64 a0_1, .slice A0_2 l0_2.length c0_2, .int .i64 a0_3, .slice A0_4 l0_4.length c0_4] 30 (0, 0)) from by rw [hwD]; exact blk_far B1.out N13.out _)
    have n3_ := Aside0.mk (show wD.heap[g2]? = some (.cells #[.slice none 0 0, .slice none 0 0] 52 (0, 0)) from by rw [hwD]; exact blk_far B2.out N23.out _)
    have n4_ := Aside0.mk (show Below w.heap.size w wD from by rw [hwD]; exact below_set HB.out GB3.out)
    have n5_ := Aside0.mk (show wD.heap[g3]? = some (.cells #[(.slice AN1 nN1 cN1), vP] 52 (0, 0)) from by rw [hwD]; exact blk_put (cs := #[vN, vP]) B3.out 0 (.slice AN1 nN1 cN1) rfl)
    clear HN HP B1 B2 HB B3
    have HN := n0_
    have HP := n1_
    have B1 := n2_
    have B2 := n3_
    have HB := n4_
    have B3 := n5_
    clear n0_ n1_ n2_ n3_ n4_ n5_
    have HS := Aside0.mk (show wC.heap.size ≤ wD.heap.size from by rw [hwD, World.size_setCell]; exact Nat.le_refl _)
    clear hwD HAS hfzC
    have hcz_B3_0 : wD.cell? ⟨g3, 0, none⟩ = some ((.slice AN1 nN1 cN1)) := (blk_cell B3.out 0).trans rfl
    have hfz_B3_0 := blk_frozen B3.out 0
    have hcz_B3_1 : wD.cell? ⟨g3, 1, none⟩ = some (vP) := (blk_cell B3.out 1).trans rfl
    have hfz_B3_1 := blk_frozen B3.out 1
    have hcz_B1_0 : wD.cell? ⟨g1, 0, none⟩ = some (.string a0_0) := (blk_cell B1.out 0).trans rfl
    have hfz_B1_0 := blk_frozen B1.out 0
    have hcz_B1_1 : wD.cell? ⟨g1, 1, none⟩ = some (.int .i64 a0_1) := (blk_cell B1.out 1).trans rfl
    have hfz_B1_1 := blk_frozen B1.out 1
    have hcz_B1_2 : wD.cell? ⟨g1, 2, none⟩ = some (.slice A0_2 l0_2.length c0_2) := (blk_cell B1.out 2).trans rfl
    have hfz_B1_2 := blk_frozen B1.out 2
    have hcz_B1_3 : wD.cell? ⟨g1, 3, none⟩ = some (.int .i64 a0_3) := (blk_cell B1.out 3).trans rfl
    have hfz_B1_3 := blk_frozen B1.out 3
    have hcz_B1_4 : wD.cell? ⟨g1, 4, none⟩ = some (.slice A0_4 l0_4.length c0_4) := (blk_cell B1.out 4).trans rfl
    have hfz_B1_4 := blk_frozen B1.out 4
    go_wp2_with (first | (at_builtin; refine Kd.S_append (Kd.slice 2 (Kd.int .i64)) (w0 := w) w.heap.size rfl (.tmp 24) (.tmp 25) 50 22 (.slice none 0 0) 24 rfl Try.underlying50 (by kernel_rfl) rfl (by decide) (by omega) vP (List.replicate m []) [] [.slice none 0 0] (fun k_ => (Pp k_ ∧ k_ < wA.heap.size) ∨ wD.heap.size ≤ k_) (fun _ => False) rfl rfl ?aP (fun _ hk => hk.elim) ?aF ?aO ?aB ?aS ?aL ?_; (case aP => exact Kd.M_row (Kd.R_nil _ _ _ _ _)); (case aF => exact fun k_ hk => .inr hk); (case aO => exact Kd.S_mono HP.out (fun k_ hk => ⟨.inl hk, fun h_ => h_⟩)); (case aB => exact HB.out); (case aS => exact below_size HB.out); (case aL => rw [List.length_replicate]; omega); intro vP1 wE ho2 hb2 hg2 hat2; obtain ⟨AP1, nP1, cP1, eP1⟩ : ∃ A n c, vP1 = .slice A n c := (by obtain ⟨A, c, h⟩ := Kd.S_slice ho2; exact ⟨A, _, c, h⟩); subst eP1; have n0_ := Aside0.mk (Kd.S_grown HN.out hg2 (fun k_ hk e_ => by have h1_ := (Kd.S_R HP.out).1 k_ e_.symm; rcases hk.1 with h2_ | h2_; exact HD.out k_ h2_ h1_.1; have h3_ := h1_.2; omega)); have n1_ := Aside0.mk (blk_grown B1.out hg2 (Kd.S_ne HP.out B1.out (by decide))); have n2_ := Aside0.mk (blk_grown B2.out hg2 (Kd.S_ne HP.out B2.out (by decide))); have n3_ := Aside0.mk (blk_grown B3.out hg2 (Kd.S_ne HP.out B3.out (by decide))); have n4_ := Aside0.mk ho2; have n5_ := Aside0.mk hb2; clear HN HP B1 B2 B3 HB ho2 hb2 hg2 hat2 hcz_B3_0 hfz_B3_0 hcz_B3_1 hfz_B3_1 hcz_B1_0 hfz_B1_0 hcz_B1_1 hfz_B1_1 hcz_B1_2 hfz_B1_2 hcz_B1_3 hfz_B1_3 hcz_B1_4 hfz_B1_4; have HN := n0_; have B1 := n1_; have B2 := n2_; have B3 := n3_; have HP := n4_; have HB := n5_; clear n0_ n1_ n2_ n3_ n4_ n5_; have hcz_B3_0 : wE.cell? ⟨g3, 0, none⟩ = some (.slice AN1 nN1 cN1) := (blk_cell B3.out 0).trans rfl; have hcz_B3_1 : wE.cell? ⟨g3, 1, none⟩ = some vP := (blk_cell B3.out 1).trans rfl; have hfz_B3_0 := blk_frozen B3.out 0; have hfz_B3_1 := blk_frozen B3.out 1))
    go_roundw
    case measure => simp [intOf]; omega
    case rel => exact ⟨m + 1, (.slice AN1 nN1 cN1), (.slice AP1 nP1 cP1), N ++ [t], (fun k_ => (Pn k_ ∨ wA.heap.size ≤ k_) ∧ k_ < wC.heap.size), (fun k_ => (Pp k_ ∧ k_ < wA.heap.size) ∨ wD.heap.size ≤ k_), by go_num, by omega, HM1, ⟨fun k_ hn hp => by have hS_ := HS.out; rcases hp with h1_ | h1_ <;> rcases hn.1 with h2_ | h2_ <;> first | exact HD.out k_ h2_ h1_.1 | (have h3_ := hn.2; omega)⟩, ⟨Kd.S_set HN.out B3.out (by decide) 1 (.slice AP1 nP1 cP1)⟩, ⟨by rw [List.replicate_succ']; exact Kd.S_set HP.out B3.out (by decide) 1 (.slice AP1 nP1 cP1)⟩, ⟨blk_far B1.out N13.out _⟩, ⟨blk_far B2.out N23.out _⟩, ⟨blk_put (cs := #[(.slice AN1 nN1 cN1), vP]) B3.out 1 (.slice AP1 nP1 cP1) rfl⟩, ⟨below_set HB.out GB3.out⟩⟩
  · obtain rfl : m = l0_4.length := by omega
    have hNe : N = r0 := Option.some.inj (HM.out.symm.trans HRW.out)
    have HN2 : Aside0 (Kd.S (Kd.slice 2 (Kd.int .i64)) 22 wr w.heap.size Pn vN r0) := ⟨by rw [← hNe]; exact HN.out⟩
    have HP2 : Aside0 (Kd.S (Kd.slice 2 (Kd.int .i64)) 22 wr w.heap.size Pp vP (prevUp r0 0)) := ⟨by show Kd.S (Kd.slice 2 (Kd.int .i64)) 22 wr w.heap.size Pp vP (List.replicate r0.length []); rw [hlen]; exact HP.out⟩
    clear HN HP HM hNe N
    obtain ⟨AN, cN, eN⟩ := Kd.S_slice HN2.out
    subst eN
    have c1 : decide ((l0_4.length : Int) < (l0_4.length : Int)) = false := decide_eq_false (by omega)
    have hcz_B1_0 : wr.cell? ⟨g1, 0, none⟩ = some (.string a0_0) := (blk_cell B1.out 0).trans rfl
    have hfz_B1_0 := blk_frozen B1.out 0
    have hcz_B1_1 : wr.cell? ⟨g1, 1, none⟩ = some (.int .i64 a0_1) := (blk_cell B1.out 1).trans rfl
    have hfz_B1_1 := blk_frozen B1.out 1
    have hcz_B1_2 : wr.cell? ⟨g1, 2, none⟩ = some (.slice A0_2 l0_2.length c0_2) := (blk_cell B1.out 2).trans rfl
    have hfz_B1_2 := blk_frozen B1.out 2
    have hcz_B1_3 : wr.cell? ⟨g1, 3, none⟩ = some (.int .i64 a0_3) := (blk_cell B1.out 3).trans rfl
    have hfz_B1_3 := blk_frozen B1.out 3
    have hcz_B1_4 : wr.cell? ⟨g1, 4, none⟩ = some (.slice A0_4 l0_4.length c0_4) := (blk_cell B1.out 4).trans rfl
    have hfz_B1_4 := blk_frozen B1.out 4
    have HLEN := Aside0.mk hlen
    clear hlen
    go_wp2
    go_loopw [5] (fun v5 w' => ∃ (m : Nat) (vP : Value) (Pn Pp : Nat → Prop), v5 = .int .i64 (m : Int) ∧ m ≤ r0.length ∧ Aside0 (∀ k_ : Nat, Pn k_ → ¬ Pp k_) ∧ Aside0 (Kd.S (Kd.slice 2 (Kd.int .i64)) 22 w' w.heap.size Pn (.slice AN r0.length cN) r0) ∧ Aside0 (Kd.S (Kd.slice 2 (Kd.int .i64)) 22 w' w.heap.size Pp vP (prevUp r0 m)) ∧ Aside0 (w'.heap[g1]? = some (.cells #[.string a0_0, .int .i64 a0_1, .slice A0_2 l0_2.length c0_2, .int .i64 a0_3, .slice A0_4 l0_4.length c0_4] 30 (0, 0))) ∧ Aside0 (w'.heap[g2]? = some (.cells #[.slice none 0 0, .slice none 0 0] 52 (0, 0))) ∧ Aside0 (w'.heap[g3]? = some (.cells #[(.slice AN r0.length cN), vP] 52 (0, 0))) ∧ Aside0 (Below w.heap.size w w')) (fun v5 _ => r0.length - (intOf v5).toNat)
    case atStart => exact ⟨0, vP, Pn, Pp, rfl, Nat.zero_le _, HD, HN2, HP2, B1, B2, B3, HB⟩
    case round =>
     clear c1 HN2 HP2 HD B2 B3 HB Pn Pp vP
     clear hcz_B1_0 hfz_B1_0 hcz_B1_1 hfz_B1_1 hcz_B1_2 hfz_B1_2 hcz_B1_3 hfz_B1_3 hcz_B1_4 hfz_B1_4
     clear B1
     obtain ⟨m, vP, Pn, Pp, rfl, hm, HD, HN, HP, B1, B2, B3, HB⟩ := hrel
     by_cases hlt : m < r0.length
     · have c1 : decide ((m : Int) < (r0.length : Int)) = true := decide_eq_true (by omega)
       obtain ⟨row, hrow⟩ : ∃ row, row = r0.getD m [] := ⟨_, rfl⟩
       obtain ⟨hrl, hrt⟩ := okRows_at HOK.out m hlt
       rw [← hrow] at hrl hrt
       have HRT := Aside0.mk hrt
       have HROW := Aside0.mk hrow
       clear hrt hrow
       have hcz_B3_0 : wr.cell? ⟨g3, 0, none⟩ = some (.slice AN r0.length cN) := (blk_cell B3.out 0).trans rfl
       have hfz_B3_0 := blk_frozen B3.out 0
       have hcz_B3_1 : wr.cell? ⟨g3, 1, none⟩ = some (vP) := (blk_cell B3.out 1).trans rfl
       have hfz_B3_1 := blk_frozen B3.out 1
       go_wp2
       go_loopw [6] (fun v6 w' => ∃ (j : Nat) (vP : Value) (Pn Pp : Nat → Prop), v6 = .int .i64 (j : Int) ∧ j ≤ row.length ∧ Aside0 (∀ k_ : Nat, Pn k_ → ¬ Pp k_) ∧ Aside0 (Kd.S (Kd.slice 2 (Kd.int .i64)) 22 w' w.heap.size Pn (.slice AN r0.length cN) r0) ∧ Aside0 (Kd.S (Kd.slice 2 (Kd.int .i64)) 22 w' w.heap.size Pp vP (pushB (prevUp r0 m) (m : Int) (row.take j))) ∧ Aside0 (w'.heap[g1]? = some (.cells #[.string a0_0, .int .i64 a0_1, .slice A0_2 l0_2.length c0_2, .int .i64 a0_3, .slice A0_4 l0_4.length c0_4] 30 (0, 0))) ∧ Aside0 (w'.heap[g2]? = some (.cells #[.slice none 0 0, .slice none 0 0] 52 (0, 0))) ∧ Aside0 (w'.heap[g3]? = some (.cells #[(.slice AN r0.length cN), vP] 52 (0, 0))) ∧ Aside0 (Below w.heap.size w w')) (fun v6 _ => row.length - (intOf v6).toNat)
       case atStart => exact ⟨0, vP, Pn, Pp, rfl, Nat.zero_le _, HD, HN, ⟨by rw [List.take_zero]; exact HP.out⟩, B1, B2, B3, HB⟩
       case round =>
        clear hcz_B3_0 hfz_B3_0 hcz_B3_1 hfz_B3_1
        clear c1 HN HP HD B1 B2 B3 HB Pn Pp vP
        obtain ⟨j, vP, Pn, Pp, rfl, hj, HD, HN, HP, B1, B2, B3, HB⟩ := hrel
        have hN := HN.out
        obtain ⟨gN, cN2, eN, _, _, _⟩ := Kd.S_form hN (by omega)
        injection eN with e1 e2 e3
        subst e1
        clear e2 e3 cN2
        obtain ⟨cx, _, hM, hcc⟩ := Kd.S_get hN [] (m : Int) (by omega) (by omega)
        obtain ⟨vx, rfl, hRi⟩ := hM
        have hcx := hcc 0 vx rfl
        rw [show ((Kd.slice 2 (Kd.int .i64))).sz = 1 from rfl, Nat.mul_one, Nat.add_zero, Int.toNat_natCast, add_plain] at hcx
        rw [Int.toNat_natCast, ← HROW.out] at hRi
        obtain ⟨AI, cI, eI⟩ := Kd.R_slice hRi
        subst eI
        have HRi := Aside0.mk hRi
        have HCX := Aside0.mk hcx
        clear hcc hN hRi
        by_cases hjl : j < row.length
        · have c1 : decide ((m : Int) < (r0.length : Int)) = true := decide_eq_true (by omega)
          have c2 : decide ((j : Int) < (row.length : Int)) = true := decide_eq_true (by omega)
          have i1 : (m : Int) < (r0.length : Int) := by omega
          have i2 : (j : Int) < (row.length : Int) := by omega
          have hcz_B3_0 : wr.cell? ⟨g3, 0, none⟩ = some (.slice (some ⟨gN, 0, none⟩) r0.length cN) := (blk_cell B3.out 0).trans rfl
          have hfz_B3_0 := blk_frozen B3.out 0
          have hcz_B3_1 : wr.cell? ⟨g3, 1, none⟩ = some (vP) := (blk_cell B3.out 1).trans rfl
          have hfz_B3_1 := blk_frozen B3.out 1
          go_upto_region 13 with (fail)
          clear hcz_B3_0 hfz_B3_0 hcz_B3_1 hfz_B3_1
          clear hcx
          have hrd := Kd.reads_of_C (d := (0 : Int)) (Kd.R_reads' HRi.out).2.2
          obtain ⟨adI, e3, hct⟩ := ReadsInt.at_ (k := .i64) hrd (j : Int) (by omega) (by omega)
          subst e3
          rw [Int.toNat_natCast] at hct
          clear hrd
          obtain ⟨htm, htk⟩ := rd_take hjl
          obtain ⟨t, ht⟩ : ∃ t, t = rd row (j : Int) := ⟨_, rfl⟩
          rw [← ht] at hct htm htk
          obtain ⟨ht0, ht1⟩ := HRT.out t htm
          have hlen := HLEN.out
          rw [← hlen] at ht1
          obtain ⟨PR, hPR⟩ : ∃ P_, P_ = pushB (prevUp r0 m) (m : Int) (row.take j) := ⟨_, rfl⟩
          have hPl : PR.length = r0.length := by rw [hPR, pushB_len, prevUp_len]
          have hP := HP.out
          rw [← hPR] at hP
          obtain ⟨gP, cP, eP, hgP, _, _⟩ := Kd.S_form hP (by omega)
          subst eP
          have hP2 : Kd.S (Kd.slice 2 (Kd.int .i64)) 22 wr.drew w.heap.size (fun k_ => (Pp k_ ∧ k_ < wr.drew.heap.size) ∨ wr.drew.heap.size ≤ k_) (.slice (some ⟨gP, 0, none⟩) PR.length cP) PR := Kd.S_drew (Kd.S_mono (Kd.S_bound hP) (fun k_ h_ => .inl ⟨h_.1, h_.2.2.1⟩))
          obtain ⟨cx2, _, hM2, hcc2⟩ := Kd.S_get hP2 [] t ht0 (by omega)
          obtain ⟨vi, rfl, hRv⟩ := hM2
          have hcv := hcc2 0 vi rfl
          rw [show ((Kd.slice 2 (Kd.int .i64))).sz = 1 from rfl, Nat.mul_one, Nat.add_zero, add_plain] at hcv
          clear hcc2 hRv
          obtain ⟨_, _, _, _, hfr⟩ := Kd.R_elem (Kd.S_R hP2) [] t ht0 (by omega)
          have hfv := hfr 0
          rw [show ((Kd.slice 2 (Kd.int .i64))).sz = 1 from rfl, Nat.mul_one, Nat.add_zero] at hfv
          clear hfr
          obtain ⟨oki, hRo, hoki, hpush⟩ := S_push hP2 t ht0 (by omega) hcv
          obtain ⟨xi, hxi⟩ : ∃ x_, x_ = PR.getD t.toNat [] := ⟨_, rfl⟩
          rw [← hxi] at hRo
          obtain ⟨AV, cV, eV⟩ := Kd.R_slice hRo
          subst eV
          have hxl : xi.length ≤ m * 2000000 + j := by
           have h1_ := pushB_row (m : Int) t.toNat (row.take j) (prevUp r0 m)
           have h2_ := prevUp_row HOK.out t.toNat m (by omega)
           rw [List.length_take] at h1_
           rw [hxi, hPR]
           omega
          have hxb : (xi.length + 1) * 8 ≤ 140737488355328 := by
           omega
          have hset : pushB (prevUp r0 m) (m : Int) (row.take (j + 1)) = PR.set t.toNat (xi ++ [(m : Int)]) := by rw [htk, pushB_snoc, ← hPR, ← hxi]
          have HSET := Aside0.mk hset
          have HXB := Aside0.mk hxb
          have i3 : t < (PR.length : Int) := by omega
          clear hset hxb hxl ht1 htm htk hPR hxi ht hPl hlen
          have HWA := Aside0.mk (show w.heap.size ≤ wr.drew.heap.size from below_size (below_drew HB.out))
          have HGP := Aside0.mk (show w.heap.size ≤ gP from hgP)
          have HCT := Aside0.mk (show wr.drew.cell? (adI.add j) = some (.int .i64 t) from hct)
          have n0_ := Aside0.mk (show wr.drew.cell? ⟨gN, m, none⟩ = some (.slice (some adI) row.length cI) from HCX.out)
          have HCV := Aside0.mk hcv
          have HFV := Aside0.mk hfv
          have HPU := Aside0.mk hpush
          have HOI := Aside0.mk hoki
          have HRO := Aside0.mk hRo
          have n1_ := Aside0.mk (Kd.S_drew (Kd.S_mono (Kd.S_bound HN.out) (fun k_ h_ => (⟨h_.1, h_.2.2.1⟩ : Pn k_ ∧ k_ < wr.drew.heap.size))))
          have n2_ := Aside0.mk (Kd.R_drew HRi.out)
          have n3_ := Aside0.mk hP2
          have n4_ := Aside0.mk (blk_drew B1.out)
          have n5_ := Aside0.mk (blk_drew B2.out)
          have n6_ := Aside0.mk (blk_drew B3.out)
          have n7_ := Aside0.mk (below_drew HB.out)
          clear HCX hct hcv hfv hpush hoki hRo HN HRi hP2 hP HP B1 B2 B3 HB hgP
          have HCX := n0_
          have HN := n1_
          have HRi := n2_
          have HP := n3_
          have B1 := n4_
          have B2 := n5_
          have B3 := n6_
          have HB := n7_
          clear n0_ n1_ n2_ n3_ n4_ n5_ n6_ n7_
          refine start_ (n := 27) (S := fun w' => w'.cell? ⟨g3, 0, none⟩ = some (.slice (some ⟨gN, 0, none⟩) r0.length cN) ∧ w'.cell? ⟨g3, 1, none⟩ = some (.slice (some ⟨gP, 0, none⟩) PR.length cP) ∧ w'.cell? ⟨gN, m, none⟩ = some (.slice (some adI) row.length cI) ∧ w'.cell? (adI.add j) = some (.int .i64 t) ∧ w'.cell? ⟨gP, t.toNat, none⟩ = some (.slice AV xi.length cV)) (ds := [26]) #[false, false, false, false, false, false, false, false, false, false, false, false, false, false, false, false, false, false, false, false, false, false, false, false, false, false, false] (by kernel_rfl) rfl rfl ⟨(blk_cell B3.out 0).trans rfl, (blk_cell B3.out 1).trans rfl, HCX.out, HCT.out, HCV.out⟩ (fun hHeld => ?_)
          generalize wr.drew = wA at HWA HCT HCX HCV HFV HPU HOI HRO HN HRi HP B1 B2 B3 HB hHeld ⊢
          refine pure_ (i := 0) (N := some 45) (v := ?_) (a' := ?_) #[true, false, false, false, false, false, false, false, false, false, false, false, false, false, false, false, false, false, false, false, false, false, false, false, false, false, false] rfl rfl (by kernel_rfl) (fun _ _ _ h => h) (Or.inl ⟨by rfl, ?_⟩) ?_ ?_
          rotate_left
          · intro w'
            go_simp
            with_reducible rfl
          rotate_left
          · simp only [Act.put, List.setIfInBounds_toArray, List.set_cons_zero, List.set_cons_succ, i64_w, i32_w]
            rfl
          refine pure_ (i := 2) (N := some 47) (v := ?_) (a' := ?_) #[true, false, true, false, false, false, false, false, false, false, false, false, false, false, false, false, false, false, false, false, false, false, false, false, false, false, false] rfl rfl (by kernel_rfl) (fun _ _ _ h => h) (Or.inl ⟨by rfl, ?_⟩) ?_ ?_
          rotate_left
          · intro w'
            go_simp
            with_reducible rfl
          rotate_left
          · simp only [Act.put, List.setIfInBounds_toArray, List.set_cons_zero, List.set_cons_succ, i64_w, i32_w]
            rfl
          refine pure_ (i := 4) (N := some 49) (v := ?_) (a' := ?_) #[true, false, true, false, true, false, false, false, false, false, false, false, false, false, false, false, false, false, false, false, false, false, false, false, false, false, false] rfl rfl (by kernel_rfl) (fun _ _ _ h => h) (Or.inl ⟨by rfl, ?_⟩) ?_ ?_
          rotate_left
          · intro w'
            go_simp
            with_reducible rfl
          rotate_left
          · simp only [Act.put, List.setIfInBounds_toArray, List.set_cons_zero, List.set_cons_succ, i64_w, i32_w]
            rfl
          refine pure_ (i := 7) (N := some 52) (v := ?_) (a' := ?_) #[true, false, true, false, true, false, false, true, false, false, false, false, false, false, false, false, false, false, false, false, false, false, false, false, false, false, false] rfl rfl (by kernel_rfl) (fun _ _ _ h => h) (Or.inl ⟨by rfl, ?_⟩) ?_ ?_
          rotate_left
          · intro w'
            go_simp
            with_reducible rfl
          rotate_left
          · simp only [Act.put, List.setIfInBounds_toArray, List.set_cons_zero, List.set_cons_succ, i64_w, i32_w]
            rfl
          refine pure_ (i := 10) (N := some 55) (v := ?_) (a' := ?_) #[true, false, true, false, true, false, false, true, false, false, true, false, false, false, false, false, false, false, false, false, false, false, false, false, false, false, false] rfl rfl (by kernel_rfl) (fun _ _ _ h => h) (Or.inl ⟨by rfl, ?_⟩) ?_ ?_
          rotate_left
          · intro w'
            go_simp
            with_reducible rfl
          rotate_left
          · simp only [Act.put, List.setIfInBounds_toArray, List.set_cons_zero, List.set_cons_succ, i64_w, i32_w]
            rfl
          refine pure_ (i := 12) (N := some 57) (v := ?_) (a' := ?_) #[true, false, true, false, true, false, false, true, false, false, true, false, true, false, false, false, false, false, false, false, false, false, false, false, false, false, false] rfl rfl (by kernel_rfl) (fun _ _ _ h => h) (Or.inl ⟨by rfl, ?_⟩) ?_ ?_
          rotate_left
          · intro w'
            go_simp
            with_reducible rfl
          rotate_left
          · simp only [Act.put, List.setIfInBounds_toArray, List.set_cons_zero, List.set_cons_succ, i64_w, i32_w]
            rfl
          refine pure_ (i := 14) (N := some 59) (v := ?_) (a' := ?_) #[true, false, true, false, true, false, false, true, false, false, true, false, true, false, true, false, false, false, false, false, false, false, false, false, false, false, false] rfl rfl (by kernel_rfl) (fun _ _ _ h => h) (Or.inl ⟨by rfl, ?_⟩) ?_ ?_
          rotate_left
          · intro w'
            go_simp
            with_reducible rfl
          rotate_left
          · simp only [Act.put, List.setIfInBounds_toArray, List.set_cons_zero, List.set_cons_succ, i64_w, i32_w]
            rfl
          refine pure_ (i := 17) (N := some 62) (v := ?_) (a' := ?_) #[true, false, true, false, true, false, false, true, false, false, true, false, true, false, true, false, false, true, false, false, false, false, false, false, false, false, false] rfl rfl (by kernel_rfl) (fun _ _ _ h => h) (Or.inl ⟨by rfl, ?_⟩) ?_ ?_
          rotate_left
          · intro w'
            go_simp
            with_reducible rfl
          rotate_left
          · simp only [Act.put, List.setIfInBounds_toArray, List.set_cons_zero, List.set_cons_succ, i64_w, i32_w]
            rfl
          refine pure_ (i := 22) (N := some 67) (v := ?_) (a' := ?_) #[true, false, true, false, true, false, false, true, false, false, true, false, true, false, true, false, false, true, false, false, false, false, true, false, false, false, false] rfl rfl (by kernel_rfl) (fun _ _ _ h => h) (Or.inl ⟨by rfl, ?_⟩) ?_ ?_
          rotate_left
          · intro w'
            go_simp
            with_reducible rfl
          rotate_left
          · simp only [Act.put, List.setIfInBounds_toArray, List.set_cons_zero, List.set_cons_succ, i64_w, i32_w]
            rfl
          refine take_ (i := 1) (N := some 46) (v := ?_) (a' := ?_) #[true, true, true, false, true, false, false, true, false, false, true, false, true, false, true, false, false, true, false, false, false, false, true, false, false, false, false] rfl rfl (by kernel_rfl) (fun _ _ _ h => h) (Or.inl ⟨by rfl, ?_⟩) hHeld ?_ ?_
          rotate_left
          · rintro w' ⟨s0, s1, s2, s3, s4⟩
            go_simp
            with_reducible rfl
          rotate_left
          · simp only [Act.put, List.setIfInBounds_toArray, List.set_cons_zero, List.set_cons_succ, i64_w, i32_w]
            rfl
          refine take_ (i := 3) (N := some 48) (v := ?_) (a' := ?_) #[true, true, true, true, true, false, false, true, false, false, true, false, true, false, true, false, false, true, false, false, false, false, true, false, false, false, false] rfl rfl (by kernel_rfl) (fun _ _ _ h => h) (Or.inl ⟨by rfl, ?_⟩) hHeld ?_ ?_
          rotate_left
          · rintro w' ⟨s0, s1, s2, s3, s4⟩
            go_simp
            with_reducible rfl
          rotate_left
          · simp only [Act.put, List.setIfInBounds_toArray, List.set_cons_zero, List.set_cons_succ, i64_w, i32_w]
            rfl
          refine pure_ (i := 5) (N := some 50) (v := ?_) (a' := ?_) #[true, true, true, true, true, true, false, true, false, false, true, false, true, false, true, false, false, true, false, false, false, false, true, false, false, false, false] rfl rfl (by kernel_rfl) (fun _ _ _ h => h) (Or.inl ⟨by rfl, ?_⟩) ?_ ?_
          rotate_left
          · intro w'
            go_simp
            with_reducible rfl
          rotate_left
          · simp only [Act.put, List.setIfInBounds_toArray, List.set_cons_zero, List.set_cons_succ, i64_w, i32_w]
            rfl
          refine take_ (i := 6) (N := some 51) (v := ?_) (a' := ?_) #[true, true, true, true, true, true, true, true, false, false, true, false, true, false, true, false, false, true, false, false, false, false, true, false, false, false, false] rfl rfl (by kernel_rfl) (fun _ _ _ h => h) (Or.inl ⟨by rfl, ?_⟩) hHeld ?_ ?_
          rotate_left
          · rintro w' ⟨s0, s1, s2, s3, s4⟩
            go_simp
            with_reducible rfl
          rotate_left
          · simp only [Act.put, List.setIfInBounds_toArray, List.set_cons_zero, List.set_cons_succ, i64_w, i32_w]
            rfl
          refine pure_ (i := 8) (N := some 53) (v := ?_) (a' := ?_) #[true, true, true, true, true, true, true, true, true, false, true, false, true, false, true, false, false, true, false, false, false, false, true, false, false, false, false] rfl rfl (by kernel_rfl) (fun _ _ _ h => h) (Or.inl ⟨by rfl, ?_⟩) ?_ ?_
          rotate_left
          · intro w'
            go_simp
            with_reducible rfl
          rotate_left
          · simp only [Act.put, List.setIfInBounds_toArray, List.set_cons_zero, List.set_cons_succ, i64_w, i32_w]
            rfl
          refine take_ (i := 9) (N := some 54) (v := ?_) (a' := ?_) #[true, true, true, true, true, true, true, true, true, true, true, false, true, false, true, false, false, true, false, false, false, false, true, false, false, false, false] rfl rfl (by kernel_rfl) (fun _ _ _ h => h) (Or.inl ⟨by rfl, ?_⟩) hHeld ?_ ?_
          rotate_left
          · rintro w' ⟨s0, s1, s2, s3, s4⟩
            go_simp
            with_reducible rfl
          rotate_left
          · simp only [Act.put, List.setIfInBounds_toArray, List.set_cons_zero, List.set_cons_succ, i64_w, i32_w]
            rfl
          refine take_ (i := 11) (N := some 56) (v := ?_) (a' := ?_) #[true, true, true, true, true, true, true, true, true, true, true, true, true, false, true, false, false, true, false, false, false, false, true, false, false, false, false] rfl rfl (by kernel_rfl) (fun _ _ _ h => h) (Or.inl ⟨by rfl, ?_⟩) hHeld ?_ ?_
          rotate_left
          · rintro w' ⟨s0, s1, s2, s3, s4⟩
            go_simp
            with_reducible rfl
          rotate_left
          · simp only [Act.put, List.setIfInBounds_toArray, List.set_cons_zero, List.set_cons_succ, i64_w, i32_w]
            rfl
          refine take_ (i := 13) (N := some 58) (v := ?_) (a' := ?_) #[true, true, true, true, true, true, true, true, true, true, true, true, true, true, true, false, false, true, false, false, false, false, true, false, false, false, false] rfl rfl (by kernel_rfl) (fun _ _ _ h => h) (Or.inl ⟨by rfl, ?_⟩) hHeld ?_ ?_
          rotate_left
          · rintro w' ⟨s0, s1, s2, s3, s4⟩
            go_simp
            with_reducible rfl
          rotate_left
          · simp only [Act.put, List.setIfInBounds_toArray, List.set_cons_zero, List.set_cons_succ, i64_w, i32_w]
            rfl
          refine pure_ (i := 15) (N := some 60) (v := ?_) (a' := ?_) #[true, true, true, true, true, true, true, true, true, true, true, true, true, true, true, true, false, true, false, false, false, false, true, false, false, false, false] rfl rfl (by kernel_rfl) (fun _ _ _ h => h) (Or.inl ⟨by rfl, ?_⟩) ?_ ?_
          rotate_left
          · intro w'
            go_simp
            with_reducible rfl
          rotate_left
          · simp only [Act.put, List.setIfInBounds_toArray, List.set_cons_zero, List.set_cons_succ, i64_w, i32_w]
            rfl
          refine take_ (i := 16) (N := some 61) (v := ?_) (a' := ?_) #[true, true, true, true, true, true, true, true, true, true, true, true, true, true, true, true, true, true, false, false, false, false, true, false, false, false, false] rfl rfl (by kernel_rfl) (fun _ _ _ h => h) (Or.inl ⟨by rfl, ?_⟩) hHeld ?_ ?_
          rotate_left
          · rintro w' ⟨s0, s1, s2, s3, s4⟩
            go_simp
            with_reducible rfl
          rotate_left
          · simp only [Act.put, List.setIfInBounds_toArray, List.set_cons_zero, List.set_cons_succ, i64_w, i32_w]
            rfl
          refine pure_ (i := 18) (N := some 63) (v := ?_) (a' := ?_) #[true, true, true, true, true, true, true, true, true, true, true, true, true, true, true, true, true, true, true, false, false, false, true, false, false, false, false] rfl rfl (by kernel_rfl) (fun _ _ _ h => h) (Or.inl ⟨by rfl, ?_⟩) ?_ ?_
          rotate_left
          · intro w'
            go_simp
            with_reducible rfl
          rotate_left
          · simp only [Act.put, List.setIfInBounds_toArray, List.set_cons_zero, List.set_cons_succ, i64_w, i32_w]
            rfl
          refine take_ (i := 19) (N := some 64) (v := ?_) (a' := ?_) #[true, true, true, true, true, true, true, true, true, true, true, true, true, true, true, true, true, true, true, true, false, false, true, false, false, false, false] rfl rfl (by kernel_rfl) (fun _ _ _ h => h) (Or.inl ⟨by rfl, ?_⟩) hHeld ?_ ?_
          rotate_left
          · rintro w' ⟨s0, s1, s2, s3, s4⟩
            go_simp
            with_reducible rfl
          rotate_left
          · simp only [Act.put, List.setIfInBounds_toArray, List.set_cons_zero, List.set_cons_succ, i64_w, i32_w]
            rfl
          refine pure_ (i := 20) (N := some 65) (v := ?_) (a' := ?_) #[true, true, true, true, true, true, true, true, true, true, true, true, true, true, true, true, true, true, true, true, true, false, true, false, false, false, false] rfl rfl (by kernel_rfl) (fun _ _ _ h => h) (Or.inl ⟨by rfl, ?_⟩) ?_ ?_
          rotate_left
          · intro w'
            go_simp
            with_reducible rfl
          rotate_left
          · simp only [Act.put, List.setIfInBounds_toArray, List.set_cons_zero, List.set_cons_succ, i64_w, i32_w]
            rfl
          refine take_ (i := 21) (N := some 66) (v := ?_) (a' := ?_) #[true, true, true, true, true, true, true, true, true, true, true, true, true, true, true, true, true, true, true, true, true, true, true, false, false, false, false] rfl rfl (by kernel_rfl) (fun _ _ _ h => h) (Or.inl ⟨by rfl, ?_⟩) hHeld ?_ ?_
          rotate_left
          · rintro w' ⟨s0, s1, s2, s3, s4⟩
            go_simp
            with_reducible rfl
          rotate_left
          · simp only [Act.put, List.setIfInBounds_toArray, List.set_cons_zero, List.set_cons_succ, i64_w, i32_w]
            rfl
          refine one_ (i := 23) (N := some 68) #[true, true, true, true, true, true, true, true, true, true, true, true, true, true, true, true, true, true, true, true, true, true, true, true, false, false, false] rfl rfl (by kernel_rfl) (by decide) (fun K hK => ?_)
          refine value_ (w1 := ?_) (v := ?_) (by rfl) rfl ?_ ?_
          rotate_left 2
          · go_simp
            constructor
            · rfl
            · rfl
          refine hK.out _ _ ⟨(blk_cell (blk_alloc B3.out _) 0).trans rfl, (blk_cell (blk_alloc B3.out _) 1).trans rfl, cell_al HCX.out _, cell_al HCT.out _, cell_al HCV.out _⟩ (fun hHeld => ?_)
          clear hK K
          refine norm_ (a' := ?_) ?_ ?_
          rotate_left
          · show Act.put _ (some 68) _ = _
            simp only [Act.put, List.setIfInBounds_toArray, List.set_cons_zero, List.set_cons_succ, i64_w, i32_w]
            rfl
          refine one_ (i := 24) (N := some 69) #[true, true, true, true, true, true, true, true, true, true, true, true, true, true, true, true, true, true, true, true, true, true, true, true, true, false, false] rfl rfl (by kernel_rfl) (by decide) (fun K hK => ?_)
          refine Kd.R_append_step (Kd.int .i64) (w0 := w) w.heap.size (by rfl) (.tmp 66) (.tmp 68) 22 2 (.int .i64 0) 8 rfl Try.underlying22 (by kernel_rfl) rfl (by decide) (by omega) (.slice AV xi.length cV) xi (m : Int) [.int .i64 (m : Int)] (fun k_ => oki k_ ∨ ((Pp k_ ∧ k_ < wA.heap.size) ∨ wA.heap.size ≤ k_) ∧ wA.heap.size ≤ k_) (fun _ => False) rfl rfl ?aP (fun _ hk => hk.elim) ?aF ?aO ?aB ?aS ?aL ?_
          (case aP => exact rfl)
          (case aF => exact fun k_ hk => .inr ⟨.inr hk, hk⟩)
          (case aO => exact Kd.R_mono HRO.out (fun _ hk => .inl hk))
          (case aB => exact HB.out)
          (case aS => exact HWA.out)
          (case aL => exact HXB.out)
          intro v1 wC ho1 hb1 hg1 hat1
          obtain ⟨A1, n1, c1_, ev1⟩ : ∃ A n c, v1 = .slice A n c := by obtain ⟨A, c, h⟩ := Kd.R_slice ho1; exact ⟨A, _, c, h⟩
          subst ev1
          have hne1 : ∀ k_ : Nat, Pn k_ → k_ < wA.heap.size → some k_ ≠ (.slice AV xi.length cV : Value).ownBlock := fun k_ h1_ h2_ e_ => by
           rcases (HOI.out k_ (HRO.out.1 k_ e_.symm)).1 with h3_ | h3_
           · exact HD.out k_ h1_ h3_.1
           · omega
          have hne2 : some gP ≠ (.slice AV xi.length cV : Value).ownBlock := fun e_ => (HOI.out gP (HRO.out.1 gP e_.symm)).2 rfl
          have hgN := ((Kd.S_R HN.out).1 gN rfl)
          have hgI := (HRi.out.1 adI.block (by simp [Value.ownBlock])).1
          have hab : (adI.add j).block = adI.block := by unfold Addr.add; split <;> rfl
          have hgI2 : adI.block < wA.heap.size := hab ▸ World.block_lt_of_cell? wA _ HCT.out
          have HP0 := HP
          have HG1 := Aside0.mk (fun e_ : g1 = gP => Kd.S_ne HP.out B1.out (by decide) (by rw [e_]; rfl))
          have HG2 := Aside0.mk (fun e_ : g2 = gP => Kd.S_ne HP.out B2.out (by decide) (by rw [e_]; rfl))
          have HG3 := Aside0.mk (fun e_ : g3 = gP => Kd.S_ne HP.out B3.out (by decide) (by rw [e_]; rfl))
          have n0_ := Aside0.mk (Kd.S_grown HN.out hg1 (fun k_ hk => hne1 k_ hk.1 hk.2))
          have n1_ := Aside0.mk (HPU.out wC _ _ hg1 ho1)
          have n2_ := Aside0.mk (blk_grown B1.out hg1 (Kd.R_ne HRO.out B1.out (by decide)))
          have n3_ := Aside0.mk (blk_grown B2.out hg1 (Kd.R_ne HRO.out B2.out (by decide)))
          have n4_ := Aside0.mk (blk_grown B3.out hg1 (Kd.R_ne HRO.out B3.out (by decide)))
          have n5_ := Aside0.mk (hb1)
          have n6_ := Aside0.mk (cell_grown hg1 HCX.out (hne1 gN hgN.1 hgN.2))
          have n7_ := Aside0.mk (cell_grown hg1 HCT.out (by rw [hab]; exact hne1 _ hgI hgI2))
          have n8_ := Aside0.mk (frozen_gr hg1 HCV.out HFV.out hne2)
          have n9_ := Aside0.mk (cell_grown hg1 HCV.out hne2)
          clear HN HP B1 B2 B3 HB HCX HCT HFV HCV
          have HN := n0_
          have HP := n1_
          have B1 := n2_
          have B2 := n3_
          have B3 := n4_
          have HB := n5_
          have HCX := n6_
          have HCT := n7_
          have HFV := n8_
          have HCV := n9_
          clear n0_ n1_ n2_ n3_ n4_ n5_ n6_ n7_ n8_ n9_
          have hPgP : (Pp gP ∧ gP < wA.heap.size) ∨ wA.heap.size ≤ gP := (Kd.S_R HP0.out).1 gP rfl
          have HNP := Aside0.mk (show ∀ k_ : Nat, (Pn k_ ∧ k_ < wA.heap.size) → k_ ≠ gP from fun k_ hk e_ => by subst e_; rcases hPgP with h3_ | h3_; exact HD.out _ hk.1 h3_.1; have := hk.2; omega)
          clear hPgP HP0
          clear ho1 hb1 hat1 hne1 hne2 hgN hgI hgI2 hab hg1 HPU
          have hfzC := HFV.out
          refine hK.out _ _ ⟨(blk_cell B3.out 0).trans rfl, (blk_cell B3.out 1).trans rfl, HCX.out, HCT.out, HCV.out⟩ (fun hHeld => ?_)
          clear hK K
          refine norm_ (a' := ?_) ?_ ?_
          rotate_left
          · show Act.put _ (some 69) _ = _
            simp only [Act.put, List.setIfInBounds_toArray, List.set_cons_zero, List.set_cons_succ, i64_w, i32_w]
            rfl
          refine pure_ (i := 25) (N := some 70) (v := ?_) (a' := ?_) #[true, true, true, true, true, true, true, true, true, true, true, true, true, true, true, true, true, true, true, true, true, true, true, true, true, true, false] rfl rfl (by kernel_rfl) (fun _ _ _ h => h) (Or.inl ⟨by rfl, ?_⟩) ?_ ?_
          rotate_left
          · intro w'
            go_simp
            with_reducible rfl
          rotate_left
          · simp only [Act.put, List.setIfInBounds_toArray, List.set_cons_zero, List.set_cons_succ, i64_w, i32_w]
            rfl
          refine last_ (i := 26) (N := none) #[true, true, true, true, true, true, true, true, true, true, true, true, true, true, true, true, true, true, true, true, true, true, true, true, true, true, true] rfl rfl (by kernel_rfl) (by decide) (fun K hK => ?_)
          refine skip_ (w1 := ?_) (by rfl) rfl ?_ ?_
          rotate_left
          · go_simp
            rfl
          refine hK.out _ _ ?_
          clear hK K
          refine done_ (by kernel_rfl) ?_
          go_wp2
          go_roundw
          case measure => simp [intOf]; omega
          case rel => exact ⟨j + 1, .slice (some ⟨gP, 0, none⟩) PR.length cP, (fun k_ => Pn k_ ∧ k_ < wA.heap.size), (fun k_ => (Pp k_ ∧ k_ < wA.heap.size) ∨ wA.heap.size ≤ k_), by go_num, by omega, ⟨fun k_ hn hp => by rcases hp with h1_ | h1_; exact HD.out k_ hn.1 h1_.1; have := hn.2; omega⟩, ⟨Kd.S_far HN.out HNP.out _⟩, ⟨by rw [HSET.out]; exact HP.out⟩, ⟨blk_far B1.out HG1.out _⟩, ⟨blk_far B2.out HG2.out _⟩, ⟨blk_far B3.out HG3.out _⟩, ⟨below_set HB.out HGP.out⟩⟩
        · obtain rfl : j = row.length := by omega
          have c1 : decide ((m : Int) < (r0.length : Int)) = true := decide_eq_true (by omega)
          have c2 : decide ((row.length : Int) < (row.length : Int)) = false := decide_eq_false (by omega)
          have i1 : (m : Int) < (r0.length : Int) := by omega
          have hcz_B3_0 : wr.cell? ⟨g3, 0, none⟩ = some (.slice (some ⟨gN, 0, none⟩) r0.length cN) := (blk_cell B3.out 0).trans rfl
          have hfz_B3_0 := blk_frozen B3.out 0
          have hcz_B3_1 : wr.cell? ⟨g3, 1, none⟩ = some (vP) := (blk_cell B3.out 1).trans rfl
          have hfz_B3_1 := blk_frozen B3.out 1
          go_wp2
          go_roundw
          case measure => have hlen := HLEN.out; rw [IntWalk.wrap64_in ((m : Int) + 1) (by omega)]; simp [intOf]; omega
          case rel => have hlen := HLEN.out; exact ⟨m + 1, vP, Pn, Pp, by rw [IntWalk.wrap64_in ((m : Int) + 1) (by omega)]; rfl, by omega, HD, HN, ⟨by have h_ := HP.out; rw [List.take_length] at h_; rw [prevUp, ← HROW.out]; exact h_⟩, B1, B2, B3, HB⟩
     · obtain rfl : m = r0.length := by omega
       have c1 : decide ((r0.length : Int) < (r0.length : Int)) = false := decide_eq_false (by omega)
       obtain ⟨AP, nP, cP, eP⟩ : ∃ A n c, vP = .slice A n c := by obtain ⟨A, c, h⟩ := Kd.S_slice HP.out; exact ⟨A, _, c, h⟩
       subst eP
       have hcz_B3_0 : wr.cell? ⟨g3, 0, none⟩ = some (.slice AN r0.length cN) := (blk_cell B3.out 0).trans rfl
       have hfz_B3_0 := blk_frozen B3.out 0
       have hcz_B3_1 : wr.cell? ⟨g3, 1, none⟩ = some (.slice AP nP cP) := (blk_cell B3.out 1).trans rfl
       have hfz_B3_1 := blk_frozen B3.out 1
       have hcz_B2_0 : wr.cell? ⟨g2, 0, none⟩ = some (.slice none 0 0) := (blk_cell B2.out 0).trans rfl
       have hfz_B2_0 := blk_frozen B2.out 0
       have hcz_B2_1 : wr.cell? ⟨g2, 1, none⟩ = some (.slice none 0 0) := (blk_cell B2.out 1).trans rfl
       have hfz_B2_1 := blk_frozen B2.out 1
       have hnb := N23.out
       have hnc := Ne.symm N23.out
       go_wp2
       refine bodyPost_ret (results_cell_row rfl _ _ g2 52 #[.slice AN r0.length cN, .slice AP nP cP] (0, 0) _ rfl (blk_put (cs := #[.slice AN r0.length cN, .slice none 0 0]) (blk_put (cs := #[.slice none 0 0, .slice none 0 0]) B2.out 0 (.slice AN r0.length cN) rfl) 1 (.slice AP nP cP) rfl) Try.underlying52 rfl (by kernel_rfl)) rfl ?_
       exact ⟨_, _, rfl, Kd.S_mono (Kd.S_set (Kd.S_set HN.out B2.out (by decide) 0 _) (blk_put (cs := #[.slice none 0 0, .slice none 0 0]) (cs' := #[.slice AN r0.length cN, .slice none 0 0]) B2.out 0 (.slice AN r0.length cN) rfl) (by decide) 1 _) (fun k_ hk e_ => HD.out k_ hk ((Kd.S_R HP.out).1 k_ e_.symm)), by rw [← HLEN.out]; exact Kd.S_mono (Kd.S_set (Kd.S_set HP.out B2.out (by decide) 0 _) (blk_put (cs := #[.slice none 0 0, .slice none 0 0]) (cs' := #[.slice AN r0.length cN, .slice none 0 0]) B2.out 0 (.slice AN r0.length cN) rfl) (by decide) 1 _) (fun k_ hk e_ => HD.out k_ ((Kd.S_R HN.out).1 k_ e_.symm) hk), below_set (below_set HB.out GB2.out) GB2.out⟩

end Go.Proofs.Ytoedcnhgobbnfaa.All


namespace Go.Proofs.Ytoedcnhgobbnfaa.All
open Go.RowKit Go.Proofs.YtoedcnhgobbnfaaW.PrintWords Go.Proofs.YtoedcnhgobbnfaaW.PrintLast Go.Proofs.YtoedcnhgobbnfaaW.PrintMore
attribute [local go_sem] max2_int min2_int max_two min_two max_three min_three max_four min_four   -- for this text's walks alone
set_option linter.unusedVariables false
set_option linter.unusedSimpArgs false

/-! ### spec_l4Reach: function 46 -/
mutual
def spec_l4Reach.j0 : Nat → Int → Int → List Bool → Bool → List (List Int) → List (List Int) → Option (List Bool)
 | 0, _, _, _, _, _, _ => none
 | k + 1, x1, x2, x7, x29, x129000, x129001 => if x29 = true then (some x7) else (if 0 ≤ x1 then (if x1 < (x7.length : Int) then (spec_l4Reach.l0 k x2 (x7.set (x1 : Int).toNat true) (([x1] : List Int)) x129000 x129001) else (none)) else (none))
def spec_l4Reach.l0 : Nat → Int → List Bool → List Int → List (List Int) → List (List Int) → Option (List Bool)
 | 0, _, _, _, _, _ => none
 | k + 1, x2, x7, x8, x129000, x129001 => if (x8.length : Int) > 0 then (if 0 ≤ (wrap64 ((x8.length : Int) - 1)) then (if (wrap64 ((x8.length : Int) - 1)) < (x8.length : Int) then (if (wrap64 ((x8.length : Int) - 1)) ≤ (x8.length : Int) then (spec_l4Reach.l1 k x2 x7 (x8.take ((wrap64 ((x8.length : Int) - 1)) : Int).toNat) (rd x8 (wrap64 ((x8.length : Int) - 1))) 0 x129000 x129001) else (none)) else (none)) else (none)) else (some x7)
def spec_l4Reach.l1 : Nat → Int → List Bool → List Int → Int → Int → List (List Int) → List (List Int) → Option (List Bool)
 | 0, _, _, _, _, _, _, _ => none
 | k + 1, x2, x7, x8, x9, x10, x129000, x129001 => if 0 ≤ x9 then (if x9 < (x129000.length : Int) then (if x10 < ((rd_L4 x129000 x9).length : Int) then (if 0 ≤ x10 then (if (rd (rd_L4 x129000 x9) x10) = x2 then (spec_l4Reach.l1 k x2 x7 x8 x9 (wrap64 (x10 + 1)) x129000 x129001) else (if 0 ≤ (rd (rd_L4 x129000 x9) x10) then (if (rd (rd_L4 x129000 x9) x10) < (x7.length : Int) then (if (rdOf false x7 (rd (rd_L4 x129000 x9) x10) = true) then (spec_l4Reach.l1 k x2 x7 x8 x9 (wrap64 (x10 + 1)) x129000 x129001) else (if x8.length < 17592186044416 then (spec_l4Reach.l1 k x2 (x7.set ((rd (rd_L4 x129000 x9) x10) : Int).toNat true) (x8 ++ [rd (rd_L4 x129000 x9) x10]) x9 (wrap64 (x10 + 1)) x129000 x129001) else (none))) else (none)) else (none))) else (none)) else (spec_l4Reach.l0 k x2 x7 x8 x129000 x129001)) else (none)) else (none)
end
def spec_l4Reach.f (k : Nat) (l0_0 : List (List Int)) (l0_1 : List (List Int)) (a1 : Int) (a2 : Int) : Option (List Bool) := if 0 ≤ (l0_0.length : Int) then (if ((l0_0.length : Int) : Int).toNat ≤ 281474976710656 then ((some (List.replicate ((l0_0.length : Int) : Int).toNat false : List Bool)).bind fun y129 => (if a1 = a2 then (spec_l4Reach.j0 k a1 a2 y129 true l0_0 l0_1) else (if a1 < 0 then (spec_l4Reach.j0 k a1 a2 y129 true l0_0 l0_1) else (spec_l4Reach.j0 k a1 a2 y129 (decide (a1 ≥ (l0_0.length : Int))) l0_0 l0_1)))) else (none)) else (none)
set_option maxHeartbeats 8000000 in
set_option maxRecDepth 100000 in
theorem spec_l4Reach.calls (k : Nat) (A0_0 : Option Addr) (c0_0 : Nat) (l0_0 : List (List Int)) (A0_1 : Option Addr) (c0_1 : Nat) (l0_1 : List (List Int)) (a1 : Int) (a2 : Int) (r : List Bool) (w : World) (hr0_0 : Kd.C (Kd.slice 2 (Kd.int .i64)) w A0_0 l0_0.length l0_0) (hc0_0 : l0_0.length ≤ c0_0) (hr0_1 : Kd.C (Kd.slice 2 (Kd.int .i64)) w A0_1 l0_1.length l0_1) (hc0_1 : l0_1.length ≤ c0_1) (h : spec_l4Reach.f k l0_0 l0_1 a1 a2 = some r) :
 Calls Try.prog 46 #[.agg #[.slice A0_0 l0_0.length c0_0, .slice A0_1 l0_1.length c0_1], .int .i64 a1, .int .i64 a2] w fun e w' => ∃ v0_ : Value, e = .returned (v0_) ∧ Kd.R Kd.bool 4 w' w.heap.size (fun _ => True) v0_ r ∧ Below w.heap.size w w' := by
 have hu52 := Try.underlying52
 have HR0_0 := Aside0.mk hr0_0
 have HC0_0 := Aside0.mk hc0_0
 clear hr0_0 hc0_0
 have HR0_1 := Aside0.mk hr0_1
 have HC0_1 := Aside0.mk hc0_1
 clear hr0_1 hc0_1
 have HB := Aside0.mk (Below.refl w.heap.size w)
 have H : (if 0 ≤ (l0_0.length : Int) then (if ((l0_0.length : Int) : Int).toNat ≤ 281474976710656 then ((some (List.replicate ((l0_0.length : Int) : Int).toNat false : List Bool)).bind fun y129 => (if a1 = a2 then (spec_l4Reach.j0 k a1 a2 y129 true l0_0 l0_1) else (if a1 < 0 then (spec_l4Reach.j0 k a1 a2 y129 true l0_0 l0_1) else (spec_l4Reach.j0 k a1 a2 y129 (decide (a1 ≥ (l0_0.length : Int))) l0_0 l0_1)))) else (none)) else (none)) = some r := h
 clear h
 by_cases c4 : 0 ≤ (l0_0.length : Int)
 · rw [if_pos c4] at H
   have c4b0 := eq_true c4
   have c4b1 : decide (0 ≤ (l0_0.length : Int)) = true := decide_eq_true c4
   clear c4
   by_cases c5 : ((l0_0.length : Int) : Int).toNat ≤ 281474976710656
   · rw [if_pos c5] at H
     have c5b0 := eq_true c5
     have c5b1 : decide (((l0_0.length : Int) : Int).toNat ≤ 281474976710656) = true := decide_eq_true c5
     clear c5
     obtain ⟨y129, hy129⟩ : ∃ y_ : List Bool, y_ = (List.replicate ((l0_0.length : Int) : Int).toNat false) := ⟨_, rfl⟩
     replace H : (if a1 = a2 then (spec_l4Reach.j0 k a1 a2 y129 true l0_0 l0_1) else (if a1 < 0 then (spec_l4Reach.j0 k a1 a2 y129 true l0_0 l0_1) else (spec_l4Reach.j0 k a1 a2 y129 (decide (a1 ≥ (l0_0.length : Int))) l0_0 l0_1))) = some r := by first | (rw [hy129]; with_reducible exact H) | (have H2_ := (Option.bind_some _ _).symm.trans H; rw [hy129]; with_reducible exact H2_) | (have H2_ := (Option.bind_some _ _).symm.trans H; with_reducible exact H2_) | with_reducible exact H | (rw [hy129]; exact H) | exact H
     have Ny129 := Aside0.mk hy129
     clear hy129
     have HC6 := Aside0.mk H
     clear H
     go_enter Try.func46, Try.ntmps46
     go_upto_region 2 with (first | ((with_reducible refine gate_dst (N := 3) rfl ?_); (try (refine gate_guard (by rfl) ?_; dsimp only)); refine box_event ?hg (N := 3) ?hd (cs := #[.slice A0_0 l0_0.length c0_0, .slice A0_1 l0_1.length c0_1]) (t := 52) ?hr ?_; (case hd => rfl); (case hg => rfl); (case hr => first | (go_simp; done) | (go_simp; rfl)); intro gb128 hg w7 hbox hb; have n0_ := Aside0.mk (below_step (by repeat (first | (with_reducible first | exact HB.out | apply below_alloc | apply pw_below_drewN | apply below_drew1) | exact HB.out)) hb); have n1_ := Aside0.mk (hbox); have n2_ := Aside0.mk ((by rw [hg]; exact (below_size (by repeat (first | (with_reducible first | exact HB.out | apply below_alloc | apply pw_below_drewN | apply below_drew1) | exact HB.out))) : w.heap.size ≤ gb128)); have n3_ := Aside0.mk ((by rw [hg]; exact (below_size (by repeat (first | (with_reducible first | exact HB.out | apply below_alloc | apply pw_below_drewN | apply below_drew1) | exact HB.out))) : w.heap.size ≤ gb128)); clear HB; have HB := n0_; have BK128 := n1_; have GW128 := n2_; have GE128 := n3_; clear n0_ n1_ n2_ n3_; clear hb hbox hg; have hcz8_0 : w7.cell? ⟨gb128, 0, none⟩ = some (.slice A0_0 l0_0.length c0_0) := (blk_cell BK128.out 0).trans rfl; have hcz8_1 : w7.cell? ⟨gb128, 1, none⟩ = some (.slice A0_1 l0_1.length c0_1) := (blk_cell BK128.out 1).trans rfl; have hfz8_0 := blk_frozen BK128.out 0; have hfz8_1 := blk_frozen BK128.out 1) | ((with_reducible refine gate_dst (N := 15) rfl ?_); (try (refine gate_guard (by rfl) ?_; dsimp only)); refine Kd.R_make Kd.bool _ 4 rfl (N := 15) rfl 54 _ _ rfl (l0_0.length : Int) rfl rfl Try.underlying54 (.bool false) 1 info4 rfl (by decide) (by omega) false (ok := fun _ => True) (okp := fun _ => True) rfl (fun _ hk => hk) trivial (of_decide_eq_true (by first | (with_reducible assumption) | assumption)) (Nat.le_trans (Nat.mul_le_mul_right _ (of_decide_eq_true (by first | (with_reducible assumption) | assumption) : (l0_0.length : Int).toNat ≤ 281474976710656)) (by omega)) (Below.refl _ _) (Nat.le_refl _) ?_; intro v130 w9 ho10 hb hg_ hnew_; clear hg_ hnew_; (first | rw [← Ny129.out] at ho10 | (simp only [Int.reduceToNat] at ho10; rw [← Ny129.out] at ho10)); have n0_ := Aside0.mk (Kd.R_lower ho10 (below_size (by repeat (first | (with_reducible first | exact HB.out | apply below_alloc | apply pw_below_drewN | apply below_drew1 | refine below_set ?_ GE128.out) | exact HB.out)))); have n1_ := Aside0.mk (blk_below (g := gb128) (o := .cells #[.slice A0_0 l0_0.length c0_0, .slice A0_1 l0_1.length c0_1] 52 (0, 0)) (by (with_reducible repeat (first | refine blk_drewN ?_ _ | refine blk_drew ?_ | refine blk_alloc ?_ _)); exact BK128.out) hb); have n2_ := Aside0.mk (below_step (by repeat (first | (with_reducible first | exact HB.out | apply below_alloc | apply pw_below_drewN | apply below_drew1 | refine below_set ?_ GE128.out) | exact HB.out)) hb); clear BK128; clear HB; have HO131 := n0_; have BK128 := n1_; have HB := n2_; clear n0_ n1_ n2_; clear hb ho10))
     (try simp only [Act.put, List.setIfInBounds_toArray, List.set_cons_zero, List.set_cons_succ])
     go_cut [29] (fun v29 wc => ∃ (kq : Nat) (x29_5 : Bool), v29 = .bool x29_5 ∧ Aside0 (spec_l4Reach.j0 kq a1 a2 y129 x29_5 l0_0 l0_1 = some r) ∧ Aside0 (kq ≤ k) ∧ Aside0 (Kd.R Kd.bool 4 wc w.heap.size (fun _ => True) v130 y129) ∧ Aside0 (wc.heap[gb128]? = some (.cells #[(.slice A0_0 l0_0.length c0_0), (.slice A0_1 l0_1.length c0_1)] 52 (0, 0))) ∧ Aside0 (Below w.heap.size w wc))
     case first =>
      have H := HC6.out
      clear HC6
      by_cases c11 : a1 = a2
      · rw [if_pos c11] at H
        have c11b0 : (a1 == a2) = true := beq_iff_eq.mpr c11
        have c11b1 : (a1 != a2) = false := bne_eq_false_iff_eq.mpr c11
        clear c11
        (first | rw [c11b0] | (simp only [i64_w, i32_w]; rw [c11b0]) | skip)
        have H' := Aside0.mk H
        clear H
        go_wp2
        go_meet
        case rel => exact ⟨_, (true), (by first | rfl | (simp; done) | (simp [*]; done)), H', ⟨by first | omega | exact Nat.le_refl _⟩, ⟨by (with_reducible repeat (first | apply Kd.R_alloc | apply Kd.R_drewN | apply Kd.R_drew)); exact HO131.out⟩, ⟨by (with_reducible repeat (first | refine blk_drewN ?_ _ | refine blk_drew ?_ | refine blk_alloc ?_ _)); exact BK128.out⟩, ⟨by repeat (first | (with_reducible first | exact HB.out | apply below_alloc | apply pw_below_drewN | apply below_drew1 | refine below_set ?_ GE128.out) | exact HB.out)⟩⟩
      · rw [if_neg c11] at H
        have c11b0 : (a1 == a2) = false := beq_eq_false_iff_ne.mpr c11
        have c11b1 : (a1 != a2) = true := bne_iff_ne.mpr c11
        (first | rw [c11b0] | (simp only [i64_w, i32_w]; rw [c11b0]) | skip)
        by_cases c12 : a1 < 0
        · rw [if_pos c12] at H
          have c12b0 : decide (a1 < 0) = true := decide_eq_true c12
          clear c12
          have H' := Aside0.mk H
          clear H
          go_wp2
          go_meet
          case rel => exact ⟨_, (true), (by first | rfl | (simp; done) | (simp [*]; done)), H', ⟨by first | omega | exact Nat.le_refl _⟩, ⟨by (with_reducible repeat (first | apply Kd.R_alloc | apply Kd.R_drewN | apply Kd.R_drew)); exact HO131.out⟩, ⟨by (with_reducible repeat (first | refine blk_drewN ?_ _ | refine blk_drew ?_ | refine blk_alloc ?_ _)); exact BK128.out⟩, ⟨by repeat (first | (with_reducible first | exact HB.out | apply below_alloc | apply pw_below_drewN | apply below_drew1 | refine below_set ?_ GE128.out) | exact HB.out)⟩⟩
        · rw [if_neg c12] at H
          have c12b0 : decide (a1 < 0) = false := decide_eq_false c12
          clear c12
          have H' := Aside0.mk H
          clear H
          have hcz13_0 : w9.cell? ⟨gb128, 0, none⟩ = some (.slice A0_0 l0_0.length c0_0) := (blk_cell BK128.out 0).trans rfl
          have hcz13_1 : w9.cell? ⟨gb128, 1, none⟩ = some (.slice A0_1 l0_1.length c0_1) := (blk_cell BK128.out 1).trans rfl
          have hfz13_0 := blk_frozen BK128.out 0
          have hfz13_1 := blk_frozen BK128.out 1
          go_wp2
          go_meet
          case rel => exact ⟨_, (decide (a1 ≥ (l0_0.length : Int))), (by first | rfl | (simp; done) | (simp [*]; done)), H', ⟨by first | omega | exact Nat.le_refl _⟩, ⟨by (with_reducible repeat (first | apply Kd.R_alloc | apply Kd.R_drewN | apply Kd.R_drew)); exact HO131.out⟩, ⟨by (with_reducible repeat (first | refine blk_drewN ?_ _ | refine blk_drew ?_ | refine blk_alloc ?_ _)); exact BK128.out⟩, ⟨by repeat (first | (with_reducible first | exact HB.out | apply below_alloc | apply pw_below_drewN | apply below_drew1 | refine below_set ?_ GE128.out) | exact HB.out)⟩⟩
     case rest =>
      clear HC6
      try clear c1
      try clear p2
      try clear c4
      try clear c4b0
      try clear c4b1
      try clear c5
      try clear c5b0
      try clear c5b1
      try clear c11
      try clear c11b0
      try clear c11b1
      try clear c12
      try clear c12b0
      try clear hcz13_0
      try clear hcz13_1
      try clear hcz8_0
      try clear hcz8_1
      try clear hfz13_0
      try clear hfz13_1
      try clear hfz8_0
      try clear hfz8_1
      obtain ⟨kq, x29_5, rfl, HA, HJ5, HO_7, BK128, HB⟩ := hcut
      cases kq with
      | zero => exact absurd HA.out (by simp [spec_l4Reach.j0])
      | succ kj5 =>
       have H := HA.out
       clear HA
       simp only [spec_l4Reach.j0] at H
       by_cases c14 : x29_5 = true
       · subst c14
         have H1 : (some y129) = some r := by rw [if_pos rfl] at H; exact H
         clear H
         have H := H1
         clear H1
         obtain rfl := Option.some.inj H
         go_wp2
         go_ret
         exact ⟨_, by first | rfl | (simp [errW_none, errW_some] <;> rfl) | (simp [*, errW_none, errW_some] <;> rfl), by (with_reducible repeat (first | apply Kd.R_alloc | apply Kd.R_drewN | apply Kd.R_drew)); exact HO_7.out, by repeat (first | (with_reducible first | exact HB.out | apply below_alloc | apply pw_below_drewN | apply below_drew1 | refine below_set ?_ GE128.out) | exact HB.out)⟩
       · replace c14 := Bool.eq_false_iff.mpr c14
         subst c14
         have H1 : (if 0 ≤ a1 then (if a1 < (y129.length : Int) then (spec_l4Reach.l0 kj5 a2 (y129.set (a1 : Int).toNat true) (([a1] : List Int)) l0_0 l0_1) else (none)) else (none)) = some r := by rw [if_neg (show ¬ (false = true) by decide)] at H; exact H
         clear H
         have H := H1
         clear H1
         by_cases c15 : 0 ≤ a1
         · rw [if_pos c15] at H
           have c15b0 : decide (0 ≤ a1) = true := decide_eq_true c15
           clear c15
           by_cases c16 : a1 < (y129.length : Int)
           · rw [if_pos c16] at H
             have c16b0 : decide (a1 < (y129.length : Int)) = true := decide_eq_true c16
             clear c16
             obtain ⟨y132, hy132⟩ : ∃ y_ : List Bool, y_ = (y129.set (a1 : Int).toNat true) := ⟨_, rfl⟩
             replace H : (spec_l4Reach.l0 kj5 a2 y132 (([a1] : List Int)) l0_0 l0_1) = some r := by first | (rw [hy132]; with_reducible exact H) | (have H2_ := (Option.bind_some _ _).symm.trans H; rw [hy132]; with_reducible exact H2_) | (have H2_ := (Option.bind_some _ _).symm.trans H; with_reducible exact H2_) | with_reducible exact H | (rw [hy132]; exact H) | exact H
             have Ny132 := Aside0.mk hy132
             clear hy132
             obtain ⟨y133, hy133⟩ : ∃ y_ : List Int, y_ = (([a1] : List Int)) := ⟨_, rfl⟩
             replace H : (spec_l4Reach.l0 kj5 a2 y132 y133 l0_0 l0_1) = some r := by first | (rw [hy133]; with_reducible exact H) | (have H2_ := (Option.bind_some _ _).symm.trans H; rw [hy133]; with_reducible exact H2_) | (have H2_ := (Option.bind_some _ _).symm.trans H; with_reducible exact H2_) | with_reducible exact H | (rw [hy133]; exact H) | exact H
             have Ny133 := Aside0.mk hy133
             clear hy133
             have H' := Aside0.mk H
             clear H
             have p17 : 0 ≤ (a1 : Int) := of_decide_eq_true (by first | (with_reducible assumption) | assumption)
             have q17 : (a1 : Int) < ((y129.length : Int) : Int) := of_decide_eq_true (by first | (with_reducible assumption) | assumption)
             obtain ⟨go17, co17, eo17, gb17, gl17, cl17, HG17⟩ := Kd.R_form HO_7.out (by omega)
             (first | cases eo17 | (injection eo17 with ea_ en_ ec_; (first | subst ea_ | (injection ea_ with ea_; subst ea_)); subst ec_; clear en_))
             have GB17 := Aside0.mk gb17
             have GG17 := Aside0.mk HG17
             clear gb17 gl17 HG17
             obtain ⟨hx17_0, hf17_0⟩ := Kd.R_celln false HO_7.out (a1 : Int) p17 q17
             replace p17 := eq_true p17
             replace q17 := eq_true q17
             have HP18 := Kd.R_putg HO_7.out (a1 : Int) true
             go_wp2_with (first | ((with_reducible refine gate_store (t := 4) (p := 33) rfl ?_); refine store_event (t := 4) (p := 33) (v := ?vo_w19) (w1 := (wc.setCell ⟨go17, (a1 : Int).toNat, none⟩ (.bool true))) ?hg ?ho ?hn ?hr ?_; (case ho => rfl); (case hg => rfl); (case hn => rfl); (case hr => first | (go_simp; done) | (go_simp; rfl)); intro w19 hw; have hg : wc.grownBy w19 (some go17) := (by rw [hw]; exact HP18.2); have hp_ : Kd.R Kd.bool 4 w19 w.heap.size (fun _ => True) (.slice (some ⟨go17, 0, none⟩) y129.length co17) y132 := (by rw [hw, Ny132.out]; exact HP18.1); clear HP18; have n0_ := Aside0.mk (hp_); have n1_ := Aside0.mk (blk_grown (g := gb128) (o := .cells #[.slice A0_0 l0_0.length c0_0, .slice A0_1 l0_1.length c0_1] 52 (0, 0)) (by (with_reducible repeat (first | refine blk_drewN ?_ _ | refine blk_drew ?_ | refine blk_alloc ?_ _)); exact BK128.out) hg (Kd.R_ne HO_7.out BK128.out (by decide))); have n2_ := Aside0.mk ((by rw [hw]; exact below_set (HB.out) GB17.out : Below w.heap.size w w19)); clear HO_7; clear BK128; clear HB; have HO_7 := n0_; have BK128 := n1_; have HB := n2_; clear n0_ n1_ n2_; clear hg hw hp_) | ((with_reducible refine gate_dst (N := 35) rfl ?_); (try (refine gate_guard (by rfl) ?_; dsimp only)); refine Kd.R_lit (Kd.int .i64) _ 2 ?hg (N := 35) ?hd (xs := ([a1] : List Int)) (inner := [.int .i64 a1]) (ok := fun _ => True) (okp := fun _ => True) ?hr ?hp (fun _ hk => hk) trivial (Below.refl _ _) (Nat.le_refl _) (by simp) ?_; (case hd => rfl); (case hg => rfl); (case hr => first | (go_simp; done) | (go_simp; rfl)); (case hp => exact (Reps.one (show Kd.M (Kd.int .i64) _ _ _ a1 [.int .i64 a1] from rfl) (Reps.none _ _))); intro v134 w20 ho21 hb hg_ hnew_; clear hg_ hnew_; (first | rw [← Ny133.out] at ho21 | (simp only [Int.reduceToNat] at ho21; rw [← Ny133.out] at ho21)); have n0_ := Aside0.mk (Kd.R_below (by (with_reducible repeat (first | apply Kd.R_alloc | apply Kd.R_drewN | apply Kd.R_drew)); exact HO_7.out) hb); have n1_ := Aside0.mk (Kd.R_lower ho21 (below_size (by repeat (first | (with_reducible first | exact HB.out | apply below_alloc | apply pw_below_drewN | apply below_drew1 | refine below_set ?_ GE128.out) | exact HB.out)))); have n2_ := Aside0.mk (blk_below (g := gb128) (o := .cells #[.slice A0_0 l0_0.length c0_0, .slice A0_1 l0_1.length c0_1] 52 (0, 0)) (by (with_reducible repeat (first | refine blk_drewN ?_ _ | refine blk_drew ?_ | refine blk_alloc ?_ _)); exact BK128.out) hb); have n3_ := Aside0.mk (below_step (by repeat (first | (with_reducible first | exact HB.out | apply below_alloc | apply pw_below_drewN | apply below_drew1 | refine below_set ?_ GE128.out) | exact HB.out)) hb); clear HO_7; clear BK128; clear HB; have HO_7 := n0_; have HO135 := n1_; have BK128 := n2_; have HB := n3_; clear n0_ n1_ n2_ n3_; clear hb ho21))
             go_loopg [8] kj5 (fun kq v8 w' => ∃ (x7_2 : List Bool) (x8_2 : List Int), Aside0 (spec_l4Reach.l0 kq a2 x7_2 x8_2 l0_0 l0_1 = some r) ∧ Aside0 (kq ≤ kj5) ∧ Aside0 (Kd.R Kd.bool 4 w' w.heap.size (fun _ => True) (.slice (some ⟨go17, 0, none⟩) y129.length co17) x7_2) ∧ Aside0 (Kd.R (Kd.int .i64) 2 w' w.heap.size (fun _ => True) v8 x8_2) ∧ Aside0 (w'.heap[gb128]? = some (.cells #[(.slice A0_0 l0_0.length c0_0), (.slice A0_1 l0_1.length c0_1)] 52 (0, 0))) ∧ Aside0 (Below w.heap.size w w'))
             case atStart => exact ⟨(y132), (y133), H', ⟨Nat.le_refl _⟩, ⟨by (with_reducible repeat (first | apply Kd.R_alloc | apply Kd.R_drewN | apply Kd.R_drew)); exact HO_7.out⟩, ⟨by (with_reducible repeat (first | apply Kd.R_alloc | apply Kd.R_drewN | apply Kd.R_drew)); exact HO135.out⟩, ⟨by (with_reducible repeat (first | refine blk_drewN ?_ _ | refine blk_drew ?_ | refine blk_alloc ?_ _)); exact BK128.out⟩, ⟨by repeat (first | (with_reducible first | exact HB.out | apply below_alloc | apply pw_below_drewN | apply below_drew1 | refine below_set ?_ GE128.out) | exact HB.out)⟩⟩
             case round =>
              clear H'
              try clear c1
              try clear p1
              try clear q1
              try clear hx1
              try clear p2
              try clear c4
              try clear c4b0
              try clear c4b1
              try clear c5
              try clear c5b0
              try clear c5b1
              try clear c11
              try clear c11b0
              try clear c11b1
              try clear c12
              try clear c12b0
              try clear c14
              try clear c15
              try clear c15b0
              try clear c16
              try clear c16b0
              try clear p17
              try clear q17
              try clear hx17
              try clear hf17
              try clear hcz13_0
              try clear hcz13_1
              try clear hcz8_0
              try clear hcz8_1
              try clear hfz13_0
              try clear hfz13_1
              try clear hfz8_0
              try clear hfz8_1
              try clear hx17_0
              try clear p17
              try clear p2
              try clear q17
              obtain ⟨x7_2, x8_2, HA, HK2, HO_7, HO_8, BK128, HB⟩ := hrel
              have hl7_2 := (Kd.R_reads' HO_7.out).1
              rw [hl7_2] at HO_7
              (try simp only [hl7_2])
              (try simp only [hl7_2] at BK128)
              (try simp only [hl7_2] at HO_8)
              cases gk with
              | zero => exact absurd HA.out (by simp [spec_l4Reach.l0])
              | succ k2 =>
               have H := HA.out
               clear HA
               simp only [spec_l4Reach.l0] at H
               by_cases c22 : (x8_2.length : Int) > 0
               · rw [if_pos c22] at H
                 have c22b0 : decide (0 < (x8_2.length : Int)) = true := decide_eq_true c22
                 have c22b1 : decide (0 < x8_2.length) = true := decide_eq_true (by omega)
                 clear c22
                 obtain ⟨ji23, hji23⟩ : ∃ j_ : Int, (wrap64 ((x8_2.length : Int) - 1)) = j_ := ⟨_, rfl⟩
                 replace H : (if 0 ≤ (ji23) then (if (ji23) < (x8_2.length : Int) then (if (ji23) ≤ (x8_2.length : Int) then (spec_l4Reach.l1 k2 a2 x7_2 (x8_2.take ((ji23) : Int).toNat) (rd x8_2 (ji23)) 0 l0_0 l0_1) else (none)) else (none)) else (none)) = some r := by first | (rw [hji23] at H; exact H) | (simp only [hji23] at H ⊢; exact H)
                 have hji23w : (IntKind.i64.wrap ((x8_2.length : Int) - 1)) = ji23 := (i64_w _).trans hji23
                 by_cases c24 : 0 ≤ (ji23)
                 · rw [if_pos c24] at H
                   have c24b0 : decide (0 ≤ (ji23)) = true := decide_eq_true c24
                   clear c24
                   by_cases c25 : (ji23) < (x8_2.length : Int)
                   · rw [if_pos c25] at H
                     have c25b0 : decide ((ji23) < (x8_2.length : Int)) = true := decide_eq_true c25
                     clear c25
                     by_cases c26 : (ji23) ≤ (x8_2.length : Int)
                     · rw [if_pos c26] at H
                       have c26b0 := eq_true c26
                       have c26b1 : decide ((ji23) ≤ (x8_2.length : Int)) = true := decide_eq_true c26
                       clear c26
                       obtain ⟨y137, hy137⟩ : ∃ y_ : List Int, y_ = (x8_2.take ((ji23) : Int).toNat) := ⟨_, rfl⟩
                       replace H : (spec_l4Reach.l1 k2 a2 x7_2 y137 (rd x8_2 (ji23)) 0 l0_0 l0_1) = some r := by first | (rw [hy137]; with_reducible exact H) | (have H2_ := (Option.bind_some _ _).symm.trans H; rw [hy137]; with_reducible exact H2_) | (have H2_ := (Option.bind_some _ _).symm.trans H; with_reducible exact H2_) | with_reducible exact H | (rw [hy137]; exact H) | exact H
                       have Ny137 := Aside0.mk hy137
                       clear hy137
                       have H' := Aside0.mk H
                       clear H
                       obtain ⟨Ao27, co27, eo27⟩ := Kd.R_slice HO_8.out
                       subst eo27
                       have p136 : 0 ≤ ((ji23) : Int) := of_decide_eq_true (by first | (with_reducible assumption) | assumption)
                       have q136 : (ji23) < (x8_2.length : Int) := of_decide_eq_true (by first | (with_reducible assumption) | assumption)
                       obtain ⟨ad136, e136, hx136_0⟩ := Kd.at_int (Kd.R_reads' HO_8.out).2.2 (ji23) p136 q136
                       cases e136
                       replace p136 := eq_true p136
                       replace q136 := eq_true q136
                       have q28 : ((ji23) : Int) ≤ ((x8_2.length : Int) : Int) := of_decide_eq_true (by first | (with_reducible assumption) | assumption)
                       obtain ⟨i028, hi028, _, hsz28, _⟩ := info_parts info2
                       have hcut28 := cut_to (P := Try.prog) 22 2 .i64 Try.underlying22 hi028 (some ad136) x8_2.length co27 (ji23) (of_decide_eq_true (by first | (with_reducible assumption) | assumption)) q28 (Kd.R_reads' HO_8.out).2.1
                       have hr28 := Kd.R_take (m := ((ji23) : Int).toNat) HO_8.out (by omega)
                       have hy28 : y137.length = ((ji23) : Int).toNat := (by rw [Ny137.out, List.length_take]; omega)
                       rw [← Ny137.out] at hr28
                       rw [← hy28] at hr28 hcut28
                       clear hy28 hi028 hsz28 HO_8
                       have HO139 := Aside0.mk hr28
                       clear hr28
                       replace q28 := eq_true q28
                       go_wp2
                       go_loopg [8, 10] k2 (fun kq v8 v10 w' => ∃ (x7_3 : List Bool) (x8_3 : List Int) (x10_3 : Int), v10 = .int .i64 x10_3 ∧ Aside0 (spec_l4Reach.l1 kq a2 x7_3 x8_3 (rd x8_2 (ji23)) x10_3 l0_0 l0_1 = some r) ∧ Aside0 (kq ≤ k2) ∧ Aside0 (Kd.R Kd.bool 4 w' w.heap.size (fun _ => True) (.slice (some ⟨go17, 0, none⟩) x7_2.length co17) x7_3) ∧ Aside0 (Kd.R (Kd.int .i64) 2 w' w.heap.size (fun _ => True) v8 x8_3) ∧ Aside0 (w'.heap[gb128]? = some (.cells #[(.slice A0_0 l0_0.length c0_0), (.slice A0_1 l0_1.length c0_1)] 52 (0, 0))) ∧ Aside0 (Below w.heap.size w w'))
                       case atStart => exact ⟨(x7_2), (y137), (0), (by first | rfl | (simp; done) | (simp [*]; done)), H', ⟨Nat.le_refl _⟩, ⟨by (try simp only [hl7_2]); (with_reducible repeat (first | apply Kd.R_alloc | apply Kd.R_drewN | apply Kd.R_drew)); exact HO_7.out⟩, ⟨by (try simp only [hl7_2]); (with_reducible repeat (first | apply Kd.R_alloc | apply Kd.R_drewN | apply Kd.R_drew)); exact HO139.out⟩, ⟨by (try simp only [hl7_2]); (with_reducible repeat (first | refine blk_drewN ?_ _ | refine blk_drew ?_ | refine blk_alloc ?_ _)); exact BK128.out⟩, ⟨by repeat (first | (with_reducible first | exact HB.out | apply below_alloc | apply pw_below_drewN | apply below_drew1 | refine below_set ?_ GE128.out) | exact HB.out)⟩⟩
                       case round =>
                        clear H'
                        try clear c1
                        try clear p1
                        try clear q1
                        try clear hx1
                        try clear c2
                        try clear p2
                        try clear q2
                        try clear c4
                        try clear c4b0
                        try clear c4b1
                        try clear c5
                        try clear c5b0
                        try clear c5b1
                        try clear p6
                        try clear c11
                        try clear c11b0
                        try clear c11b1
                        try clear c12
                        try clear c12b0
                        try clear p13
                        try clear q13
                        try clear hx13
                        try clear c14
                        try clear c15
                        try clear c15b0
                        try clear c16
                        try clear c16b0
                        try clear p17
                        try clear q17
                        try clear hx17
                        try clear hf17
                        try clear c22
                        try clear c22b0
                        try clear c22b1
                        try clear c24
                        try clear c24b0
                        try clear c25
                        try clear c25b0
                        try clear c26
                        try clear c26b0
                        try clear c26b1
                        try clear q28
                        try clear hcz13_0
                        try clear hcz13_1
                        try clear hcz8_0
                        try clear hcz8_1
                        try clear hfz13_0
                        try clear hfz13_1
                        try clear hfz8_0
                        try clear hfz8_1
                        try clear hx136_0
                        try clear hx17_0
                        try clear p1
                        try clear p136
                        try clear p17
                        try clear p2
                        try clear q1
                        try clear q136
                        try clear q17
                        try clear q28
                        obtain ⟨x7_3, x8_3, x10_3, rfl, HA, HK3, HO_7, HO_8, BK128, HB⟩ := hrel
                        have hl7_3 := (Kd.R_reads' HO_7.out).1
                        rw [hl7_3] at HO_7
                        (try simp only [hl7_3])
                        (try simp only [hl7_3] at BK128)
                        (try simp only [hl7_3] at HO_8)
                        cases gk with
                        | zero => exact absurd HA.out (by simp [spec_l4Reach.l1])
                        | succ k3 =>
                         have H := HA.out
                         clear HA
                         simp only [spec_l4Reach.l1] at H
                         by_cases c29 : 0 ≤ (rd x8_2 (ji23))
                         · rw [if_pos c29] at H
                           have c29b0 : decide (0 ≤ (rd x8_2 (ji23))) = true := decide_eq_true c29
                           clear c29
                           by_cases c30 : (rd x8_2 (ji23)) < (l0_0.length : Int)
                           · rw [if_pos c30] at H
                             have c30b0 : decide ((rd x8_2 (ji23)) < (l0_0.length : Int)) = true := decide_eq_true c30
                             clear c30
                             by_cases c31 : x10_3 < ((rd_L4 l0_0 (rd x8_2 (ji23))).length : Int)
                             · rw [if_pos c31] at H
                               have c31b0 : decide (x10_3 < ((rd_L4 l0_0 (rd x8_2 (ji23))).length : Int)) = true := decide_eq_true c31
                               clear c31
                               by_cases c32 : 0 ≤ x10_3
                               · rw [if_pos c32] at H
                                 have c32b0 : decide (0 ≤ x10_3) = true := decide_eq_true c32
                                 clear c32
                                 by_cases c33 : (rd (rd_L4 l0_0 (rd x8_2 (ji23))) x10_3) = a2
                                 · rw [if_pos c33] at H
                                   have c33b0 : ((rd (rd_L4 l0_0 (rd x8_2 (ji23))) x10_3) == a2) = true := beq_iff_eq.mpr c33
                                   have c33b1 : ((rd (rd_L4 l0_0 (rd x8_2 (ji23))) x10_3) != a2) = false := bne_eq_false_iff_eq.mpr c33
                                   clear c33
                                   have H' := Aside0.mk H
                                   clear H
                                   have hcz34_0 : wr.cell? ⟨gb128, 0, none⟩ = some (.slice A0_0 l0_0.length c0_0) := (blk_cell BK128.out 0).trans rfl
                                   have hcz34_1 : wr.cell? ⟨gb128, 1, none⟩ = some (.slice A0_1 l0_1.length c0_1) := (blk_cell BK128.out 1).trans rfl
                                   have hfz34_0 := blk_frozen BK128.out 0
                                   have hfz34_1 := blk_frozen BK128.out 1
                                   have p140 : 0 ≤ ((rd x8_2 (ji23)) : Int) := of_decide_eq_true (by first | (with_reducible assumption) | assumption)
                                   have q140 : (rd x8_2 (ji23)) < (l0_0.length : Int) := of_decide_eq_true (by first | (with_reducible assumption) | assumption)
                                   obtain ⟨ad140, A140_0, c140_0, e140, hx140_0, hl140_0, hi140_0⟩ := at_L4 HR0_0.out (rd x8_2 (ji23)) p140 q140
                                   cases e140
                                   replace hx140_0 := (HB.out.cell (World.block_lt_of_cell? w _ hx140_0)).trans hx140_0
                                   have HR140_0 := Aside0.mk hi140_0
                                   have HC140_0 := Aside0.mk hl140_0
                                   clear hi140_0 hl140_0
                                   replace p140 := eq_true p140
                                   replace q140 := eq_true q140
                                   have p141 : 0 ≤ ((rd x8_2 (ji23)) : Int) := of_decide_eq_true (by first | (with_reducible assumption) | assumption)
                                   have q141 : (rd x8_2 (ji23)) < (l0_0.length : Int) := of_decide_eq_true (by first | (with_reducible assumption) | assumption)
                                   obtain ⟨ad141, A141_0, c141_0, e141, hx141_0, hl141_0, hi141_0⟩ := at_L4 HR0_0.out (rd x8_2 (ji23)) p141 q141
                                   obtain rfl : ad140 = ad141 := (by injection e141)
                                   replace hx141_0 := (HB.out.cell (World.block_lt_of_cell? w _ hx141_0)).trans hx141_0
                                   have HR141_0 := Aside0.mk hi141_0
                                   have HC141_0 := Aside0.mk hl141_0
                                   clear hi141_0 hl141_0
                                   replace p141 := eq_true p141
                                   replace q141 := eq_true q141
                                   have ea_ := Option.some.inj (hx140_0.symm.trans hx141_0)
                                   injection ea_ with ea_ en_ ec_
                                   subst ea_
                                   subst ec_
                                   clear en_
                                   have p142 : 0 ≤ (x10_3 : Int) := of_decide_eq_true (by first | (with_reducible assumption) | assumption)
                                   have q142 : x10_3 < ((rd_L4 l0_0 (rd x8_2 (ji23))).length : Int) := of_decide_eq_true (by first | (with_reducible assumption) | assumption)
                                   obtain ⟨ad142, e142, hx142_0⟩ := Kd.at_int HR141_0.out x10_3 p142 q142
                                   cases e142
                                   replace hx142_0 := (HB.out.cell (World.block_lt_of_cell? w _ hx142_0)).trans hx142_0
                                   replace p142 := eq_true p142
                                   replace q142 := eq_true q142
                                   go_wp2
                                   (try simp only [← hl7_3])
                                   go_roundg k3
                                   case measure => have := HJ5.out; have := HK2.out; have := HK3.out; omega
                                   case rel => exact ⟨(x7_3), (x8_3), (wrap64 (x10_3 + 1)), (by first | rfl | (simp; done) | (simp [*]; done)), H', ⟨by have := HJ5.out; have := HK2.out; have := HK3.out; omega⟩, ⟨by (try simp only [hl7_2]); (try simp only [hl7_3]); (with_reducible repeat (first | apply Kd.R_alloc | apply Kd.R_drewN | apply Kd.R_drew)); exact HO_7.out⟩, ⟨by (try simp only [hl7_2]); (try simp only [hl7_3]); (with_reducible repeat (first | apply Kd.R_alloc | apply Kd.R_drewN | apply Kd.R_drew)); exact HO_8.out⟩, ⟨by (try simp only [hl7_2]); (try simp only [hl7_3]); (with_reducible repeat (first | refine blk_drewN ?_ _ | refine blk_drew ?_ | refine blk_alloc ?_ _)); exact BK128.out⟩, ⟨by repeat (first | (with_reducible first | exact HB.out | apply below_alloc | apply pw_below_drewN | apply below_drew1 | refine below_set ?_ GE128.out) | exact HB.out)⟩⟩
                                 · rw [if_neg c33] at H
                                   have c33b0 : ((rd (rd_L4 l0_0 (rd x8_2 (ji23))) x10_3) == a2) = false := beq_eq_false_iff_ne.mpr c33
                                   have c33b1 : ((rd (rd_L4 l0_0 (rd x8_2 (ji23))) x10_3) != a2) = true := bne_iff_ne.mpr c33
                                   by_cases c35 : 0 ≤ (rd (rd_L4 l0_0 (rd x8_2 (ji23))) x10_3)
                                   · rw [if_pos c35] at H
                                     have c35b0 : decide (0 ≤ (rd (rd_L4 l0_0 (rd x8_2 (ji23))) x10_3)) = true := decide_eq_true c35
                                     clear c35
                                     by_cases c36 : (rd (rd_L4 l0_0 (rd x8_2 (ji23))) x10_3) < (x7_3.length : Int)
                                     · rw [if_pos c36] at H
                                       have c36b0 : decide ((rd (rd_L4 l0_0 (rd x8_2 (ji23))) x10_3) < (x7_3.length : Int)) = true := decide_eq_true c36
                                       clear c36
                                       obtain ⟨bq37, hbq37⟩ : ∃ b_ : Bool, b_ = (rdOf false x7_3 (rd (rd_L4 l0_0 (rd x8_2 (ji23))) x10_3)) := ⟨_, rfl⟩
                                       replace H : (if (bq37 = true) then (spec_l4Reach.l1 k3 a2 x7_3 x8_3 (rd x8_2 (ji23)) (wrap64 (x10_3 + 1)) l0_0 l0_1) else (if x8_3.length < 17592186044416 then (spec_l4Reach.l1 k3 a2 (x7_3.set ((rd (rd_L4 l0_0 (rd x8_2 (ji23))) x10_3) : Int).toNat true) (x8_3 ++ [rd (rd_L4 l0_0 (rd x8_2 (ji23))) x10_3]) (rd x8_2 (ji23)) (wrap64 (x10_3 + 1)) l0_0 l0_1) else (none))) = some r := by rw [← hbq37] at H; exact H
                                       have Nbq37 := Aside0.mk hbq37
                                       clear hbq37
                                       by_cases c38 : (bq37 = true)
                                       · subst c38
                                         have H1 : (spec_l4Reach.l1 k3 a2 x7_3 x8_3 (rd x8_2 (ji23)) (wrap64 (x10_3 + 1)) l0_0 l0_1) = some r := by rw [if_pos rfl] at H; exact H
                                         clear H
                                         have H := H1
                                         clear H1
                                         have H' := Aside0.mk H
                                         clear H
                                         have hcz39_0 : wr.cell? ⟨gb128, 0, none⟩ = some (.slice A0_0 l0_0.length c0_0) := (blk_cell BK128.out 0).trans rfl
                                         have hcz39_1 : wr.cell? ⟨gb128, 1, none⟩ = some (.slice A0_1 l0_1.length c0_1) := (blk_cell BK128.out 1).trans rfl
                                         have hfz39_0 := blk_frozen BK128.out 0
                                         have hfz39_1 := blk_frozen BK128.out 1
                                         have p140 : 0 ≤ ((rd x8_2 (ji23)) : Int) := of_decide_eq_true (by first | (with_reducible assumption) | assumption)
                                         have q140 : (rd x8_2 (ji23)) < (l0_0.length : Int) := of_decide_eq_true (by first | (with_reducible assumption) | assumption)
                                         obtain ⟨ad140, A140_0, c140_0, e140, hx140_0, hl140_0, hi140_0⟩ := at_L4 HR0_0.out (rd x8_2 (ji23)) p140 q140
                                         cases e140
                                         replace hx140_0 := (HB.out.cell (World.block_lt_of_cell? w _ hx140_0)).trans hx140_0
                                         have HR140_0 := Aside0.mk hi140_0
                                         have HC140_0 := Aside0.mk hl140_0
                                         clear hi140_0 hl140_0
                                         replace p140 := eq_true p140
                                         replace q140 := eq_true q140
                                         have p141 : 0 ≤ ((rd x8_2 (ji23)) : Int) := of_decide_eq_true (by first | (with_reducible assumption) | assumption)
                                         have q141 : (rd x8_2 (ji23)) < (l0_0.length : Int) := of_decide_eq_true (by first | (with_reducible assumption) | assumption)
                                         obtain ⟨ad141, A141_0, c141_0, e141, hx141_0, hl141_0, hi141_0⟩ := at_L4 HR0_0.out (rd x8_2 (ji23)) p141 q141
                                         obtain rfl : ad140 = ad141 := (by injection e141)
                                         replace hx141_0 := (HB.out.cell (World.block_lt_of_cell? w _ hx141_0)).trans hx141_0
                                         have HR141_0 := Aside0.mk hi141_0
                                         have HC141_0 := Aside0.mk hl141_0
                                         clear hi141_0 hl141_0
                                         replace p141 := eq_true p141
                                         replace q141 := eq_true q141
                                         have ea_ := Option.some.inj (hx140_0.symm.trans hx141_0)
                                         injection ea_ with ea_ en_ ec_
                                         subst ea_
                                         subst ec_
                                         clear en_
                                         have p142 : 0 ≤ (x10_3 : Int) := of_decide_eq_true (by first | (with_reducible assumption) | assumption)
                                         have q142 : x10_3 < ((rd_L4 l0_0 (rd x8_2 (ji23))).length : Int) := of_decide_eq_true (by first | (with_reducible assumption) | assumption)
                                         obtain ⟨ad142, e142, hx142_0⟩ := Kd.at_int HR141_0.out x10_3 p142 q142
                                         cases e142
                                         replace hx142_0 := (HB.out.cell (World.block_lt_of_cell? w _ hx142_0)).trans hx142_0
                                         replace p142 := eq_true p142
                                         replace q142 := eq_true q142
                                         have p143 : 0 ≤ ((rd (rd_L4 l0_0 (rd x8_2 (ji23))) x10_3) : Int) := of_decide_eq_true (by first | (with_reducible assumption) | assumption)
                                         have q143 : (rd (rd_L4 l0_0 (rd x8_2 (ji23))) x10_3) < (x7_3.length : Int) := of_decide_eq_true (by first | (with_reducible assumption) | assumption)
                                         obtain ⟨ad143, e143, hx143_0⟩ := Kd.at_bool (Kd.R_reads' HO_7.out).2.2 (rd (rd_L4 l0_0 (rd x8_2 (ji23))) x10_3) p143 q143
                                         (try rw [← Nbq37.out] at hx143_0)
                                         obtain rfl : (⟨go17, 0, none⟩ : Addr) = ad143 := (by injection e143)
                                         (first | simp only [add_plain] at hx143_0 | simp only [add_at] at hx143_0 | simp only [Addr.add, Nat.zero_add] at hx143_0 | skip)
                                         replace p143 := eq_true p143
                                         replace q143 := eq_true q143
                                         go_wp2
                                         (try simp only [← hl7_3])
                                         go_roundg k3
                                         case measure => have := HJ5.out; have := HK2.out; have := HK3.out; omega
                                         case rel => exact ⟨(x7_3), (x8_3), (wrap64 (x10_3 + 1)), (by first | rfl | (simp; done) | (simp [*]; done)), H', ⟨by have := HJ5.out; have := HK2.out; have := HK3.out; omega⟩, ⟨by (try simp only [hl7_2]); (try simp only [hl7_3]); (with_reducible repeat (first | apply Kd.R_alloc | apply Kd.R_drewN | apply Kd.R_drew)); exact HO_7.out⟩, ⟨by (try simp only [hl7_2]); (try simp only [hl7_3]); (with_reducible repeat (first | apply Kd.R_alloc | apply Kd.R_drewN | apply Kd.R_drew)); exact HO_8.out⟩, ⟨by (try simp only [hl7_2]); (try simp only [hl7_3]); (with_reducible repeat (first | refine blk_drewN ?_ _ | refine blk_drew ?_ | refine blk_alloc ?_ _)); exact BK128.out⟩, ⟨by repeat (first | (with_reducible first | exact HB.out | apply below_alloc | apply pw_below_drewN | apply below_drew1 | refine below_set ?_ GE128.out) | exact HB.out)⟩⟩
                                       · replace c38 := Bool.eq_false_iff.mpr c38
                                         subst c38
                                         have H1 : (if x8_3.length < 17592186044416 then (spec_l4Reach.l1 k3 a2 (x7_3.set ((rd (rd_L4 l0_0 (rd x8_2 (ji23))) x10_3) : Int).toNat true) (x8_3 ++ [rd (rd_L4 l0_0 (rd x8_2 (ji23))) x10_3]) (rd x8_2 (ji23)) (wrap64 (x10_3 + 1)) l0_0 l0_1) else (none)) = some r := by rw [if_neg (show ¬ (false = true) by decide)] at H; exact H
                                         clear H
                                         have H := H1
                                         clear H1
                                         obtain ⟨y144, hy144⟩ : ∃ y_ : List Bool, y_ = (x7_3.set ((rd (rd_L4 l0_0 (rd x8_2 (ji23))) x10_3) : Int).toNat true) := ⟨_, rfl⟩
                                         replace H : (if x8_3.length < 17592186044416 then (spec_l4Reach.l1 k3 a2 y144 (x8_3 ++ [rd (rd_L4 l0_0 (rd x8_2 (ji23))) x10_3]) (rd x8_2 (ji23)) (wrap64 (x10_3 + 1)) l0_0 l0_1) else (none)) = some r := by first | (rw [hy144]; with_reducible exact H) | (have H2_ := (Option.bind_some _ _).symm.trans H; rw [hy144]; with_reducible exact H2_) | (have H2_ := (Option.bind_some _ _).symm.trans H; with_reducible exact H2_) | with_reducible exact H | (rw [hy144]; exact H) | exact H
                                         have Ny144 := Aside0.mk hy144
                                         clear hy144
                                         by_cases c41 : x8_3.length < 17592186044416
                                         · rw [if_pos c41] at H
                                           have LMc41 := Aside0.mk c41
                                           clear c41
                                           obtain ⟨y145, hy145⟩ : ∃ y_ : List Int, y_ = (x8_3 ++ [rd (rd_L4 l0_0 (rd x8_2 (ji23))) x10_3]) := ⟨_, rfl⟩
                                           replace H : (spec_l4Reach.l1 k3 a2 y144 y145 (rd x8_2 (ji23)) (wrap64 (x10_3 + 1)) l0_0 l0_1) = some r := by first | (rw [hy145]; with_reducible exact H) | (have H2_ := (Option.bind_some _ _).symm.trans H; rw [hy145]; with_reducible exact H2_) | (have H2_ := (Option.bind_some _ _).symm.trans H; with_reducible exact H2_) | with_reducible exact H | (rw [hy145]; exact H) | exact H
                                           have Ny145 := Aside0.mk hy145
                                           clear hy145
                                           have H' := Aside0.mk H
                                           clear H
                                           have hcz42_0 : wr.cell? ⟨gb128, 0, none⟩ = some (.slice A0_0 l0_0.length c0_0) := (blk_cell BK128.out 0).trans rfl
                                           have hcz42_1 : wr.cell? ⟨gb128, 1, none⟩ = some (.slice A0_1 l0_1.length c0_1) := (blk_cell BK128.out 1).trans rfl
                                           have hfz42_0 := blk_frozen BK128.out 0
                                           have hfz42_1 := blk_frozen BK128.out 1
                                           have p140 : 0 ≤ ((rd x8_2 (ji23)) : Int) := of_decide_eq_true (by first | (with_reducible assumption) | assumption)
                                           have q140 : (rd x8_2 (ji23)) < (l0_0.length : Int) := of_decide_eq_true (by first | (with_reducible assumption) | assumption)
                                           obtain ⟨ad140, A140_0, c140_0, e140, hx140_0, hl140_0, hi140_0⟩ := at_L4 HR0_0.out (rd x8_2 (ji23)) p140 q140
                                           cases e140
                                           replace hx140_0 := (HB.out.cell (World.block_lt_of_cell? w _ hx140_0)).trans hx140_0
                                           have HR140_0 := Aside0.mk hi140_0
                                           have HC140_0 := Aside0.mk hl140_0
                                           clear hi140_0 hl140_0
                                           replace p140 := eq_true p140
                                           replace q140 := eq_true q140
                                           have p141 : 0 ≤ ((rd x8_2 (ji23)) : Int) := of_decide_eq_true (by first | (with_reducible assumption) | assumption)
                                           have q141 : (rd x8_2 (ji23)) < (l0_0.length : Int) := of_decide_eq_true (by first | (with_reducible assumption) | assumption)
                                           obtain ⟨ad141, A141_0, c141_0, e141, hx141_0, hl141_0, hi141_0⟩ := at_L4 HR0_0.out (rd x8_2 (ji23)) p141 q141
                                           obtain rfl : ad140 = ad141 := (by injection e141)
                                           replace hx141_0 := (HB.out.cell (World.block_lt_of_cell? w _ hx141_0)).trans hx141_0
                                           have HR141_0 := Aside0.mk hi141_0
                                           have HC141_0 := Aside0.mk hl141_0
                                           clear hi141_0 hl141_0
                                           replace p141 := eq_true p141
                                           replace q141 := eq_true q141
                                           have ea_ := Option.some.inj (hx140_0.symm.trans hx141_0)
                                           injection ea_ with ea_ en_ ec_
                                           subst ea_
                                           subst ec_
                                           clear en_
                                           have p142 : 0 ≤ (x10_3 : Int) := of_decide_eq_true (by first | (with_reducible assumption) | assumption)
                                           have q142 : x10_3 < ((rd_L4 l0_0 (rd x8_2 (ji23))).length : Int) := of_decide_eq_true (by first | (with_reducible assumption) | assumption)
                                           obtain ⟨ad142, e142, hx142_0⟩ := Kd.at_int HR141_0.out x10_3 p142 q142
                                           cases e142
                                           replace hx142_0 := (HB.out.cell (World.block_lt_of_cell? w _ hx142_0)).trans hx142_0
                                           replace p142 := eq_true p142
                                           replace q142 := eq_true q142
                                           have p143 : 0 ≤ ((rd (rd_L4 l0_0 (rd x8_2 (ji23))) x10_3) : Int) := of_decide_eq_true (by first | (with_reducible assumption) | assumption)
                                           have q143 : (rd (rd_L4 l0_0 (rd x8_2 (ji23))) x10_3) < (x7_3.length : Int) := of_decide_eq_true (by first | (with_reducible assumption) | assumption)
                                           obtain ⟨ad143, e143, hx143_0⟩ := Kd.at_bool (Kd.R_reads' HO_7.out).2.2 (rd (rd_L4 l0_0 (rd x8_2 (ji23))) x10_3) p143 q143
                                           (try rw [← Nbq37.out] at hx143_0)
                                           obtain rfl : (⟨go17, 0, none⟩ : Addr) = ad143 := (by injection e143)
                                           (first | simp only [add_plain] at hx143_0 | simp only [add_at] at hx143_0 | simp only [Addr.add, Nat.zero_add] at hx143_0 | skip)
                                           replace p143 := eq_true p143
                                           replace q143 := eq_true q143
                                           have p40 : 0 ≤ ((rd (rd_L4 l0_0 (rd x8_2 (ji23))) x10_3) : Int) := of_decide_eq_true (by first | (with_reducible assumption) | assumption)
                                           have q40 : ((rd (rd_L4 l0_0 (rd x8_2 (ji23))) x10_3) : Int) < ((x7_3.length : Int) : Int) := of_decide_eq_true (by first | (with_reducible assumption) | assumption)
                                           obtain ⟨hx40_0, hf40_0⟩ := Kd.R_celln false HO_7.out ((rd (rd_L4 l0_0 (rd x8_2 (ji23))) x10_3) : Int) p40 q40
                                           replace p40 := eq_true p40
                                           replace q40 := eq_true q40
                                           have HP43 := Kd.R_putg HO_7.out ((rd (rd_L4 l0_0 (rd x8_2 (ji23))) x10_3) : Int) true
                                           go_wp2_with (first | ((with_reducible refine gate_store (t := 4) (p := 80) rfl ?_); refine store_event (t := 4) (p := 80) (v := ?vo_w44) (w1 := (wr.setCell ⟨go17, ((rd (rd_L4 l0_0 (rd x8_2 (ji23))) x10_3) : Int).toNat, none⟩ (.bool true))) ?hg ?ho ?hn ?hr ?_; (case ho => rfl); (case hg => rfl); (case hn => rfl); (case hr => first | (go_simp; done) | (go_simp; rfl)); intro w44 hw; have hg : wr.grownBy w44 (some go17) := (by rw [hw]; exact HP43.2); have hp_ : Kd.R Kd.bool 4 w44 w.heap.size (fun _ => True) (.slice (some ⟨go17, 0, none⟩) x7_3.length co17) y144 := (by rw [hw, Ny144.out]; exact HP43.1); clear HP43; have n0_ := Aside0.mk (hp_); have n1_ := Aside0.mk (Kd.R_over' (v := (.slice (some ⟨go17, 0, none⟩) x7_3.length co17)) (by (with_reducible repeat (first | apply Kd.R_alloc | apply Kd.R_drewN | apply Kd.R_drew)); exact HO_8.out) (Kd.R_typed HO_7.out) (by decide) hg); have n2_ := Aside0.mk (blk_grown (g := gb128) (o := .cells #[.slice (some ad140) l0_0.length c0_0, .slice A0_1 l0_1.length c0_1] 52 (0, 0)) (by (with_reducible repeat (first | refine blk_drewN ?_ _ | refine blk_drew ?_ | refine blk_alloc ?_ _)); exact BK128.out) hg (Kd.R_ne HO_7.out BK128.out (by decide))); have n3_ := Aside0.mk ((by rw [hw]; exact below_set (HB.out) GB17.out : Below w.heap.size w w44)); clear HO_7; clear HO_8; clear BK128; clear HB; have HO_7 := n0_; have HO_8 := n1_; have BK128 := n2_; have HB := n3_; clear n0_ n1_ n2_ n3_; clear hg hw hp_) | ((with_reducible refine gate_builtin (b := .append) (xs := #[.tmp 81, .tmp 83]) rfl ?_); (try (refine gate_guard (by rfl) ?_; dsimp only)); at_builtin; refine Kd.R_append (Kd.int .i64) (w0 := w) w.heap.size rfl (.tmp 81) (.tmp 83) 22 2 (.int .i64 0) 8 rfl Try.underlying22 info2 rfl (by decide) (by omega) u8 x8_3 (rd (rd_L4 l0_0 (rd x8_2 (ji23))) x10_3) [.int .i64 (rd (rd_L4 l0_0 (rd x8_2 (ji23))) x10_3)] (fun _ => True) (fun _ => False) rfl rfl ?aP (fun _ hk => hk.elim) ?aF ?aO ?aB ?aS ?aL ?_; (case aP => exact rfl); (case aB => exact (by repeat (first | (with_reducible first | exact HB.out | apply below_alloc | apply pw_below_drewN | apply below_drew1 | refine below_set ?_ GE128.out) | exact HB.out))); (case aF => exact (fun _ _ => trivial)); (case aO => exact (by (with_reducible repeat (first | apply Kd.R_alloc | apply Kd.R_drewN | apply Kd.R_drew)); exact HO_8.out)); (case aS => exact (below_size (by repeat (first | (with_reducible first | exact HB.out | apply below_alloc | apply pw_below_drewN | apply below_drew1 | refine below_set ?_ GE128.out) | exact HB.out)))); (case aL => have := LMc41.out; omega); intro v146 w45 ho hb hg hat; rw [← Ny145.out] at ho; have n0_ := Aside0.mk (Kd.R_over' (by (with_reducible repeat (first | apply Kd.R_alloc | apply Kd.R_drewN | apply Kd.R_drew)); exact HO_7.out) (Kd.R_typed (by (with_reducible repeat (first | apply Kd.R_alloc | apply Kd.R_drewN | apply Kd.R_drew)); exact HO_8.out)) (by decide) hg); have n1_ := Aside0.mk (blk_grown (g := gb128) (o := .cells #[.slice (some ad140) l0_0.length c0_0, .slice A0_1 l0_1.length c0_1] 52 (0, 0)) (by (with_reducible repeat (first | refine blk_drewN ?_ _ | refine blk_drew ?_ | refine blk_alloc ?_ _)); exact BK128.out) hg (Kd.R_ne HO_8.out BK128.out (by decide))); have n2_ := Aside0.mk (hb); have n3_ := Aside0.mk (ho); clear HO_7; clear BK128; clear HB; clear HO_8; have HO_7 := n0_; have BK128 := n1_; have HB := n2_; have HO147 := n3_; clear n0_ n1_ n2_ n3_; clear ho hb hg hat))
                                           (try simp only [← hl7_3])
                                           go_roundg k3
                                           case measure => have := HJ5.out; have := HK2.out; have := HK3.out; omega
                                           case rel => exact ⟨(y144), (y145), (wrap64 (x10_3 + 1)), (by first | rfl | (simp; done) | (simp [*]; done)), H', ⟨by have := HJ5.out; have := HK2.out; have := HK3.out; omega⟩, ⟨by (try simp only [hl7_2]); (try simp only [hl7_3]); (with_reducible repeat (first | apply Kd.R_alloc | apply Kd.R_drewN | apply Kd.R_drew)); exact HO_7.out⟩, ⟨by (try simp only [hl7_2]); (try simp only [hl7_3]); (with_reducible repeat (first | apply Kd.R_alloc | apply Kd.R_drewN | apply Kd.R_drew)); exact HO147.out⟩, ⟨by (try simp only [hl7_2]); (try simp only [hl7_3]); (with_reducible repeat (first | refine blk_drewN ?_ _ | refine blk_drew ?_ | refine blk_alloc ?_ _)); exact BK128.out⟩, ⟨by repeat (first | (with_reducible first | exact HB.out | apply below_alloc | apply pw_below_drewN | apply below_drew1 | refine below_set ?_ GE128.out) | exact HB.out)⟩⟩
                                         · rw [if_neg c41] at H
                                           exact absurd H (by simp)
                                     · rw [if_neg c36] at H
                                       exact absurd H (by simp)
                                   · rw [if_neg c35] at H
                                     exact absurd H (by simp)
                               · rw [if_neg c32] at H
                                 exact absurd H (by simp)
                             · rw [if_neg c31] at H
                               have c31b0 : decide (x10_3 < ((rd_L4 l0_0 (rd x8_2 (ji23))).length : Int)) = false := decide_eq_false c31
                               clear c31
                               have H' := Aside0.mk H
                               clear H
                               have hcz46_0 : wr.cell? ⟨gb128, 0, none⟩ = some (.slice A0_0 l0_0.length c0_0) := (blk_cell BK128.out 0).trans rfl
                               have hcz46_1 : wr.cell? ⟨gb128, 1, none⟩ = some (.slice A0_1 l0_1.length c0_1) := (blk_cell BK128.out 1).trans rfl
                               have hfz46_0 := blk_frozen BK128.out 0
                               have hfz46_1 := blk_frozen BK128.out 1
                               have p140 : 0 ≤ ((rd x8_2 (ji23)) : Int) := of_decide_eq_true (by first | (with_reducible assumption) | assumption)
                               have q140 : (rd x8_2 (ji23)) < (l0_0.length : Int) := of_decide_eq_true (by first | (with_reducible assumption) | assumption)
                               obtain ⟨ad140, A140_0, c140_0, e140, hx140_0, hl140_0, hi140_0⟩ := at_L4 HR0_0.out (rd x8_2 (ji23)) p140 q140
                               cases e140
                               replace hx140_0 := (HB.out.cell (World.block_lt_of_cell? w _ hx140_0)).trans hx140_0
                               have HR140_0 := Aside0.mk hi140_0
                               have HC140_0 := Aside0.mk hl140_0
                               clear hi140_0 hl140_0
                               replace p140 := eq_true p140
                               replace q140 := eq_true q140
                               go_wp2
                               (try simp only [← hl7_2, ← hl7_3])
                               go_roundg k3
                               case measure => have := HJ5.out; have := HK2.out; have := HK3.out; omega
                               case rel => exact ⟨(x7_3), (x8_3), H', ⟨by have := HJ5.out; have := HK2.out; have := HK3.out; omega⟩, ⟨by (try simp only [hl7_2]); (try simp only [hl7_3]); (with_reducible repeat (first | apply Kd.R_alloc | apply Kd.R_drewN | apply Kd.R_drew)); exact HO_7.out⟩, ⟨by (try simp only [hl7_2]); (try simp only [hl7_3]); (with_reducible repeat (first | apply Kd.R_alloc | apply Kd.R_drewN | apply Kd.R_drew)); exact HO_8.out⟩, ⟨by (try simp only [hl7_2]); (try simp only [hl7_3]); (with_reducible repeat (first | refine blk_drewN ?_ _ | refine blk_drew ?_ | refine blk_alloc ?_ _)); exact BK128.out⟩, ⟨by repeat (first | (with_reducible first | exact HB.out | apply below_alloc | apply pw_below_drewN | apply below_drew1 | refine below_set ?_ GE128.out) | exact HB.out)⟩⟩
                           · rw [if_neg c30] at H
                             exact absurd H (by simp)
                         · rw [if_neg c29] at H
                           exact absurd H (by simp)
                     · rw [if_neg c26] at H
                       exact absurd H (by simp)
                   · rw [if_neg c25] at H
                     exact absurd H (by simp)
                 · rw [if_neg c24] at H
                   exact absurd H (by simp)
               · rw [if_neg c22] at H
                 have c22b0 : decide (0 < (x8_2.length : Int)) = false := decide_eq_false c22
                 have c22b1 : decide (0 < x8_2.length) = false := decide_eq_false (by omega)
                 clear c22
                 obtain rfl := Option.some.inj H
                 obtain ⟨Ao47, co47, eo47⟩ := Kd.R_slice HO_8.out
                 subst eo47
                 go_wp2
                 go_ret
                 exact ⟨_, by first | rfl | (simp [errW_none, errW_some] <;> rfl) | (simp [*, errW_none, errW_some] <;> rfl), by (with_reducible repeat (first | apply Kd.R_alloc | apply Kd.R_drewN | apply Kd.R_drew)); exact HO_7.out, by repeat (first | (with_reducible first | exact HB.out | apply below_alloc | apply pw_below_drewN | apply below_drew1 | refine below_set ?_ GE128.out) | exact HB.out)⟩
           · rw [if_neg c16] at H
             exact absurd H (by simp)
         · rw [if_neg c15] at H
           exact absurd H (by simp)
   · rw [if_neg c5] at H
     exact absurd H (by simp)
 · rw [if_neg c4] at H
   exact absurd H (by simp)

end Go.Proofs.Ytoedcnhgobbnfaa.All


namespace Go.Proofs.Ytoedcnhgobbnfaa.All
open Go.RowKit Go.Proofs.YtoedcnhgobbnfaaW.PrintWords Go.Proofs.YtoedcnhgobbnfaaW.PrintLast Go.Proofs.YtoedcnhgobbnfaaW.PrintMore
attribute [local go_sem] max2_int min2_int max_two min_two max_three min_three max_four min_four   -- for this text's walks alone
set_option linter.unusedVariables false
set_option linter.unusedSimpArgs false

/-! ### spec_l4Doms: function 59 -/
mutual
def spec_l4Doms.l0 : Nat → Int → List Bool → List (List Bool) → Int → List (List Int) → List (List Int) → Option ((List (List Bool)))
 | 0, _, _, _, _, _, _ => none
 | k + 1, x3, x4, x5, x6, x339000, x339001 => if x6 < x3 then ((spec_l4Reach.f k x339000 x339001 0 x6).bind fun t345 => (if 0 ≤ x3 then (if (x3 : Int).toNat ≤ 281474976710656 then (spec_l4Doms.l1 k x3 x4 x5 x6 t345 (List.replicate (x3 : Int).toNat false) 0 x339000 x339001) else (none)) else (none))) else (some x5)
def spec_l4Doms.l1 : Nat → Int → List Bool → List (List Bool) → Int → List Bool → List Bool → Int → List (List Int) → List (List Int) → Option ((List (List Bool)))
 | 0, _, _, _, _, _, _, _, _, _ => none
 | k + 1, x3, x4, x5, x6, x7, x8, x9, x339000, x339001 => if x9 < x3 then (if 0 ≤ x9 then (if x9 < (x4.length : Int) then (if rdOf false x4 x9 = true then (if x9 < (x7.length : Int) then (if x9 < (x8.length : Int) then (spec_l4Doms.l1 k x3 x4 x5 x6 x7 (x8.set (x9 : Int).toNat (!(rdOf false x7 x9))) (wrap64 (x9 + 1)) x339000 x339001) else (none)) else (none)) else (if x9 < (x8.length : Int) then (spec_l4Doms.l1 k x3 x4 x5 x6 x7 (x8.set (x9 : Int).toNat false) (wrap64 (x9 + 1)) x339000 x339001) else (none))) else (none)) else (none)) else (if x5.length < 5864062014805 then (spec_l4Doms.l0 k x3 x4 (x5 ++ [x8]) (wrap64 (x6 + 1)) x339000 x339001) else (none))
end
def spec_l4Doms.f (k : Nat) (l0_0 : List (List Int)) (l0_1 : List (List Int)) : Option ((List (List Bool))) := (spec_l4Reach.f k l0_0 l0_1 0 (-1)).bind fun t339 => (spec_l4Doms.l0 k (l0_0.length : Int) t339 (([] : List (List Bool))) 0 l0_0 l0_1)
set_option maxHeartbeats 8000000 in
set_option maxRecDepth 100000 in
theorem spec_l4Doms.calls (k : Nat) (A0_0 : Option Addr) (c0_0 : Nat) (l0_0 : List (List Int)) (A0_1 : Option Addr) (c0_1 : Nat) (l0_1 : List (List Int)) (r : List (List Bool)) (w : World) (hr0_0 : Kd.C (Kd.slice 2 (Kd.int .i64)) w A0_0 l0_0.length l0_0) (hc0_0 : l0_0.length ≤ c0_0) (hr0_1 : Kd.C (Kd.slice 2 (Kd.int .i64)) w A0_1 l0_1.length l0_1) (hc0_1 : l0_1.length ≤ c0_1) (h : spec_l4Doms.f k l0_0 l0_1 = some r) :
 Calls Try.prog 59 #[.agg #[.slice A0_0 l0_0.length c0_0, .slice A0_1 l0_1.length c0_1]] w fun e w' => ∃ v0_ : Value, e = .returned (v0_) ∧ Kd.S (Kd.slice 4 Kd.bool) 54 w' w.heap.size (fun _ => True) v0_ r ∧ Below w.heap.size w w' := by
 have hu52 := Try.underlying52
 have HR0_0 := Aside0.mk hr0_0
 have HC0_0 := Aside0.mk hc0_0
 clear hr0_0 hc0_0
 have HR0_1 := Aside0.mk hr0_1
 have HC0_1 := Aside0.mk hc0_1
 clear hr0_1 hc0_1
 have HB := Aside0.mk (Below.refl w.heap.size w)
 have H : ((spec_l4Reach.f k l0_0 l0_1 0 (-1)).bind fun t339 => (spec_l4Doms.l0 k (l0_0.length : Int) t339 (([] : List (List Bool))) 0 l0_0 l0_1)) = some r := h
 clear h
 replace H := Option.bind_eq_some_iff.mp H
 obtain ⟨t339, A20, H⟩ := H
 replace H : (spec_l4Doms.l0 k (l0_0.length : Int) t339 (([] : List (List Bool))) 0 l0_0 l0_1) = some r := H
 have A2 := Aside0.mk A20
 clear A20
 obtain ⟨y342, hy342⟩ : ∃ y_ : List (List Bool), y_ = (([] : List (List Bool))) := ⟨_, rfl⟩
 replace H : (spec_l4Doms.l0 k (l0_0.length : Int) t339 y342 0 l0_0 l0_1) = some r := by first | (rw [hy342]; with_reducible exact H) | (have H2_ := (Option.bind_some _ _).symm.trans H; rw [hy342]; with_reducible exact H2_) | (have H2_ := (Option.bind_some _ _).symm.trans H; with_reducible exact H2_) | with_reducible exact H | (rw [hy342]; exact H) | exact H
 have Ny342 := Aside0.mk hy342
 clear hy342
 have H' := Aside0.mk H
 clear H
 go_enter Try.func59, Try.ntmps59
 go_wp2_with (first | ((with_reducible refine gate_dst (N := 1) rfl ?_); refine box_event ?hg (N := 1) ?hd (cs := #[.slice A0_0 l0_0.length c0_0, .slice A0_1 l0_1.length c0_1]) (t := 52) ?hr ?_; (case hd => rfl); (case hg => rfl); (case hr => first | (go_simp; done) | (go_simp; rfl)); intro gb338 hg w3 hbox hb; have n0_ := Aside0.mk (below_step (by repeat (first | (with_reducible first | exact HB.out | apply below_alloc | apply pw_below_drewN | apply below_drew1) | exact HB.out)) hb); have n1_ := Aside0.mk (hbox); have n2_ := Aside0.mk ((by rw [hg]; exact (below_size (by repeat (first | (with_reducible first | exact HB.out | apply below_alloc | apply pw_below_drewN | apply below_drew1) | exact HB.out))) : w.heap.size ≤ gb338)); have n3_ := Aside0.mk ((by rw [hg]; exact (below_size (by repeat (first | (with_reducible first | exact HB.out | apply below_alloc | apply pw_below_drewN | apply below_drew1) | exact HB.out))) : w.heap.size ≤ gb338)); clear HB; have HB := n0_; have BK338 := n1_; have GW338 := n2_; have GE338 := n3_; clear n0_ n1_ n2_ n3_; clear hb hbox hg; have hcz4_0 : w3.cell? ⟨gb338, 0, none⟩ = some (.slice A0_0 l0_0.length c0_0) := (blk_cell BK338.out 0).trans rfl; have hcz4_1 : w3.cell? ⟨gb338, 1, none⟩ = some (.slice A0_1 l0_1.length c0_1) := (blk_cell BK338.out 1).trans rfl; have hfz4_0 := blk_frozen BK338.out 0; have hfz4_1 := blk_frozen BK338.out 1) | ((with_reducible refine gate_callee (f := 46) rfl ?_); refine goesL_ (some 14) rfl rfl Try.func46 (by kernel_rfl) rfl #[.agg #[.slice A0_0 l0_0.length c0_0, .slice A0_1 l0_1.length c0_1], .int .i64 0, .int .i64 (-1)] rfl (by (try simp only [List.map_toArray, List.map_cons, List.map_nil]); first | done | rfl | (simp only [List.length_drop, List.length_take]; rfl)) ?_; (with_reducible refine (spec_l4Reach.calls k _ _ l0_0 _ _ l0_1 0 (-1) t339 _ ?side1 ?side2 ?side3 ?side4 A2.out).mono ?_); (case side1 => repeat (first | exact (Kd.C_below HR0_0.out HB.out) | (with_reducible refine Kd.C_alloc ?_ _) | (with_reducible refine Kd.C_drewN ?_ _) | (with_reducible refine Kd.C_drew ?_))); (case side2 => exact HC0_0.out); (case side3 => repeat (first | exact (Kd.C_below HR0_1.out HB.out) | (with_reducible refine Kd.C_alloc ?_ _) | (with_reducible refine Kd.C_drewN ?_ _) | (with_reducible refine Kd.C_drew ?_))); (case side4 => exact HC0_1.out); rintro e w5 ⟨v340, rfl, ho0, hb⟩; refine ⟨_, rfl, ?_⟩; have n0_ := Aside0.mk (Kd.R_lower ho0 (below_size (by repeat (first | (with_reducible first | exact HB.out | apply below_alloc | apply pw_below_drewN | apply below_drew1 | refine below_set ?_ GE338.out) | exact HB.out)))); have n1_ := Aside0.mk (blk_below (g := gb338) (o := .cells #[.slice A0_0 l0_0.length c0_0, .slice A0_1 l0_1.length c0_1] 52 (0, 0)) (by (with_reducible repeat (first | refine blk_drewN ?_ _ | refine blk_drew ?_ | refine blk_alloc ?_ _)); exact BK338.out) hb); have n2_ := Aside0.mk (below_step (by repeat (first | (with_reducible first | exact HB.out | apply below_alloc | apply pw_below_drewN | apply below_drew1 | refine below_set ?_ GE338.out) | exact HB.out)) hb); clear BK338; clear HB; have HO341 := n0_; have BK338 := n1_; have HB := n2_; clear n0_ n1_ n2_; (try clear hb); (try clear hb2); (try clear hk); (try clear hi); (try clear ho0)) | ((with_reducible refine gate_dst (N := 15) rfl ?_); refine Kd.S_lit (Kd.slice 4 Kd.bool) _ 54 ?hg (N := 15) ?hd (xs := ([] : List (List Bool))) (inner := []) (ok := fun _ => True) (okp := fun _ => True) ?hr ?hp (fun _ hk => hk) trivial (Below.refl _ _) (Nat.le_refl _) (by simp) ?_; (case hd => rfl); (case hg => rfl); (case hr => first | (go_simp; done) | (go_simp; rfl)); (case hp => exact (Reps.none _ _)); intro v343 w6 ho7 hb hg_ hnew_; clear hg_ hnew_; (first | rw [← Ny342.out] at ho7 | (simp only [Int.reduceToNat] at ho7; rw [← Ny342.out] at ho7)); have n0_ := Aside0.mk (Kd.R_below (by (with_reducible repeat (first | apply Kd.R_alloc | apply Kd.R_drewN | apply Kd.R_drew)); exact HO341.out) hb); have n1_ := Aside0.mk (Kd.S_lower (Kd.S_new' ho7 (Kd.R_lt (by (with_reducible repeat (first | apply Kd.R_alloc | apply Kd.R_drewN | apply Kd.R_drew)); exact HO341.out))) (below_size (by repeat (first | (with_reducible first | exact HB.out | apply below_alloc | apply pw_below_drewN | apply below_drew1 | refine below_set ?_ GE338.out) | exact HB.out)))); have n2_ := Aside0.mk (blk_below (g := gb338) (o := .cells #[.slice A0_0 l0_0.length c0_0, .slice A0_1 l0_1.length c0_1] 52 (0, 0)) (by (with_reducible repeat (first | refine blk_drewN ?_ _ | refine blk_drew ?_ | refine blk_alloc ?_ _)); exact BK338.out) hb); have n3_ := Aside0.mk (below_step (by repeat (first | (with_reducible first | exact HB.out | apply below_alloc | apply pw_below_drewN | apply below_drew1 | refine below_set ?_ GE338.out) | exact HB.out)) hb); clear HO341; clear BK338; clear HB; have HO341 := n0_; have HO344 := n1_; have BK338 := n2_; have HB := n3_; clear n0_ n1_ n2_ n3_; clear hb ho7))
 go_loopg [5, 6] k (fun kq v5 v6 w' => ∃ (x4_1 : List Bool) (x5_1 : List (List Bool)) (x6_1 : Int), v6 = .int .i64 x6_1 ∧ Aside0 (spec_l4Doms.l0 kq (l0_0.length : Int) x4_1 x5_1 x6_1 l0_0 l0_1 = some r) ∧ Aside0 (kq ≤ k) ∧ Aside0 (Kd.R Kd.bool 4 w' w.heap.size (fun _ => True) v340 x4_1) ∧ Aside0 (Kd.S (Kd.slice 4 Kd.bool) 54 w' w.heap.size (fun k_ => some k_ ≠ (v340 : Value).ownBlock) v5 x5_1) ∧ Aside0 (w'.heap[gb338]? = some (.cells #[(.slice A0_0 l0_0.length c0_0), (.slice A0_1 l0_1.length c0_1)] 52 (0, 0))) ∧ Aside0 (Below w.heap.size w w'))
 case atStart => exact ⟨(t339), (y342), (0), (by first | rfl | (simp; done) | (simp [*]; done)), H', ⟨Nat.le_refl _⟩, ⟨by (with_reducible repeat (first | apply Kd.R_alloc | apply Kd.R_drewN | apply Kd.R_drew)); exact HO341.out⟩, ⟨by (with_reducible repeat (first | apply Kd.S_alloc | apply Kd.S_drewN | apply Kd.S_drew)); exact Kd.S_mono HO344.out (fun _ hk => hk.2)⟩, ⟨by (with_reducible repeat (first | refine blk_drewN ?_ _ | refine blk_drew ?_ | refine blk_alloc ?_ _)); exact BK338.out⟩, ⟨by repeat (first | (with_reducible first | exact HB.out | apply below_alloc | apply pw_below_drewN | apply below_drew1 | refine below_set ?_ GE338.out) | exact HB.out)⟩⟩
 case round =>
  clear H'
  try clear p2
  try clear c4
  try clear c5
  try clear hcz4_0
  try clear hcz4_1
  try clear hfz4_0
  try clear hfz4_1
  obtain ⟨x4_1, x5_1, x6_1, rfl, HA, HK1, HO_4, HO_5, BK338, HB⟩ := hrel
  cases gk with
  | zero => exact absurd HA.out (by simp [spec_l4Doms.l0])
  | succ k1 =>
   have H := HA.out
   clear HA
   simp only [spec_l4Doms.l0] at H
   by_cases c8 : x6_1 < (l0_0.length : Int)
   · rw [if_pos c8] at H
     have c8b0 : decide (x6_1 < (l0_0.length : Int)) = true := decide_eq_true c8
     clear c8
     replace H := Option.bind_eq_some_iff.mp H
     obtain ⟨t345, A90, H⟩ := H
     replace H : (if 0 ≤ (l0_0.length : Int) then (if ((l0_0.length : Int) : Int).toNat ≤ 281474976710656 then (spec_l4Doms.l1 k1 (l0_0.length : Int) x4_1 x5_1 x6_1 t345 (List.replicate ((l0_0.length : Int) : Int).toNat false) 0 l0_0 l0_1) else (none)) else (none)) = some r := H
     have A9 := Aside0.mk A90
     clear A90
     by_cases c10 : 0 ≤ (l0_0.length : Int)
     · rw [if_pos c10] at H
       have c10b0 := eq_true c10
       have c10b1 : decide (0 ≤ (l0_0.length : Int)) = true := decide_eq_true c10
       clear c10
       by_cases c11 : ((l0_0.length : Int) : Int).toNat ≤ 281474976710656
       · rw [if_pos c11] at H
         have c11b0 := eq_true c11
         have c11b1 : decide (((l0_0.length : Int) : Int).toNat ≤ 281474976710656) = true := decide_eq_true c11
         clear c11
         obtain ⟨y348, hy348⟩ : ∃ y_ : List Bool, y_ = (List.replicate ((l0_0.length : Int) : Int).toNat false) := ⟨_, rfl⟩
         replace H : (spec_l4Doms.l1 k1 (l0_0.length : Int) x4_1 x5_1 x6_1 t345 y348 0 l0_0 l0_1) = some r := by first | (rw [hy348]; with_reducible exact H) | (have H2_ := (Option.bind_some _ _).symm.trans H; rw [hy348]; with_reducible exact H2_) | (have H2_ := (Option.bind_some _ _).symm.trans H; with_reducible exact H2_) | with_reducible exact H | (rw [hy348]; exact H) | exact H
         have Ny348 := Aside0.mk hy348
         clear hy348
         have H' := Aside0.mk H
         clear H
         have hcz12_0 : wr.cell? ⟨gb338, 0, none⟩ = some (.slice A0_0 l0_0.length c0_0) := (blk_cell BK338.out 0).trans rfl
         have hcz12_1 : wr.cell? ⟨gb338, 1, none⟩ = some (.slice A0_1 l0_1.length c0_1) := (blk_cell BK338.out 1).trans rfl
         have hfz12_0 := blk_frozen BK338.out 0
         have hfz12_1 := blk_frozen BK338.out 1
         go_wp2_with (first | ((with_reducible refine gate_callee (f := 46) rfl ?_); refine goesL_ (some 23) rfl rfl Try.func46 (by kernel_rfl) rfl #[.agg #[.slice A0_0 l0_0.length c0_0, .slice A0_1 l0_1.length c0_1], .int .i64 0, .int .i64 x6_1] rfl (by (try simp only [List.map_toArray, List.map_cons, List.map_nil]); first | done | rfl | (simp only [List.length_drop, List.length_take]; rfl)) ?_; (with_reducible refine (spec_l4Reach.calls k1 _ _ l0_0 _ _ l0_1 0 x6_1 t345 _ ?side1 ?side2 ?side3 ?side4 A9.out).mono ?_); (case side1 => repeat (first | exact (Kd.C_below HR0_0.out HB.out) | (with_reducible refine Kd.C_alloc ?_ _) | (with_reducible refine Kd.C_drewN ?_ _) | (with_reducible refine Kd.C_drew ?_))); (case side2 => exact HC0_0.out); (case side3 => repeat (first | exact (Kd.C_below HR0_1.out HB.out) | (with_reducible refine Kd.C_alloc ?_ _) | (with_reducible refine Kd.C_drewN ?_ _) | (with_reducible refine Kd.C_drew ?_))); (case side4 => exact HC0_1.out); rintro e w13 ⟨v346, rfl, ho0, hb⟩; refine ⟨_, rfl, ?_⟩; have n0_ := Aside0.mk (Kd.R_elder' (by (with_reducible repeat (first | apply Kd.R_alloc | apply Kd.R_drewN | apply Kd.R_drew)); exact HO_4.out) (Kd.R_base ho0) hb); have n1_ := Aside0.mk (Kd.S_elder' (by (with_reducible repeat (first | apply Kd.S_alloc | apply Kd.S_drewN | apply Kd.S_drew)); exact HO_5.out) (Kd.R_base ho0) hb); have n2_ := Aside0.mk (Kd.R_lower (Kd.R_new' ho0 (Kd.R_lt (by (with_reducible repeat (first | apply Kd.R_alloc | apply Kd.R_drewN | apply Kd.R_drew)); exact HO_4.out))) (below_size (by repeat (first | (with_reducible first | exact HB.out | apply below_alloc | apply pw_below_drewN | apply below_drew1 | refine below_set ?_ GE338.out) | exact HB.out)))); have n3_ := Aside0.mk (blk_below (g := gb338) (o := .cells #[.slice A0_0 l0_0.length c0_0, .slice A0_1 l0_1.length c0_1] 52 (0, 0)) (by (with_reducible repeat (first | refine blk_drewN ?_ _ | refine blk_drew ?_ | refine blk_alloc ?_ _)); exact BK338.out) hb); have n4_ := Aside0.mk (below_step (by repeat (first | (with_reducible first | exact HB.out | apply below_alloc | apply pw_below_drewN | apply below_drew1 | refine below_set ?_ GE338.out) | exact HB.out)) hb); clear HO_4; clear HO_5; clear BK338; clear HB; have HO_4 := n0_; have HO_5 := n1_; have HO347 := n2_; have BK338 := n3_; have HB := n4_; clear n0_ n1_ n2_ n3_ n4_; (try clear hb); (try clear hb2); (try clear hk); (try clear hi); (try clear ho0)) | ((with_reducible refine gate_dst (N := 25) rfl ?_); refine Kd.R_make Kd.bool _ 4 rfl (N := 25) rfl 54 _ _ rfl (l0_0.length : Int) rfl rfl Try.underlying54 (.bool false) 1 info4 rfl (by decide) (by omega) false (ok := fun _ => True) (okp := fun _ => True) rfl (fun _ hk => hk) trivial (of_decide_eq_true (by first | (with_reducible assumption) | assumption)) (Nat.le_trans (Nat.mul_le_mul_right _ (of_decide_eq_true (by first | (with_reducible assumption) | assumption) : (l0_0.length : Int).toNat ≤ 281474976710656)) (by omega)) (Below.refl _ _) (Nat.le_refl _) ?_; intro v349 w14 ho15 hb hg_ hnew_; clear hg_ hnew_; (first | rw [← Ny348.out] at ho15 | (simp only [Int.reduceToNat] at ho15; rw [← Ny348.out] at ho15)); have n0_ := Aside0.mk (Kd.R_elder' (by (with_reducible repeat (first | apply Kd.R_alloc | apply Kd.R_drewN | apply Kd.R_drew)); exact HO_4.out) (Kd.R_base ho15) hb); have n1_ := Aside0.mk (Kd.S_elder' (by (with_reducible repeat (first | apply Kd.S_alloc | apply Kd.S_drewN | apply Kd.S_drew)); exact HO_5.out) (Kd.R_base ho15) hb); have n2_ := Aside0.mk (Kd.R_elder' (by (with_reducible repeat (first | apply Kd.R_alloc | apply Kd.R_drewN | apply Kd.R_drew)); exact HO347.out) (Kd.R_base ho15) hb); have n3_ := Aside0.mk (Kd.R_lower (Kd.R_new' (Kd.R_new' ho15 (Kd.R_lt (by (with_reducible repeat (first | apply Kd.R_alloc | apply Kd.R_drewN | apply Kd.R_drew)); exact HO_4.out))) (Kd.R_lt (by (with_reducible repeat (first | apply Kd.R_alloc | apply Kd.R_drewN | apply Kd.R_drew)); exact HO347.out))) (below_size (by repeat (first | (with_reducible first | exact HB.out | apply below_alloc | apply pw_below_drewN | apply below_drew1 | refine below_set ?_ GE338.out) | exact HB.out)))); have n4_ := Aside0.mk (blk_below (g := gb338) (o := .cells #[.slice A0_0 l0_0.length c0_0, .slice A0_1 l0_1.length c0_1] 52 (0, 0)) (by (with_reducible repeat (first | refine blk_drewN ?_ _ | refine blk_drew ?_ | refine blk_alloc ?_ _)); exact BK338.out) hb); have n5_ := Aside0.mk (below_step (by repeat (first | (with_reducible first | exact HB.out | apply below_alloc | apply pw_below_drewN | apply below_drew1 | refine below_set ?_ GE338.out) | exact HB.out)) hb); clear HO_4; clear HO_5; clear HO347; clear BK338; clear HB; have HO_4 := n0_; have HO_5 := n1_; have HO347 := n2_; have HO350 := n3_; have BK338 := n4_; have HB := n5_; clear n0_ n1_ n2_ n3_ n4_ n5_; clear hb ho15))
         go_loopg [9] k1 (fun kq v9 w' => ∃ (x8_2 : List Bool) (x9_2 : Int), v9 = .int .i64 x9_2 ∧ Aside0 (spec_l4Doms.l1 kq (l0_0.length : Int) x4_1 x5_1 x6_1 t345 x8_2 x9_2 l0_0 l0_1 = some r) ∧ Aside0 (kq ≤ k1) ∧ Aside0 (Kd.R Kd.bool 4 w' w.heap.size (fun k_ => some k_ ≠ (v346 : Value).ownBlock ∧ some k_ ≠ (v349 : Value).ownBlock) v340 x4_1) ∧ Aside0 (Kd.S (Kd.slice 4 Kd.bool) 54 w' w.heap.size (fun k_ => some k_ ≠ (v340 : Value).ownBlock ∧ some k_ ≠ (v346 : Value).ownBlock ∧ some k_ ≠ (v349 : Value).ownBlock) u5 x5_1) ∧ Aside0 (Kd.R Kd.bool 4 w' w.heap.size (fun k_ => some k_ ≠ (v340 : Value).ownBlock ∧ some k_ ≠ (v349 : Value).ownBlock) v346 t345) ∧ Aside0 (Kd.R Kd.bool 4 w' w.heap.size (fun k_ => some k_ ≠ (v340 : Value).ownBlock ∧ some k_ ≠ (v346 : Value).ownBlock) v349 x8_2) ∧ Aside0 (w'.heap[gb338]? = some (.cells #[(.slice A0_0 l0_0.length c0_0), (.slice A0_1 l0_1.length c0_1)] 52 (0, 0))) ∧ Aside0 (Below w.heap.size w w'))
         case atStart => exact ⟨(y348), (0), (by first | rfl | (simp; done) | (simp [*]; done)), H', ⟨Nat.le_refl _⟩, ⟨by (with_reducible repeat (first | apply Kd.R_alloc | apply Kd.R_drewN | apply Kd.R_drew)); exact Kd.R_mono HO_4.out (fun _ hk => ⟨hk.1.2, hk.2⟩)⟩, ⟨by (with_reducible repeat (first | apply Kd.S_alloc | apply Kd.S_drewN | apply Kd.S_drew)); exact Kd.S_mono HO_5.out (fun _ hk => ⟨hk.1.1, ⟨hk.1.2, hk.2⟩⟩)⟩, ⟨by (with_reducible repeat (first | apply Kd.R_alloc | apply Kd.R_drewN | apply Kd.R_drew)); exact Kd.R_mono HO347.out (fun _ hk => ⟨hk.1.2, hk.2⟩)⟩, ⟨by (with_reducible repeat (first | apply Kd.R_alloc | apply Kd.R_drewN | apply Kd.R_drew)); exact Kd.R_mono HO350.out (fun _ hk => ⟨hk.1.2, hk.2⟩)⟩, ⟨by (with_reducible repeat (first | refine blk_drewN ?_ _ | refine blk_drew ?_ | refine blk_alloc ?_ _)); exact BK338.out⟩, ⟨by repeat (first | (with_reducible first | exact HB.out | apply below_alloc | apply pw_below_drewN | apply below_drew1 | refine below_set ?_ GE338.out) | exact HB.out)⟩⟩
         case round =>
          clear H'
          try clear c1
          try clear p2
          try clear c4
          try clear c5
          try clear c8
          try clear c8b0
          try clear c10
          try clear c10b0
          try clear c10b1
          try clear c11
          try clear c11b0
          try clear c11b1
          try clear hcz12_0
          try clear hcz12_1
          try clear hcz4_0
          try clear hcz4_1
          try clear hfz12_0
          try clear hfz12_1
          try clear hfz4_0
          try clear hfz4_1
          try clear p2
          obtain ⟨x8_2, x9_2, rfl, HA, HK2, HO_4, HO_5, HO_7, HO_8, BK338, HB⟩ := hrel
          cases gk with
          | zero => exact absurd HA.out (by simp [spec_l4Doms.l1])
          | succ k2 =>
           have H := HA.out
           clear HA
           simp only [spec_l4Doms.l1] at H
           by_cases c16 : x9_2 < (l0_0.length : Int)
           · rw [if_pos c16] at H
             have c16b0 : decide (x9_2 < (l0_0.length : Int)) = true := decide_eq_true c16
             clear c16
             by_cases c17 : 0 ≤ x9_2
             · rw [if_pos c17] at H
               have c17b0 : decide (0 ≤ x9_2) = true := decide_eq_true c17
               clear c17
               by_cases c18 : x9_2 < (x4_1.length : Int)
               · rw [if_pos c18] at H
                 have c18b0 : decide (x9_2 < (x4_1.length : Int)) = true := decide_eq_true c18
                 clear c18
                 obtain ⟨bq19, hbq19⟩ : ∃ b_ : Bool, b_ = (rdOf false x4_1 x9_2) := ⟨_, rfl⟩
                 replace H : (if bq19 = true then (if x9_2 < (t345.length : Int) then (if x9_2 < (x8_2.length : Int) then (spec_l4Doms.l1 k2 (l0_0.length : Int) x4_1 x5_1 x6_1 t345 (x8_2.set (x9_2 : Int).toNat (!(rdOf false t345 x9_2))) (wrap64 (x9_2 + 1)) l0_0 l0_1) else (none)) else (none)) else (if x9_2 < (x8_2.length : Int) then (spec_l4Doms.l1 k2 (l0_0.length : Int) x4_1 x5_1 x6_1 t345 (x8_2.set (x9_2 : Int).toNat false) (wrap64 (x9_2 + 1)) l0_0 l0_1) else (none))) = some r := by rw [← hbq19] at H; exact H
                 have Nbq19 := Aside0.mk hbq19
                 clear hbq19
                 by_cases c20 : bq19 = true
                 · subst c20
                   have H1 : (if x9_2 < (t345.length : Int) then (if x9_2 < (x8_2.length : Int) then (spec_l4Doms.l1 k2 (l0_0.length : Int) x4_1 x5_1 x6_1 t345 (x8_2.set (x9_2 : Int).toNat (!(rdOf false t345 x9_2))) (wrap64 (x9_2 + 1)) l0_0 l0_1) else (none)) else (none)) = some r := by rw [if_pos rfl] at H; exact H
                   clear H
                   have H := H1
                   clear H1
                   by_cases c21 : x9_2 < (t345.length : Int)
                   · rw [if_pos c21] at H
                     have c21b0 : decide (x9_2 < (t345.length : Int)) = true := decide_eq_true c21
                     clear c21
                     by_cases c22 : x9_2 < (x8_2.length : Int)
                     · rw [if_pos c22] at H
                       have c22b0 : decide (x9_2 < (x8_2.length : Int)) = true := decide_eq_true c22
                       clear c22
                       obtain ⟨y353, hy353⟩ : ∃ y_ : List Bool, y_ = (x8_2.set (x9_2 : Int).toNat (!(rdOf false t345 x9_2))) := ⟨_, rfl⟩
                       replace H : (spec_l4Doms.l1 k2 (l0_0.length : Int) x4_1 x5_1 x6_1 t345 y353 (wrap64 (x9_2 + 1)) l0_0 l0_1) = some r := by first | (rw [hy353]; with_reducible exact H) | (have H2_ := (Option.bind_some _ _).symm.trans H; rw [hy353]; with_reducible exact H2_) | (have H2_ := (Option.bind_some _ _).symm.trans H; with_reducible exact H2_) | with_reducible exact H | (rw [hy353]; exact H) | exact H
                       have Ny353 := Aside0.mk hy353
                       clear hy353
                       have H' := Aside0.mk H
                       clear H
                       obtain ⟨Ao24, co24, eo24⟩ := Kd.R_slice HO_4.out
                       subst eo24
                       have p351 : 0 ≤ (x9_2 : Int) := of_decide_eq_true (by first | (with_reducible assumption) | assumption)
                       have q351 : x9_2 < (x4_1.length : Int) := of_decide_eq_true (by first | (with_reducible assumption) | assumption)
                       obtain ⟨ad351, e351, hx351_0⟩ := Kd.at_bool (Kd.R_reads' HO_4.out).2.2 x9_2 p351 q351
                       (try rw [← Nbq19.out] at hx351_0)
                       cases e351
                       replace p351 := eq_true p351
                       replace q351 := eq_true q351
                       obtain ⟨Ao25, co25, eo25⟩ := Kd.R_slice HO_7.out
                       subst eo25
                       have p352 : 0 ≤ (x9_2 : Int) := of_decide_eq_true (by first | (with_reducible assumption) | assumption)
                       have q352 : x9_2 < (t345.length : Int) := of_decide_eq_true (by first | (with_reducible assumption) | assumption)
                       obtain ⟨ad352, e352, hx352_0⟩ := Kd.at_bool (Kd.R_reads' HO_7.out).2.2 x9_2 p352 q352
                       (try rw [← Nbq19.out] at hx352_0)
                       cases e352
                       replace p352 := eq_true p352
                       replace q352 := eq_true q352
                       have p23 : 0 ≤ (x9_2 : Int) := of_decide_eq_true (by first | (with_reducible assumption) | assumption)
                       have q23 : (x9_2 : Int) < ((x8_2.length : Int) : Int) := of_decide_eq_true (by first | (with_reducible assumption) | assumption)
                       obtain ⟨go23, co23, eo23, gb23, gl23, cl23, HG23⟩ := Kd.R_form HO_8.out (by omega)
                       (first | cases eo23 | (injection eo23 with ea_ en_ ec_; (first | subst ea_ | (injection ea_ with ea_; subst ea_)); subst ec_; clear en_))
                       have GB23 := Aside0.mk gb23
                       have GG23 := Aside0.mk HG23
                       clear gb23 gl23 HG23
                       obtain ⟨hx23_0, hf23_0⟩ := Kd.R_celln false HO_8.out (x9_2 : Int) p23 q23
                       replace p23 := eq_true p23
                       replace q23 := eq_true q23
                       have HP26 := Kd.R_putg HO_8.out (x9_2 : Int) (!(rdOf false t345 x9_2))
                       go_wp2_with (first | ((with_reducible refine gate_store (t := 4) (p := 44) rfl ?_); refine store_event (t := 4) (p := 44) (v := ?vo_w27) (w1 := (wr.setCell ⟨go23, (x9_2 : Int).toNat, none⟩ (.bool (!(rdOf false t345 x9_2))))) ?hg ?ho ?hn ?hr ?_; (case ho => rfl); (case hg => rfl); (case hn => rfl); (case hr => first | (go_simp; done) | (go_simp; rfl)); intro w27 hw; have hg : wr.grownBy w27 (some go23) := (by rw [hw]; exact HP26.2); have hp_ : Kd.R Kd.bool 4 w27 w.heap.size (fun k_ => some k_ ≠ (.slice (some ad351) x4_1.length co24 : Value).ownBlock ∧ some k_ ≠ (.slice (some ad352) t345.length co25 : Value).ownBlock) (.slice (some ⟨go23, 0, none⟩) x8_2.length co23) y353 := (by rw [hw, Ny353.out]; exact HP26.1); clear HP26; have n0_ := Aside0.mk (Kd.R_after (v := (.slice (some ⟨go23, 0, none⟩) x8_2.length co23)) (v1 := (.slice (some ⟨go23, 0, none⟩) x8_2.length co23)) (ok := (fun k_ => some k_ ≠ (.slice (some ad352) t345.length co25 : Value).ownBlock)) (by (with_reducible repeat (first | apply Kd.R_alloc | apply Kd.R_drewN | apply Kd.R_drew)); exact HO_4.out) hg (.inl rfl)); have n1_ := Aside0.mk (Kd.S_after (v := (.slice (some ⟨go23, 0, none⟩) x8_2.length co23)) (v1 := (.slice (some ⟨go23, 0, none⟩) x8_2.length co23)) (ok := (fun k_ => some k_ ≠ (.slice (some ad351) x4_1.length co24 : Value).ownBlock ∧ some k_ ≠ (.slice (some ad352) t345.length co25 : Value).ownBlock)) (by (with_reducible repeat (first | apply Kd.S_alloc | apply Kd.S_drewN | apply Kd.S_drew)); exact Kd.S_mono HO_5.out (fun _ hk => ⟨⟨hk.1, hk.2.1⟩, hk.2.2⟩)) hg (.inl rfl)); have n2_ := Aside0.mk (Kd.R_after (v := (.slice (some ⟨go23, 0, none⟩) x8_2.length co23)) (v1 := (.slice (some ⟨go23, 0, none⟩) x8_2.length co23)) (ok := (fun k_ => some k_ ≠ (.slice (some ad351) x4_1.length co24 : Value).ownBlock)) (by (with_reducible repeat (first | apply Kd.R_alloc | apply Kd.R_drewN | apply Kd.R_drew)); exact HO_7.out) hg (.inl rfl)); have n3_ := Aside0.mk (hp_); have n4_ := Aside0.mk (blk_grown (g := gb338) (o := .cells #[.slice A0_0 l0_0.length c0_0, .slice A0_1 l0_1.length c0_1] 52 (0, 0)) (by (with_reducible repeat (first | refine blk_drewN ?_ _ | refine blk_drew ?_ | refine blk_alloc ?_ _)); exact BK338.out) hg (Kd.R_ne HO_8.out BK338.out (by decide))); have n5_ := Aside0.mk ((by rw [hw]; exact below_set (HB.out) GB23.out : Below w.heap.size w w27)); clear HO_4; clear HO_5; clear HO_7; clear HO_8; clear BK338; clear HB; have HO_4 := n0_; have HO_5 := n1_; have HO_7 := n2_; have HO_8 := n3_; have BK338 := n4_; have HB := n5_; clear n0_ n1_ n2_ n3_ n4_ n5_; clear hg hw hp_))
                       go_roundg k2
                       case measure => have := HK1.out; have := HK2.out; omega
                       case rel => exact ⟨(y353), (wrap64 (x9_2 + 1)), (by first | rfl | (simp; done) | (simp [*]; done)), H', ⟨by have := HK1.out; have := HK2.out; omega⟩, ⟨by (with_reducible repeat (first | apply Kd.R_alloc | apply Kd.R_drewN | apply Kd.R_drew)); exact HO_4.out⟩, ⟨by (with_reducible repeat (first | apply Kd.S_alloc | apply Kd.S_drewN | apply Kd.S_drew)); exact Kd.S_mono HO_5.out (fun _ hk => ⟨hk.1.1, ⟨hk.1.2, hk.2⟩⟩)⟩, ⟨by (with_reducible repeat (first | apply Kd.R_alloc | apply Kd.R_drewN | apply Kd.R_drew)); exact HO_7.out⟩, ⟨by (with_reducible repeat (first | apply Kd.R_alloc | apply Kd.R_drewN | apply Kd.R_drew)); exact HO_8.out⟩, ⟨by (with_reducible repeat (first | refine blk_drewN ?_ _ | refine blk_drew ?_ | refine blk_alloc ?_ _)); exact BK338.out⟩, ⟨by repeat (first | (with_reducible first | exact HB.out | apply below_alloc | apply pw_below_drewN | apply below_drew1 | refine below_set ?_ GE338.out) | exact HB.out)⟩⟩
                     · rw [if_neg c22] at H
                       exact absurd H (by simp)
                   · rw [if_neg c21] at H
                     exact absurd H (by simp)
                 · replace c20 := Bool.eq_false_iff.mpr c20
                   subst c20
                   have H1 : (if x9_2 < (x8_2.length : Int) then (spec_l4Doms.l1 k2 (l0_0.length : Int) x4_1 x5_1 x6_1 t345 (x8_2.set (x9_2 : Int).toNat false) (wrap64 (x9_2 + 1)) l0_0 l0_1) else (none)) = some r := by rw [if_neg (show ¬ (false = true) by decide)] at H; exact H
                   clear H
                   have H := H1
                   clear H1
                   by_cases c28 : x9_2 < (x8_2.length : Int)
                   · rw [if_pos c28] at H
                     have c28b0 : decide (x9_2 < (x8_2.length : Int)) = true := decide_eq_true c28
                     clear c28
                     obtain ⟨y354, hy354⟩ : ∃ y_ : List Bool, y_ = (x8_2.set (x9_2 : Int).toNat false) := ⟨_, rfl⟩
                     replace H : (spec_l4Doms.l1 k2 (l0_0.length : Int) x4_1 x5_1 x6_1 t345 y354 (wrap64 (x9_2 + 1)) l0_0 l0_1) = some r := by first | (rw [hy354]; with_reducible exact H) | (have H2_ := (Option.bind_some _ _).symm.trans H; rw [hy354]; with_reducible exact H2_) | (have H2_ := (Option.bind_some _ _).symm.trans H; with_reducible exact H2_) | with_reducible exact H | (rw [hy354]; exact H) | exact H
                     have Ny354 := Aside0.mk hy354
                     clear hy354
                     have H' := Aside0.mk H
                     clear H
                     obtain ⟨Ao30, co30, eo30⟩ := Kd.R_slice HO_4.out
                     subst eo30
                     have p351 : 0 ≤ (x9_2 : Int) := of_decide_eq_true (by first | (with_reducible assumption) | assumption)
                     have q351 : x9_2 < (x4_1.length : Int) := of_decide_eq_true (by first | (with_reducible assumption) | assumption)
                     obtain ⟨ad351, e351, hx351_0⟩ := Kd.at_bool (Kd.R_reads' HO_4.out).2.2 x9_2 p351 q351
                     (try rw [← Nbq19.out] at hx351_0)
                     cases e351
                     replace p351 := eq_true p351
                     replace q351 := eq_true q351
                     have p29 : 0 ≤ (x9_2 : Int) := of_decide_eq_true (by first | (with_reducible assumption) | assumption)
                     have q29 : (x9_2 : Int) < ((x8_2.length : Int) : Int) := of_decide_eq_true (by first | (with_reducible assumption) | assumption)
                     obtain ⟨go29, co29, eo29, gb29, gl29, cl29, HG29⟩ := Kd.R_form HO_8.out (by omega)
                     (first | cases eo29 | (injection eo29 with ea_ en_ ec_; (first | subst ea_ | (injection ea_ with ea_; subst ea_)); subst ec_; clear en_))
                     have GB29 := Aside0.mk gb29
                     have GG29 := Aside0.mk HG29
                     clear gb29 gl29 HG29
                     obtain ⟨hx29_0, hf29_0⟩ := Kd.R_celln false HO_8.out (x9_2 : Int) p29 q29
                     replace p29 := eq_true p29
                     replace q29 := eq_true q29
                     have HP31 := Kd.R_putg HO_8.out (x9_2 : Int) false
                     go_wp2_with (first | ((with_reducible refine gate_store (t := 4) (p := 44) rfl ?_); refine store_event (t := 4) (p := 44) (v := ?vo_w32) (w1 := (wr.setCell ⟨go29, (x9_2 : Int).toNat, none⟩ (.bool false))) ?hg ?ho ?hn ?hr ?_; (case ho => rfl); (case hg => rfl); (case hn => rfl); (case hr => first | (go_simp; done) | (go_simp; rfl)); intro w32 hw; have hg : wr.grownBy w32 (some go29) := (by rw [hw]; exact HP31.2); have hp_ : Kd.R Kd.bool 4 w32 w.heap.size (fun k_ => some k_ ≠ (.slice (some ad351) x4_1.length co30 : Value).ownBlock ∧ some k_ ≠ (v346 : Value).ownBlock) (.slice (some ⟨go29, 0, none⟩) x8_2.length co29) y354 := (by rw [hw, Ny354.out]; exact HP31.1); clear HP31; have n0_ := Aside0.mk (Kd.R_after (v := (.slice (some ⟨go29, 0, none⟩) x8_2.length co29)) (v1 := (.slice (some ⟨go29, 0, none⟩) x8_2.length co29)) (ok := (fun k_ => some k_ ≠ (v346 : Value).ownBlock)) (by (with_reducible repeat (first | apply Kd.R_alloc | apply Kd.R_drewN | apply Kd.R_drew)); exact HO_4.out) hg (.inl rfl)); have n1_ := Aside0.mk (Kd.S_after (v := (.slice (some ⟨go29, 0, none⟩) x8_2.length co29)) (v1 := (.slice (some ⟨go29, 0, none⟩) x8_2.length co29)) (ok := (fun k_ => some k_ ≠ (.slice (some ad351) x4_1.length co30 : Value).ownBlock ∧ some k_ ≠ (v346 : Value).ownBlock)) (by (with_reducible repeat (first | apply Kd.S_alloc | apply Kd.S_drewN | apply Kd.S_drew)); exact Kd.S_mono HO_5.out (fun _ hk => ⟨⟨hk.1, hk.2.1⟩, hk.2.2⟩)) hg (.inl rfl)); have n2_ := Aside0.mk (Kd.R_after (v := (.slice (some ⟨go29, 0, none⟩) x8_2.length co29)) (v1 := (.slice (some ⟨go29, 0, none⟩) x8_2.length co29)) (ok := (fun k_ => some k_ ≠ (.slice (some ad351) x4_1.length co30 : Value).ownBlock)) (by (with_reducible repeat (first | apply Kd.R_alloc | apply Kd.R_drewN | apply Kd.R_drew)); exact HO_7.out) hg (.inl rfl)); have n3_ := Aside0.mk (hp_); have n4_ := Aside0.mk (blk_grown (g := gb338) (o := .cells #[.slice A0_0 l0_0.length c0_0, .slice A0_1 l0_1.length c0_1] 52 (0, 0)) (by (with_reducible repeat (first | refine blk_drewN ?_ _ | refine blk_drew ?_ | refine blk_alloc ?_ _)); exact BK338.out) hg (Kd.R_ne HO_8.out BK338.out (by decide))); have n5_ := Aside0.mk ((by rw [hw]; exact below_set (HB.out) GB29.out : Below w.heap.size w w32)); clear HO_4; clear HO_5; clear HO_7; clear HO_8; clear BK338; clear HB; have HO_4 := n0_; have HO_5 := n1_; have HO_7 := n2_; have HO_8 := n3_; have BK338 := n4_; have HB := n5_; clear n0_ n1_ n2_ n3_ n4_ n5_; clear hg hw hp_))
                     go_roundg k2
                     case measure => have := HK1.out; have := HK2.out; omega
                     case rel => exact ⟨(y354), (wrap64 (x9_2 + 1)), (by first | rfl | (simp; done) | (simp [*]; done)), H', ⟨by have := HK1.out; have := HK2.out; omega⟩, ⟨by (with_reducible repeat (first | apply Kd.R_alloc | apply Kd.R_drewN | apply Kd.R_drew)); exact HO_4.out⟩, ⟨by (with_reducible repeat (first | apply Kd.S_alloc | apply Kd.S_drewN | apply Kd.S_drew)); exact Kd.S_mono HO_5.out (fun _ hk => ⟨hk.1.1, ⟨hk.1.2, hk.2⟩⟩)⟩, ⟨by (with_reducible repeat (first | apply Kd.R_alloc | apply Kd.R_drewN | apply Kd.R_drew)); exact HO_7.out⟩, ⟨by (with_reducible repeat (first | apply Kd.R_alloc | apply Kd.R_drewN | apply Kd.R_drew)); exact HO_8.out⟩, ⟨by (with_reducible repeat (first | refine blk_drewN ?_ _ | refine blk_drew ?_ | refine blk_alloc ?_ _)); exact BK338.out⟩, ⟨by repeat (first | (with_reducible first | exact HB.out | apply below_alloc | apply pw_below_drewN | apply below_drew1 | refine below_set ?_ GE338.out) | exact HB.out)⟩⟩
                   · rw [if_neg c28] at H
                     exact absurd H (by simp)
               · rw [if_neg c18] at H
                 exact absurd H (by simp)
             · rw [if_neg c17] at H
               exact absurd H (by simp)
           · rw [if_neg c16] at H
             have c16b0 : decide (x9_2 < (l0_0.length : Int)) = false := decide_eq_false c16
             clear c16
             by_cases c33 : x5_1.length < 5864062014805
             · rw [if_pos c33] at H
               have LMc33 := Aside0.mk c33
               clear c33
               obtain ⟨y355, hy355⟩ : ∃ y_ : List (List Bool), y_ = (x5_1 ++ [x8_2]) := ⟨_, rfl⟩
               replace H : (spec_l4Doms.l0 k2 (l0_0.length : Int) x4_1 y355 (wrap64 (x6_1 + 1)) l0_0 l0_1) = some r := by first | (rw [hy355]; with_reducible exact H) | (have H2_ := (Option.bind_some _ _).symm.trans H; rw [hy355]; with_reducible exact H2_) | (have H2_ := (Option.bind_some _ _).symm.trans H; with_reducible exact H2_) | with_reducible exact H | (rw [hy355]; exact H) | exact H
               have Ny355 := Aside0.mk hy355
               clear hy355
               have H' := Aside0.mk H
               clear H
               obtain ⟨Ao35, co35, eo35⟩ := Kd.R_slice HO_8.out
               subst eo35
               go_wp2_with (first | ((with_reducible refine gate_builtin (b := .append) (xs := #[.tmp 45, .tmp 47]) rfl ?_); at_builtin; refine Kd.S_append (Kd.slice 4 Kd.bool) (w0 := w) w.heap.size rfl (.tmp 45) (.tmp 47) 80 54 (.slice none 0 0) 24 rfl Try.underlying80 info54 rfl (by decide) (by omega) u5 x5_1 x8_2 [.slice Ao35 x8_2.length co35] (fun k_ => some k_ ≠ (v340 : Value).ownBlock ∧ some k_ ≠ (v346 : Value).ownBlock) (fun k_ => some k_ = (.slice Ao35 x8_2.length co35 : Value).ownBlock) rfl rfl ?aP (fun k_ hk_ => ((Kd.R_mono (ok' := fun k_ => ((fun k_ => some k_ ≠ (v340 : Value).ownBlock ∧ some k_ ≠ (v346 : Value).ownBlock)) k_ ∧ some k_ ≠ (u5 : Value).ownBlock) (Kd.R_apart' (HO_8.out) (Kd.S_typed HO_5.out) (by decide)) (fun k_ hk => ⟨⟨hk.1.1, hk.1.2⟩, hk.2⟩))).1 k_ hk_.symm) ?aF ?aO ?aB ?aS ?aL ?_; (case aP => exact Kd.M_row (Kd.R_mono (Kd.R_tight rfl (Kd.R_mono (ok' := fun k_ => ((fun k_ => some k_ ≠ (v340 : Value).ownBlock ∧ some k_ ≠ (v346 : Value).ownBlock)) k_ ∧ some k_ ≠ (u5 : Value).ownBlock) (Kd.R_apart' (HO_8.out) (Kd.S_typed HO_5.out) (by decide)) (fun k_ hk => ⟨⟨hk.1.1, hk.1.2⟩, hk.2⟩))) (fun _ h_ => h_))); (case aB => exact (by repeat (first | (with_reducible first | exact HB.out | apply below_alloc | apply pw_below_drewN | apply below_drew1 | refine below_set ?_ GE338.out) | exact HB.out))); (case aF => exact (fun k_ hk => ⟨Kd.fresh' (Kd.R_lt (by (with_reducible repeat (first | apply Kd.R_alloc | apply Kd.R_drewN | apply Kd.R_drew)); exact HO_4.out)) k_ hk, Kd.fresh' (Kd.R_lt (by (with_reducible repeat (first | apply Kd.R_alloc | apply Kd.R_drewN | apply Kd.R_drew)); exact HO_7.out)) k_ hk⟩)); (case aO => exact (by (with_reducible repeat (first | apply Kd.S_alloc | apply Kd.S_drewN | apply Kd.S_drew)); exact Kd.S_mono HO_5.out (fun k_ hk => ⟨⟨hk.1, hk.2.1⟩, fun e_ => hk.2.2 e_⟩))); (case aS => exact (below_size (by repeat (first | (with_reducible first | exact HB.out | apply below_alloc | apply pw_below_drewN | apply below_drew1 | refine below_set ?_ GE338.out) | exact HB.out)))); (case aL => have := LMc33.out; omega); intro v356 w34 ho hb hg hat; rw [← Ny355.out] at ho; have n0_ := Aside0.mk (Kd.R_over' (by (with_reducible repeat (first | apply Kd.R_alloc | apply Kd.R_drewN | apply Kd.R_drew)); exact HO_4.out) (Kd.S_typed (by (with_reducible repeat (first | apply Kd.S_alloc | apply Kd.S_drewN | apply Kd.S_drew)); exact HO_5.out)) (by decide) hg); have n1_ := Aside0.mk (Kd.R_over' (by (with_reducible repeat (first | apply Kd.R_alloc | apply Kd.R_drewN | apply Kd.R_drew)); exact HO_7.out) (Kd.S_typed (by (with_reducible repeat (first | apply Kd.S_alloc | apply Kd.S_drewN | apply Kd.S_drew)); exact HO_5.out)) (by decide) hg); have n2_ := Aside0.mk (blk_grown (g := gb338) (o := .cells #[.slice A0_0 l0_0.length c0_0, .slice A0_1 l0_1.length c0_1] 52 (0, 0)) (by (with_reducible repeat (first | refine blk_drewN ?_ _ | refine blk_drew ?_ | refine blk_alloc ?_ _)); exact BK338.out) hg (Kd.S_ne HO_5.out BK338.out (by decide))); have n3_ := Aside0.mk (hb); have n4_ := Aside0.mk (ho); clear HO_4; clear HO_7; clear BK338; clear HB; clear HO_5; clear HO_8; have HO_4 := n0_; have HO_7 := n1_; have BK338 := n2_; have HB := n3_; have HO357 := n4_; clear n0_ n1_ n2_ n3_ n4_; clear ho hb hg hat))
               go_roundg k2
               case measure => have := HK1.out; have := HK2.out; omega
               case rel => exact ⟨(x4_1), (y355), (wrap64 (x6_1 + 1)), (by first | rfl | (simp; done) | (simp [*]; done)), H', ⟨by have := HK1.out; have := HK2.out; omega⟩, ⟨by (with_reducible repeat (first | apply Kd.R_alloc | apply Kd.R_drewN | apply Kd.R_drew)); exact Kd.R_mono HO_4.out (fun _ hk => trivial)⟩, ⟨by (with_reducible repeat (first | apply Kd.S_alloc | apply Kd.S_drewN | apply Kd.S_drew)); exact Kd.S_mono HO357.out (fun _ hk => hk.1)⟩, ⟨by (with_reducible repeat (first | refine blk_drewN ?_ _ | refine blk_drew ?_ | refine blk_alloc ?_ _)); exact BK338.out⟩, ⟨by repeat (first | (with_reducible first | exact HB.out | apply below_alloc | apply pw_below_drewN | apply below_drew1 | refine below_set ?_ GE338.out) | exact HB.out)⟩⟩
             · rw [if_neg c33] at H
               exact absurd H (by simp)
       · rw [if_neg c11] at H
         exact absurd H (by simp)
     · rw [if_neg c10] at H
       exact absurd H (by simp)
   · rw [if_neg c8] at H
     have c8b0 : decide (x6_1 < (l0_0.length : Int)) = false := decide_eq_false c8
     clear c8
     obtain rfl := Option.some.inj H
     go_wp2
     go_ret
     exact ⟨_, by first | rfl | (simp [errW_none, errW_some] <;> rfl) | (simp [*, errW_none, errW_some] <;> rfl), by (with_reducible repeat (first | apply Kd.S_alloc | apply Kd.S_drewN | apply Kd.S_drew)); exact Kd.S_mono HO_5.out (fun _ hk => trivial), by repeat (first | (with_reducible first | exact HB.out | apply below_alloc | apply pw_below_drewN | apply below_drew1 | refine below_set ?_ GE338.out) | exact HB.out)⟩

end Go.Proofs.Ytoedcnhgobbnfaa.All


namespace Go.Proofs.Ytoedcnhgobbnfaa.All
open Go.RowKit Go.Proofs.YtoedcnhgobbnfaaW.PrintWords Go.Proofs.YtoedcnhgobbnfaaW.PrintLast Go.Proofs.YtoedcnhgobbnfaaW.PrintMore
attribute [local go_sem] max2_int min2_int max_two min_two max_three min_three max_four min_four   -- for this text's walks alone
set_option linter.unusedVariables false
set_option linter.unusedSimpArgs false

/-! ### spec_l4Frontier: function 61 -/
mutual
def spec_l4Frontier.l0 : Nat → List (List Bool) → Int → List Int → Int → List (List Int) → List (List Int) → Option (List Int)
 | 0, _, _, _, _, _, _ => none
 | k + 1, x1, x2, x7, x8, x464000, x464001 => if x8 < (x464000.length : Int) then (spec_l4Frontier.l1 k x1 x2 x7 x8 false 0 x464000 x464001) else (some x7)
def spec_l4Frontier.l1 : Nat → List (List Bool) → Int → List Int → Int → Bool → Int → List (List Int) → List (List Int) → Option (List Int)
 | 0, _, _, _, _, _, _, _, _ => none
 | k + 1, x1, x2, x7, x8, x9, x10, x464000, x464001 => if 0 ≤ x8 then (if x8 < (x464001.length : Int) then (if x10 < ((rd_L4 x464001 x8).length : Int) then (if x9 = true then (spec_l4Frontier.l1 k x1 x2 x7 x8 true (wrap64 (x10 + 1)) x464000 x464001) else (if 0 ≤ x2 then (if x2 < (x1.length : Int) then (if 0 ≤ x10 then (if 0 ≤ (rd (rd_L4 x464001 x8) x10) then (if (rd (rd_L4 x464001 x8) x10) < ((rd_L18 x1 x2).length : Int) then (spec_l4Frontier.l1 k x1 x2 x7 x8 (rdOf false (rd_L18 x1 x2) (rd (rd_L4 x464001 x8) x10)) (wrap64 (x10 + 1)) x464000 x464001) else (none)) else (none)) else (none)) else (none)) else (none))) else (if x9 = true then (if 0 ≤ x2 then (if x2 < (x1.length : Int) then (if x8 < ((rd_L18 x1 x2).length : Int) then (if (rdOf false (rd_L18 x1 x2) x8 = true) then (if x2 = x8 then (if x7.length < 17592186044416 then (spec_l4Frontier.l0 k x1 x2 (x7 ++ [x8]) (wrap64 (x8 + 1)) x464000 x464001) else (none)) else (spec_l4Frontier.l0 k x1 x2 x7 (wrap64 (x8 + 1)) x464000 x464001)) else (if x7.length < 17592186044416 then (spec_l4Frontier.l0 k x1 x2 (x7 ++ [x8]) (wrap64 (x8 + 1)) x464000 x464001) else (none))) else (none)) else (none)) else (none)) else (spec_l4Frontier.l0 k x1 x2 x7 (wrap64 (x8 + 1)) x464000 x464001))) else (none)) else (none)
end
def spec_l4Frontier.f (k : Nat) (l0_0 : List (List Int)) (l0_1 : List (List Int)) (l1 : List (List Bool)) (a2 : Int) : Option (List Int) := spec_l4Frontier.l0 k l1 a2 (([] : List Int)) 0 l0_0 l0_1
set_option maxHeartbeats 8000000 in
set_option maxRecDepth 100000 in
theorem spec_l4Frontier.calls (k : Nat) (A0_0 : Option Addr) (c0_0 : Nat) (l0_0 : List (List Int)) (A0_1 : Option Addr) (c0_1 : Nat) (l0_1 : List (List Int)) (A1 : Option Addr) (c1 : Nat) (l1 : List (List Bool)) (a2 : Int) (r : List Int) (w : World) (hr0_0 : Kd.C (Kd.slice 2 (Kd.int .i64)) w A0_0 l0_0.length l0_0) (hc0_0 : l0_0.length ≤ c0_0) (hr0_1 : Kd.C (Kd.slice 2 (Kd.int .i64)) w A0_1 l0_1.length l0_1) (hc0_1 : l0_1.length ≤ c0_1) (hr1 : Kd.C (Kd.slice 4 Kd.bool) w A1 l1.length l1) (hc1 : l1.length ≤ c1) (h : spec_l4Frontier.f k l0_0 l0_1 l1 a2 = some r) :
 Calls Try.prog 61 #[.agg #[.slice A0_0 l0_0.length c0_0, .slice A0_1 l0_1.length c0_1], .slice A1 l1.length c1, .int .i64 a2] w fun e w' => ∃ v0_ : Value, e = .returned (v0_) ∧ Kd.R (Kd.int .i64) 2 w' w.heap.size (fun _ => True) v0_ r ∧ Below w.heap.size w w' := by
 have hu52 := Try.underlying52
 have HR0_0 := Aside0.mk hr0_0
 have HC0_0 := Aside0.mk hc0_0
 clear hr0_0 hc0_0
 have HR0_1 := Aside0.mk hr0_1
 have HC0_1 := Aside0.mk hc0_1
 clear hr0_1 hc0_1
 have HR1 := Aside0.mk hr1
 have HC1 := Aside0.mk hc1
 clear hr1 hc1
 have HB := Aside0.mk (Below.refl w.heap.size w)
 have H : (spec_l4Frontier.l0 k l1 a2 (([] : List Int)) 0 l0_0 l0_1) = some r := h
 clear h
 obtain ⟨y464, hy464⟩ : ∃ y_ : List Int, y_ = (([] : List Int)) := ⟨_, rfl⟩
 replace H : (spec_l4Frontier.l0 k l1 a2 y464 0 l0_0 l0_1) = some r := by first | (rw [hy464]; with_reducible exact H) | (have H2_ := (Option.bind_some _ _).symm.trans H; rw [hy464]; with_reducible exact H2_) | (have H2_ := (Option.bind_some _ _).symm.trans H; with_reducible exact H2_) | with_reducible exact H | (rw [hy464]; exact H) | exact H
 have Ny464 := Aside0.mk hy464
 clear hy464
 have H' := Aside0.mk H
 clear H
 go_enter Try.func61, Try.ntmps61
 go_wp2_with (first | ((with_reducible refine gate_dst (N := 3) rfl ?_); refine box_event ?hg (N := 3) ?hd (cs := #[.slice A0_0 l0_0.length c0_0, .slice A0_1 l0_1.length c0_1]) (t := 52) ?hr ?_; (case hd => rfl); (case hg => rfl); (case hr => first | (go_simp; done) | (go_simp; rfl)); intro gb463 hg w4 hbox hb; have n0_ := Aside0.mk (below_step (by repeat (first | (with_reducible first | exact HB.out | apply below_alloc | apply pw_below_drewN | apply below_drew1) | exact HB.out)) hb); have n1_ := Aside0.mk (hbox); have n2_ := Aside0.mk ((by rw [hg]; exact (below_size (by repeat (first | (with_reducible first | exact HB.out | apply below_alloc | apply pw_below_drewN | apply below_drew1) | exact HB.out))) : w.heap.size ≤ gb463)); have n3_ := Aside0.mk ((by rw [hg]; exact (below_size (by repeat (first | (with_reducible first | exact HB.out | apply below_alloc | apply pw_below_drewN | apply below_drew1) | exact HB.out))) : w.heap.size ≤ gb463)); clear HB; have HB := n0_; have BK463 := n1_; have GW463 := n2_; have GE463 := n3_; clear n0_ n1_ n2_ n3_; clear hb hbox hg) | ((with_reducible refine gate_dst (N := 11) rfl ?_); refine Kd.R_lit (Kd.int .i64) _ 2 ?hg (N := 11) ?hd (xs := ([] : List Int)) (inner := []) (ok := fun _ => True) (okp := fun _ => True) ?hr ?hp (fun _ hk => hk) trivial (Below.refl _ _) (Nat.le_refl _) (by simp) ?_; (case hd => rfl); (case hg => rfl); (case hr => first | (go_simp; done) | (go_simp; rfl)); (case hp => exact (Reps.none _ _)); intro v465 w5 ho6 hb hg_ hnew_; clear hg_ hnew_; (first | rw [← Ny464.out] at ho6 | (simp only [Int.reduceToNat] at ho6; rw [← Ny464.out] at ho6)); have n0_ := Aside0.mk (Kd.R_lower ho6 (below_size (by repeat (first | (with_reducible first | exact HB.out | apply below_alloc | apply pw_below_drewN | apply below_drew1 | refine below_set ?_ GE463.out) | exact HB.out)))); have n1_ := Aside0.mk (blk_below (g := gb463) (o := .cells #[.slice A0_0 l0_0.length c0_0, .slice A0_1 l0_1.length c0_1] 52 (0, 0)) (by (with_reducible repeat (first | refine blk_drewN ?_ _ | refine blk_drew ?_ | refine blk_alloc ?_ _)); exact BK463.out) hb); have n2_ := Aside0.mk (below_step (by repeat (first | (with_reducible first | exact HB.out | apply below_alloc | apply pw_below_drewN | apply below_drew1 | refine below_set ?_ GE463.out) | exact HB.out)) hb); clear BK463; clear HB; have HO466 := n0_; have BK463 := n1_; have HB := n2_; clear n0_ n1_ n2_; clear hb ho6))
 repeat (go_quiet (first | ((with_reducible refine gate_dst (N := 3) rfl ?_); refine box_event ?hg (N := 3) ?hd (cs := #[.slice A0_0 l0_0.length c0_0, .slice A0_1 l0_1.length c0_1]) (t := 52) ?hr ?_; (case hd => rfl); (case hg => rfl); (case hr => first | (go_simp; done) | (go_simp; rfl)); intro gb463 hg w4 hbox hb; have n0_ := Aside0.mk (below_step (by repeat (first | (with_reducible first | exact HB.out | apply below_alloc | apply pw_below_drewN | apply below_drew1) | exact HB.out)) hb); have n1_ := Aside0.mk (hbox); have n2_ := Aside0.mk ((by rw [hg]; exact (below_size (by repeat (first | (with_reducible first | exact HB.out | apply below_alloc | apply pw_below_drewN | apply below_drew1) | exact HB.out))) : w.heap.size ≤ gb463)); have n3_ := Aside0.mk ((by rw [hg]; exact (below_size (by repeat (first | (with_reducible first | exact HB.out | apply below_alloc | apply pw_below_drewN | apply below_drew1) | exact HB.out))) : w.heap.size ≤ gb463)); clear HB; have HB := n0_; have BK463 := n1_; have GW463 := n2_; have GE463 := n3_; clear n0_ n1_ n2_ n3_; clear hb hbox hg) | ((with_reducible refine gate_dst (N := 11) rfl ?_); refine Kd.R_lit (Kd.int .i64) _ 2 ?hg (N := 11) ?hd (xs := ([] : List Int)) (inner := []) (ok := fun _ => True) (okp := fun _ => True) ?hr ?hp (fun _ hk => hk) trivial (Below.refl _ _) (Nat.le_refl _) (by simp) ?_; (case hd => rfl); (case hg => rfl); (case hr => first | (go_simp; done) | (go_simp; rfl)); (case hp => exact (Reps.none _ _)); intro v465 w5 ho6 hb hg_ hnew_; clear hg_ hnew_; (first | rw [← Ny464.out] at ho6 | (simp only [Int.reduceToNat] at ho6; rw [← Ny464.out] at ho6)); have n0_ := Aside0.mk (Kd.R_lower ho6 (below_size (by repeat (first | (with_reducible first | exact HB.out | apply below_alloc | apply pw_below_drewN | apply below_drew1 | refine below_set ?_ GE463.out) | exact HB.out)))); have n1_ := Aside0.mk (blk_below (g := gb463) (o := .cells #[.slice A0_0 l0_0.length c0_0, .slice A0_1 l0_1.length c0_1] 52 (0, 0)) (by (with_reducible repeat (first | refine blk_drewN ?_ _ | refine blk_drew ?_ | refine blk_alloc ?_ _)); exact BK463.out) hb); have n2_ := Aside0.mk (below_step (by repeat (first | (with_reducible first | exact HB.out | apply below_alloc | apply pw_below_drewN | apply below_drew1 | refine below_set ?_ GE463.out) | exact HB.out)) hb); clear BK463; clear HB; have HO466 := n0_; have BK463 := n1_; have HB := n2_; clear n0_ n1_ n2_; clear hb ho6)); try go_wp2_with (first | ((with_reducible refine gate_dst (N := 3) rfl ?_); refine box_event ?hg (N := 3) ?hd (cs := #[.slice A0_0 l0_0.length c0_0, .slice A0_1 l0_1.length c0_1]) (t := 52) ?hr ?_; (case hd => rfl); (case hg => rfl); (case hr => first | (go_simp; done) | (go_simp; rfl)); intro gb463 hg w4 hbox hb; have n0_ := Aside0.mk (below_step (by repeat (first | (with_reducible first | exact HB.out | apply below_alloc | apply pw_below_drewN | apply below_drew1) | exact HB.out)) hb); have n1_ := Aside0.mk (hbox); have n2_ := Aside0.mk ((by rw [hg]; exact (below_size (by repeat (first | (with_reducible first | exact HB.out | apply below_alloc | apply pw_below_drewN | apply below_drew1) | exact HB.out))) : w.heap.size ≤ gb463)); have n3_ := Aside0.mk ((by rw [hg]; exact (below_size (by repeat (first | (with_reducible first | exact HB.out | apply below_alloc | apply pw_below_drewN | apply below_drew1) | exact HB.out))) : w.heap.size ≤ gb463)); clear HB; have HB := n0_; have BK463 := n1_; have GW463 := n2_; have GE463 := n3_; clear n0_ n1_ n2_ n3_; clear hb hbox hg) | ((with_reducible refine gate_dst (N := 11) rfl ?_); refine Kd.R_lit (Kd.int .i64) _ 2 ?hg (N := 11) ?hd (xs := ([] : List Int)) (inner := []) (ok := fun _ => True) (okp := fun _ => True) ?hr ?hp (fun _ hk => hk) trivial (Below.refl _ _) (Nat.le_refl _) (by simp) ?_; (case hd => rfl); (case hg => rfl); (case hr => first | (go_simp; done) | (go_simp; rfl)); (case hp => exact (Reps.none _ _)); intro v465 w5 ho6 hb hg_ hnew_; clear hg_ hnew_; (first | rw [← Ny464.out] at ho6 | (simp only [Int.reduceToNat] at ho6; rw [← Ny464.out] at ho6)); have n0_ := Aside0.mk (Kd.R_lower ho6 (below_size (by repeat (first | (with_reducible first | exact HB.out | apply below_alloc | apply pw_below_drewN | apply below_drew1 | refine below_set ?_ GE463.out) | exact HB.out)))); have n1_ := Aside0.mk (blk_below (g := gb463) (o := .cells #[.slice A0_0 l0_0.length c0_0, .slice A0_1 l0_1.length c0_1] 52 (0, 0)) (by (with_reducible repeat (first | refine blk_drewN ?_ _ | refine blk_drew ?_ | refine blk_alloc ?_ _)); exact BK463.out) hb); have n2_ := Aside0.mk (below_step (by repeat (first | (with_reducible first | exact HB.out | apply below_alloc | apply pw_below_drewN | apply below_drew1 | refine below_set ?_ GE463.out) | exact HB.out)) hb); clear BK463; clear HB; have HO466 := n0_; have BK463 := n1_; have HB := n2_; clear n0_ n1_ n2_; clear hb ho6)))
 go_loopg [7, 8] k (fun kq v7 v8 w' => ∃ (x7_1 : List Int) (x8_1 : Int), v8 = .int .i64 x8_1 ∧ Aside0 (spec_l4Frontier.l0 kq l1 a2 x7_1 x8_1 l0_0 l0_1 = some r) ∧ Aside0 (kq ≤ k) ∧ Aside0 (Kd.R (Kd.int .i64) 2 w' w.heap.size (fun _ => True) v7 x7_1) ∧ Aside0 (w'.heap[gb463]? = some (.cells #[(.slice A0_0 l0_0.length c0_0), (.slice A0_1 l0_1.length c0_1)] 52 (0, 0))) ∧ Aside0 (Below w.heap.size w w'))
 case atStart => exact ⟨(y464), (0), (by first | rfl | (simp; done) | (simp [*]; done)), H', ⟨Nat.le_refl _⟩, ⟨by (with_reducible repeat (first | apply Kd.R_alloc | apply Kd.R_drewN | apply Kd.R_drew)); exact HO466.out⟩, ⟨by (with_reducible repeat (first | refine blk_drewN ?_ _ | refine blk_drew ?_ | refine blk_alloc ?_ _)); exact BK463.out⟩, ⟨by repeat (first | (with_reducible first | exact HB.out | apply below_alloc | apply pw_below_drewN | apply below_drew1 | refine below_set ?_ GE463.out) | exact HB.out)⟩⟩
 case round =>
  clear H'
  try clear c1
  try clear p2
  try clear c6
  obtain ⟨x7_1, x8_1, rfl, HA, HK1, HO_7, BK463, HB⟩ := hrel
  cases gk with
  | zero => exact absurd HA.out (by simp [spec_l4Frontier.l0])
  | succ k1 =>
   have H := HA.out
   clear HA
   simp only [spec_l4Frontier.l0] at H
   by_cases c7 : x8_1 < (l0_0.length : Int)
   · rw [if_pos c7] at H
     have c7b0 : decide (x8_1 < (l0_0.length : Int)) = true := decide_eq_true c7
     clear c7
     have H' := Aside0.mk H
     clear H
     have hcz8_0 : wr.cell? ⟨gb463, 0, none⟩ = some (.slice A0_0 l0_0.length c0_0) := (blk_cell BK463.out 0).trans rfl
     have hcz8_1 : wr.cell? ⟨gb463, 1, none⟩ = some (.slice A0_1 l0_1.length c0_1) := (blk_cell BK463.out 1).trans rfl
     have hfz8_0 := blk_frozen BK463.out 0
     have hfz8_1 := blk_frozen BK463.out 1
     go_wp2
     repeat (go_quiet (fail); try go_wp2)
     go_loopg [9, 10] k1 (fun kq v9 v10 w' => ∃ (x9_2 : Bool) (x10_2 : Int), v9 = .bool x9_2 ∧ v10 = .int .i64 x10_2 ∧ Aside0 (spec_l4Frontier.l1 kq l1 a2 x7_1 x8_1 x9_2 x10_2 l0_0 l0_1 = some r) ∧ Aside0 (kq ≤ k1) ∧ Aside0 (Kd.R (Kd.int .i64) 2 w' w.heap.size (fun _ => True) u7 x7_1) ∧ Aside0 (w'.heap[gb463]? = some (.cells #[(.slice A0_0 l0_0.length c0_0), (.slice A0_1 l0_1.length c0_1)] 52 (0, 0))) ∧ Aside0 (Below w.heap.size w w'))
     case atStart => exact ⟨(false), (0), (by first | rfl | (simp; done) | (simp [*]; done)), (by first | rfl | (simp; done) | (simp [*]; done)), H', ⟨Nat.le_refl _⟩, ⟨by (with_reducible repeat (first | apply Kd.R_alloc | apply Kd.R_drewN | apply Kd.R_drew)); exact HO_7.out⟩, ⟨by (with_reducible repeat (first | refine blk_drewN ?_ _ | refine blk_drew ?_ | refine blk_alloc ?_ _)); exact BK463.out⟩, ⟨by repeat (first | (with_reducible first | exact HB.out | apply below_alloc | apply pw_below_drewN | apply below_drew1 | refine below_set ?_ GE463.out) | exact HB.out)⟩⟩
     case round =>
      clear H'
      try clear c1
      try clear p2
      try clear c6
      try clear c7
      try clear c7b0
      try clear hcz8_0
      try clear hcz8_1
      try clear hfz8_0
      try clear hfz8_1
      try clear p2
      obtain ⟨x9_2, x10_2, rfl, rfl, HA, HK2, HO_7, BK463, HB⟩ := hrel
      cases gk with
      | zero => exact absurd HA.out (by simp [spec_l4Frontier.l1])
      | succ k2 =>
       have H := HA.out
       clear HA
       simp only [spec_l4Frontier.l1] at H
       by_cases c9 : 0 ≤ x8_1
       · rw [if_pos c9] at H
         have c9b0 : decide (0 ≤ x8_1) = true := decide_eq_true c9
         clear c9
         by_cases c10 : x8_1 < (l0_1.length : Int)
         · rw [if_pos c10] at H
           have c10b0 : decide (x8_1 < (l0_1.length : Int)) = true := decide_eq_true c10
           clear c10
           by_cases c11 : x10_2 < ((rd_L4 l0_1 x8_1).length : Int)
           · rw [if_pos c11] at H
             have c11b0 : decide (x10_2 < ((rd_L4 l0_1 x8_1).length : Int)) = true := decide_eq_true c11
             clear c11
             by_cases c12 : x9_2 = true
             · subst c12
               have H1 : (spec_l4Frontier.l1 k2 l1 a2 x7_1 x8_1 true (wrap64 (x10_2 + 1)) l0_0 l0_1) = some r := by rw [if_pos rfl] at H; exact H
               clear H
               have H := H1
               clear H1
               have H' := Aside0.mk H
               clear H
               have hcz13_0 : wr.cell? ⟨gb463, 0, none⟩ = some (.slice A0_0 l0_0.length c0_0) := (blk_cell BK463.out 0).trans rfl
               have hcz13_1 : wr.cell? ⟨gb463, 1, none⟩ = some (.slice A0_1 l0_1.length c0_1) := (blk_cell BK463.out 1).trans rfl
               have hfz13_0 := blk_frozen BK463.out 0
               have hfz13_1 := blk_frozen BK463.out 1
               have p467 : 0 ≤ (x8_1 : Int) := of_decide_eq_true (by first | (with_reducible assumption) | assumption)
               have q467 : x8_1 < (l0_1.length : Int) := of_decide_eq_true (by first | (with_reducible assumption) | assumption)
               obtain ⟨ad467, A467_0, c467_0, e467, hx467_0, hl467_0, hi467_0⟩ := at_L4 HR0_1.out x8_1 p467 q467
               cases e467
               replace hx467_0 := (HB.out.cell (World.block_lt_of_cell? w _ hx467_0)).trans hx467_0
               have HR467_0 := Aside0.mk hi467_0
               have HC467_0 := Aside0.mk hl467_0
               clear hi467_0 hl467_0
               replace p467 := eq_true p467
               replace q467 := eq_true q467
               go_wp2
               repeat (go_quiet (fail); try go_wp2)
               go_roundg k2
               case measure => have := HK1.out; have := HK2.out; omega
               case rel => exact ⟨(true), (wrap64 (x10_2 + 1)), (by first | rfl | (simp; done) | (simp [*]; done)), (by first | rfl | (simp; done) | (simp [*]; done)), H', ⟨by have := HK1.out; have := HK2.out; omega⟩, ⟨by (with_reducible repeat (first | apply Kd.R_alloc | apply Kd.R_drewN | apply Kd.R_drew)); exact HO_7.out⟩, ⟨by (with_reducible repeat (first | refine blk_drewN ?_ _ | refine blk_drew ?_ | refine blk_alloc ?_ _)); exact BK463.out⟩, ⟨by repeat (first | (with_reducible first | exact HB.out | apply below_alloc | apply pw_below_drewN | apply below_drew1 | refine below_set ?_ GE463.out) | exact HB.out)⟩⟩
             · replace c12 := Bool.eq_false_iff.mpr c12
               subst c12
               have H1 : (if 0 ≤ a2 then (if a2 < (l1.length : Int) then (if 0 ≤ x10_2 then (if 0 ≤ (rd (rd_L4 l0_1 x8_1) x10_2) then (if (rd (rd_L4 l0_1 x8_1) x10_2) < ((rd_L18 l1 a2).length : Int) then (spec_l4Frontier.l1 k2 l1 a2 x7_1 x8_1 (rdOf false (rd_L18 l1 a2) (rd (rd_L4 l0_1 x8_1) x10_2)) (wrap64 (x10_2 + 1)) l0_0 l0_1) else (none)) else (none)) else (none)) else (none)) else (none)) = some r := by rw [if_neg (show ¬ (false = true) by decide)] at H; exact H
               clear H
               have H := H1
               clear H1
               by_cases c14 : 0 ≤ a2
               · rw [if_pos c14] at H
                 have c14b0 : decide (0 ≤ a2) = true := decide_eq_true c14
                 clear c14
                 by_cases c15 : a2 < (l1.length : Int)
                 · rw [if_pos c15] at H
                   have c15b0 : decide (a2 < (l1.length : Int)) = true := decide_eq_true c15
                   clear c15
                   by_cases c16 : 0 ≤ x10_2
                   · rw [if_pos c16] at H
                     have c16b0 : decide (0 ≤ x10_2) = true := decide_eq_true c16
                     clear c16
                     by_cases c17 : 0 ≤ (rd (rd_L4 l0_1 x8_1) x10_2)
                     · rw [if_pos c17] at H
                       have c17b0 : decide (0 ≤ (rd (rd_L4 l0_1 x8_1) x10_2)) = true := decide_eq_true c17
                       clear c17
                       by_cases c18 : (rd (rd_L4 l0_1 x8_1) x10_2) < ((rd_L18 l1 a2).length : Int)
                       · rw [if_pos c18] at H
                         have c18b0 : decide ((rd (rd_L4 l0_1 x8_1) x10_2) < ((rd_L18 l1 a2).length : Int)) = true := decide_eq_true c18
                         clear c18
                         have H' := Aside0.mk H
                         clear H
                         have hcz19_0 : wr.cell? ⟨gb463, 0, none⟩ = some (.slice A0_0 l0_0.length c0_0) := (blk_cell BK463.out 0).trans rfl
                         have hcz19_1 : wr.cell? ⟨gb463, 1, none⟩ = some (.slice A0_1 l0_1.length c0_1) := (blk_cell BK463.out 1).trans rfl
                         have hfz19_0 := blk_frozen BK463.out 0
                         have hfz19_1 := blk_frozen BK463.out 1
                         have p467 : 0 ≤ (x8_1 : Int) := of_decide_eq_true (by first | (with_reducible assumption) | assumption)
                         have q467 : x8_1 < (l0_1.length : Int) := of_decide_eq_true (by first | (with_reducible assumption) | assumption)
                         obtain ⟨ad467, A467_0, c467_0, e467, hx467_0, hl467_0, hi467_0⟩ := at_L4 HR0_1.out x8_1 p467 q467
                         cases e467
                         replace hx467_0 := (HB.out.cell (World.block_lt_of_cell? w _ hx467_0)).trans hx467_0
                         have HR467_0 := Aside0.mk hi467_0
                         have HC467_0 := Aside0.mk hl467_0
                         clear hi467_0 hl467_0
                         replace p467 := eq_true p467
                         replace q467 := eq_true q467
                         have p468 : 0 ≤ (a2 : Int) := of_decide_eq_true (by first | (with_reducible assumption) | assumption)
                         have q468 : a2 < (l1.length : Int) := of_decide_eq_true (by first | (with_reducible assumption) | assumption)
                         obtain ⟨ad468, A468_0, c468_0, e468, hx468_0, hl468_0, hi468_0⟩ := at_L18 HR1.out a2 p468 q468
                         cases e468
                         replace hx468_0 := (HB.out.cell (World.block_lt_of_cell? w _ hx468_0)).trans hx468_0
                         have HR468_0 := Aside0.mk hi468_0
                         have HC468_0 := Aside0.mk hl468_0
                         clear hi468_0 hl468_0
                         replace p468 := eq_true p468
                         replace q468 := eq_true q468
                         have p469 : 0 ≤ (x8_1 : Int) := of_decide_eq_true (by first | (with_reducible assumption) | assumption)
                         have q469 : x8_1 < (l0_1.length : Int) := of_decide_eq_true (by first | (with_reducible assumption) | assumption)
                         obtain ⟨ad469, A469_0, c469_0, e469, hx469_0, hl469_0, hi469_0⟩ := at_L4 HR0_1.out x8_1 p469 q469
                         obtain rfl : ad467 = ad469 := (by injection e469)
                         replace hx469_0 := (HB.out.cell (World.block_lt_of_cell? w _ hx469_0)).trans hx469_0
                         have HR469_0 := Aside0.mk hi469_0
                         have HC469_0 := Aside0.mk hl469_0
                         clear hi469_0 hl469_0
                         replace p469 := eq_true p469
                         replace q469 := eq_true q469
                         have ea_ := Option.some.inj (hx467_0.symm.trans hx469_0)
                         injection ea_ with ea_ en_ ec_
                         subst ea_
                         subst ec_
                         clear en_
                         have p470 : 0 ≤ (x10_2 : Int) := of_decide_eq_true (by first | (with_reducible assumption) | assumption)
                         have q470 : x10_2 < ((rd_L4 l0_1 x8_1).length : Int) := of_decide_eq_true (by first | (with_reducible assumption) | assumption)
                         obtain ⟨ad470, e470, hx470_0⟩ := Kd.at_int HR469_0.out x10_2 p470 q470
                         cases e470
                         replace hx470_0 := (HB.out.cell (World.block_lt_of_cell? w _ hx470_0)).trans hx470_0
                         replace p470 := eq_true p470
                         replace q470 := eq_true q470
                         have p471 : 0 ≤ ((rd (rd_L4 l0_1 x8_1) x10_2) : Int) := of_decide_eq_true (by first | (with_reducible assumption) | assumption)
                         have q471 : (rd (rd_L4 l0_1 x8_1) x10_2) < ((rd_L18 l1 a2).length : Int) := of_decide_eq_true (by first | (with_reducible assumption) | assumption)
                         obtain ⟨ad471, e471, hx471_0⟩ := Kd.at_bool HR468_0.out (rd (rd_L4 l0_1 x8_1) x10_2) p471 q471
                         cases e471
                         replace hx471_0 := (HB.out.cell (World.block_lt_of_cell? w _ hx471_0)).trans hx471_0
                         replace p471 := eq_true p471
                         replace q471 := eq_true q471
                         go_wp2
                         repeat (go_quiet (fail); try go_wp2)
                         go_roundg k2
                         case measure => have := HK1.out; have := HK2.out; omega
                         case rel => exact ⟨(rdOf false (rd_L18 l1 a2) (rd (rd_L4 l0_1 x8_1) x10_2)), (wrap64 (x10_2 + 1)), (by first | rfl | (simp; done) | (simp [*]; done)), (by first | rfl | (simp; done) | (simp [*]; done)), H', ⟨by have := HK1.out; have := HK2.out; omega⟩, ⟨by (with_reducible repeat (first | apply Kd.R_alloc | apply Kd.R_drewN | apply Kd.R_drew)); exact HO_7.out⟩, ⟨by (with_reducible repeat (first | refine blk_drewN ?_ _ | refine blk_drew ?_ | refine blk_alloc ?_ _)); exact BK463.out⟩, ⟨by repeat (first | (with_reducible first | exact HB.out | apply below_alloc | apply pw_below_drewN | apply below_drew1 | refine below_set ?_ GE463.out) | exact HB.out)⟩⟩
                       · rw [if_neg c18] at H
                         exact absurd H (by simp)
                     · rw [if_neg c17] at H
                       exact absurd H (by simp)
                   · rw [if_neg c16] at H
                     exact absurd H (by simp)
                 · rw [if_neg c15] at H
                   exact absurd H (by simp)
               · rw [if_neg c14] at H
                 exact absurd H (by simp)
           · rw [if_neg c11] at H
             have c11b0 : decide (x10_2 < ((rd_L4 l0_1 x8_1).length : Int)) = false := decide_eq_false c11
             clear c11
             by_cases c20 : x9_2 = true
             · subst c20
               have H1 : (if 0 ≤ a2 then (if a2 < (l1.length : Int) then (if x8_1 < ((rd_L18 l1 a2).length : Int) then (if (rdOf false (rd_L18 l1 a2) x8_1 = true) then (if a2 = x8_1 then (if x7_1.length < 17592186044416 then (spec_l4Frontier.l0 k2 l1 a2 (x7_1 ++ [x8_1]) (wrap64 (x8_1 + 1)) l0_0 l0_1) else (none)) else (spec_l4Frontier.l0 k2 l1 a2 x7_1 (wrap64 (x8_1 + 1)) l0_0 l0_1)) else (if x7_1.length < 17592186044416 then (spec_l4Frontier.l0 k2 l1 a2 (x7_1 ++ [x8_1]) (wrap64 (x8_1 + 1)) l0_0 l0_1) else (none))) else (none)) else (none)) else (none)) = some r := by rw [if_pos rfl] at H; exact H
               clear H
               have H := H1
               clear H1
               by_cases c21 : 0 ≤ a2
               · rw [if_pos c21] at H
                 have c21b0 : decide (0 ≤ a2) = true := decide_eq_true c21
                 clear c21
                 by_cases c22 : a2 < (l1.length : Int)
                 · rw [if_pos c22] at H
                   have c22b0 : decide (a2 < (l1.length : Int)) = true := decide_eq_true c22
                   clear c22
                   by_cases c23 : x8_1 < ((rd_L18 l1 a2).length : Int)
                   · rw [if_pos c23] at H
                     have c23b0 : decide (x8_1 < ((rd_L18 l1 a2).length : Int)) = true := decide_eq_true c23
                     clear c23
                     obtain ⟨bq24, hbq24⟩ : ∃ b_ : Bool, b_ = (rdOf false (rd_L18 l1 a2) x8_1) := ⟨_, rfl⟩
                     replace H : (if (bq24 = true) then (if a2 = x8_1 then (if x7_1.length < 17592186044416 then (spec_l4Frontier.l0 k2 l1 a2 (x7_1 ++ [x8_1]) (wrap64 (x8_1 + 1)) l0_0 l0_1) else (none)) else (spec_l4Frontier.l0 k2 l1 a2 x7_1 (wrap64 (x8_1 + 1)) l0_0 l0_1)) else (if x7_1.length < 17592186044416 then (spec_l4Frontier.l0 k2 l1 a2 (x7_1 ++ [x8_1]) (wrap64 (x8_1 + 1)) l0_0 l0_1) else (none))) = some r := by rw [← hbq24] at H; exact H
                     have Nbq24 := Aside0.mk hbq24
                     clear hbq24
                     by_cases c25 : (bq24 = true)
                     · subst c25
                       have H1 : (if a2 = x8_1 then (if x7_1.length < 17592186044416 then (spec_l4Frontier.l0 k2 l1 a2 (x7_1 ++ [x8_1]) (wrap64 (x8_1 + 1)) l0_0 l0_1) else (none)) else (spec_l4Frontier.l0 k2 l1 a2 x7_1 (wrap64 (x8_1 + 1)) l0_0 l0_1)) = some r := by rw [if_pos rfl] at H; exact H
                       clear H
                       have H := H1
                       clear H1
                       by_cases c26 : a2 = x8_1
                       · rw [if_pos c26] at H
                         have c26b0 : (a2 == x8_1) = true := beq_iff_eq.mpr c26
                         have c26b1 : (a2 != x8_1) = false := bne_eq_false_iff_eq.mpr c26
                         clear c26
                         by_cases c27 : x7_1.length < 17592186044416
                         · rw [if_pos c27] at H
                           have LMc27 := Aside0.mk c27
                           clear c27
                           obtain ⟨y474, hy474⟩ : ∃ y_ : List Int, y_ = (x7_1 ++ [x8_1]) := ⟨_, rfl⟩
                           replace H : (spec_l4Frontier.l0 k2 l1 a2 y474 (wrap64 (x8_1 + 1)) l0_0 l0_1) = some r := by first | (rw [hy474]; with_reducible exact H) | (have H2_ := (Option.bind_some _ _).symm.trans H; rw [hy474]; with_reducible exact H2_) | (have H2_ := (Option.bind_some _ _).symm.trans H; with_reducible exact H2_) | with_reducible exact H | (rw [hy474]; exact H) | exact H
                           have Ny474 := Aside0.mk hy474
                           clear hy474
                           have H' := Aside0.mk H
                           clear H
                           have hcz28_0 : wr.cell? ⟨gb463, 0, none⟩ = some (.slice A0_0 l0_0.length c0_0) := (blk_cell BK463.out 0).trans rfl
                           have hcz28_1 : wr.cell? ⟨gb463, 1, none⟩ = some (.slice A0_1 l0_1.length c0_1) := (blk_cell BK463.out 1).trans rfl
                           have hfz28_0 := blk_frozen BK463.out 0
                           have hfz28_1 := blk_frozen BK463.out 1
                           have p467 : 0 ≤ (x8_1 : Int) := of_decide_eq_true (by first | (with_reducible assumption) | assumption)
                           have q467 : x8_1 < (l0_1.length : Int) := of_decide_eq_true (by first | (with_reducible assumption) | assumption)
                           obtain ⟨ad467, A467_0, c467_0, e467, hx467_0, hl467_0, hi467_0⟩ := at_L4 HR0_1.out x8_1 p467 q467
                           cases e467
                           replace hx467_0 := (HB.out.cell (World.block_lt_of_cell? w _ hx467_0)).trans hx467_0
                           have HR467_0 := Aside0.mk hi467_0
                           have HC467_0 := Aside0.mk hl467_0
                           clear hi467_0 hl467_0
                           replace p467 := eq_true p467
                           replace q467 := eq_true q467
                           have p472 : 0 ≤ (a2 : Int) := of_decide_eq_true (by first | (with_reducible assumption) | assumption)
                           have q472 : a2 < (l1.length : Int) := of_decide_eq_true (by first | (with_reducible assumption) | assumption)
                           obtain ⟨ad472, A472_0, c472_0, e472, hx472_0, hl472_0, hi472_0⟩ := at_L18 HR1.out a2 p472 q472
                           cases e472
                           replace hx472_0 := (HB.out.cell (World.block_lt_of_cell? w _ hx472_0)).trans hx472_0
                           have HR472_0 := Aside0.mk hi472_0
                           have HC472_0 := Aside0.mk hl472_0
                           clear hi472_0 hl472_0
                           replace p472 := eq_true p472
                           replace q472 := eq_true q472
                           have p473 : 0 ≤ (x8_1 : Int) := of_decide_eq_true (by first | (with_reducible assumption) | assumption)
                           have q473 : x8_1 < ((rd_L18 l1 a2).length : Int) := of_decide_eq_true (by first | (with_reducible assumption) | assumption)
                           obtain ⟨ad473, e473, hx473_0⟩ := Kd.at_bool HR472_0.out x8_1 p473 q473
                           (try rw [← Nbq24.out] at hx473_0)
                           cases e473
                           replace hx473_0 := (HB.out.cell (World.block_lt_of_cell? w _ hx473_0)).trans hx473_0
                           replace p473 := eq_true p473
                           replace q473 := eq_true q473
                           go_wp2_with (first | ((with_reducible refine gate_builtin (b := .append) (xs := #[.tmp 62, .tmp 64]) rfl ?_); at_builtin; refine Kd.R_append (Kd.int .i64) (w0 := w) w.heap.size rfl (.tmp 62) (.tmp 64) 22 2 (.int .i64 0) 8 rfl Try.underlying22 info2 rfl (by decide) (by omega) u7 x7_1 x8_1 [.int .i64 x8_1] (fun _ => True) (fun _ => False) rfl rfl ?aP (fun _ hk => hk.elim) ?aF ?aO ?aB ?aS ?aL ?_; (case aP => exact rfl); (case aB => exact (by repeat (first | (with_reducible first | exact HB.out | apply below_alloc | apply pw_below_drewN | apply below_drew1 | refine below_set ?_ GE463.out) | exact HB.out))); (case aF => exact (fun _ _ => trivial)); (case aO => exact (by (with_reducible repeat (first | apply Kd.R_alloc | apply Kd.R_drewN | apply Kd.R_drew)); exact HO_7.out)); (case aS => exact (below_size (by repeat (first | (with_reducible first | exact HB.out | apply below_alloc | apply pw_below_drewN | apply below_drew1 | refine below_set ?_ GE463.out) | exact HB.out)))); (case aL => have := LMc27.out; omega); intro v475 w29 ho hb hg hat; rw [← Ny474.out] at ho; have n0_ := Aside0.mk (blk_grown (g := gb463) (o := .cells #[.slice A0_0 l0_0.length c0_0, .slice (some ad467) l0_1.length c0_1] 52 (0, 0)) (by (with_reducible repeat (first | refine blk_drewN ?_ _ | refine blk_drew ?_ | refine blk_alloc ?_ _)); exact BK463.out) hg (Kd.R_ne HO_7.out BK463.out (by decide))); have n1_ := Aside0.mk (hb); have n2_ := Aside0.mk (ho); clear BK463; clear HB; clear HO_7; have BK463 := n0_; have HB := n1_; have HO476 := n2_; clear n0_ n1_ n2_; clear ho hb hg hat))
                           repeat (go_quiet (first | ((with_reducible refine gate_builtin (b := .append) (xs := #[.tmp 62, .tmp 64]) rfl ?_); at_builtin; refine Kd.R_append (Kd.int .i64) (w0 := w) w.heap.size rfl (.tmp 62) (.tmp 64) 22 2 (.int .i64 0) 8 rfl Try.underlying22 info2 rfl (by decide) (by omega) u7 x7_1 x8_1 [.int .i64 x8_1] (fun _ => True) (fun _ => False) rfl rfl ?aP (fun _ hk => hk.elim) ?aF ?aO ?aB ?aS ?aL ?_; (case aP => exact rfl); (case aB => exact (by repeat (first | (with_reducible first | exact HB.out | apply below_alloc | apply pw_below_drewN | apply below_drew1 | refine below_set ?_ GE463.out) | exact HB.out))); (case aF => exact (fun _ _ => trivial)); (case aO => exact (by (with_reducible repeat (first | apply Kd.R_alloc | apply Kd.R_drewN | apply Kd.R_drew)); exact HO_7.out)); (case aS => exact (below_size (by repeat (first | (with_reducible first | exact HB.out | apply below_alloc | apply pw_below_drewN | apply below_drew1 | refine below_set ?_ GE463.out) | exact HB.out)))); (case aL => have := LMc27.out; omega); intro v475 w29 ho hb hg hat; rw [← Ny474.out] at ho; have n0_ := Aside0.mk (blk_grown (g := gb463) (o := .cells #[.slice A0_0 l0_0.length c0_0, .slice (some ad467) l0_1.length c0_1] 52 (0, 0)) (by (with_reducible repeat (first | refine blk_drewN ?_ _ | refine blk_drew ?_ | refine blk_alloc ?_ _)); exact BK463.out) hg (Kd.R_ne HO_7.out BK463.out (by decide))); have n1_ := Aside0.mk (hb); have n2_ := Aside0.mk (ho); clear BK463; clear HB; clear HO_7; have BK463 := n0_; have HB := n1_; have HO476 := n2_; clear n0_ n1_ n2_; clear ho hb hg hat)); try go_wp2_with (first | ((with_reducible refine gate_builtin (b := .append) (xs := #[.tmp 62, .tmp 64]) rfl ?_); at_builtin; refine Kd.R_append (Kd.int .i64) (w0 := w) w.heap.size rfl (.tmp 62) (.tmp 64) 22 2 (.int .i64 0) 8 rfl Try.underlying22 info2 rfl (by decide) (by omega) u7 x7_1 x8_1 [.int .i64 x8_1] (fun _ => True) (fun _ => False) rfl rfl ?aP (fun _ hk => hk.elim) ?aF ?aO ?aB ?aS ?aL ?_; (case aP => exact rfl); (case aB => exact (by repeat (first | (with_reducible first | exact HB.out | apply below_alloc | apply pw_below_drewN | apply below_drew1 | refine below_set ?_ GE463.out) | exact HB.out))); (case aF => exact (fun _ _ => trivial)); (case aO => exact (by (with_reducible repeat (first | apply Kd.R_alloc | apply Kd.R_drewN | apply Kd.R_drew)); exact HO_7.out)); (case aS => exact (below_size (by repeat (first | (with_reducible first | exact HB.out | apply below_alloc | apply pw_below_drewN | apply below_drew1 | refine below_set ?_ GE463.out) | exact HB.out)))); (case aL => have := LMc27.out; omega); intro v475 w29 ho hb hg hat; rw [← Ny474.out] at ho; have n0_ := Aside0.mk (blk_grown (g := gb463) (o := .cells #[.slice A0_0 l0_0.length c0_0, .slice (some ad467) l0_1.length c0_1] 52 (0, 0)) (by (with_reducible repeat (first | refine blk_drewN ?_ _ | refine blk_drew ?_ | refine blk_alloc ?_ _)); exact BK463.out) hg (Kd.R_ne HO_7.out BK463.out (by decide))); have n1_ := Aside0.mk (hb); have n2_ := Aside0.mk (ho); clear BK463; clear HB; clear HO_7; have BK463 := n0_; have HB := n1_; have HO476 := n2_; clear n0_ n1_ n2_; clear ho hb hg hat)))
                           go_roundg k2
                           case measure => have := HK1.out; have := HK2.out; omega
                           case rel => exact ⟨(y474), (wrap64 (x8_1 + 1)), (by first | rfl | (simp; done) | (simp [*]; done)), H', ⟨by have := HK1.out; have := HK2.out; omega⟩, ⟨by (with_reducible repeat (first | apply Kd.R_alloc | apply Kd.R_drewN | apply Kd.R_drew)); exact HO476.out⟩, ⟨by (with_reducible repeat (first | refine blk_drewN ?_ _ | refine blk_drew ?_ | refine blk_alloc ?_ _)); exact BK463.out⟩, ⟨by repeat (first | (with_reducible first | exact HB.out | apply below_alloc | apply pw_below_drewN | apply below_drew1 | refine below_set ?_ GE463.out) | exact HB.out)⟩⟩
                         · rw [if_neg c27] at H
                           exact absurd H (by simp)
                       · rw [if_neg c26] at H
                         have c26b0 : (a2 == x8_1) = false := beq_eq_false_iff_ne.mpr c26
                         have c26b1 : (a2 != x8_1) = true := bne_iff_ne.mpr c26
                         have H' := Aside0.mk H
                         clear H
                         have hcz30_0 : wr.cell? ⟨gb463, 0, none⟩ = some (.slice A0_0 l0_0.length c0_0) := (blk_cell BK463.out 0).trans rfl
                         have hcz30_1 : wr.cell? ⟨gb463, 1, none⟩ = some (.slice A0_1 l0_1.length c0_1) := (blk_cell BK463.out 1).trans rfl
                         have hfz30_0 := blk_frozen BK463.out 0
                         have hfz30_1 := blk_frozen BK463.out 1
                         have p467 : 0 ≤ (x8_1 : Int) := of_decide_eq_true (by first | (with_reducible assumption) | assumption)
                         have q467 : x8_1 < (l0_1.length : Int) := of_decide_eq_true (by first | (with_reducible assumption) | assumption)
                         obtain ⟨ad467, A467_0, c467_0, e467, hx467_0, hl467_0, hi467_0⟩ := at_L4 HR0_1.out x8_1 p467 q467
                         cases e467
                         replace hx467_0 := (HB.out.cell (World.block_lt_of_cell? w _ hx467_0)).trans hx467_0
                         have HR467_0 := Aside0.mk hi467_0
                         have HC467_0 := Aside0.mk hl467_0
                         clear hi467_0 hl467_0
                         replace p467 := eq_true p467
                         replace q467 := eq_true q467
                         have p472 : 0 ≤ (a2 : Int) := of_decide_eq_true (by first | (with_reducible assumption) | assumption)
                         have q472 : a2 < (l1.length : Int) := of_decide_eq_true (by first | (with_reducible assumption) | assumption)
                         obtain ⟨ad472, A472_0, c472_0, e472, hx472_0, hl472_0, hi472_0⟩ := at_L18 HR1.out a2 p472 q472
                         cases e472
                         replace hx472_0 := (HB.out.cell (World.block_lt_of_cell? w _ hx472_0)).trans hx472_0
                         have HR472_0 := Aside0.mk hi472_0
                         have HC472_0 := Aside0.mk hl472_0
                         clear hi472_0 hl472_0
                         replace p472 := eq_true p472
                         replace q472 := eq_true q472
                         have p473 : 0 ≤ (x8_1 : Int) := of_decide_eq_true (by first | (with_reducible assumption) | assumption)
                         have q473 : x8_1 < ((rd_L18 l1 a2).length : Int) := of_decide_eq_true (by first | (with_reducible assumption) | assumption)
                         obtain ⟨ad473, e473, hx473_0⟩ := Kd.at_bool HR472_0.out x8_1 p473 q473
                         (try rw [← Nbq24.out] at hx473_0)
                         cases e473
                         replace hx473_0 := (HB.out.cell (World.block_lt_of_cell? w _ hx473_0)).trans hx473_0
                         replace p473 := eq_true p473
                         replace q473 := eq_true q473
                         go_wp2
                         repeat (go_quiet (fail); try go_wp2)
                         go_roundg k2
                         case measure => have := HK1.out; have := HK2.out; omega
                         case rel => exact ⟨(x7_1), (wrap64 (x8_1 + 1)), (by first | rfl | (simp; done) | (simp [*]; done)), H', ⟨by have := HK1.out; have := HK2.out; omega⟩, ⟨by (with_reducible repeat (first | apply Kd.R_alloc | apply Kd.R_drewN | apply Kd.R_drew)); exact HO_7.out⟩, ⟨by (with_reducible repeat (first | refine blk_drewN ?_ _ | refine blk_drew ?_ | refine blk_alloc ?_ _)); exact BK463.out⟩, ⟨by repeat (first | (with_reducible first | exact HB.out | apply below_alloc | apply pw_below_drewN | apply below_drew1 | refine below_set ?_ GE463.out) | exact HB.out)⟩⟩
                     · replace c25 := Bool.eq_false_iff.mpr c25
                       subst c25
                       have H1 : (if x7_1.length < 17592186044416 then (spec_l4Frontier.l0 k2 l1 a2 (x7_1 ++ [x8_1]) (wrap64 (x8_1 + 1)) l0_0 l0_1) else (none)) = some r := by rw [if_neg (show ¬ (false = true) by decide)] at H; exact H
                       clear H
                       have H := H1
                       clear H1
                       by_cases c31 : x7_1.length < 17592186044416
                       · rw [if_pos c31] at H
                         have LMc31 := Aside0.mk c31
                         clear c31
                         obtain ⟨y477, hy477⟩ : ∃ y_ : List Int, y_ = (x7_1 ++ [x8_1]) := ⟨_, rfl⟩
                         replace H : (spec_l4Frontier.l0 k2 l1 a2 y477 (wrap64 (x8_1 + 1)) l0_0 l0_1) = some r := by first | (rw [hy477]; with_reducible exact H) | (have H2_ := (Option.bind_some _ _).symm.trans H; rw [hy477]; with_reducible exact H2_) | (have H2_ := (Option.bind_some _ _).symm.trans H; with_reducible exact H2_) | with_reducible exact H | (rw [hy477]; exact H) | exact H
                         have Ny477 := Aside0.mk hy477
                         clear hy477
                         have H' := Aside0.mk H
                         clear H
                         have hcz32_0 : wr.cell? ⟨gb463, 0, none⟩ = some (.slice A0_0 l0_0.length c0_0) := (blk_cell BK463.out 0).trans rfl
                         have hcz32_1 : wr.cell? ⟨gb463, 1, none⟩ = some (.slice A0_1 l0_1.length c0_1) := (blk_cell BK463.out 1).trans rfl
                         have hfz32_0 := blk_frozen BK463.out 0
                         have hfz32_1 := blk_frozen BK463.out 1
                         have p467 : 0 ≤ (x8_1 : Int) := of_decide_eq_true (by first | (with_reducible assumption) | assumption)
                         have q467 : x8_1 < (l0_1.length : Int) := of_decide_eq_true (by first | (with_reducible assumption) | assumption)
                         obtain ⟨ad467, A467_0, c467_0, e467, hx467_0, hl467_0, hi467_0⟩ := at_L4 HR0_1.out x8_1 p467 q467
                         cases e467
                         replace hx467_0 := (HB.out.cell (World.block_lt_of_cell? w _ hx467_0)).trans hx467_0
                         have HR467_0 := Aside0.mk hi467_0
                         have HC467_0 := Aside0.mk hl467_0
                         clear hi467_0 hl467_0
                         replace p467 := eq_true p467
                         replace q467 := eq_true q467
                         have p472 : 0 ≤ (a2 : Int) := of_decide_eq_true (by first | (with_reducible assumption) | assumption)
                         have q472 : a2 < (l1.length : Int) := of_decide_eq_true (by first | (with_reducible assumption) | assumption)
                         obtain ⟨ad472, A472_0, c472_0, e472, hx472_0, hl472_0, hi472_0⟩ := at_L18 HR1.out a2 p472 q472
                         cases e472
                         replace hx472_0 := (HB.out.cell (World.block_lt_of_cell? w _ hx472_0)).trans hx472_0
                         have HR472_0 := Aside0.mk hi472_0
                         have HC472_0 := Aside0.mk hl472_0
                         clear hi472_0 hl472_0
                         replace p472 := eq_true p472
                         replace q472 := eq_true q472
                         have p473 : 0 ≤ (x8_1 : Int) := of_decide_eq_true (by first | (with_reducible assumption) | assumption)
                         have q473 : x8_1 < ((rd_L18 l1 a2).length : Int) := of_decide_eq_true (by first | (with_reducible assumption) | assumption)
                         obtain ⟨ad473, e473, hx473_0⟩ := Kd.at_bool HR472_0.out x8_1 p473 q473
                         (try rw [← Nbq24.out] at hx473_0)
                         cases e473
                         replace hx473_0 := (HB.out.cell (World.block_lt_of_cell? w _ hx473_0)).trans hx473_0
                         replace p473 := eq_true p473
                         replace q473 := eq_true q473
                         go_wp2_with (first | ((with_reducible refine gate_builtin (b := .append) (xs := #[.tmp 62, .tmp 64]) rfl ?_); at_builtin; refine Kd.R_append (Kd.int .i64) (w0 := w) w.heap.size rfl (.tmp 62) (.tmp 64) 22 2 (.int .i64 0) 8 rfl Try.underlying22 info2 rfl (by decide) (by omega) u7 x7_1 x8_1 [.int .i64 x8_1] (fun _ => True) (fun _ => False) rfl rfl ?aP (fun _ hk => hk.elim) ?aF ?aO ?aB ?aS ?aL ?_; (case aP => exact rfl); (case aB => exact (by repeat (first | (with_reducible first | exact HB.out | apply below_alloc | apply pw_below_drewN | apply below_drew1 | refine below_set ?_ GE463.out) | exact HB.out))); (case aF => exact (fun _ _ => trivial)); (case aO => exact (by (with_reducible repeat (first | apply Kd.R_alloc | apply Kd.R_drewN | apply Kd.R_drew)); exact HO_7.out)); (case aS => exact (below_size (by repeat (first | (with_reducible first | exact HB.out | apply below_alloc | apply pw_below_drewN | apply below_drew1 | refine below_set ?_ GE463.out) | exact HB.out)))); (case aL => have := LMc31.out; omega); intro v478 w33 ho hb hg hat; rw [← Ny477.out] at ho; have n0_ := Aside0.mk (blk_grown (g := gb463) (o := .cells #[.slice A0_0 l0_0.length c0_0, .slice (some ad467) l0_1.length c0_1] 52 (0, 0)) (by (with_reducible repeat (first | refine blk_drewN ?_ _ | refine blk_drew ?_ | refine blk_alloc ?_ _)); exact BK463.out) hg (Kd.R_ne HO_7.out BK463.out (by decide))); have n1_ := Aside0.mk (hb); have n2_ := Aside0.mk (ho); clear BK463; clear HB; clear HO_7; have BK463 := n0_; have HB := n1_; have HO479 := n2_; clear n0_ n1_ n2_; clear ho hb hg hat))
                         repeat (go_quiet (first | ((with_reducible refine gate_builtin (b := .append) (xs := #[.tmp 62, .tmp 64]) rfl ?_); at_builtin; refine Kd.R_append (Kd.int .i64) (w0 := w) w.heap.size rfl (.tmp 62) (.tmp 64) 22 2 (.int .i64 0) 8 rfl Try.underlying22 info2 rfl (by decide) (by omega) u7 x7_1 x8_1 [.int .i64 x8_1] (fun _ => True) (fun _ => False) rfl rfl ?aP (fun _ hk => hk.elim) ?aF ?aO ?aB ?aS ?aL ?_; (case aP => exact rfl); (case aB => exact (by repeat (first | (with_reducible first | exact HB.out | apply below_alloc | apply pw_below_drewN | apply below_drew1 | refine below_set ?_ GE463.out) | exact HB.out))); (case aF => exact (fun _ _ => trivial)); (case aO => exact (by (with_reducible repeat (first | apply Kd.R_alloc | apply Kd.R_drewN | apply Kd.R_drew)); exact HO_7.out)); (case aS => exact (below_size (by repeat (first | (with_reducible first | exact HB.out | apply below_alloc | apply pw_below_drewN | apply below_drew1 | refine below_set ?_ GE463.out) | exact HB.out)))); (case aL => have := LMc31.out; omega); intro v478 w33 ho hb hg hat; rw [← Ny477.out] at ho; have n0_ := Aside0.mk (blk_grown (g := gb463) (o := .cells #[.slice A0_0 l0_0.length c0_0, .slice (some ad467) l0_1.length c0_1] 52 (0, 0)) (by (with_reducible repeat (first | refine blk_drewN ?_ _ | refine blk_drew ?_ | refine blk_alloc ?_ _)); exact BK463.out) hg (Kd.R_ne HO_7.out BK463.out (by decide))); have n1_ := Aside0.mk (hb); have n2_ := Aside0.mk (ho); clear BK463; clear HB; clear HO_7; have BK463 := n0_; have HB := n1_; have HO479 := n2_; clear n0_ n1_ n2_; clear ho hb hg hat)); try go_wp2_with (first | ((with_reducible refine gate_builtin (b := .append) (xs := #[.tmp 62, .tmp 64]) rfl ?_); at_builtin; refine Kd.R_append (Kd.int .i64) (w0 := w) w.heap.size rfl (.tmp 62) (.tmp 64) 22 2 (.int .i64 0) 8 rfl Try.underlying22 info2 rfl (by decide) (by omega) u7 x7_1 x8_1 [.int .i64 x8_1] (fun _ => True) (fun _ => False) rfl rfl ?aP (fun _ hk => hk.elim) ?aF ?aO ?aB ?aS ?aL ?_; (case aP => exact rfl); (case aB => exact (by repeat (first | (with_reducible first | exact HB.out | apply below_alloc | apply pw_below_drewN | apply below_drew1 | refine below_set ?_ GE463.out) | exact HB.out))); (case aF => exact (fun _ _ => trivial)); (case aO => exact (by (with_reducible repeat (first | apply Kd.R_alloc | apply Kd.R_drewN | apply Kd.R_drew)); exact HO_7.out)); (case aS => exact (below_size (by repeat (first | (with_reducible first | exact HB.out | apply below_alloc | apply pw_below_drewN | apply below_drew1 | refine below_set ?_ GE463.out) | exact HB.out)))); (case aL => have := LMc31.out; omega); intro v478 w33 ho hb hg hat; rw [← Ny477.out] at ho; have n0_ := Aside0.mk (blk_grown (g := gb463) (o := .cells #[.slice A0_0 l0_0.length c0_0, .slice (some ad467) l0_1.length c0_1] 52 (0, 0)) (by (with_reducible repeat (first | refine blk_drewN ?_ _ | refine blk_drew ?_ | refine blk_alloc ?_ _)); exact BK463.out) hg (Kd.R_ne HO_7.out BK463.out (by decide))); have n1_ := Aside0.mk (hb); have n2_ := Aside0.mk (ho); clear BK463; clear HB; clear HO_7; have BK463 := n0_; have HB := n1_; have HO479 := n2_; clear n0_ n1_ n2_; clear ho hb hg hat)))
                         go_roundg k2
                         case measure => have := HK1.out; have := HK2.out; omega
                         case rel => exact ⟨(y477), (wrap64 (x8_1 + 1)), (by first | rfl | (simp; done) | (simp [*]; done)), H', ⟨by have := HK1.out; have := HK2.out; omega⟩, ⟨by (with_reducible repeat (first | apply Kd.R_alloc | apply Kd.R_drewN | apply Kd.R_drew)); exact HO479.out⟩, ⟨by (with_reducible repeat (first | refine blk_drewN ?_ _ | refine blk_drew ?_ | refine blk_alloc ?_ _)); exact BK463.out⟩, ⟨by repeat (first | (with_reducible first | exact HB.out | apply below_alloc | apply pw_below_drewN | apply below_drew1 | refine below_set ?_ GE463.out) | exact HB.out)⟩⟩
                       · rw [if_neg c31] at H
                         exact absurd H (by simp)
                   · rw [if_neg c23] at H
                     exact absurd H (by simp)
                 · rw [if_neg c22] at H
                   exact absurd H (by simp)
               · rw [if_neg c21] at H
                 exact absurd H (by simp)
             · replace c20 := Bool.eq_false_iff.mpr c20
               subst c20
               have H1 : (spec_l4Frontier.l0 k2 l1 a2 x7_1 (wrap64 (x8_1 + 1)) l0_0 l0_1) = some r := by rw [if_neg (show ¬ (false = true) by decide)] at H; exact H
               clear H
               have H := H1
               clear H1
               have H' := Aside0.mk H
               clear H
               have hcz34_0 : wr.cell? ⟨gb463, 0, none⟩ = some (.slice A0_0 l0_0.length c0_0) := (blk_cell BK463.out 0).trans rfl
               have hcz34_1 : wr.cell? ⟨gb463, 1, none⟩ = some (.slice A0_1 l0_1.length c0_1) := (blk_cell BK463.out 1).trans rfl
               have hfz34_0 := blk_frozen BK463.out 0
               have hfz34_1 := blk_frozen BK463.out 1
               have p467 : 0 ≤ (x8_1 : Int) := of_decide_eq_true (by first | (with_reducible assumption) | assumption)
               have q467 : x8_1 < (l0_1.length : Int) := of_decide_eq_true (by first | (with_reducible assumption) | assumption)
               obtain ⟨ad467, A467_0, c467_0, e467, hx467_0, hl467_0, hi467_0⟩ := at_L4 HR0_1.out x8_1 p467 q467
               cases e467
               replace hx467_0 := (HB.out.cell (World.block_lt_of_cell? w _ hx467_0)).trans hx467_0
               have HR467_0 := Aside0.mk hi467_0
               have HC467_0 := Aside0.mk hl467_0
               clear hi467_0 hl467_0
               replace p467 := eq_true p467
               replace q467 := eq_true q467
               go_wp2
               repeat (go_quiet (fail); try go_wp2)
               go_roundg k2
               case measure => have := HK1.out; have := HK2.out; omega
               case rel => exact ⟨(x7_1), (wrap64 (x8_1 + 1)), (by first | rfl | (simp; done) | (simp [*]; done)), H', ⟨by have := HK1.out; have := HK2.out; omega⟩, ⟨by (with_reducible repeat (first | apply Kd.R_alloc | apply Kd.R_drewN | apply Kd.R_drew)); exact HO_7.out⟩, ⟨by (with_reducible repeat (first | refine blk_drewN ?_ _ | refine blk_drew ?_ | refine blk_alloc ?_ _)); exact BK463.out⟩, ⟨by repeat (first | (with_reducible first | exact HB.out | apply below_alloc | apply pw_below_drewN | apply below_drew1 | refine below_set ?_ GE463.out) | exact HB.out)⟩⟩
         · rw [if_neg c10] at H
           exact absurd H (by simp)
       · rw [if_neg c9] at H
         exact absurd H (by simp)
   · rw [if_neg c7] at H
     have c7b0 : decide (x8_1 < (l0_0.length : Int)) = false := decide_eq_false c7
     clear c7
     obtain rfl := Option.some.inj H
     have hcz35_0 : wr.cell? ⟨gb463, 0, none⟩ = some (.slice A0_0 l0_0.length c0_0) := (blk_cell BK463.out 0).trans rfl
     have hcz35_1 : wr.cell? ⟨gb463, 1, none⟩ = some (.slice A0_1 l0_1.length c0_1) := (blk_cell BK463.out 1).trans rfl
     have hfz35_0 := blk_frozen BK463.out 0
     have hfz35_1 := blk_frozen BK463.out 1
     go_wp2
     repeat (go_quiet (fail); try go_wp2)
     go_ret
     exact ⟨_, by first | rfl | (simp [errW_none, errW_some] <;> rfl) | (simp [*, errW_none, errW_some] <;> rfl), by (with_reducible repeat (first | apply Kd.R_alloc | apply Kd.R_drewN | apply Kd.R_drew)); exact HO_7.out, by repeat (first | (with_reducible first | exact HB.out | apply below_alloc | apply pw_below_drewN | apply below_drew1 | refine below_set ?_ GE463.out) | exact HB.out)⟩

end Go.Proofs.Ytoedcnhgobbnfaa.All


namespace Go.Proofs.Ytoedcnhgobbnfaa.All
open Go.RowKit Go.Proofs.YtoedcnhgobbnfaaW.PrintWords Go.Proofs.YtoedcnhgobbnfaaW.PrintLast Go.Proofs.YtoedcnhgobbnfaaW.PrintMore
attribute [local go_sem] max2_int min2_int max_two min_two max_three min_three max_four min_four   -- for this text's walks alone
set_option linter.unusedVariables false
set_option linter.unusedSimpArgs false

/-! ### spec_Frontier: function 34 -/
def spec_Frontier.j0 : Nat → Int → Bool → ByteArray → Int → List Int → Int → List (S62) → Option (List Int)
 | 0, _, _, _, _, _, _, _ => none
 | k + 1, x1, x14, x481000, x481001, x481002, x481003, x481004 => if x14 = true then (some (([] : List Int))) else ((spec_l4Build.f k x481000 x481001 x481002 x481003 x481004).bind fun bt484 => ((spec_l4Doms.f k bt484.1 bt484.2).bind fun t491 => ((spec_l4Frontier.f k bt484.1 bt484.2 t491 x1).bind fun t494 => (some t494))))
def spec_Frontier.f (k : Nat) (a0_0 : ByteArray) (a0_1 : Int) (l0_2 : List Int) (a0_3 : Int) (l0_4 : List (S62)) (a1 : Int) : Option (List Int) := if a1 < 0 then (spec_Frontier.j0 k a1 true a0_0 a0_1 l0_2 a0_3 l0_4) else (spec_Frontier.j0 k a1 (decide (a1 ≥ (l0_4.length : Int))) a0_0 a0_1 l0_2 a0_3 l0_4)
set_option maxHeartbeats 8000000 in
set_option maxRecDepth 100000 in
theorem spec_Frontier.calls (k : Nat) (a0_0 : ByteArray) (a0_1 : Int) (A0_2 : Option Addr) (c0_2 : Nat) (l0_2 : List Int) (a0_3 : Int) (A0_4 : Option Addr) (c0_4 : Nat) (l0_4 : List (S62)) (a1 : Int) (r : List Int) (w : World) (hr0_2 : Kd.C (Kd.int .i64) w A0_2 l0_2.length l0_2) (hc0_2 : l0_2.length ≤ c0_2) (hr0_4 : Kd.C k62 w A0_4 l0_4.length l0_4) (hc0_4 : l0_4.length ≤ c0_4) (h : spec_Frontier.f k a0_0 a0_1 l0_2 a0_3 l0_4 a1 = some r) :
 Calls Try.prog 34 #[.agg #[.string a0_0, .int .i64 a0_1, .slice A0_2 l0_2.length c0_2, .int .i64 a0_3, .slice A0_4 l0_4.length c0_4], .int .i64 a1] w fun e w' => ∃ v0_ : Value, e = .returned (v0_) ∧ Kd.R (Kd.int .i64) 2 w' w.heap.size (fun _ => True) v0_ r ∧ Below w.heap.size w w' := by
 have hu30 := Try.underlying30
 have hu52 := Try.underlying52
 have HR0_2 := Aside0.mk hr0_2
 have HC0_2 := Aside0.mk hc0_2
 clear hr0_2 hc0_2
 have HR0_4 := Aside0.mk hr0_4
 have HC0_4 := Aside0.mk hc0_4
 clear hr0_4 hc0_4
 have HB := Aside0.mk (Below.refl w.heap.size w)
 have H : (if a1 < 0 then (spec_Frontier.j0 k a1 true a0_0 a0_1 l0_2 a0_3 l0_4) else (spec_Frontier.j0 k a1 (decide (a1 ≥ (l0_4.length : Int))) a0_0 a0_1 l0_2 a0_3 l0_4)) = some r := h
 clear h
 have HC3 := Aside0.mk H
 clear H
 go_enter Try.func34, Try.ntmps34
 go_upto_region 1 with (first | ((with_reducible refine gate_dst (N := 2) rfl ?_); (try (refine gate_guard (by rfl) ?_; dsimp only)); refine box_event ?hg (N := 2) ?hd (cs := #[.string a0_0, .int .i64 a0_1, .slice A0_2 l0_2.length c0_2, .int .i64 a0_3, .slice A0_4 l0_4.length c0_4]) (t := 30) ?hr ?_; (case hd => rfl); (case hg => rfl); (case hr => first | (go_simp; done) | (go_simp; rfl)); intro gb480 hg w4 hbox hb; have n0_ := Aside0.mk (below_step (by repeat (first | (with_reducible first | exact HB.out | apply below_alloc | apply pw_below_drewN | apply below_drew1) | exact HB.out)) hb); have n1_ := Aside0.mk (hbox); have n2_ := Aside0.mk ((by rw [hg]; exact (below_size (by repeat (first | (with_reducible first | exact HB.out | apply below_alloc | apply pw_below_drewN | apply below_drew1) | exact HB.out))) : w.heap.size ≤ gb480)); have n3_ := Aside0.mk ((by rw [hg]; exact (below_size (by repeat (first | (with_reducible first | exact HB.out | apply below_alloc | apply pw_below_drewN | apply below_drew1) | exact HB.out))) : w.heap.size ≤ gb480)); clear HB; have HB := n0_; have BK480 := n1_; have GW480 := n2_; have GE480 := n3_; clear n0_ n1_ n2_ n3_; clear hb hbox hg))
 (try simp only [Act.put, List.setIfInBounds_toArray, List.set_cons_zero, List.set_cons_succ])
 go_cut [14] (fun v14 wc => ∃ (kq : Nat) (x14_2 : Bool), v14 = .bool x14_2 ∧ Aside0 (spec_Frontier.j0 kq a1 x14_2 a0_0 a0_1 l0_2 a0_3 l0_4 = some r) ∧ Aside0 (kq ≤ k) ∧ Aside0 (wc.heap[gb480]? = some (.cells #[.string a0_0, .int .i64 a0_1, (.slice A0_2 l0_2.length c0_2), .int .i64 a0_3, (.slice A0_4 l0_4.length c0_4)] 30 (0, 0))) ∧ Aside0 (Below w.heap.size w wc))
 case first =>
  have H := HC3.out
  clear HC3
  by_cases c5 : a1 < 0
  · rw [if_pos c5] at H
    have c5b0 : decide (a1 < 0) = true := decide_eq_true c5
    clear c5
    (first | rw [c5b0] | (simp only [i64_w, i32_w]; rw [c5b0]) | skip)
    have H' := Aside0.mk H
    clear H
    go_wp2
    go_meet
    case rel => exact ⟨_, (true), (by first | rfl | (simp; done) | (simp [*]; done)), H', ⟨by first | omega | exact Nat.le_refl _⟩, ⟨by (with_reducible repeat (first | refine blk_drewN ?_ _ | refine blk_drew ?_ | refine blk_alloc ?_ _)); exact BK480.out⟩, ⟨by repeat (first | (with_reducible first | exact HB.out | apply below_alloc | apply pw_below_drewN | apply below_drew1 | refine below_set ?_ GE480.out) | exact HB.out)⟩⟩
  · rw [if_neg c5] at H
    have c5b0 : decide (a1 < 0) = false := decide_eq_false c5
    clear c5
    (first | rw [c5b0] | (simp only [i64_w, i32_w]; rw [c5b0]) | skip)
    have H' := Aside0.mk H
    clear H
    have hcz6_0 : w4.cell? ⟨gb480, 0, none⟩ = some (.string a0_0) := (blk_cell BK480.out 0).trans rfl
    have hcz6_1 : w4.cell? ⟨gb480, 1, none⟩ = some (.int .i64 a0_1) := (blk_cell BK480.out 1).trans rfl
    have hcz6_2 : w4.cell? ⟨gb480, 2, none⟩ = some (.slice A0_2 l0_2.length c0_2) := (blk_cell BK480.out 2).trans rfl
    have hcz6_3 : w4.cell? ⟨gb480, 3, none⟩ = some (.int .i64 a0_3) := (blk_cell BK480.out 3).trans rfl
    have hcz6_4 : w4.cell? ⟨gb480, 4, none⟩ = some (.slice A0_4 l0_4.length c0_4) := (blk_cell BK480.out 4).trans rfl
    have hfz6_0 := blk_frozen BK480.out 0
    have hfz6_1 := blk_frozen BK480.out 1
    have hfz6_2 := blk_frozen BK480.out 2
    have hfz6_3 := blk_frozen BK480.out 3
    have hfz6_4 := blk_frozen BK480.out 4
    go_wp2
    go_meet
    case rel => exact ⟨_, (decide (a1 ≥ (l0_4.length : Int))), (by first | rfl | (simp; done) | (simp [*]; done)), H', ⟨by first | omega | exact Nat.le_refl _⟩, ⟨by (with_reducible repeat (first | refine blk_drewN ?_ _ | refine blk_drew ?_ | refine blk_alloc ?_ _)); exact BK480.out⟩, ⟨by repeat (first | (with_reducible first | exact HB.out | apply below_alloc | apply pw_below_drewN | apply below_drew1 | refine below_set ?_ GE480.out) | exact HB.out)⟩⟩
 case rest =>
  clear HC3
  try clear p2
  try clear c3
  try clear c5
  try clear c5b0
  try clear hcz6_0
  try clear hcz6_1
  try clear hcz6_2
  try clear hcz6_3
  try clear hcz6_4
  try clear hfz6_0
  try clear hfz6_1
  try clear hfz6_2
  try clear hfz6_3
  try clear hfz6_4
  obtain ⟨kq, x14_2, rfl, HA, HJ2, BK480, HB⟩ := hcut
  cases kq with
  | zero => exact absurd HA.out (by simp [spec_Frontier.j0])
  | succ kj2 =>
   have H := HA.out
   clear HA
   simp only [spec_Frontier.j0] at H
   by_cases c7 : x14_2 = true
   · subst c7
     have H1 : (some (([] : List Int))) = some r := by rw [if_pos rfl] at H; exact H
     clear H
     have H := H1
     clear H1
     obtain ⟨y481, hy481⟩ : ∃ y_ : List Int, y_ = (([] : List Int)) := ⟨_, rfl⟩
     replace H : (some y481) = some r := by first | (rw [hy481]; with_reducible exact H) | (have H2_ := (Option.bind_some _ _).symm.trans H; rw [hy481]; with_reducible exact H2_) | (have H2_ := (Option.bind_some _ _).symm.trans H; with_reducible exact H2_) | with_reducible exact H | (rw [hy481]; exact H) | exact H
     have Ny481 := Aside0.mk hy481
     clear hy481
     obtain rfl := Option.some.inj H
     go_wp2_with (first | ((with_reducible refine gate_dst (N := 15) rfl ?_); (try (refine gate_guard (by rfl) ?_; dsimp only)); refine Kd.R_lit (Kd.int .i64) _ 2 ?hg (N := 15) ?hd (xs := ([] : List Int)) (inner := []) (ok := fun _ => True) (okp := fun _ => True) ?hr ?hp (fun _ hk => hk) trivial (Below.refl _ _) (Nat.le_refl _) (by simp) ?_; (case hd => rfl); (case hg => rfl); (case hr => first | (go_simp; done) | (go_simp; rfl)); (case hp => exact (Reps.none _ _)); intro v482 w8 ho9 hb hg_ hnew_; clear hg_ hnew_; (first | rw [← Ny481.out] at ho9 | (simp only [Int.reduceToNat] at ho9; rw [← Ny481.out] at ho9)); have n0_ := Aside0.mk (Kd.R_lower ho9 (below_size (by repeat (first | (with_reducible first | exact HB.out | apply below_alloc | apply pw_below_drewN | apply below_drew1 | refine below_set ?_ GE480.out) | exact HB.out)))); have n1_ := Aside0.mk (blk_below (g := gb480) (o := .cells #[.string a0_0, .int .i64 a0_1, .slice A0_2 l0_2.length c0_2, .int .i64 a0_3, .slice A0_4 l0_4.length c0_4] 30 (0, 0)) (by (with_reducible repeat (first | refine blk_drewN ?_ _ | refine blk_drew ?_ | refine blk_alloc ?_ _)); exact BK480.out) hb); have n2_ := Aside0.mk (below_step (by repeat (first | (with_reducible first | exact HB.out | apply below_alloc | apply pw_below_drewN | apply below_drew1 | refine below_set ?_ GE480.out) | exact HB.out)) hb); clear BK480; clear HB; have HO483 := n0_; have BK480 := n1_; have HB := n2_; clear n0_ n1_ n2_; clear hb ho9))
     go_ret
     exact ⟨_, by first | rfl | (simp [errW_none, errW_some] <;> rfl) | (simp [*, errW_none, errW_some] <;> rfl), by (with_reducible repeat (first | apply Kd.R_alloc | apply Kd.R_drewN | apply Kd.R_drew)); exact HO483.out, by repeat (first | (with_reducible first | exact HB.out | apply below_alloc | apply pw_below_drewN | apply below_drew1 | refine below_set ?_ GE480.out) | exact HB.out)⟩
   · replace c7 := Bool.eq_false_iff.mpr c7
     subst c7
     have H1 : ((spec_l4Build.f kj2 a0_0 a0_1 l0_2 a0_3 l0_4).bind fun bt484 => ((spec_l4Doms.f kj2 bt484.1 bt484.2).bind fun t491 => ((spec_l4Frontier.f kj2 bt484.1 bt484.2 t491 a1).bind fun t494 => (some t494)))) = some r := by rw [if_neg (show ¬ (false = true) by decide)] at H; exact H
     clear H
     have H := H1
     clear H1
     replace H := Option.bind_eq_some_iff.mp H
     obtain ⟨⟨t484, t487⟩, A100, H⟩ := H
     replace H : ((spec_l4Doms.f kj2 t484 t487).bind fun t491 => ((spec_l4Frontier.f kj2 t484 t487 t491 a1).bind fun t494 => (some t494))) = some r := H
     have A10 := Aside0.mk A100
     clear A100
     replace H := Option.bind_eq_some_iff.mp H
     obtain ⟨t491, A110, H⟩ := H
     replace H : ((spec_l4Frontier.f kj2 t484 t487 t491 a1).bind fun t494 => (some t494)) = some r := H
     have A11 := Aside0.mk A110
     clear A110
     replace H := Option.bind_eq_some_iff.mp H
     obtain ⟨t494, A120, H⟩ := H
     replace H : (some t494) = some r := H
     have A12 := Aside0.mk A120
     clear A120
     obtain rfl := Option.some.inj H
     have hcz13_0 : wc.cell? ⟨gb480, 0, none⟩ = some (.string a0_0) := (blk_cell BK480.out 0).trans rfl
     have hcz13_1 : wc.cell? ⟨gb480, 1, none⟩ = some (.int .i64 a0_1) := (blk_cell BK480.out 1).trans rfl
     have hcz13_2 : wc.cell? ⟨gb480, 2, none⟩ = some (.slice A0_2 l0_2.length c0_2) := (blk_cell BK480.out 2).trans rfl
     have hcz13_3 : wc.cell? ⟨gb480, 3, none⟩ = some (.int .i64 a0_3) := (blk_cell BK480.out 3).trans rfl
     have hcz13_4 : wc.cell? ⟨gb480, 4, none⟩ = some (.slice A0_4 l0_4.length c0_4) := (blk_cell BK480.out 4).trans rfl
     have hfz13_0 := blk_frozen BK480.out 0
     have hfz13_1 := blk_frozen BK480.out 1
     have hfz13_2 := blk_frozen BK480.out 2
     have hfz13_3 := blk_frozen BK480.out 3
     have hfz13_4 := blk_frozen BK480.out 4
     try go_wp2_with (first | ((with_reducible refine gate_callee (f := 45) rfl ?_); refine goesL_ (some 17) rfl rfl Try.func45 (by kernel_rfl) rfl #[.agg #[.string a0_0, .int .i64 a0_1, .slice A0_2 l0_2.length c0_2, .int .i64 a0_3, .slice A0_4 l0_4.length c0_4]] rfl (by (try simp only [List.map_toArray, List.map_cons, List.map_nil]); first | done | rfl | (simp only [List.length_drop, List.length_take]; rfl)) ?_; (with_reducible refine (spec_l4Build.calls kj2 a0_0 a0_1 _ _ l0_2 a0_3 _ _ l0_4 t484 t487 _ ?side1 ?side2 ?side3 ?side4 A10.out).mono ?_); (case side1 => repeat (first | exact (Kd.C_below HR0_2.out HB.out) | (with_reducible refine Kd.C_alloc ?_ _) | (with_reducible refine Kd.C_drewN ?_ _) | (with_reducible refine Kd.C_drew ?_))); (case side2 => exact HC0_2.out); (case side3 => repeat (first | exact (Kd.C_below HR0_4.out HB.out) | (with_reducible refine Kd.C_alloc ?_ _) | (with_reducible refine Kd.C_drewN ?_ _) | (with_reducible refine Kd.C_drew ?_))); (case side4 => exact HC0_4.out); rintro e w14 ⟨v485, v488, rfl, ho0, ho1, hb⟩; refine ⟨_, rfl, ?_⟩; have n0_ := Aside0.mk (Kd.S_lower ho0 (below_size (by repeat (first | (with_reducible first | exact HB.out | apply below_alloc | apply pw_below_drewN | apply below_drew1 | refine below_set ?_ GE480.out) | exact HB.out)))); have n1_ := Aside0.mk (Kd.S_lower ho1 (below_size (by repeat (first | (with_reducible first | exact HB.out | apply below_alloc | apply pw_below_drewN | apply below_drew1 | refine below_set ?_ GE480.out) | exact HB.out)))); have n2_ := Aside0.mk (blk_below (g := gb480) (o := .cells #[.string a0_0, .int .i64 a0_1, .slice A0_2 l0_2.length c0_2, .int .i64 a0_3, .slice A0_4 l0_4.length c0_4] 30 (0, 0)) (by (with_reducible repeat (first | refine blk_drewN ?_ _ | refine blk_drew ?_ | refine blk_alloc ?_ _)); exact BK480.out) hb); have n3_ := Aside0.mk (below_step (by repeat (first | (with_reducible first | exact HB.out | apply below_alloc | apply pw_below_drewN | apply below_drew1 | refine below_set ?_ GE480.out) | exact HB.out)) hb); clear BK480; clear HB; have HO486 := n0_; have HO489 := n1_; have BK480 := n2_; have HB := n3_; clear n0_ n1_ n2_ n3_; (try clear hb); (try clear hb2); (try clear hk); (try clear hi); (try clear ho0); (try clear ho1)) | ((with_reducible refine gate_dst (N := 5) rfl ?_); (try (refine gate_guard (by rfl) ?_; dsimp only)); refine box_event ?hg (N := 5) ?hd (cs := #[.slice none 0 0, .slice none 0 0]) (t := 52) ?hr ?_; (case hd => rfl); (case hg => rfl); (case hr => first | (go_simp; done) | (go_simp; rfl)); intro gb490 hg w15 hbox hb; have n0_ := Aside0.mk (Kd.S_below (by (with_reducible repeat (first | apply Kd.S_alloc | apply Kd.S_drewN | apply Kd.S_drew)); exact HO486.out) hb); have n1_ := Aside0.mk (Kd.S_below (by (with_reducible repeat (first | apply Kd.S_alloc | apply Kd.S_drewN | apply Kd.S_drew)); exact HO489.out) hb); have n2_ := Aside0.mk (blk_below (g := gb480) (o := .cells #[.string a0_0, .int .i64 a0_1, .slice A0_2 l0_2.length c0_2, .int .i64 a0_3, .slice A0_4 l0_4.length c0_4] 30 (0, 0)) (by (with_reducible repeat (first | refine blk_drewN ?_ _ | refine blk_drew ?_ | refine blk_alloc ?_ _)); exact BK480.out) hb); have n3_ := Aside0.mk (below_step (by repeat (first | (with_reducible first | exact HB.out | apply below_alloc | apply pw_below_drewN | apply below_drew1 | refine below_set ?_ GE480.out) | exact HB.out)) hb); have n4_ := Aside0.mk (hbox); have n5_ := Aside0.mk ((by rw [hg]; exact (below_size (by repeat (first | (with_reducible first | exact HB.out | apply below_alloc | apply pw_below_drewN | apply below_drew1 | refine below_set ?_ GE480.out) | exact HB.out))) : w.heap.size ≤ gb490)); have n6_ := Aside0.mk ((by rw [hg]; exact (below_size (by repeat (first | (with_reducible first | exact HB.out | apply below_alloc | apply pw_below_drewN | apply below_drew1 | refine below_set ?_ GE480.out) | exact HB.out))) : w.heap.size ≤ gb490)); have n7_ := Aside0.mk ((by rw [hg]; exact Nat.ne_of_lt (blk_lt (g := gb480) (o := .cells #[.string a0_0, .int .i64 a0_1, .slice A0_2 l0_2.length c0_2, .int .i64 a0_3, .slice A0_4 l0_4.length c0_4] 30 (0, 0)) (by (with_reducible repeat (first | refine blk_drewN ?_ _ | refine blk_drew ?_ | refine blk_alloc ?_ _)); exact BK480.out)) : gb480 ≠ gb490)); have n8_ := Aside0.mk ((by rw [hg]; exact Nat.ne_of_gt (blk_lt (g := gb480) (o := .cells #[.string a0_0, .int .i64 a0_1, .slice A0_2 l0_2.length c0_2, .int .i64 a0_3, .slice A0_4 l0_4.length c0_4] 30 (0, 0)) (by (with_reducible repeat (first | refine blk_drewN ?_ _ | refine blk_drew ?_ | refine blk_alloc ?_ _)); exact BK480.out)) : gb490 ≠ gb480)); clear HO486; clear HO489; clear BK480; clear HB; have HO486 := n0_; have HO489 := n1_; have BK480 := n2_; have HB := n3_; have BK490 := n4_; have GW490 := n5_; have GE490 := n6_; have NB480_490 := n7_; have NB490_480 := n8_; clear n0_ n1_ n2_ n3_ n4_ n5_ n6_ n7_ n8_; clear hb hbox hg; obtain ⟨Ao16, co16, eo16⟩ := Kd.S_slice HO486.out; subst eo16; have hnb17 := NB490_480.out; have hnc17 := NB480_490.out; have hcz18_0 : w15.cell? ⟨gb490, 0, none⟩ = some (.slice none 0 0) := (blk_cell BK490.out 0).trans rfl; have hcz18_1 : w15.cell? ⟨gb490, 1, none⟩ = some (.slice none 0 0) := (blk_cell BK490.out 1).trans rfl; have hfz18_0 := blk_frozen BK490.out 0; have hfz18_1 := blk_frozen BK490.out 1; obtain ⟨Ao19, co19, eo19⟩ := Kd.S_slice HO489.out; subst eo19))
     have n0_ : Aside0 (Kd.S (Kd.slice 2 (Kd.int .i64)) 22 ((w15.setCell ⟨gb490, 0, none⟩ (.slice Ao16 t484.length co16)).setCell ⟨gb490, 1, none⟩ (.slice Ao19 t487.length co19)) w.heap.size (fun k_ => some k_ ≠ (.slice Ao19 t487.length co19 : Value).ownBlock) (.slice Ao16 t484.length co16) t484) := ⟨by (with_reducible repeat (first | apply Kd.S_alloc | apply Kd.S_drewN | apply Kd.S_drew)); exact Kd.S_mono (Kd.S_far (p := ⟨gb490, 1, none⟩) (Kd.S_far (p := ⟨gb490, 0, none⟩) (Kd.S_types HO486.out BK490.out (by decide)) (fun _ hk => hk.2) (.slice Ao16 t484.length co16)) (fun _ hk => hk.2) (.slice Ao19 t487.length co19)) (fun _ hk => hk.1)⟩
     have n1_ : Aside0 (Kd.S (Kd.slice 2 (Kd.int .i64)) 22 ((w15.setCell ⟨gb490, 0, none⟩ (.slice Ao16 t484.length co16)).setCell ⟨gb490, 1, none⟩ (.slice Ao19 t487.length co19)) w.heap.size (fun k_ => some k_ ≠ (.slice Ao16 t484.length co16 : Value).ownBlock) (.slice Ao19 t487.length co19) t487) := ⟨by (with_reducible repeat (first | apply Kd.S_alloc | apply Kd.S_drewN | apply Kd.S_drew)); exact Kd.S_mono (Kd.S_far (p := ⟨gb490, 1, none⟩) (Kd.S_far (p := ⟨gb490, 0, none⟩) (Kd.S_types HO489.out BK490.out (by decide)) (fun _ hk => hk.2) (.slice Ao16 t484.length co16)) (fun _ hk => hk.2) (.slice Ao19 t487.length co19)) (fun _ hk => hk.1)⟩
     have n2_ : Aside0 (((w15.setCell ⟨gb490, 0, none⟩ (.slice Ao16 t484.length co16)).setCell ⟨gb490, 1, none⟩ (.slice Ao19 t487.length co19)).heap[gb480]? = some (.cells #[.string a0_0, .int .i64 a0_1, .slice A0_2 l0_2.length c0_2, .int .i64 a0_3, .slice A0_4 l0_4.length c0_4] 30 (0, 0))) := ⟨by (with_reducible repeat (first | refine blk_drewN ?_ _ | refine blk_drew ?_ | refine blk_alloc ?_ _)); refine blk_far ?_ NB480_490.out _; (with_reducible repeat (first | refine blk_drewN ?_ _ | refine blk_drew ?_ | refine blk_alloc ?_ _)); refine blk_far ?_ NB480_490.out _; (with_reducible repeat (first | refine blk_drewN ?_ _ | refine blk_drew ?_ | refine blk_alloc ?_ _)); exact BK480.out⟩
     have n3_ : Aside0 (((w15.setCell ⟨gb490, 0, none⟩ (.slice Ao16 t484.length co16)).setCell ⟨gb490, 1, none⟩ (.slice Ao19 t487.length co19)).heap[gb490]? = some (.cells #[.slice Ao16 t484.length co16, .slice Ao19 t487.length co19] 52 (0, 0))) := ⟨by (with_reducible repeat (first | refine blk_drewN ?_ _ | refine blk_drew ?_ | refine blk_alloc ?_ _)); refine blk_put (cs := #[.slice Ao16 t484.length co16, .slice none 0 0]) ?_ 1 _ rfl; (with_reducible repeat (first | refine blk_drewN ?_ _ | refine blk_drew ?_ | refine blk_alloc ?_ _)); refine blk_put (cs := #[.slice none 0 0, .slice none 0 0]) ?_ 0 _ rfl; (with_reducible repeat (first | refine blk_drewN ?_ _ | refine blk_drew ?_ | refine blk_alloc ?_ _)); exact BK490.out⟩
     have n4_ : Aside0 (Below w.heap.size w ((w15.setCell ⟨gb490, 0, none⟩ (.slice Ao16 t484.length co16)).setCell ⟨gb490, 1, none⟩ (.slice Ao19 t487.length co19))) := ⟨by repeat (first | (with_reducible first | exact HB.out | apply below_alloc | apply pw_below_drewN | apply below_drew1 | refine below_set ?_ GE480.out | refine below_set ?_ GE490.out) | exact HB.out)⟩
     (try clear HO486)
     (try clear HO489)
     (try clear BK480)
     (try clear BK490)
     (try clear HB)
     generalize ((w15.setCell ⟨gb490, 0, none⟩ (.slice Ao16 t484.length co16)).setCell ⟨gb490, 1, none⟩ (.slice Ao19 t487.length co19)) = w20 at n0_ n1_ n2_ n3_ n4_ ⊢
     have HO486 := n0_
     have HO489 := n1_
     have BK480 := n2_
     have BK490 := n3_
     have HB := n4_
     clear n0_ n1_ n2_ n3_ n4_
     have n0_ := Aside0.mk (Kd.S_drew HO486.out)
     have n1_ := Aside0.mk (Kd.S_drew HO489.out)
     have n2_ := Aside0.mk (blk_drew BK480.out)
     have n3_ := Aside0.mk (blk_drew BK490.out)
     have n4_ := Aside0.mk (below_drew1 HB.out)
     clear HO486
     clear HO489
     clear BK480
     clear BK490
     clear HB
     have HO486 := n0_
     have HO489 := n1_
     have BK480 := n2_
     have BK490 := n3_
     have HB := n4_
     clear n0_ n1_ n2_ n3_ n4_
     refine start_ (n := 6) (S := fun w' => w'.cell? ⟨gb490, 0, none⟩ = some (.slice Ao16 t484.length co16) ∧ w'.cell? ⟨gb490, 1, none⟩ = some (.slice Ao19 t487.length co19)) (ds := []) #[false, false, false, false, false, false] (by kernel_rfl) rfl rfl ⟨(blk_cell BK490.out 0).trans rfl, (blk_cell BK490.out 1).trans rfl⟩ (fun hHeld => ?_)
     generalize w20.drew = w21 at HO486 HO489 BK480 BK490 HB hHeld ⊢
     refine pure_ (i := 3) (N := some 21) (v := ?_) (a' := ?_) #[false, false, false, true, false, false] rfl rfl (by kernel_rfl) (fun _ _ _ h => h) (Or.inl ⟨by rfl, ?_⟩) ?_ ?_
     rotate_left
     · intro w'
       go_simp
       with_reducible rfl
     rotate_left
     · simp only [Act.put, List.setIfInBounds_toArray, List.set_cons_zero, List.set_cons_succ, i64_w, i32_w]
       rfl
     refine take_ (i := 0) (N := some 18) (v := ?_) (a' := ?_) #[true, false, false, true, false, false] rfl rfl (by kernel_rfl) (fun _ _ _ h => h) (Or.inl ⟨by rfl, ?_⟩) hHeld ?_ ?_
     rotate_left
     · rintro w' ⟨s0, s1⟩
       go_simp
       with_reducible rfl
     rotate_left
     · simp only [Act.put, List.setIfInBounds_toArray, List.set_cons_zero, List.set_cons_succ, i64_w, i32_w]
       rfl
     refine take_ (i := 1) (N := some 19) (v := ?_) (a' := ?_) #[true, true, false, true, false, false] rfl rfl (by kernel_rfl) (fun _ _ _ h => h) (Or.inl ⟨by rfl, ?_⟩) hHeld ?_ ?_
     rotate_left
     · rintro w' ⟨s0, s1⟩
       go_simp
       with_reducible rfl
     rotate_left
     · simp only [Act.put, List.setIfInBounds_toArray, List.set_cons_zero, List.set_cons_succ, i64_w, i32_w]
       rfl
     refine one_ (i := 2) (N := some 20) #[true, true, true, true, false, false] rfl rfl (by kernel_rfl) (by decide) (fun K hK => ?_)
     refine goes_ Try.func59 (by kernel_rfl) rfl #[.agg #[.slice Ao16 t484.length co16, .slice Ao19 t487.length co19]] (by rfl) rfl rfl (by (try simp only [List.map_toArray, List.map_cons, List.map_nil]); first | done | rfl | (simp only [List.length_drop, List.length_take]; rfl)) ?_
     with_reducible refine (spec_l4Doms.calls kj2 _ _ t484 _ _ t487 t491 _ ?side1 ?side2 ?side3 ?side4 A11.out).mono ?_
     (case side1 => repeat (first | exact (Kd.S_reads' HO486.out).2.2 | (with_reducible refine Kd.C_alloc ?_ _) | (with_reducible refine Kd.C_drewN ?_ _) | (with_reducible refine Kd.C_drew ?_)))
     (case side2 => exact (Kd.S_reads' HO486.out).2.1)
     (case side3 => repeat (first | exact (Kd.S_reads' HO489.out).2.2 | (with_reducible refine Kd.C_alloc ?_ _) | (with_reducible refine Kd.C_drewN ?_ _) | (with_reducible refine Kd.C_drew ?_)))
     (case side4 => exact (Kd.S_reads' HO489.out).2.1)
     rintro e w22 ⟨v492, rfl, ho0, hb⟩
     refine ⟨_, rfl, ?_⟩
     have n0_ := Aside0.mk (Kd.S_below (by (with_reducible repeat (first | apply Kd.S_alloc | apply Kd.S_drewN | apply Kd.S_drew)); exact HO486.out) hb)
     have n1_ := Aside0.mk (Kd.S_below (by (with_reducible repeat (first | apply Kd.S_alloc | apply Kd.S_drewN | apply Kd.S_drew)); exact HO489.out) hb)
     have n2_ := Aside0.mk (Kd.S_lower ho0 (below_size (by repeat (first | (with_reducible first | exact HB.out | apply below_alloc | apply pw_below_drewN | apply below_drew1 | refine below_set ?_ GE480.out | refine below_set ?_ GE490.out) | exact HB.out))))
     have n3_ := Aside0.mk (blk_below (g := gb480) (o := .cells #[.string a0_0, .int .i64 a0_1, .slice A0_2 l0_2.length c0_2, .int .i64 a0_3, .slice A0_4 l0_4.length c0_4] 30 (0, 0)) (by (with_reducible repeat (first | refine blk_drewN ?_ _ | refine blk_drew ?_ | refine blk_alloc ?_ _)); exact BK480.out) hb)
     have n4_ := Aside0.mk (blk_below (g := gb490) (o := .cells #[.slice Ao16 t484.length co16, .slice Ao19 t487.length co19] 52 (0, 0)) (by (with_reducible repeat (first | refine blk_drewN ?_ _ | refine blk_drew ?_ | refine blk_alloc ?_ _)); exact BK490.out) hb)
     have n5_ := Aside0.mk (below_step (by repeat (first | (with_reducible first | exact HB.out | apply below_alloc | apply pw_below_drewN | apply below_drew1 | refine below_set ?_ GE480.out | refine below_set ?_ GE490.out) | exact HB.out)) hb)
     clear HO486
     clear HO489
     clear BK480
     clear BK490
     clear HB
     have HO486 := n0_
     have HO489 := n1_
     have HO493 := n2_
     have BK480 := n3_
     have BK490 := n4_
     have HB := n5_
     clear n0_ n1_ n2_ n3_ n4_ n5_
     (try clear hb)
     (try clear hb2)
     (try clear hk)
     (try clear hi)
     (try clear ho0)
     obtain ⟨Ao23, co23, eo23⟩ := Kd.S_slice HO493.out
     (first | subst eo23 | (injection eo23 with f1_ f2_ f3_; have f4_ := f1_.symm; have f5_ := f3_.symm; clear f1_ f2_ f3_; subst f4_; subst f5_))
     refine hK.out _ _ ⟨(blk_cell BK490.out 0).trans rfl, (blk_cell BK490.out 1).trans rfl⟩ (fun hHeld => ?_)
     clear hK K
     refine norm_ (a' := ?_) ?_ ?_
     rotate_left
     · show Act.put _ (some 20) _ = _
       simp only [Act.put, List.setIfInBounds_toArray, List.set_cons_zero, List.set_cons_succ, i64_w, i32_w]
       rfl
     refine one_ (i := 4) (N := some 22) #[true, true, true, true, true, false] rfl rfl (by kernel_rfl) (by decide) (fun K hK => ?_)
     refine goes_ Try.func61 (by kernel_rfl) rfl #[.agg #[.slice Ao16 t484.length co16, .slice Ao19 t487.length co19], .slice Ao23 t491.length co23, .int .i64 a1] (by rfl) rfl rfl (by (try simp only [List.map_toArray, List.map_cons, List.map_nil]); first | done | rfl | (simp only [List.length_drop, List.length_take]; rfl)) ?_
     with_reducible refine (spec_l4Frontier.calls kj2 _ _ t484 _ _ t487 _ _ t491 a1 t494 _ ?side1 ?side2 ?side3 ?side4 ?side5 ?side6 A12.out).mono ?_
     (case side1 => repeat (first | exact (Kd.S_reads' HO486.out).2.2 | (with_reducible refine Kd.C_alloc ?_ _) | (with_reducible refine Kd.C_drewN ?_ _) | (with_reducible refine Kd.C_drew ?_)))
     (case side2 => exact (Kd.S_reads' HO486.out).2.1)
     (case side3 => repeat (first | exact (Kd.S_reads' HO489.out).2.2 | (with_reducible refine Kd.C_alloc ?_ _) | (with_reducible refine Kd.C_drewN ?_ _) | (with_reducible refine Kd.C_drew ?_)))
     (case side4 => exact (Kd.S_reads' HO489.out).2.1)
     (case side5 => repeat (first | exact (Kd.S_reads' HO493.out).2.2 | (with_reducible refine Kd.C_alloc ?_ _) | (with_reducible refine Kd.C_drewN ?_ _) | (with_reducible refine Kd.C_drew ?_)))
     (case side6 => exact (Kd.S_reads' HO493.out).2.1)
     rintro e w24 ⟨v495, rfl, ho0, hb⟩
     refine ⟨_, rfl, ?_⟩
     have n0_ := Aside0.mk (Kd.S_elder' (by (with_reducible repeat (first | apply Kd.S_alloc | apply Kd.S_drewN | apply Kd.S_drew)); exact HO486.out) (Kd.R_base ho0) hb)
     have n1_ := Aside0.mk (Kd.S_elder' (by (with_reducible repeat (first | apply Kd.S_alloc | apply Kd.S_drewN | apply Kd.S_drew)); exact HO489.out) (Kd.R_base ho0) hb)
     have n2_ := Aside0.mk (Kd.S_below (by (with_reducible repeat (first | apply Kd.S_alloc | apply Kd.S_drewN | apply Kd.S_drew)); exact HO493.out) hb)
     have n3_ := Aside0.mk (Kd.R_lower ho0 (below_size (by repeat (first | (with_reducible first | exact HB.out | apply below_alloc | apply pw_below_drewN | apply below_drew1 | refine below_set ?_ GE480.out | refine below_set ?_ GE490.out) | exact HB.out))))
     have n4_ := Aside0.mk (blk_below (g := gb480) (o := .cells #[.string a0_0, .int .i64 a0_1, .slice A0_2 l0_2.length c0_2, .int .i64 a0_3, .slice A0_4 l0_4.length c0_4] 30 (0, 0)) (by (with_reducible repeat (first | refine blk_drewN ?_ _ | refine blk_drew ?_ | refine blk_alloc ?_ _)); exact BK480.out) hb)
     have n5_ := Aside0.mk (blk_below (g := gb490) (o := .cells #[.slice Ao16 t484.length co16, .slice Ao19 t487.length co19] 52 (0, 0)) (by (with_reducible repeat (first | refine blk_drewN ?_ _ | refine blk_drew ?_ | refine blk_alloc ?_ _)); exact BK490.out) hb)
     have n6_ := Aside0.mk (below_step (by repeat (first | (with_reducible first | exact HB.out | apply below_alloc | apply pw_below_drewN | apply below_drew1 | refine below_set ?_ GE480.out | refine below_set ?_ GE490.out) | exact HB.out)) hb)
     clear HO486
     clear HO489
     clear HO493
     clear BK480
     clear BK490
     clear HB
     have HO486 := n0_
     have HO489 := n1_
     have HO493 := n2_
     have HO496 := n3_
     have BK480 := n4_
     have BK490 := n5_
     have HB := n6_
     clear n0_ n1_ n2_ n3_ n4_ n5_ n6_
     (try clear hb)
     (try clear hb2)
     (try clear hk)
     (try clear hi)
     (try clear ho0)
     refine hK.out _ _ ⟨(blk_cell BK490.out 0).trans rfl, (blk_cell BK490.out 1).trans rfl⟩ (fun hHeld => ?_)
     clear hK K
     refine norm_ (a' := ?_) ?_ ?_
     rotate_left
     · show Act.put _ (some 22) _ = _
       simp only [Act.put, List.setIfInBounds_toArray, List.set_cons_zero, List.set_cons_succ, i64_w, i32_w]
       rfl
     refine pure_ (i := 5) (N := some 4) (v := ?_) (a' := ?_) #[true, true, true, true, true, true] rfl rfl (by kernel_rfl) (fun _ _ _ h => h) (Or.inl ⟨by rfl, ?_⟩) ?_ ?_
     rotate_left
     · intro w'
       go_simp
       with_reducible rfl
     rotate_left
     · simp only [Act.put, List.setIfInBounds_toArray, List.set_cons_zero, List.set_cons_succ, i64_w, i32_w]
       rfl
     refine done_ (by kernel_rfl) ?_
     try go_wp2
     go_ret
     exact ⟨_, by first | rfl | (simp [errW_none, errW_some] <;> rfl) | (simp [*, errW_none, errW_some] <;> rfl), by (with_reducible repeat (first | apply Kd.R_alloc | apply Kd.R_drewN | apply Kd.R_drew)); exact HO496.out, by repeat (first | (with_reducible first | exact HB.out | apply below_alloc | apply pw_below_drewN | apply below_drew1 | refine below_set ?_ GE480.out | refine below_set ?_ GE490.out) | exact HB.out)⟩

end Go.Proofs.Ytoedcnhgobbnfaa.All


/- Maps of bools that a call makes: as sets of numbers. -/
namespace Go.Proofs.Ytoedcnhgobbnfaa.All
open Go.RowKit Go.Proofs.YtoedcnhgobbnfaaW.PrintWords Go.Proofs.YtoedcnhgobbnfaaW.PrintLast Go.Proofs.YtoedcnhgobbnfaaW.PrintMore
set_option linter.unusedVariables false
set_option linter.unusedSimpArgs false
open Go.Maps (Keyed)
theorem plainElem_bool_inv {H : Type} {P : Program} {e : TypeId} (he : P.underlying e = some .bool) {v : Value} {z : DataW H × List MemPlace} (h : plainElem P e v = some z) : ∃ x, v = .bool x ∧ z = (.lit (.bool x), []) := by
  unfold plainElem at h
  rw [he] at h
  cases v <;> simp at h
  exact ⟨_, rfl, h.symm⟩
/-- Block b is a map of at most n entries from int64 (type k) to bool (type e); S is what is told of a number. -/
def IsSet (P : Program) (k e : TypeId) (w : World) (b n : Nat) (S : Int → Bool) : Prop :=
  ∃ D : DataW Unit, w.ownsMap P k (plainElem P e) b n D ∧ ∀ x, (Lit.int .i64 x).wf = true → D.atKey (.int .i64 x) (.lit (.bool false)) = .lit (.bool (S x))
section
variable {P : Program} {k e : TypeId} {w w1 : World} {b n : Nat} {S : Int → Bool}
theorem IsSet.made (w : World) (P : Program) (k e : TypeId) : IsSet P k e (w.alloc (.map #[] 0)) w.heap.size 0 (fun _ => false) :=
  ⟨.map [], World.ownsMap_made w P k _, fun x _ => by simp [DataW.atKey]⟩
theorem IsSet.kept {row : Option Nat} (h : IsSet P k e w b n S) (hg : w.grownBy w1 row) (hne : some b ≠ row) : IsSet P k e w1 b n S := by
  obtain ⟨D, h1, h2⟩ := h
  exact ⟨D, h1.kept hg hne, h2⟩
theorem IsSet.below (h : IsSet P k e w b n S) (hb : Below w.heap.size w w1) : IsSet P k e w1 b n S := h.kept (grown_of_below hb none) (by simp)
theorem IsSet.alloc (h : IsSet P k e w b n S) (o : Obj) : IsSet P k e (w.alloc o) b n S := h.below (below_alloc (Below.refl _ _) o)
theorem IsSet.drewN (h : IsSet P k e w b n S) (m : Nat) : IsSet P k e (w.drewN m) b n S := h
theorem IsSet.drew (h : IsSet P k e w b n S) : IsSet P k e w.drew b n S := h
theorem IsSet.mono (h : IsSet P k e w b n S) {n' : Nat} (hn : n ≤ n') : IsSet P k e w b n' S := by obtain ⟨D, h1, h2⟩ := h; exact ⟨D, h1.mono hn, h2⟩
theorem IsSet.congr {S' : Int → Bool} (h : IsSet P k e w b n S) (he : ∀ x, S' x = S x) : IsSet P k e w b n S' := by obtain ⟨D, h1, h2⟩ := h; exact ⟨D, h1, fun x hx => by rw [he]; exact h2 x hx⟩
theorem IsSet.look {t : TypeId} (h : IsSet P k e w b n S) (hk : P.underlying k = some (.int .i64)) (ht : P.underlying t = some (.map k e)) (he : P.underlying e = some .bool) (hz : (zeroValue e).run P w = .ok (.bool false) w) {x : Int} (hx : (Lit.int .i64 x).wf = true) :
    (Instr.lookup t (.map (some b)) (.int .i64 x) false).run P w = .ok (.bool (S x)) w := by
  obtain ⟨D, h1, h2⟩ := h
  obtain ⟨v, ps, hrun, hv⟩ := h1.lookup (Maps.int_keyed hk) ht hz (plainElem_bool he false) (Maps.keyOf_int_mk hk hx)
  obtain ⟨c, rfl, hc⟩ := plainElem_bool_inv he hv
  simp only [Prod.mk.injEq] at hc
  have := h2 x hx
  rw [hc.1] at this
  injection this with this
  injection this with this
  rw [this] at hrun
  exact hrun
theorem IsSet.put {t : TypeId} (h : IsSet P k e w b n S) (hk : P.underlying k = some (.int .i64)) (ht : P.underlying t = some (.map k e)) (he : P.underlying e = some .bool) (hn : n < maxLen) {x : Int} (hx : (Lit.int .i64 x).wf = true) (v : Bool) :
    ∃ w', (Instr.mapUpdate t (.map (some b)) (.int .i64 x) (.bool v)).run P w = .ok () w' ∧ IsSet P k e w' b (n + 1) (fun y => if y = x then v else S y) ∧ w.grownBy w' (some b) := by
  obtain ⟨D, h1, h2⟩ := h
  have hm := h1.isMap
  obtain ⟨w', hrun, h3, hg⟩ := h1.update (Maps.int_keyed hk) ht hn (Maps.keyOf_int_mk hk hx) (plainElem_bool he v)
  refine ⟨w', hrun, ⟨_, h3, fun y hy => ?_⟩, hg⟩
  by_cases hxy : y = x
  · subst hxy
    rw [Maps.atKey_put_same hm (by simp [WideAt.IsKeyLit])]
    simp
  · rw [Maps.atKey_put_other (by simpa using hxy), h2 y hy]
    simp [hxy]
end
section
variable {P : Program} {ops : Array Oper} {rest : List Oper} {o : Oper} {a : Act} {Q : Exit → Act → World → Prop} {w : World}
theorem wpList_look_set (hg : o.guard = none) (m x : Operand) (t : TypeId) (hop : o.op = Op.lookup t m x false) (k e : TypeId) (hk : P.underlying k = some (.int .i64)) (ht : P.underlying t = some (.map k e)) (he : P.underlying e = some .bool)
    (hz : (zeroValue e).run P w = .ok (.bool false) w) (b n : Nat) (S : Int → Bool) (hm : a.eval m = .map (some b)) (hs : IsSet P k e w b n S) (i : Int) (hx : a.eval x = .int .i64 i) (hw : (Lit.int .i64 i).wf = true)
    (hK : wpList P ops Q rest (a.put o.dst (.bool (S i))) w) : wpList P ops Q (o :: rest) a w := by
  refine wpList_plain hg fun K' hK' => ?_
  have hrun := hs.look hk ht he hz hw
  unfold Oper.wp
  simp [execOp, hop, hm, hx, hrun, Result.andThen]
  exact hK' _ _ hK
theorem wpList_put_set (hg : o.guard = none) (m x v : Operand) (t : TypeId) (hop : o.op = Op.mapUpdate t m x v) (k e : TypeId) (hk : P.underlying k = some (.int .i64)) (ht : P.underlying t = some (.map k e)) (he : P.underlying e = some .bool)
    (b n : Nat) (S : Int → Bool) (hm : a.eval m = .map (some b)) (hs : IsSet P k e w b n S) (hn : n < maxLen) (i : Int) (hx : a.eval x = .int .i64 i) (hw : (Lit.int .i64 i).wf = true) (c : Bool) (hv : a.eval v = .bool c)
    (hK : ∀ w', IsSet P k e w' b (n + 1) (fun y => if y = i then c else S y) → w.grownBy w' (some b) → wpList P ops Q rest (a.put o.dst undef) w') : wpList P ops Q (o :: rest) a w := by
  refine wpList_plain hg fun K' hK' => ?_
  obtain ⟨w', hrun, r1, r2⟩ := hs.put hk ht he hn hw c
  unfold Oper.wp
  simp [execOp, hop, hm, hx, hv, hrun, Result.andThen]
  exact hK' _ _ (hK w' r1 r2)
end
/-- A row of one's own is no map. -/
theorem Kd.R_notset {α : Type} {d : Kd α} {P : Program} {e : Nat} {k t : TypeId} {w : World} {base b n : Nat} {ok : Nat → Prop} {v : Value} {xs : List α} {S : Int → Bool} (h : d.R e w base ok v xs) (hs : IsSet P k t w b n S) : d.R e w base (fun j => ok j ∧ j ≠ b) v xs := by
  obtain ⟨D, ⟨es, clock, hb, _⟩, _⟩ := hs
  refine Kd.R_mono (Kd.R_bound h) (fun j hj => ⟨hj.1, ?_⟩)
  rintro rfl
  obtain ⟨_, _, _, q, _, cells, hc⟩ := hj
  rw [hc] at hb
  injection hb with hb
  cases hb
theorem Kd.R_notset_own {α : Type} {d : Kd α} {P : Program} {e : Nat} {k t : TypeId} {w : World} {base b n : Nat} {ok : Nat → Prop} {v : Value} {xs : List α} {S : Int → Bool} (h : d.R e w base ok v xs) (hs : IsSet P k t w b n S) : some b ≠ v.ownBlock := fun he => ((Kd.R_notset h hs).1 b he.symm).2 rfl
end Go.Proofs.Ytoedcnhgobbnfaa.All


/- The blocks that a block goes to, each once, in order: a plain list function. -/
namespace Go.Proofs.Ytoedcnhgobbnfaa.All
open Go.RowKit Go.Proofs.YtoedcnhgobbnfaaW.PrintWords Go.Proofs.YtoedcnhgobbnfaaW.PrintLast Go.Proofs.YtoedcnhgobbnfaaW.PrintMore
set_option linter.unusedVariables false
set_option linter.unusedSimpArgs false
def stepN (n : Nat) (acc : List Int) (b : Int) : List Int := if 0 ≤ b ∧ b < (n : Int) ∧ acc.contains b = false then acc ++ [b] else acc
def nextL (n : Nat) (bs : List Int) : List Int := bs.foldl (stepN n) []
theorem nextL_take (n : Nat) (bs : List Int) (m : Nat) (h : m < bs.length) : nextL n (bs.take (m + 1)) = stepN n (nextL n (bs.take m)) bs[m] := by
  unfold nextL
  rw [List.take_succ_eq_append_getElem h, List.foldl_append]
  rfl
theorem foldl_stepN_len (n : Nat) : ∀ (bs acc : List Int), (bs.foldl (stepN n) acc).length ≤ acc.length + bs.length
  | [], acc => by simp
  | b :: bs, acc => by
    have h1 := foldl_stepN_len n bs (stepN n acc b)
    have h2 : (stepN n acc b).length ≤ acc.length + 1 := by unfold stepN; split <;> simp
    rw [List.foldl_cons, List.length_cons]
    omega
theorem nextL_len (n : Nat) (bs : List Int) : (nextL n bs).length ≤ bs.length := by
  have := foldl_stepN_len n bs []
  simpa [nextL] using this
theorem foldl_stepN_range (n : Nat) : ∀ (bs acc : List Int), (∀ x ∈ acc, 0 ≤ x ∧ x < (n : Int)) → ∀ x ∈ bs.foldl (stepN n) acc, 0 ≤ x ∧ x < (n : Int)
  | [], acc, h => h
  | b :: bs, acc, h => by
    rw [List.foldl_cons]
    refine foldl_stepN_range n bs _ ?_
    unfold stepN
    split
    · rename_i hc
      intro x hx
      rcases List.mem_append.1 hx with hx | hx
      · exact h x hx
      · rw [List.mem_singleton.1 hx]; exact ⟨hc.1, hc.2.1⟩
    · exact h
theorem nextL_range (n : Nat) (bs : List Int) : ∀ x ∈ nextL n bs, 0 ≤ x ∧ x < (n : Int) := foldl_stepN_range n bs [] (by simp)
theorem foldl_stepN_nodup (n : Nat) : ∀ (bs acc : List Int), acc.Nodup → (bs.foldl (stepN n) acc).Nodup
  | [], acc, h => h
  | b :: bs, acc, h => by
    rw [List.foldl_cons]
    refine foldl_stepN_nodup n bs _ ?_
    unfold stepN
    split
    · rename_i hc
      have hb : b ∉ acc := by have := hc.2.2; simpa using this
      rw [List.nodup_append]
      exact ⟨h, by simp, fun x hx y hy e => hb (by rw [List.mem_singleton.1 hy] at e; exact e ▸ hx)⟩
    · exact h
theorem nextL_nodup (n : Nat) (bs : List Int) : (nextL n bs).Nodup := foldl_stepN_nodup n bs [] List.nodup_nil
end Go.Proofs.Ytoedcnhgobbnfaa.All


namespace Go.Proofs.Ytoedcnhgobbnfaa.All
open Go.RowKit Go.Proofs.YtoedcnhgobbnfaaW.PrintWords Go.Proofs.YtoedcnhgobbnfaaW.PrintLast Go.Proofs.YtoedcnhgobbnfaaW.PrintMore
attribute [local go_sem] max2_int min2_int max_two min_two max_three min_three max_four min_four   -- for this text's walks alone
set_option linter.unusedVariables false
set_option linter.unusedSimpArgs false

/-! ### impl_NextBlocks: function 18 -/
def impl_NextBlocks.f (a0_0 : ByteArray) (a0_1 : Int) (l0_2 : List Int) (a0_3 : Int) (l0_4 : List (S62)) (a1 : Int) : Option (List Int) :=
 if a1 < 0 then some [] else if (l0_4.length : Int) ≤ a1 then some [] else if (rd_T62 l0_4 a1).f0.length = 0 then some [] else
 if l0_4.length ≤ 1000000000 ∧ (rd_T62 l0_4 a1).f0.length ≤ 1000000000 ∧ (rd_T66 (rd_T62 l0_4 a1).f0 (((rd_T62 l0_4 a1).f0.length : Int) - 1)).f7.length ≤ 1000000000 then some (nextL l0_4.length (rd_T66 (rd_T62 l0_4 a1).f0 (((rd_T62 l0_4 a1).f0.length : Int) - 1)).f7) else none
set_option maxHeartbeats 4000000 in
set_option maxRecDepth 100000 in
theorem impl_NextBlocks.none_ (a0_0 : ByteArray) (a0_1 : Int) (A0_2 : Option Addr) (c0_2 : Nat) (l0_2 : List Int) (a0_3 : Int) (A0_4 : Option Addr) (c0_4 : Nat) (l0_4 : List (S62)) (a1 : Int) (w : World) (hr0_4 : Kd.C k62 w A0_4 l0_4.length l0_4) (hn : a1 < 0 ∨ (l0_4.length : Int) ≤ a1 ∨ (rd_T62 l0_4 a1).f0.length = 0) :
 Calls Try.prog 18 #[.agg #[.string a0_0, .int .i64 a0_1, .slice A0_2 l0_2.length c0_2, .int .i64 a0_3, .slice A0_4 l0_4.length c0_4], .int .i64 a1] w fun e w' => e = .returned (.slice none 0 0) ∧ Below w.heap.size w w' := by
 have HR := Aside0.mk hr0_4
 clear hr0_4
 have hu := Try.underlying30
 by_cases h1 : a1 < 0
 · have c1 : decide (a1 < 0) = true := decide_eq_true h1
   clear h1 hn
   go_enter Try.func18, Try.ntmps18
   go_wp2
   go_ret
   exact ⟨rfl, below_alloc (Below.refl _ _) _⟩
 · have c1 : decide (a1 < 0) = false := decide_eq_false h1
   by_cases h2 : (l0_4.length : Int) ≤ a1
   · have c2 : decide ((l0_4.length : Int) ≤ a1) = true := decide_eq_true h2
     clear h1 h2 hn
     go_enter Try.func18, Try.ntmps18
     go_wp2
     go_ret
     exact ⟨rfl, below_alloc (Below.refl _ _) _⟩
   · have c2 : decide ((l0_4.length : Int) ≤ a1) = false := decide_eq_false h2
     have h3 : (rd_T62 l0_4 a1).f0.length = 0 := by rcases hn with h | h | h <;> first | omega | exact h
     obtain ⟨ad, A1, c1_, e1, hx, hl, hi⟩ := at_T62 HR.out a1 (by omega) (by omega)
     subst e1
     have hx1 : (w.alloc (.cells #[.string a0_0, .int .i64 a0_1, .slice A0_2 l0_2.length c0_2, .int .i64 a0_3, .slice (some ad) l0_4.length c0_4] 30)).cell? (ad.add a1.toNat) = some (.slice A1 (rd_T62 l0_4 a1).f0.length c1_) := ((below_alloc (Below.refl w.heap.size w) _).cell (World.block_lt_of_cell? w _ hx)).trans hx
     rw [h3] at hx1
     have h4 : 0 ≤ a1 := by omega
     have h5 : a1 < (l0_4.length : Int) := by omega
     clear h1 h2 hn hi hx hl h3
     go_enter Try.func18, Try.ntmps18
     go_wp2
     go_ret
     exact ⟨rfl, below_alloc (Below.refl _ _) _⟩
set_option maxHeartbeats 4000000 in
set_option maxRecDepth 100000 in
theorem impl_NextBlocks.some_ (a0_0 : ByteArray) (a0_1 : Int) (A0_2 : Option Addr) (c0_2 : Nat) (l0_2 : List Int) (a0_3 : Int) (A0_4 : Option Addr) (c0_4 : Nat) (l0_4 : List (S62)) (a1 : Int) (w : World) (hr0_4 : Kd.C k62 w A0_4 l0_4.length l0_4) (h1 : 0 ≤ a1) (h2 : a1 < (l0_4.length : Int)) (L : List (S66)) (hL : L = (rd_T62 l0_4 a1).f0) (h3 : 0 < L.length) (bs : List Int) (hbs : bs = (rd_T66 L ((L.length : Int) - 1)).f7) (b1 : l0_4.length ≤ 1000000000) (b2 : L.length ≤ 1000000000) (b3 : bs.length ≤ 1000000000) :
 Calls Try.prog 18 #[.agg #[.string a0_0, .int .i64 a0_1, .slice A0_2 l0_2.length c0_2, .int .i64 a0_3, .slice A0_4 l0_4.length c0_4], .int .i64 a1] w fun e w' => ∃ v0_ : Value, e = .returned v0_ ∧ Kd.R (Kd.int .i64) 2 w' w.heap.size (fun _ => True) v0_ (nextL l0_4.length bs) ∧ Below w.heap.size w w' := by
 have hu := Try.underlying30
 have c1 : decide (a1 < 0) = false := decide_eq_false (by omega)
 have c2 : decide ((l0_4.length : Int) ≤ a1) = false := decide_eq_false (by omega)
 have c3 : ((L.length : Int) == 0) = false := by rw [beq_eq_false_iff_ne]; omega
 obtain ⟨ad, A1, k1, e1, hx, hl, hi⟩ := at_T62 hr0_4 a1 h1 h2
 subst e1
 rw [← hL] at hx hl hi
 obtain ⟨ad2, A26, k26, A27, k27, A28, k28, e2, y0, y1, y2, y3, y4, y5, y6, y7, y8, l6, i6, l7, i7, l8, i8⟩ := at_T66 hi ((L.length : Int) - 1) (by omega) (by omega)
 subst e2
 rw [← hbs] at y7 l7 i7
 rw [show ((L.length : Int) - 1).toNat = L.length - 1 from by omega] at y7
 clear y0 y1 y2 y3 y4 y5 y6 y8 l6 i6 l8 i8 hL hbs hi hr0_4
 have B0 : Below w.heap.size w (w.alloc (.cells #[.string a0_0, .int .i64 a0_1, .slice A0_2 l0_2.length c0_2, .int .i64 a0_3, .slice (some ad) l0_4.length c0_4] 30)) := below_alloc (Below.refl w.heap.size w) _
 have hx1 := (B0.cell (World.block_lt_of_cell? w _ hx)).trans hx
 have B1 : Below w.heap.size w ((w.alloc (.cells #[.string a0_0, .int .i64 a0_1, .slice A0_2 l0_2.length c0_2, .int .i64 a0_3, .slice (some ad) l0_4.length c0_4] 30)).alloc (.map #[] 0)) := below_alloc B0 _
 have hy1 := (B1.cell (World.block_lt_of_cell? w _ y7)).trans y7
 have HBm := Aside0.mk B1
 have HK0 := Aside0.mk (alloc2_0 w (.cells #[.string a0_0, .int .i64 a0_1, .slice A0_2 l0_2.length c0_2, .int .i64 a0_3, .slice (some ad) l0_4.length c0_4] 30) (.map #[] 0))
 have HS0 := Aside0.mk (IsSet.made (w.alloc (.cells #[.string a0_0, .int .i64 a0_1, .slice A0_2 l0_2.length c0_2, .int .i64 a0_3, .slice (some ad) l0_4.length c0_4] 30)) Try.prog 2 4)
 have HI := Aside0.mk i7
 clear hx y7 i7 B0 B1
 have hmm := @run_makeMap Try.prog
 go_enter Try.func18, Try.ntmps18
 go_wp2
 go_loopw [6, 44] (fun v6 v44 w' => ∃ m : Nat, m ≤ bs.length ∧ v44 = .int .i64 (m : Int) ∧ Aside0 (Kd.R (Kd.int .i64) 2 w' w.heap.size (fun _ => True) v6 (nextL l0_4.length (bs.take m))) ∧ Aside0 (IsSet Try.prog 2 4 w' (w.heap.size + 1) m (fun y => (nextL l0_4.length (bs.take m)).contains y)) ∧ Aside0 (Below w.heap.size w w') ∧ Aside0 (w'.heap[w.heap.size]? = some (.cells #[.string a0_0, .int .i64 a0_1, .slice A0_2 l0_2.length c0_2, .int .i64 a0_3, .slice (some ad) l0_4.length c0_4] 30 (0, 0)))) (fun _ v44 _ => bs.length - (intOf v44).toNat)
 case atStart => exact ⟨0, Nat.zero_le _, rfl, ⟨Kd.R_nil _ _ _ _ _⟩, ⟨by have h := HS0.out; rw [World.size_alloc] at h; exact h.congr (fun _ => rfl)⟩, HBm, HK0⟩
 case round =>
  clear HBm HK0 HS0 hx1 hy1 hmm
  obtain ⟨m, hm, rfl, HO, HS, HB, HK⟩ := hrel
  by_cases hlt : m < bs.length
  · have hrd := Kd.reads_of_C (d := (0 : Int)) (Kd.C_below HI.out HB.out)
    obtain ⟨ad3, e3, hb⟩ := ReadsInt.at_ (k := .i64) hrd (m : Int) (by omega) (by omega)
    subst e3
    clear hrd
    have htk := nextL_take l0_4.length bs m hlt
    obtain ⟨b, hbm⟩ : ∃ b, b = bs[m] := ⟨_, rfl⟩
    have hrb : rd bs (m : Int) = b := by rw [hbm]; simp [rd, List.getElem?_eq_getElem hlt]
    rw [hrb, Int.toNat_natCast] at hb
    rw [← hbm] at htk
    have HT := Aside0.mk htk
    have hlen := nextL_len l0_4.length (bs.take m)
    rw [List.length_take] at hlen
    have HL := Aside0.mk hlen
    have d4 : wr.cell? ⟨w.heap.size, 4, none⟩ = some (.slice (some ad) l0_4.length c0_4) := (blk_cell HK.out 4).trans rfl
    clear htk hbm hrb hlen
    have hz : ∀ W : World, (zeroValue 4).run Try.prog W = .ok (.bool false) W := fun W => by kernel_rfl
    by_cases q0 : 0 ≤ b
    · by_cases q1 : b < (l0_4.length : Int)
      · have hw : (Lit.int .i64 b).wf = true := WalkArith.wf_i64 ⟨by omega, by omega⟩
        have HW := Aside0.mk hw
        have HZ := Aside0.mk hz
        clear hw hz
        have t0 : decide (0 ≤ b) = true := decide_eq_true q0
        have t1 : decide (b < (l0_4.length : Int)) = true := decide_eq_true q1
        by_cases q2 : (nextL l0_4.length (bs.take m)).contains b = true
        · have hst : stepN l0_4.length (nextL l0_4.length (bs.take m)) b = nextL l0_4.length (bs.take m) := by unfold stepN; rw [if_neg (by rw [q2]; simp)]
          have HST := Aside0.mk hst
          have HQ := Aside0.mk q2
          clear hst q2
          go_wp2_with (first | ((with_reducible refine gate_dst (N := 60) rfl ?_); (try (refine gate_guard (by rfl) ?_; dsimp only)); refine wpList_look_set rfl _ _ 68 rfl 2 4 Try.underlying2 Try.underlying68 Try.underlying4 (HZ.out _) (w.heap.size + 1) m _ rfl HS.out b rfl HW.out ?_; dsimp only; rw [HQ.out]))
          go_roundw
          case measure => simp [intOf]; omega
          case rel => exact ⟨m + 1, by omega, by go_num, ⟨by rw [HT.out, HST.out]; exact HO.out⟩, ⟨by rw [HT.out, HST.out]; exact HS.out.mono (by omega)⟩, HB, HK⟩
        · have q3 : (nextL l0_4.length (bs.take m)).contains b = false := by simpa using q2
          have hst : stepN l0_4.length (nextL l0_4.length (bs.take m)) b = nextL l0_4.length (bs.take m) ++ [b] := by unfold stepN; rw [if_pos ⟨q0, q1, q3⟩]
          have HST := Aside0.mk hst
          have HQ := Aside0.mk q3
          clear hst q2 q3
          go_wp2_with (first | ((with_reducible refine gate_dst (N := 60) rfl ?_); (try (refine gate_guard (by rfl) ?_; dsimp only)); refine wpList_look_set rfl _ _ 68 rfl 2 4 Try.underlying2 Try.underlying68 Try.underlying4 (HZ.out _) (w.heap.size + 1) m _ rfl HS.out b rfl HW.out ?_; dsimp only; rw [HQ.out]) | (at_mapUpdate; refine wpList_put_set rfl _ _ _ 68 rfl 2 4 Try.underlying2 Try.underlying68 Try.underlying4 (w.heap.size + 1) m _ rfl HS.out ?ml b rfl HW.out true rfl ?_; (case ml => simp only [maxLen]; omega); intro w1 hs1 hg1; have n0 := Aside0.mk (Kd.R_grown (Kd.R_notset HO.out HS.out) hg1 (fun k hk => by simpa using hk.2)); have n1 := Aside0.mk hs1; have n2 := Aside0.mk (pw_below_grown HB.out (some (w.heap.size + 1)) HB.out.size hg1 (fun k hk => by injection hk with hk; omega)); have n3 := Aside0.mk (blk_grown HK.out hg1 (by simp)); clear HO HS HB HK hs1 hg1; have HO := n0; have HS := n1; have HB := n2; have HK := n3; clear n0 n1 n2 n3) | (at_builtin; refine Kd.R_append (Kd.int .i64) (w0 := w) w.heap.size rfl (.tmp 65) (.tmp 67) 22 2 (.int .i64 0) 8 rfl Try.underlying22 info2 rfl (by decide) (by omega) u6 (nextL l0_4.length (bs.take m)) b [.int .i64 b] (fun _ => True) (fun _ => False) rfl rfl ?aP (fun _ hk => hk.elim) ?aF ?aO ?aB ?aS ?aL ?_; (case aP => exact rfl); (case aF => exact (fun _ _ => trivial)); (case aO => exact Kd.R_mono HO.out (fun _ _ => trivial)); (case aB => exact HB.out); (case aS => exact HB.out.size); (case aL => have := HL.out; omega); intro v2 w2 ho2 hb2 hg2 hat2; have n0 := Aside0.mk ho2; have n1 := Aside0.mk (HS.out.kept hg2 (Kd.R_notset_own HO.out HS.out)); have n2 := Aside0.mk hb2; have n3 := Aside0.mk (blk_grown HK.out hg2 (Kd.R_ne HO.out HK.out (by decide))); clear HO HS HB HK ho2 hb2 hg2 hat2; have HO := n0; have HS := n1; have HB := n2; have HK := n3; clear n0 n1 n2 n3))
          go_roundw
          case measure => simp [intOf]; omega
          case rel => exact ⟨m + 1, by omega, by go_num, ⟨by rw [HT.out, HST.out]; exact HO.out⟩, ⟨by rw [HT.out, HST.out]; exact HS.out.congr (fun y => by by_cases e : y = b <;> simp [e])⟩, HB, HK⟩
      · have t0 : decide (0 ≤ b) = true := decide_eq_true q0
        have t1 : decide (b < (l0_4.length : Int)) = false := decide_eq_false q1
        have hst : stepN l0_4.length (nextL l0_4.length (bs.take m)) b = nextL l0_4.length (bs.take m) := by unfold stepN; rw [if_neg (fun h => q1 h.2.1)]
        have HST := Aside0.mk hst
        clear hst hz
        go_wp2
        go_roundw
        case measure => simp [intOf]; omega
        case rel => exact ⟨m + 1, by omega, by go_num, ⟨by rw [HT.out, HST.out]; exact HO.out⟩, ⟨by rw [HT.out, HST.out]; exact HS.out.mono (by omega)⟩, HB, HK⟩
    · have t0 : decide (0 ≤ b) = false := decide_eq_false q0
      have hst : stepN l0_4.length (nextL l0_4.length (bs.take m)) b = nextL l0_4.length (bs.take m) := by unfold stepN; rw [if_neg (fun h => q0 h.1)]
      have HST := Aside0.mk hst
      clear hst hz
      go_wp2
      go_roundw
      case measure => simp [intOf]; omega
      case rel => exact ⟨m + 1, by omega, by go_num, ⟨by rw [HT.out, HST.out]; exact HO.out⟩, ⟨by rw [HT.out, HST.out]; exact HS.out.mono (by omega)⟩, HB, HK⟩
  · go_wp2
    go_ret
    have e : bs.take m = bs := List.take_of_length_le (by omega)
    rw [e] at HO
    exact ⟨_, rfl, HO.out, HB.out⟩
theorem impl_NextBlocks.calls (a0_0 : ByteArray) (a0_1 : Int) (A0_2 : Option Addr) (c0_2 : Nat) (l0_2 : List Int) (a0_3 : Int) (A0_4 : Option Addr) (c0_4 : Nat) (l0_4 : List (S62)) (a1 : Int) (r : List Int) (w : World) (hr0_2 : Kd.C (Kd.int .i64) w A0_2 l0_2.length l0_2) (hc0_2 : l0_2.length ≤ c0_2) (hr0_4 : Kd.C k62 w A0_4 l0_4.length l0_4) (hc0_4 : l0_4.length ≤ c0_4) (h : impl_NextBlocks.f a0_0 a0_1 l0_2 a0_3 l0_4 a1 = some r) :
 Calls Try.prog 18 #[.agg #[.string a0_0, .int .i64 a0_1, .slice A0_2 l0_2.length c0_2, .int .i64 a0_3, .slice A0_4 l0_4.length c0_4], .int .i64 a1] w fun e w' => ∃ v0_ : Value, e = .returned (v0_) ∧ Kd.R (Kd.int .i64) 2 w' w.heap.size (fun _ => True) v0_ r ∧ Below w.heap.size w w' := by
 unfold impl_NextBlocks.f at h
 have hnil : ∀ (hn : a1 < 0 ∨ (l0_4.length : Int) ≤ a1 ∨ (rd_T62 l0_4 a1).f0.length = 0), r = [] → Calls Try.prog 18 #[.agg #[.string a0_0, .int .i64 a0_1, .slice A0_2 l0_2.length c0_2, .int .i64 a0_3, .slice A0_4 l0_4.length c0_4], .int .i64 a1] w fun e w' => ∃ v0_ : Value, e = .returned (v0_) ∧ Kd.R (Kd.int .i64) 2 w' w.heap.size (fun _ => True) v0_ r ∧ Below w.heap.size w w' := by
  rintro hn rfl
  exact (impl_NextBlocks.none_ a0_0 a0_1 A0_2 c0_2 l0_2 a0_3 A0_4 c0_4 l0_4 a1 w hr0_4 hn).mono fun e w' ⟨he, hb⟩ => ⟨_, he, Kd.R_nil _ _ _ _ _, hb⟩
 by_cases h1 : a1 < 0
 · rw [if_pos h1] at h
   exact hnil (.inl h1) (Option.some.inj h).symm
 rw [if_neg h1] at h
 by_cases h2 : (l0_4.length : Int) ≤ a1
 · rw [if_pos h2] at h
   exact hnil (.inr (.inl h2)) (Option.some.inj h).symm
 rw [if_neg h2] at h
 by_cases h3 : (rd_T62 l0_4 a1).f0.length = 0
 · rw [if_pos h3] at h
   exact hnil (.inr (.inr h3)) (Option.some.inj h).symm
 rw [if_neg h3] at h
 split at h
 · rename_i hb
   obtain rfl := Option.some.inj h
   exact impl_NextBlocks.some_ a0_0 a0_1 A0_2 c0_2 l0_2 a0_3 A0_4 c0_4 l0_4 a1 w hr0_4 (by omega) (by omega) _ rfl (by omega) _ rfl hb.1 hb.2.1 hb.2.2
 · cases h

end Go.Proofs.Ytoedcnhgobbnfaa.All

