/- Part 4 of the proof of FnExactOrder: functions of the translation with what they return, and plain laws of these. Written by programs of this session over the kit's print, and by hand. -/
import Derived.Test.YtoedcnhgobbnfaaProg
import Derived.Test.YtoedcnhgobbnfaaCFnExactOrderWApart
import Derived.Test.YtoedcnhgobbnfaaCFnExactOrderWArr
import Derived.Test.YtoedcnhgobbnfaaCFnExactOrderWAt
import Derived.Test.YtoedcnhgobbnfaaCFnExactOrderWFoot
import Derived.Test.YtoedcnhgobbnfaaCFnExactOrderWFootNe
import Derived.Test.YtoedcnhgobbnfaaCFnExactOrderWGuard
import Derived.Test.YtoedcnhgobbnfaaCFnExactOrderWKept
import Derived.Test.YtoedcnhgobbnfaaCFnExactOrderWLast
import Derived.Test.YtoedcnhgobbnfaaCFnExactOrderWMore
import Derived.Test.YtoedcnhgobbnfaaCFnExactOrderWN
import Derived.Test.YtoedcnhgobbnfaaCFnExactOrderWNEv
import Derived.Test.YtoedcnhgobbnfaaCFnExactOrderWQPut
import Derived.Test.YtoedcnhgobbnfaaCFnExactOrderWRepsOne
import Derived.Test.YtoedcnhgobbnfaaCFnExactOrderWShare
import Derived.Test.YtoedcnhgobbnfaaCFnExactOrderWTab
import Derived.Test.YtoedcnhgobbnfaaCFnExactOrderWWords
import Derived.Test.YtoedcnhgobbnfaaCFnExactOrderWZeros
import Derived.Below
import Derived.Deep.Draws
import Derived.Deep.AppendLies
import Derived.Maps.AppendAt
import Derived.OwnWalk
import Derived.Laws.BytesArg
import Derived.Laws.MakeOwn
import Derived.Laws.OwnMore
import Derived.Deep.OwnRows
import Derived.Tactics
import Derived.Lib.ConvBytes
import Derived.Laws.Slices
import Derived.WalkKit
import Derived.KernelRfl
import Derived.RowKit3
import Derived.Deep.LoopGhost
import Derived.Deep.QuietTactic
import Derived.BigQuiet
import Derived.WideLaws
import Derived.Deep.DeepCutAuto
import Derived.Deep.CutBlock
import Derived.Deep.RegionHeld3
import Derived.Laws.Rows
import Derived.Lib.AppendStr
import Derived.ArgAppend
import Derived.Laws.IdiomCopy
import Derived.OrdersHeld
import Derived.Laws.BitsLemmas
import Derived.RowKit
import Derived.Maps.OwnSet
import Derived.Maps.OwnOps
import Derived.OneCell
import Derived.BigRegion
import Derived.Deep.Slices
import Derived.ChangeArms
import Derived.ProofKit
import Derived.OpenShut
import Derived.ShutString
import Derived.ChangeOld
import Derived.SizedLaws
import Derived.Test.YtoedcnhgobbnfaaCFnExactOrder1
import Derived.Test.YtoedcnhgobbnfaaCFnExactOrder2
import Derived.Test.YtoedcnhgobbnfaaCFnExactOrder3
/- The blocks that a block goes to, each once, in order: a plain list function. -/
namespace Go.Proofs.Ytoedcnhgobbnfaa.All
open Go.RowKit Go.Proofs.YtoedcnhgobbnfaaW.PrintWords Go.Proofs.YtoedcnhgobbnfaaW.PrintLast Go.Proofs.YtoedcnhgobbnfaaW.PrintMore
set_option linter.unusedVariables false
set_option linter.unusedSimpArgs false
def stepN (n : Nat) (acc : List Int) (b : Int) : List Int := if 0 ≤ b ∧ b < (n : Int) ∧ acc.contains b = false then acc ++ [b] else acc
def nextL (n : Nat) (bs : List Int) : List Int := bs.foldl (stepN n) []
theorem nextL_take (n : Nat) (bs : List Int) (m : Nat) (h : m < bs.length) : nextL n (bs.take (m + 1)) = stepN n (nextL n (bs.take m)) bs[m] := by
  unfold nextL
  rw [List.take_succ_eq_append_getElem h, List.foldl_append]
  rfl
theorem foldl_stepN_len (n : Nat) : ∀ (bs acc : List Int), (bs.foldl (stepN n) acc).length ≤ acc.length + bs.length
  | [], acc => by simp
  | b :: bs, acc => by
    have h1 := foldl_stepN_len n bs (stepN n acc b)
    have h2 : (stepN n acc b).length ≤ acc.length + 1 := by unfold stepN; split <;> simp
    rw [List.foldl_cons, List.length_cons]
    omega
theorem nextL_len (n : Nat) (bs : List Int) : (nextL n bs).length ≤ bs.length := by
  have := foldl_stepN_len n bs []
  simpa [nextL] using this
theorem foldl_stepN_range (n : Nat) : ∀ (bs acc : List Int), (∀ x ∈ acc, 0 ≤ x ∧ x < (n : Int)) → ∀ x ∈ bs.foldl (stepN n) acc, 0 ≤ x ∧ x < (n : Int)
  | [], acc, h => h
  | b :: bs, acc, h => by
    rw [List.foldl_cons]
    refine foldl_stepN_range n bs _ ?_
    unfold stepN
    split
    · rename_i hc
      intro x hx
      rcases List.mem_append.1 hx with hx | hx
      · exact h x hx
      · rw [List.mem_singleton.1 hx]; exact ⟨hc.1, hc.2.1⟩
    · exact h
theorem nextL_range (n : Nat) (bs : List Int) : ∀ x ∈ nextL n bs, 0 ≤ x ∧ x < (n : Int) := foldl_stepN_range n bs [] (by simp)
end Go.Proofs.Ytoedcnhgobbnfaa.All


namespace Go.Proofs.Ytoedcnhgobbnfaa.All
open Go.RowKit Go.Proofs.YtoedcnhgobbnfaaW.PrintWords Go.Proofs.YtoedcnhgobbnfaaW.PrintLast Go.Proofs.YtoedcnhgobbnfaaW.PrintMore
attribute [local go_sem] max2_int min2_int max_two min_two max_three min_three max_four min_four   -- for this text's walks alone
set_option linter.unusedVariables false
set_option linter.unusedSimpArgs false

/-! ### impl_NextBlocks: function 18 -/
def impl_NextBlocks.f (a0_0 : ByteArray) (a0_1 : Int) (l0_2 : List Int) (a0_3 : Int) (l0_4 : List (S62)) (a1 : Int) : Option (List Int) :=
 if a1 < 0 then some [] else if (l0_4.length : Int) ≤ a1 then some [] else if (rd_T62 l0_4 a1).f0.length = 0 then some [] else
 if l0_4.length ≤ 1000000000 ∧ (rd_T62 l0_4 a1).f0.length ≤ 1000000000 ∧ (rd_T66 (rd_T62 l0_4 a1).f0 (((rd_T62 l0_4 a1).f0.length : Int) - 1)).f7.length ≤ 1000000000 then some (nextL l0_4.length (rd_T66 (rd_T62 l0_4 a1).f0 (((rd_T62 l0_4 a1).f0.length : Int) - 1)).f7) else none
set_option maxHeartbeats 4000000 in
set_option maxRecDepth 100000 in
theorem impl_NextBlocks.none_ (a0_0 : ByteArray) (a0_1 : Int) (A0_2 : Option Addr) (c0_2 : Nat) (l0_2 : List Int) (a0_3 : Int) (A0_4 : Option Addr) (c0_4 : Nat) (l0_4 : List (S62)) (a1 : Int) (w : World) (hr0_4 : Kd.C k62 w A0_4 l0_4.length l0_4) (hn : a1 < 0 ∨ (l0_4.length : Int) ≤ a1 ∨ (rd_T62 l0_4 a1).f0.length = 0) :
 Calls Try.prog 18 #[.agg #[.string a0_0, .int .i64 a0_1, .slice A0_2 l0_2.length c0_2, .int .i64 a0_3, .slice A0_4 l0_4.length c0_4], .int .i64 a1] w fun e w' => e = .returned (.slice none 0 0) ∧ Below w.heap.size w w' := by
 have HR := Aside0.mk hr0_4
 clear hr0_4
 have hu := Try.underlying30
 by_cases h1 : a1 < 0
 · have c1 : decide (a1 < 0) = true := decide_eq_true h1
   clear h1 hn
   go_enter Try.func18, Try.ntmps18
   go_wp2
   go_ret
   exact ⟨rfl, below_alloc (Below.refl _ _) _⟩
 · have c1 : decide (a1 < 0) = false := decide_eq_false h1
   by_cases h2 : (l0_4.length : Int) ≤ a1
   · have c2 : decide ((l0_4.length : Int) ≤ a1) = true := decide_eq_true h2
     clear h1 h2 hn
     go_enter Try.func18, Try.ntmps18
     go_wp2
     go_ret
     exact ⟨rfl, below_alloc (Below.refl _ _) _⟩
   · have c2 : decide ((l0_4.length : Int) ≤ a1) = false := decide_eq_false h2
     have h3 : (rd_T62 l0_4 a1).f0.length = 0 := by rcases hn with h | h | h <;> first | omega | exact h
     obtain ⟨ad, A1, c1_, e1, hx, hl, hi⟩ := at_T62 HR.out a1 (by omega) (by omega)
     subst e1
     have hx1 : (w.alloc (.cells #[.string a0_0, .int .i64 a0_1, .slice A0_2 l0_2.length c0_2, .int .i64 a0_3, .slice (some ad) l0_4.length c0_4] 30)).cell? (ad.add a1.toNat) = some (.slice A1 (rd_T62 l0_4 a1).f0.length c1_) := ((below_alloc (Below.refl w.heap.size w) _).cell (World.block_lt_of_cell? w _ hx)).trans hx
     rw [h3] at hx1
     have h4 : 0 ≤ a1 := by omega
     have h5 : a1 < (l0_4.length : Int) := by omega
     clear h1 h2 hn hi hx hl h3
     go_enter Try.func18, Try.ntmps18
     go_wp2
     go_ret
     exact ⟨rfl, below_alloc (Below.refl _ _) _⟩
set_option maxHeartbeats 4000000 in
set_option maxRecDepth 100000 in
theorem impl_NextBlocks.some_ (a0_0 : ByteArray) (a0_1 : Int) (A0_2 : Option Addr) (c0_2 : Nat) (l0_2 : List Int) (a0_3 : Int) (A0_4 : Option Addr) (c0_4 : Nat) (l0_4 : List (S62)) (a1 : Int) (w : World) (hr0_4 : Kd.C k62 w A0_4 l0_4.length l0_4) (h1 : 0 ≤ a1) (h2 : a1 < (l0_4.length : Int)) (L : List (S66)) (hL : L = (rd_T62 l0_4 a1).f0) (h3 : 0 < L.length) (bs : List Int) (hbs : bs = (rd_T66 L ((L.length : Int) - 1)).f7) (b1 : l0_4.length ≤ 1000000000) (b2 : L.length ≤ 1000000000) (b3 : bs.length ≤ 1000000000) :
 Calls Try.prog 18 #[.agg #[.string a0_0, .int .i64 a0_1, .slice A0_2 l0_2.length c0_2, .int .i64 a0_3, .slice A0_4 l0_4.length c0_4], .int .i64 a1] w fun e w' => ∃ v0_ : Value, e = .returned v0_ ∧ Kd.R (Kd.int .i64) 2 w' w.heap.size (fun _ => True) v0_ (nextL l0_4.length bs) ∧ Below w.heap.size w w' := by
 have hu := Try.underlying30
 have c1 : decide (a1 < 0) = false := decide_eq_false (by omega)
 have c2 : decide ((l0_4.length : Int) ≤ a1) = false := decide_eq_false (by omega)
 have c3 : ((L.length : Int) == 0) = false := by rw [beq_eq_false_iff_ne]; omega
 obtain ⟨ad, A1, k1, e1, hx, hl, hi⟩ := at_T62 hr0_4 a1 h1 h2
 subst e1
 rw [← hL] at hx hl hi
 obtain ⟨ad2, A26, k26, A27, k27, A28, k28, e2, y0, y1, y2, y3, y4, y5, y6, y7, y8, l6, i6, l7, i7, l8, i8⟩ := at_T66 hi ((L.length : Int) - 1) (by omega) (by omega)
 subst e2
 rw [← hbs] at y7 l7 i7
 rw [show ((L.length : Int) - 1).toNat = L.length - 1 from by omega] at y7
 clear y0 y1 y2 y3 y4 y5 y6 y8 l6 i6 l8 i8 hL hbs hi hr0_4
 have B0 : Below w.heap.size w (w.alloc (.cells #[.string a0_0, .int .i64 a0_1, .slice A0_2 l0_2.length c0_2, .int .i64 a0_3, .slice (some ad) l0_4.length c0_4] 30)) := below_alloc (Below.refl w.heap.size w) _
 have hx1 := (B0.cell (World.block_lt_of_cell? w _ hx)).trans hx
 have B1 : Below w.heap.size w ((w.alloc (.cells #[.string a0_0, .int .i64 a0_1, .slice A0_2 l0_2.length c0_2, .int .i64 a0_3, .slice (some ad) l0_4.length c0_4] 30)).alloc (.map #[] 0)) := below_alloc B0 _
 have hy1 := (B1.cell (World.block_lt_of_cell? w _ y7)).trans y7
 have HBm := Aside0.mk B1
 have HK0 := Aside0.mk (alloc2_0 w (.cells #[.string a0_0, .int .i64 a0_1, .slice A0_2 l0_2.length c0_2, .int .i64 a0_3, .slice (some ad) l0_4.length c0_4] 30) (.map #[] 0))
 have HS0 := Aside0.mk (IsSet.made (w.alloc (.cells #[.string a0_0, .int .i64 a0_1, .slice A0_2 l0_2.length c0_2, .int .i64 a0_3, .slice (some ad) l0_4.length c0_4] 30)) Try.prog 2 4)
 have HI := Aside0.mk i7
 clear hx y7 i7 B0 B1
 have hmm := @run_makeMap Try.prog
 go_enter Try.func18, Try.ntmps18
 go_wp2
 go_loopw [6, 44] (fun v6 v44 w' => ∃ m : Nat, m ≤ bs.length ∧ v44 = .int .i64 (m : Int) ∧ Aside0 (Kd.R (Kd.int .i64) 2 w' w.heap.size (fun _ => True) v6 (nextL l0_4.length (bs.take m))) ∧ Aside0 (IsSet Try.prog 2 4 w' (w.heap.size + 1) m (fun y => (nextL l0_4.length (bs.take m)).contains y)) ∧ Aside0 (Below w.heap.size w w') ∧ Aside0 (w'.heap[w.heap.size]? = some (.cells #[.string a0_0, .int .i64 a0_1, .slice A0_2 l0_2.length c0_2, .int .i64 a0_3, .slice (some ad) l0_4.length c0_4] 30 (0, 0)))) (fun _ v44 _ => bs.length - (intOf v44).toNat)
 case atStart => exact ⟨0, Nat.zero_le _, rfl, ⟨Kd.R_nil _ _ _ _ _⟩, ⟨by have h := HS0.out; rw [World.size_alloc] at h; exact h.congr (fun _ => rfl)⟩, HBm, HK0⟩
 case round =>
  clear HBm HK0 HS0 hx1 hy1 hmm
  obtain ⟨m, hm, rfl, HO, HS, HB, HK⟩ := hrel
  by_cases hlt : m < bs.length
  · have hrd := Kd.reads_of_C (d := (0 : Int)) (Kd.C_below HI.out HB.out)
    obtain ⟨ad3, e3, hb⟩ := ReadsInt.at_ (k := .i64) hrd (m : Int) (by omega) (by omega)
    subst e3
    clear hrd
    have htk := nextL_take l0_4.length bs m hlt
    obtain ⟨b, hbm⟩ : ∃ b, b = bs[m] := ⟨_, rfl⟩
    have hrb : rd bs (m : Int) = b := by rw [hbm]; simp [rd, List.getElem?_eq_getElem hlt]
    rw [hrb, Int.toNat_natCast] at hb
    rw [← hbm] at htk
    have HT := Aside0.mk htk
    have hlen := nextL_len l0_4.length (bs.take m)
    rw [List.length_take] at hlen
    have HL := Aside0.mk hlen
    have d4 : wr.cell? ⟨w.heap.size, 4, none⟩ = some (.slice (some ad) l0_4.length c0_4) := (blk_cell HK.out 4).trans rfl
    clear htk hbm hrb hlen
    have hz : ∀ W : World, (zeroValue 4).run Try.prog W = .ok (.bool false) W := fun W => by kernel_rfl
    by_cases q0 : 0 ≤ b
    · by_cases q1 : b < (l0_4.length : Int)
      · have hw : (Lit.int .i64 b).wf = true := WalkArith.wf_i64 ⟨by omega, by omega⟩
        have HW := Aside0.mk hw
        have HZ := Aside0.mk hz
        clear hw hz
        have t0 : decide (0 ≤ b) = true := decide_eq_true q0
        have t1 : decide (b < (l0_4.length : Int)) = true := decide_eq_true q1
        by_cases q2 : (nextL l0_4.length (bs.take m)).contains b = true
        · have hst : stepN l0_4.length (nextL l0_4.length (bs.take m)) b = nextL l0_4.length (bs.take m) := by unfold stepN; rw [if_neg (by rw [q2]; simp)]
          have HST := Aside0.mk hst
          have HQ := Aside0.mk q2
          clear hst q2
          go_wp2_with (first | ((with_reducible refine gate_dst (N := 60) rfl ?_); (try (refine gate_guard (by rfl) ?_; dsimp only)); refine wpList_look_set rfl _ _ 68 rfl 2 4 Try.underlying2 Try.underlying68 Try.underlying4 (HZ.out _) (w.heap.size + 1) m _ rfl HS.out b rfl HW.out ?_; dsimp only; rw [HQ.out]))
          go_roundw
          case measure => simp [intOf]; omega
          case rel => exact ⟨m + 1, by omega, by go_num, ⟨by rw [HT.out, HST.out]; exact HO.out⟩, ⟨by rw [HT.out, HST.out]; exact HS.out.mono (by omega)⟩, HB, HK⟩
        · have q3 : (nextL l0_4.length (bs.take m)).contains b = false := by simpa using q2
          have hst : stepN l0_4.length (nextL l0_4.length (bs.take m)) b = nextL l0_4.length (bs.take m) ++ [b] := by unfold stepN; rw [if_pos ⟨q0, q1, q3⟩]
          have HST := Aside0.mk hst
          have HQ := Aside0.mk q3
          clear hst q2 q3
          go_wp2_with (first | ((with_reducible refine gate_dst (N := 60) rfl ?_); (try (refine gate_guard (by rfl) ?_; dsimp only)); refine wpList_look_set rfl _ _ 68 rfl 2 4 Try.underlying2 Try.underlying68 Try.underlying4 (HZ.out _) (w.heap.size + 1) m _ rfl HS.out b rfl HW.out ?_; dsimp only; rw [HQ.out]) | (at_mapUpdate; refine wpList_put_set rfl _ _ _ 68 rfl 2 4 Try.underlying2 Try.underlying68 Try.underlying4 (w.heap.size + 1) m _ rfl HS.out ?ml b rfl HW.out true rfl ?_; (case ml => simp only [maxLen]; omega); intro w1 hs1 hg1; have n0 := Aside0.mk (Kd.R_grown (Kd.R_notset HO.out HS.out) hg1 (fun k hk => by simpa using hk.2)); have n1 := Aside0.mk hs1; have n2 := Aside0.mk (pw_below_grown HB.out (some (w.heap.size + 1)) HB.out.size hg1 (fun k hk => by injection hk with hk; omega)); have n3 := Aside0.mk (blk_grown HK.out hg1 (by simp)); clear HO HS HB HK hs1 hg1; have HO := n0; have HS := n1; have HB := n2; have HK := n3; clear n0 n1 n2 n3) | (at_builtin; refine Kd.R_append (Kd.int .i64) (w0 := w) w.heap.size rfl (.tmp 65) (.tmp 67) 22 2 (.int .i64 0) 8 rfl Try.underlying22 info2 rfl (by decide) (by omega) u6 (nextL l0_4.length (bs.take m)) b [.int .i64 b] (fun _ => True) (fun _ => False) rfl rfl ?aP (fun _ hk => hk.elim) ?aF ?aO ?aB ?aS ?aL ?_; (case aP => exact rfl); (case aF => exact (fun _ _ => trivial)); (case aO => exact Kd.R_mono HO.out (fun _ _ => trivial)); (case aB => exact HB.out); (case aS => exact HB.out.size); (case aL => have := HL.out; omega); intro v2 w2 ho2 hb2 hg2 hat2; have n0 := Aside0.mk ho2; have n1 := Aside0.mk (HS.out.kept hg2 (Kd.R_notset_own HO.out HS.out)); have n2 := Aside0.mk hb2; have n3 := Aside0.mk (blk_grown HK.out hg2 (Kd.R_ne HO.out HK.out (by decide))); clear HO HS HB HK ho2 hb2 hg2 hat2; have HO := n0; have HS := n1; have HB := n2; have HK := n3; clear n0 n1 n2 n3))
          go_roundw
          case measure => simp [intOf]; omega
          case rel => exact ⟨m + 1, by omega, by go_num, ⟨by rw [HT.out, HST.out]; exact HO.out⟩, ⟨by rw [HT.out, HST.out]; exact HS.out.congr (fun y => by by_cases e : y = b <;> simp [e])⟩, HB, HK⟩
      · have t0 : decide (0 ≤ b) = true := decide_eq_true q0
        have t1 : decide (b < (l0_4.length : Int)) = false := decide_eq_false q1
        have hst : stepN l0_4.length (nextL l0_4.length (bs.take m)) b = nextL l0_4.length (bs.take m) := by unfold stepN; rw [if_neg (fun h => q1 h.2.1)]
        have HST := Aside0.mk hst
        clear hst hz
        go_wp2
        go_roundw
        case measure => simp [intOf]; omega
        case rel => exact ⟨m + 1, by omega, by go_num, ⟨by rw [HT.out, HST.out]; exact HO.out⟩, ⟨by rw [HT.out, HST.out]; exact HS.out.mono (by omega)⟩, HB, HK⟩
    · have t0 : decide (0 ≤ b) = false := decide_eq_false q0
      have hst : stepN l0_4.length (nextL l0_4.length (bs.take m)) b = nextL l0_4.length (bs.take m) := by unfold stepN; rw [if_neg (fun h => q0 h.1)]
      have HST := Aside0.mk hst
      clear hst hz
      go_wp2
      go_roundw
      case measure => simp [intOf]; omega
      case rel => exact ⟨m + 1, by omega, by go_num, ⟨by rw [HT.out, HST.out]; exact HO.out⟩, ⟨by rw [HT.out, HST.out]; exact HS.out.mono (by omega)⟩, HB, HK⟩
  · go_wp2
    go_ret
    have e : bs.take m = bs := List.take_of_length_le (by omega)
    rw [e] at HO
    exact ⟨_, rfl, HO.out, HB.out⟩
theorem impl_NextBlocks.calls (a0_0 : ByteArray) (a0_1 : Int) (A0_2 : Option Addr) (c0_2 : Nat) (l0_2 : List Int) (a0_3 : Int) (A0_4 : Option Addr) (c0_4 : Nat) (l0_4 : List (S62)) (a1 : Int) (r : List Int) (w : World) (hr0_2 : Kd.C (Kd.int .i64) w A0_2 l0_2.length l0_2) (hc0_2 : l0_2.length ≤ c0_2) (hr0_4 : Kd.C k62 w A0_4 l0_4.length l0_4) (hc0_4 : l0_4.length ≤ c0_4) (h : impl_NextBlocks.f a0_0 a0_1 l0_2 a0_3 l0_4 a1 = some r) :
 Calls Try.prog 18 #[.agg #[.string a0_0, .int .i64 a0_1, .slice A0_2 l0_2.length c0_2, .int .i64 a0_3, .slice A0_4 l0_4.length c0_4], .int .i64 a1] w fun e w' => ∃ v0_ : Value, e = .returned (v0_) ∧ Kd.R (Kd.int .i64) 2 w' w.heap.size (fun _ => True) v0_ r ∧ Below w.heap.size w w' := by
 unfold impl_NextBlocks.f at h
 have hnil : ∀ (hn : a1 < 0 ∨ (l0_4.length : Int) ≤ a1 ∨ (rd_T62 l0_4 a1).f0.length = 0), r = [] → Calls Try.prog 18 #[.agg #[.string a0_0, .int .i64 a0_1, .slice A0_2 l0_2.length c0_2, .int .i64 a0_3, .slice A0_4 l0_4.length c0_4], .int .i64 a1] w fun e w' => ∃ v0_ : Value, e = .returned (v0_) ∧ Kd.R (Kd.int .i64) 2 w' w.heap.size (fun _ => True) v0_ r ∧ Below w.heap.size w w' := by
  rintro hn rfl
  exact (impl_NextBlocks.none_ a0_0 a0_1 A0_2 c0_2 l0_2 a0_3 A0_4 c0_4 l0_4 a1 w hr0_4 hn).mono fun e w' ⟨he, hb⟩ => ⟨_, he, Kd.R_nil _ _ _ _ _, hb⟩
 by_cases h1 : a1 < 0
 · rw [if_pos h1] at h
   exact hnil (.inl h1) (Option.some.inj h).symm
 rw [if_neg h1] at h
 by_cases h2 : (l0_4.length : Int) ≤ a1
 · rw [if_pos h2] at h
   exact hnil (.inr (.inl h2)) (Option.some.inj h).symm
 rw [if_neg h2] at h
 by_cases h3 : (rd_T62 l0_4 a1).f0.length = 0
 · rw [if_pos h3] at h
   exact hnil (.inr (.inr h3)) (Option.some.inj h).symm
 rw [if_neg h3] at h
 split at h
 · rename_i hb
   obtain rfl := Option.some.inj h
   exact impl_NextBlocks.some_ a0_0 a0_1 A0_2 c0_2 l0_2 a0_3 A0_4 c0_4 l0_4 a1 w hr0_4 (by omega) (by omega) _ rfl (by omega) _ rfl hb.1 hb.2.1 hb.2.2
 · cases h

end Go.Proofs.Ytoedcnhgobbnfaa.All


/- Plain laws of the printed functions: eventually (Ev), step by step; loops over a list. -/
namespace Go.Proofs.Ytoedcnhgobbnfaa.All
open Go.RowKit Go.Proofs.YtoedcnhgobbnfaaW.PrintWords Go.Proofs.YtoedcnhgobbnfaaW.PrintLast Go.Proofs.YtoedcnhgobbnfaaW.PrintMore
set_option linter.unusedVariables false
set_option linter.unusedSimpArgs false
theorem Ev.succ {α : Type} {g : Nat → Option α} {r : α} (h : Ev (fun k => g (k + 1)) r) : Ev g r := by
  obtain ⟨K, hK⟩ := h
  refine ⟨K + 1, fun k hk => ?_⟩
  obtain ⟨m, rfl⟩ : ∃ m, k = m + 1 := ⟨k - 1, by omega⟩
  exact hK m (by omega)
theorem Ev.pos {α : Type} {c : Prop} [Decidable c] {g h : Nat → Option α} {r : α} (hc : c) (k : Ev g r) : Ev (fun n => if c then g n else h n) r := Ev.congr (fun n => if_pos hc) k
theorem Ev.neg {α : Type} {c : Prop} [Decidable c] {g h : Nat → Option α} {r : α} (hc : ¬ c) (k : Ev h r) : Ev (fun n => if c then g n else h n) r := Ev.congr (fun n => if_neg hc) k
theorem Ev.some_bind {α β : Type} {a : α} {f : Nat → α → Option β} {r : β} (k : Ev (fun n => f n a) r) : Ev (fun n => (some a).bind (f n)) r := k
theorem Ev.eq_bind {α β : Type} {o : Option α} {a : α} {f : Nat → α → Option β} {r : β} (h : o = some a) (k : Ev (fun n => f n a) r) : Ev (fun n => o.bind (f n)) r := by subst h; exact k
theorem Ev.some {α : Type} {a r : α} (h : a = r) : Ev (fun _ => some a) r := h ▸ Ev.now a
theorem wrap64_id {x : Int} (h1 : -9223372036854775808 ≤ x) (h2 : x ≤ 9223372036854775807) : wrap64 x = x := by unfold wrap64; omega
theorem wrap64_nat {i : Nat} (h : i < 9223372036854775807) : wrap64 ((i : Int) + 1) = ((i + 1 : Nat) : Int) := by rw [wrap64_id (by omega) (by omega)]; rfl
theorem getD_eq {α : Type} {xs : List α} {i : Nat} (h : i < xs.length) (z : α) : xs.getD i z = xs[i] := by rw [List.getD_eq_getElem?_getD, List.getElem?_eq_getElem h]; rfl
/-- A loop that fills a list of the same length. -/
theorem to_gen {α β : Type} (f : α → β) (z : β) (za : α) (xs : List α) (g : Nat → List β → Int → Option (List β))
    (hstep : ∀ (i : Nat) (out : List β) (r : List β), i < xs.length → out.length = xs.length → Ev (fun k => g k (out.set i (f (xs.getD i za))) ((i + 1 : Nat) : Int)) r → Ev (fun k => g k out (i : Int)) r)
    (hend : ∀ out : List β, out.length = xs.length → Ev (fun k => g k out (xs.length : Int)) out) : Ev (fun k => g k (List.replicate xs.length z) 0) (xs.map f) := by
  have key : ∀ d i : Nat, i + d = xs.length → Ev (fun k => g k ((xs.map f).take i ++ List.replicate (xs.length - i) z) (i : Int)) (xs.map f) := by
    intro d
    induction d with
    | zero =>
      intro i hi
      obtain rfl : i = xs.length := by omega
      rw [Nat.sub_self, List.replicate_zero, List.append_nil, List.take_of_length_le (by simp)]
      exact hend _ (by simp)
    | succ d ih =>
      intro i hi
      have h1 := ih (i + 1) (by omega)
      refine hstep i _ _ (by omega) (by simp; omega) ?_
      have e : ((xs.map f).take i ++ List.replicate (xs.length - i) z).set i (f (xs.getD i za)) = (xs.map f).take (i + 1) ++ List.replicate (xs.length - (i + 1)) z := by
        have hl : ((xs.map f).take i).length = i := by simp; omega
        rw [List.set_append_right _ _ (by omega), hl, Nat.sub_self]
        obtain ⟨m, hm⟩ : ∃ m, xs.length - i = m + 1 := ⟨xs.length - i - 1, by omega⟩
        rw [hm, List.replicate_succ, List.set_cons_zero, List.take_succ_eq_append_getElem (by simp; omega), show xs.length - (i + 1) = m by omega, List.append_assoc]
        congr 1
        simp [List.getElem?_eq_getElem (show i < xs.length by omega)]
      rw [e]
      exact h1
  have h0 := key xs.length 0 (by omega)
  simpa using h0
/-- A loop whose end is r, whatever happens on the way. -/
theorem for_gen {ρ : Type} (r : ρ) (n : Nat) (g : Nat → Int → Option ρ) (hstep : ∀ i : Nat, i < n → Ev (fun k => g k ((i + 1 : Nat) : Int)) r → Ev (fun k => g k (i : Int)) r) (hend : Ev (fun k => g k (n : Int)) r) : Ev (fun k => g k 0) r := by
  have key : ∀ d i : Nat, i + d = n → Ev (fun k => g k (i : Int)) r := by
    intro d
    induction d with
    | zero => intro i hi; obtain rfl : i = n := by omega
              exact hend
    | succ d ih => intro i hi; exact hstep i (by omega) (ih (i + 1) (by omega))
  exact key n 0 (by omega)
/-- A loop that says yes at each step. -/
theorem all_gen (n : Nat) (g : Nat → Int → Option Bool) (hstep : ∀ i : Nat, i < n → Ev (fun k => g k ((i + 1 : Nat) : Int)) true → Ev (fun k => g k (i : Int)) true) (hend : Ev (fun k => g k (n : Int)) true) : Ev (fun k => g k 0) true := for_gen true n g hstep hend
/-- A loop that writes each element anew, by its number. -/
theorem mk_gen {β ρ : Type} (f : Nat → β) (xs : List β) (fin : List β → ρ) (g : Nat → List β → Int → Option ρ)
    (hstep : ∀ (i : Nat) (out : List β) (r : ρ), i < xs.length → out.length = xs.length → Ev (fun k => g k (out.set i (f i)) ((i + 1 : Nat) : Int)) r → Ev (fun k => g k out (i : Int)) r)
    (hend : ∀ out : List β, out.length = xs.length → Ev (fun k => g k out (xs.length : Int)) (fin out)) : Ev (fun k => g k xs 0) (fin ((List.range xs.length).map f)) := by
  have key : ∀ d i : Nat, i + d = xs.length → Ev (fun k => g k ((List.range i).map f ++ xs.drop i) (i : Int)) (fin ((List.range xs.length).map f)) := by
    intro d
    induction d with
    | zero =>
      intro i hi
      obtain rfl : i = xs.length := by omega
      rw [List.drop_length, List.append_nil]
      exact hend _ (by simp)
    | succ d ih =>
      intro i hi
      have h1 := ih (i + 1) (by omega)
      refine hstep i _ _ (by omega) (by simp; omega) ?_
      have e : ((List.range i).map f ++ xs.drop i).set i (f i) = (List.range (i + 1)).map f ++ xs.drop (i + 1) := by
        have hl : ((List.range i).map f).length = i := by simp
        rw [List.set_append_right _ _ (by omega), hl, Nat.sub_self, List.drop_eq_getElem_cons (show i < xs.length by omega), List.set_cons_zero, List.range_succ, List.map_append, List.append_assoc]
        rfl
      rw [e]
      exact h1
  have h0 := key xs.length 0 (by omega)
  simpa using h0
/-- A loop that takes sizes off; below 0 it ends with -1. -/
theorem sz_gen {α : Type} (s : α → Nat) (za : α) (xs : List α) (g : Nat → Int → Int → Option Int)
    (hstep : ∀ (i : Nat) (a r : Int), i < xs.length → 0 ≤ a → a ≤ 1048576 → (if (s (xs.getD i za) : Int) ≤ a then Ev (fun k => g k (a - s (xs.getD i za)) ((i + 1 : Nat) : Int)) r else r = -1) → Ev (fun k => g k a (i : Int)) r)
    (hend : ∀ a : Int, Ev (fun k => g k a (xs.length : Int)) a) (a : Int) (h0 : 0 ≤ a) (h1 : a ≤ 1048576) : Ev (fun k => g k a 0) (if ((xs.map s).sum : Int) ≤ a then a - (xs.map s).sum else -1) := by
  have key : ∀ d i : Nat, i + d = xs.length → ∀ a : Int, 0 ≤ a → a ≤ 1048576 → Ev (fun k => g k a (i : Int)) (if ((((xs.drop i).map s).sum : Nat) : Int) ≤ a then a - (((xs.drop i).map s).sum : Nat) else -1) := by
    intro d
    induction d with
    | zero =>
      intro i hi a h0 h1
      obtain rfl : i = xs.length := by omega
      rw [List.drop_length]
      simp [h0]
      exact hend a
    | succ d ih =>
      intro i hi a h0 h1
      have hlt : i < xs.length := by omega
      refine hstep i a _ hlt h0 h1 ?_
      rw [List.drop_eq_getElem_cons hlt, List.map_cons, List.sum_cons, getD_eq hlt]
      split
      · rename_i hc
        have h2 := ih (i + 1) (by omega) (a - (s xs[i] : Nat)) (by omega) (by omega)
        have e : (if ((((xs.drop (i + 1)).map s).sum : Nat) : Int) ≤ a - (s xs[i] : Nat) then a - (s xs[i] : Nat) - (((xs.drop (i + 1)).map s).sum : Nat) else -1) = (if ((s xs[i] + ((xs.drop (i + 1)).map s).sum : Nat) : Int) ≤ a then a - (s xs[i] + ((xs.drop (i + 1)).map s).sum : Nat) else -1) := by
          split <;> split <;> omega
        rw [← e]
        exact h2
      · rename_i hc
        rw [if_neg (by omega)]
  have h2 := key xs.length 0 (by omega) a h0 h1
  simpa using h2
theorem sum_getD_le {α : Type} (s : α → Nat) (z : α) : ∀ (xs : List α) (i : Nat), i < xs.length → s (xs.getD i z) ≤ (xs.map s).sum
  | x :: xs, 0, _ => by simp
  | x :: xs, i + 1, h => by
    have := sum_getD_le s z xs i (by simpa using h)
    simp only [List.getD_cons_succ, List.map_cons, List.sum_cons] at this ⊢
    omega
end Go.Proofs.Ytoedcnhgobbnfaa.All


/- A walk through a graph, depth first: in which order it leaves the blocks. -/
namespace Go.Proofs.Ytoedcnhgobbnfaa.All
open Go.RowKit Go.Proofs.YtoedcnhgobbnfaaW.PrintWords Go.Proofs.YtoedcnhgobbnfaaW.PrintLast Go.Proofs.YtoedcnhgobbnfaaW.PrintMore
set_option linter.unusedVariables false
set_option linter.unusedSimpArgs false
def foldO (f : Int → List Bool → List Int → Option (List Bool × List Int)) : List Int → List Bool → List Int → Option (List Bool × List Int)
  | [], seen, out => some (seen, out)
  | n :: ns, seen, out => if seen.getD n.toNat false = true then foldO f ns seen out else (f n seen out).bind fun r => foldO f ns r.1 r.2
def walkO : Nat → List (List Int) → Int → List Bool → List Int → Option (List Bool × List Int)
  | 0, _, _, _, _ => none
  | k + 1, nx, b, seen, out => (foldO (walkO k nx) (nx.getD b.toNat []) (seen.set b.toNat true) out).bind fun r => some (r.1, r.2 ++ [b])
def unseen (seen : List Bool) : Nat := seen.count false
theorem foldO_mono {f g : Int → List Bool → List Int → Option (List Bool × List Int)} (h : ∀ b s o r, f b s o = some r → g b s o = some r) : ∀ (ns : List Int) (s : List Bool) (o : List Int) (r : List Bool × List Int), foldO f ns s o = some r → foldO g ns s o = some r
  | [], _, _, _, hr => hr
  | n :: ns, s, o, r, hr => by
    unfold foldO at hr ⊢
    split at hr
    · rename_i hc
      rw [if_pos hc]
      exact foldO_mono h ns s o r hr
    · rename_i hc
      rw [if_neg hc]
      obtain ⟨q, hq, hr⟩ := Option.bind_eq_some_iff.1 hr
      rw [h n s o q hq]
      exact foldO_mono h ns q.1 q.2 r hr
theorem walkO_mono (nx : List (List Int)) : ∀ (k : Nat) (b : Int) (s : List Bool) (o : List Int) (r : List Bool × List Int), walkO k nx b s o = some r → walkO (k + 1) nx b s o = some r
  | 0, _, _, _, _, h => by simp [walkO] at h
  | k + 1, b, s, o, r, h => by
    rw [walkO] at h ⊢
    obtain ⟨q, hq, h⟩ := Option.bind_eq_some_iff.1 h
    rw [foldO_mono (fun b s o r h => walkO_mono nx k b s o r h) _ _ _ q hq]
    exact h
theorem walkO_ge {nx : List (List Int)} {k : Nat} {b : Int} {s : List Bool} {o : List Int} {r : List Bool × List Int} (h : walkO k nx b s o = some r) : ∀ m, walkO (k + m) nx b s o = some r
  | 0 => h
  | m + 1 => walkO_mono nx (k + m) b s o r (walkO_ge h m)
/-- What was seen stays so; as many as before; the row's length stands. -/
def okO (n : Nat) (s s' : List Bool) : Prop := s'.length = n ∧ ∀ j : Nat, s.getD j false = true → s'.getD j false = true
theorem okO.refl {n : Nat} {s : List Bool} (h : s.length = n) : okO n s s := ⟨h, fun _ h => h⟩
theorem okO.trans {n : Nat} {a b c : List Bool} (h : okO n a b) (h' : okO n b c) : okO n a c := ⟨h'.1, fun j hj => h'.2 j (h.2 j hj)⟩
theorem okO.set {n : Nat} {s : List Bool} (h : s.length = n) (i : Nat) : okO n s (s.set i true) := by
  refine ⟨by simp [h], fun j hj => ?_⟩
  rw [List.getD_eq_getElem?_getD] at hj ⊢
  rw [List.getElem?_set]
  split
  · split
    · rfl
    · rename_i e hlt
      subst e
      rw [List.getElem?_eq_none (by omega)] at hj
      cases hj
  · exact hj
theorem unseen_set {s : List Bool} {i : Nat} (hi : i < s.length) (h : s.getD i false = false) : unseen (s.set i true) + 1 = unseen s := by
  unfold unseen
  have h2 : s[i] = false := by rw [List.getD_eq_getElem?_getD, List.getElem?_eq_getElem hi] at h; exact h
  rw [List.count_set hi, h2]
  have : 0 < s.count false := List.count_pos_iff.2 (by rw [← h2]; exact List.getElem_mem hi)
  simp
  omega
theorem unseen_le {n : Nat} : ∀ {s s' : List Bool}, s.length = s'.length → (∀ j : Nat, s.getD j false = true → s'.getD j false = true) → unseen s' ≤ unseen s
  | [], [], _, _ => Nat.le_refl _
  | a :: s, b :: s', hl, h => by
    have h0 := h 0
    have ih := unseen_le (n := n) (s := s) (s' := s') (by simpa using hl) (fun j hj => by have := h (j + 1); simpa using this (by simpa using hj))
    unfold unseen at ih ⊢
    simp only [List.getD_cons_zero] at h0
    rw [List.count_cons, List.count_cons]
    cases a <;> cases b <;> simp_all
    omega
/-- It ends: as many rounds as there are blocks not yet seen. -/
theorem walkO_ends {nx : List (List Int)} {n : Nat} (hn : nx.length = n) (hx : ∀ ns ∈ nx, ∀ x ∈ ns, 0 ≤ x ∧ x < (n : Int)) : ∀ (k : Nat) (b : Int) (s : List Bool) (o : List Int), s.length = n → 0 ≤ b → b < (n : Int) → s.getD b.toNat false = false → unseen s ≤ k →
    ∃ r, walkO (k + 1) nx b s o = some r ∧ okO n s r.1 ∧ r.2.length + unseen r.1 ≤ o.length + unseen s
  | k, b, s, o, hs, h0, h1, hb, hk => by
    have hi : b.toNat < s.length := by omega
    have hu := unseen_set hi hb
    have key : ∀ (ns : List Int) (s1 : List Bool) (o1 : List Int), (∀ x ∈ ns, 0 ≤ x ∧ x < (n : Int)) → s1.length = n → unseen s1 + 1 ≤ k → ∃ r, foldO (walkO k nx) ns s1 o1 = some r ∧ okO n s1 r.1 ∧ r.2.length + unseen r.1 ≤ o1.length + unseen s1 := by
      intro ns
      induction ns with
      | nil => intro s1 o1 _ h2 _; exact ⟨(s1, o1), rfl, okO.refl h2, Nat.le_refl _⟩
      | cons x ns ih =>
        intro s1 o1 hv h2 h3
        by_cases hc : s1.getD x.toNat false = true
        · obtain ⟨r, hr, hr2⟩ := ih s1 o1 (fun z hz => hv z (by simp [hz])) h2 h3
          exact ⟨r, by rw [foldO, if_pos hc]; exact hr, hr2⟩
        · have hx0 := hv x (by simp)
          obtain ⟨k', rfl⟩ : ∃ k', k = k' + 1 := ⟨k - 1, by omega⟩
          obtain ⟨q, hq, hq2, hq3⟩ := walkO_ends hn hx k' x s1 o1 h2 hx0.1 hx0.2 (by simpa using hc) (by omega)
          have hle := unseen_le (n := n) (h2.trans hq2.1.symm) hq2.2
          obtain ⟨r, hr, hr2, hr3⟩ := ih q.1 q.2 (fun z hz => hv z (by simp [hz])) hq2.1 (by omega)
          exact ⟨r, by rw [foldO, if_neg hc, hq]; exact hr, hq2.trans hr2, by omega⟩
    obtain ⟨r, hr, hr2, hr3⟩ := key (nx.getD b.toNat []) (s.set b.toNat true) o (fun x hx' => by
      have hm : nx.getD b.toNat [] ∈ nx := by
        rw [List.getD_eq_getElem?_getD, List.getElem?_eq_getElem (by omega)]
        exact List.getElem_mem _
      exact hx _ hm x hx') (by simp [hs]) (by omega)
    refine ⟨(r.1, r.2 ++ [b]), by rw [walkO, hr]; rfl, (okO.set hs _).trans hr2, ?_⟩
    simp
    omega
termination_by k => k
theorem foldO_len {f : Int → List Bool → List Int → Option (List Bool × List Int)} (h : ∀ b s o r, f b s o = some r → r.1.length = s.length ∧ o.length ≤ r.2.length) : ∀ (ns : List Int) (s : List Bool) (o : List Int) (r : List Bool × List Int), foldO f ns s o = some r → r.1.length = s.length ∧ o.length ≤ r.2.length
  | [], s, o, r, hr => by
    rw [foldO] at hr
    obtain rfl := Option.some.inj hr
    exact ⟨rfl, Nat.le_refl _⟩
  | n :: ns, s, o, r, hr => by
    rw [foldO] at hr
    split at hr
    · exact foldO_len h ns s o r hr
    · obtain ⟨q, hq, hr⟩ := Option.bind_eq_some_iff.1 hr
      have h1 := h n s o q hq
      have h2 := foldO_len h ns q.1 q.2 r hr
      exact ⟨h2.1.trans h1.1, Nat.le_trans h1.2 h2.2⟩
theorem walkO_len (nx : List (List Int)) : ∀ (k : Nat) (b : Int) (s : List Bool) (o : List Int) (r : List Bool × List Int), walkO k nx b s o = some r → r.1.length = s.length ∧ o.length ≤ r.2.length
  | 0, _, _, _, _, h => by simp [walkO] at h
  | k + 1, b, s, o, r, h => by
    rw [walkO] at h
    obtain ⟨q, hq, h⟩ := Option.bind_eq_some_iff.1 h
    obtain rfl := Option.some.inj h
    have := foldO_len (fun b s o r h => walkO_len nx k b s o r h) _ _ _ q hq
    refine ⟨this.1.trans (by simp), ?_⟩
    simp
    omega
theorem walkO_pos {nx : List (List Int)} {k : Nat} {b : Int} {s : List Bool} {o : List Int} {r : List Bool × List Int} (h : walkO k nx b s o = some r) : 0 < r.2.length := by
  cases k with
  | zero => simp [walkO] at h
  | succ k =>
    rw [walkO] at h
    obtain ⟨q, hq, h⟩ := Option.bind_eq_some_iff.1 h
    obtain rfl := Option.some.inj h
    simp
/-- The first i and the last i are turned about. -/
def swapI (o : List Int) (i : Nat) : List Int := (List.range o.length).map fun (t : Nat) => if t < i ∨ o.length - i ≤ t then o.getD (o.length - 1 - t) 0 else o.getD t 0
theorem swapI_len (o : List Int) (i : Nat) : (swapI o i).length = o.length := by simp [swapI]
theorem swapI_get (o : List Int) (i t : Nat) (h : t < o.length) : (swapI o i).getD t 0 = if t < i ∨ o.length - i ≤ t then o.getD (o.length - 1 - t) 0 else o.getD t 0 := by
  rw [List.getD_eq_getElem?_getD]
  unfold swapI
  rw [List.getElem?_map, List.getElem?_range h]
  rfl
theorem ext_getD {a b : List Int} (hl : a.length = b.length) (h : ∀ t, t < a.length → a.getD t 0 = b.getD t 0) : a = b := by
  refine List.ext_getElem hl (fun t h1 h2 => ?_)
  have := h t h1
  rw [List.getD_eq_getElem?_getD, List.getD_eq_getElem?_getD, List.getElem?_eq_getElem h1, List.getElem?_eq_getElem h2] at this
  exact this
theorem swapI_zero (o : List Int) : swapI o 0 = o := by
  refine ext_getD (swapI_len o 0) (fun t ht => ?_)
  rw [swapI_len] at ht
  rw [swapI_get o 0 t ht, if_neg (by omega)]
theorem swapI_end (o : List Int) (i : Nat) (h : o.length ≤ 2 * i + 1) : swapI o i = o.reverse := by
  refine ext_getD (by rw [swapI_len, List.length_reverse]) (fun t ht => ?_)
  rw [swapI_len] at ht
  have e : o.reverse.getD t 0 = o.getD (o.length - 1 - t) 0 := by
    rw [List.getD_eq_getElem?_getD, List.getElem?_reverse ht, List.getD_eq_getElem?_getD]
  rw [swapI_get o i t ht, e]
  split
  · rfl
  · rename_i hc
    have : t = o.length - 1 - t := by omega
    rw [← this]
theorem set_getD (a : List Int) (i t : Nat) (x : Int) (h : t < a.length) : (a.set i x).getD t 0 = if i = t then x else a.getD t 0 := by
  rw [List.getD_eq_getElem?_getD, List.getElem?_set, List.getD_eq_getElem?_getD]
  split
  · rename_i e
    rw [if_pos (by omega)]
    rfl
  · rfl
theorem swapI_step (o : List Int) (i : Nat) (h : 2 * i + 1 < o.length) : swapI o (i + 1) = ((swapI o i).set i ((swapI o i).getD (o.length - 1 - i) 0)).set (o.length - 1 - i) ((swapI o i).getD i 0) := by
  refine ext_getD (by simp [swapI_len]) (fun t ht => ?_)
  rw [swapI_len] at ht
  rw [swapI_get o (i + 1) t ht, set_getD _ _ _ _ (by simp [swapI_len]; exact ht), set_getD _ _ _ _ (by rw [swapI_len]; exact ht), swapI_get o i t ht, swapI_get o i i (by omega), swapI_get o i (o.length - 1 - i) (by omega)]
  rw [if_neg (show ¬ (o.length - 1 - i < i ∨ o.length - i ≤ o.length - 1 - i) by omega), if_neg (show ¬ (i < i ∨ o.length - i ≤ i) by omega)]
  by_cases h1 : o.length - 1 - i = t
  · rw [if_pos h1, if_pos (by omega)]
    congr 1
    omega
  · rw [if_neg h1]
    by_cases h2 : i = t
    · rw [if_pos h2, if_pos (by omega)]
      congr 1
      omega
    · rw [if_neg h2]
      by_cases h3 : t < i ∨ o.length - i ≤ t
      · rw [if_pos h3, if_pos (by omega)]
      · rw [if_neg h3, if_neg (by omega)]
theorem foldO_ok {n : Nat} {f : Int → List Bool → List Int → Option (List Bool × List Int)} (h : ∀ b s o r, s.length = n → f b s o = some r → okO n s r.1) : ∀ (ns : List Int) (s : List Bool) (o : List Int) (r : List Bool × List Int), s.length = n → foldO f ns s o = some r → okO n s r.1
  | [], s, o, r, hs, hr => by
    rw [foldO] at hr
    obtain rfl := Option.some.inj hr
    exact okO.refl hs
  | x :: ns, s, o, r, hs, hr => by
    rw [foldO] at hr
    split at hr
    · exact foldO_ok h ns s o r hs hr
    · obtain ⟨q, hq, hr⟩ := Option.bind_eq_some_iff.1 hr
      have h1 := h x s o q hs hq
      exact h1.trans (foldO_ok h ns q.1 q.2 r h1.1 hr)
theorem walkO_ok {n : Nat} (nx : List (List Int)) : ∀ (k : Nat) (b : Int) (s : List Bool) (o : List Int) (r : List Bool × List Int), s.length = n → walkO k nx b s o = some r → okO n s r.1
  | 0, _, _, _, _, _, h => by simp [walkO] at h
  | k + 1, b, s, o, r, hs, h => by
    rw [walkO] at h
    obtain ⟨q, hq, h⟩ := Option.bind_eq_some_iff.1 h
    obtain rfl := Option.some.inj h
    exact (okO.set hs _).trans (foldO_ok (fun b s o r hs h => walkO_ok nx k b s o r hs h) _ _ _ q (by simp [hs]) hq)
end Go.Proofs.Ytoedcnhgobbnfaa.All


/- The memory of impl.Order's walk: what its closure captures. -/
namespace Go.Proofs.Ytoedcnhgobbnfaa.All
open Go.RowKit Go.Proofs.YtoedcnhgobbnfaaW.PrintWords Go.Proofs.YtoedcnhgobbnfaaW.PrintLast Go.Proofs.YtoedcnhgobbnfaaW.PrintMore
set_option linter.unusedVariables false
set_option linter.unusedSimpArgs false
/-- w0: the world ahead of the call; FC: the cells of f; bf, bw, bs, bo: where f, walk, seen and out lie; gs: seen's row. -/
structure OI (w0 : World) (FC : Array Value) (fv : Value) (bf bw bs bo gs cap : Nat) (w : World) (seen : List Bool) (vo : Value) (o : List Int) : Prop where
  hb : Below w0.heap.size w0 w
  lo : w0.heap.size ≤ bo
  ls : w0.heap.size ≤ gs
  f : w.heap[bf]? = some (.cells FC 30 (0, 0))
  wk : w.heap[bw]? = some (.cells #[fv] 78 (0, 0))
  s : w.heap[bs]? = some (.cells #[.slice (some ⟨gs, 0, none⟩) seen.length cap] 54 (0, 0))
  r : Kd.R Kd.bool 4 w w0.heap.size (fun _ => True) (.slice (some ⟨gs, 0, none⟩) seen.length cap) seen
  hbo : w.heap[bo]? = some (.cells #[vo] 22 (0, 0))
  ro : Kd.R (Kd.int .i64) 2 w w0.heap.size (fun _ => True) vo o
/-- What a call of the walk leaves as it was: all older blocks but out's cell, out's row and seen's row. -/
structure OK (bo gs : Nat) (w w' : World) (vo vo' : Value) : Prop where
  os : w'.os = w.os
  tape : w'.tape = w.tape
  output : w'.output = w.output
  size : w.heap.size ≤ w'.heap.size
  old : ∀ b, b < w.heap.size → b ≠ bo → b ≠ gs → some b ≠ vo.ownBlock → w'.heap[b]? = w.heap[b]?
  vo : vo'.ownBlock = vo.ownBlock ∨ ∃ b, vo'.ownBlock = some b ∧ w.heap.size ≤ b
theorem OK.refl (bo gs : Nat) (w : World) (vo : Value) : OK bo gs w w vo vo := ⟨rfl, rfl, rfl, Nat.le_refl _, fun _ _ _ _ _ => rfl, .inl rfl⟩
theorem OK.trans {bo gs : Nat} {a b c : World} {x y z : Value} (h : OK bo gs a b x y) (k : OK bo gs b c y z) : OK bo gs a c x z := by
  refine ⟨k.os.trans h.os, k.tape.trans h.tape, k.output.trans h.output, Nat.le_trans h.size k.size, fun q h1 h2 h3 h4 => ?_, ?_⟩
  · refine (k.old q (Nat.lt_of_lt_of_le h1 h.size) h2 h3 ?_).trans (h.old q h1 h2 h3 h4)
    rcases h.vo with e | ⟨r, e, hr⟩
    · rw [e]; exact h4
    · rw [e]
      intro e2
      injection e2 with e2
      omega
  · rcases k.vo with e | ⟨r, e, hr⟩
    · rw [e]; exact h.vo
    · exact .inr ⟨r, e, Nat.le_trans h.size hr⟩
theorem OK.below {bo gs : Nat} {w w' : World} {vo : Value} (h : Below w.heap.size w w') : OK bo gs w w' vo vo := ⟨h.os, h.tape, h.output, h.size, fun b hb _ _ _ => h.block b hb, .inl rfl⟩
theorem OK.block {bo gs : Nat} {w w' : World} {vo vo' : Value} (h : OK bo gs w w' vo vo') {g : Nat} {ob : Obj} (hg : w.heap[g]? = some ob) (h1 : g ≠ bo) (h2 : g ≠ gs) (h3 : some g ≠ vo.ownBlock) : w'.heap[g]? = some ob := (h.old g (blk_lt hg) h1 h2 h3).trans hg
theorem setCell_grown (w : World) (g i : Nat) (u : Value) : w.grownBy (w.setCell ⟨g, i, none⟩ u) (some g) :=
  ⟨rfl, rfl, rfl, by simp, fun k _ hk => Below.heap_setCell w ⟨g, i, none⟩ u k (fun e => hk (by rw [e]))⟩
section
variable {w0 : World} {FC : Array Value} {fv : Value} {bf bw bs bo gs cap : Nat} {w w' : World} {seen : List Bool} {vo : Value} {o : List Int}
theorem OI.below (h : OI w0 FC fv bf bw bs bo gs cap w seen vo o) (hb : Below w.heap.size w w') : OI w0 FC fv bf bw bs bo gs cap w' seen vo o :=
  ⟨Below.trans h.hb (hb.mono h.hb.size), h.lo, h.ls, blk_below h.f hb, blk_below h.wk hb, blk_below h.s hb, Kd.R_below h.r hb, blk_below h.hbo hb, Kd.R_below h.ro hb⟩
theorem OI.row (h : OI w0 FC fv bf bw bs bo gs cap w seen vo o) (hp : 0 < seen.length) : ∃ cs, w.heap[gs]? = some (.cells cs 4 (0, 0)) := by
  obtain ⟨g, c, e, _, _, cs, hc⟩ := Kd.R_form h.r hp
  injection e with e
  injection e with e
  injection e with e
  exact ⟨cs, by rw [e]; exact hc⟩
theorem OI.ne (h : OI w0 FC fv bf bw bs bo gs cap w seen vo o) (hp : 0 < seen.length) : bf ≠ gs ∧ bw ≠ gs ∧ bs ≠ gs ∧ bo ≠ gs ∧ bf ≠ bo ∧ bw ≠ bo ∧ bs ≠ bo := by
  obtain ⟨cs, hc⟩ := h.row hp
  exact ⟨blk_ne h.f hc (by decide), blk_ne h.wk hc (by decide), blk_ne h.s hc (by decide), blk_ne h.hbo hc (by decide), blk_ne h.f h.hbo (by decide), blk_ne h.wk h.hbo (by decide), blk_ne h.s h.hbo (by decide)⟩
theorem OI.neo (h : OI w0 FC fv bf bw bs bo gs cap w seen vo o) (hp : 0 < seen.length) : some bf ≠ vo.ownBlock ∧ some bw ≠ vo.ownBlock ∧ some bs ≠ vo.ownBlock ∧ some bo ≠ vo.ownBlock ∧ some gs ≠ vo.ownBlock := by
  obtain ⟨cs, hc⟩ := h.row hp
  exact ⟨Kd.R_ne h.ro h.f (by decide), Kd.R_ne h.ro h.wk (by decide), Kd.R_ne h.ro h.s (by decide), Kd.R_ne h.ro h.hbo (by decide), Kd.R_ne h.ro hc (by decide)⟩
/-- seen's cell is written. -/
theorem OI.set (h : OI w0 FC fv bf bw bs bo gs cap w seen vo o) (b : Int) (hp : 0 < seen.length) : OI w0 FC fv bf bw bs bo gs cap (w.setCell ⟨gs, b.toNat, none⟩ (.bool true)) (seen.set b.toNat true) vo o ∧ OK bo gs w (w.setCell ⟨gs, b.toNat, none⟩ (.bool true)) vo vo := by
  have hg := setCell_grown w gs b.toNat (.bool true)
  obtain ⟨n1, n2, n3, n4, _, _, _⟩ := h.ne hp
  obtain ⟨_, _, _, _, m5⟩ := h.neo hp
  have hn : ∀ x : Nat, x ≠ gs → some x ≠ some gs := fun x hx e => hx (by injection e)
  refine ⟨⟨Below.setCell h.hb h.ls _, h.lo, h.ls, blk_grown h.f hg (hn _ n1), blk_grown h.wk hg (hn _ n2), ?_, ?_, blk_grown h.hbo hg (hn _ n4), Kd.R_grown1 h.ro rfl hg m5⟩, ⟨rfl, rfl, rfl, hg.size, fun x hx _ h2 _ => hg.block x hx (hn x h2), .inl rfl⟩⟩
  · rw [List.length_set]; exact blk_grown h.s hg (hn _ n3)
  · rw [List.length_set]; exact Kd.R_putn h.r b true
/-- out grows, and its cell is written. -/
theorem OI.push (h : OI w0 FC fv bf bw bs bo gs cap w seen vo o) (hp : 0 < seen.length) {w1 : World} {v1 : Value} {o1 : List Int} (hr : Kd.R (Kd.int .i64) 2 w1 w0.heap.size (fun _ => True) v1 o1) (hb : Below w0.heap.size w0 w1) (hg : w.grownBy w1 vo.ownBlock)
    (hat : v1.ownBlock = vo.ownBlock ∨ ∃ b, v1.ownBlock = some b ∧ w.heap.size ≤ b) : OI w0 FC fv bf bw bs bo gs cap (w1.setCell ⟨bo, 0, none⟩ v1) seen v1 o1 ∧ OK bo gs w (w1.setCell ⟨bo, 0, none⟩ v1) vo v1 := by
  obtain ⟨n1, n2, n3, n4, n5, n6, n7⟩ := h.ne hp
  obtain ⟨m1, m2, m3, m4, m5⟩ := h.neo hp
  have hg2 := setCell_grown w1 bo 0 v1
  have hn : ∀ x : Nat, x ≠ bo → some x ≠ some bo := fun x hx e => hx (by injection e)
  have ho1 := blk_grown h.hbo hg m4
  have hr5 : Kd.R Kd.bool 4 w1 w0.heap.size (fun _ => True) (.slice (some ⟨gs, 0, none⟩) seen.length cap) seen := Kd.R_grown1 h.r rfl hg (fun e => m5 (by rw [e]; rfl))
  refine ⟨⟨Below.setCell hb h.lo _, h.lo, h.ls, blk_grown (blk_grown h.f hg m1) hg2 (hn _ n5), blk_grown (blk_grown h.wk hg m2) hg2 (hn _ n6), blk_grown (blk_grown h.s hg m3) hg2 (hn _ n7), Kd.R_grown1 hr5 rfl hg2 (fun e => n4 (by injection e)), blk_put ho1 0 _ rfl, Kd.R_grown1 hr rfl hg2 (Kd.R_ne hr ho1 (by decide))⟩, ⟨hg.os, hg.tape, hg.output, by have := hg2.size; exact Nat.le_trans hg.size this, fun x hx h1 _ h3 => (hg2.block x (Nat.lt_of_lt_of_le hx hg.size) (hn x h1)).trans (hg.block x hx h3), hat⟩⟩
end
/-- A row of the call's own stays behind a step. -/
theorem OI.row_kept {w0 : World} {FC : Array Value} {fv : Value} {bf bw bs bo gs cap : Nat} {w w' : World} {seen : List Bool} {vo vo' : Value} {o : List Int} {v : Value} {ns : List Int} {base : Nat} (h : OI w0 FC fv bf bw bs bo gs cap w seen vo o) (hp : 0 < seen.length)
    (hv : Kd.R (Kd.int .i64) 2 w base (fun _ => True) v ns) (hne : ∀ g, v.ownBlock = some g → vo.ownBlock ≠ some g) (hk : OK bo gs w w' vo vo') : Kd.R (Kd.int .i64) 2 w' base (fun _ => True) v ns ∧ ∀ g, v.ownBlock = some g → vo'.ownBlock ≠ some g := by
  obtain ⟨cs, hc⟩ := h.row hp
  have n1 := Kd.R_ne hv h.hbo (by decide)
  have n2 := Kd.R_ne hv hc (by decide)
  refine ⟨Kd.R_mono (Kd.R_step (Kd.R_tight rfl hv) (fun k ho hlt => hk.old k hlt (fun e => n1 (by rw [← e]; exact ho)) (fun e => n2 (by rw [← e]; exact ho)) (fun e => hne k ho.symm e.symm))) (fun _ _ => trivial), fun g hg e => ?_⟩
  rcases hk.vo with e1 | ⟨b, e1, hb⟩
  · exact hne g hg (e1.symm.trans e)
  · rw [e1] at e
    injection e with e
    have := own_lt hv.2.choose_spec.1 g hg
    omega
theorem size_setCell_ (w : World) (a : Addr) (u : Value) : (w.setCell a u).heap.size = w.heap.size := by simp
theorem own_ge {w : World} {base : Nat} {e : TypeId} {size n : Nat} {v : Value} {xs : List Value} (h : w.ownsRow base e size v n xs) (k : Nat) (hk : v.ownBlock = some k) : base ≤ k := (h.lt k hk).1
theorem nd_low {w w' : World} {o : Obj} (h : Below (w.alloc o).heap.size (w.alloc o) w') : Below w.heap.size w w' := Below.trans (below_alloc (Below.refl _ _) o) (h.mono (by simp))
theorem nd_low' {w w' : World} {o o' : Obj} (h : Below ((w.alloc o).alloc o').heap.size ((w.alloc o).alloc o') w') : Below (w.alloc o).heap.size (w.alloc o) w' := nd_low h
theorem OI.start {w w3 : World} {FC : Array Value} {fv : Value} {gs cap : Nat} {seen : List Bool} (h3 : Below ((w.alloc (.cells FC 30)).alloc (.cells #[.slice none 0 0] 22)).heap.size ((w.alloc (.cells FC 30)).alloc (.cells #[.slice none 0 0] 22)) w3)
    (hr : Kd.R Kd.bool 4 w3 ((w.alloc (.cells FC 30)).alloc (.cells #[.slice none 0 0] 22)).heap.size (fun _ => True) (.slice (some ⟨gs, 0, none⟩) seen.length cap) seen) (hgs : w.heap.size ≤ gs) :
    OI w FC fv w.heap.size (w3.heap.size + 1) w3.heap.size (w.heap.size + 1) gs cap ((w3.alloc (.cells #[.slice (some ⟨gs, 0, none⟩) seen.length cap] 54)).alloc (.cells #[fv] 78)) seen (.slice none 0 0) [] := by
  have h4 : Below w.heap.size w w3 := nd_low (nd_low' h3)
  have h5 : Below w3.heap.size w3 ((w3.alloc (.cells #[.slice (some ⟨gs, 0, none⟩) seen.length cap] 54)).alloc (.cells #[fv] 78)) := below_alloc (below_alloc (Below.refl _ _) _) _
  have f1 : w3.heap[w.heap.size]? = some (.cells FC 30 (0, 0)) := blk_below (blk_alloc (blk_new w (.cells FC 30)) _) h3
  have f2 : w3.heap[w.heap.size + 1]? = some (.cells #[.slice none 0 0] 22 (0, 0)) := by
    have := blk_below (blk_new (w.alloc (.cells FC 30)) (.cells #[.slice none 0 0] 22)) h3
    rw [World.size_alloc] at this
    exact this
  have f4 : ((w3.alloc (.cells #[.slice (some ⟨gs, 0, none⟩) seen.length cap] 54)).alloc (.cells #[fv] 78)).heap[w3.heap.size + 1]? = some (.cells #[fv] 78 (0, 0)) := by
    have := blk_new (w3.alloc (.cells #[.slice (some ⟨gs, 0, none⟩) seen.length cap] 54)) (.cells #[fv] 78)
    rw [World.size_alloc] at this
    exact this
  refine ⟨Below.trans h4 (h5.mono h4.size), by omega, hgs, blk_below f1 h5, f4, blk_alloc (blk_new w3 _) _, Kd.R_lower (Kd.R_below hr h5) ?_, blk_below f2 h5, Kd.R_nil _ _ _ _ _⟩
  rw [World.size_alloc, World.size_alloc]; omega
theorem rdOf_nat (xs : List Int) (n : Nat) : rdOf 0 xs (n : Int) = xs.getD n 0 := by simp [rdOf, List.getD_eq_getElem?_getD]
theorem swap_R {w : World} {base g c N : Nat} {o : List Int} {i j : Nat} (hN : N = o.length) (hj : j = o.length - 1 - i) (hi : 2 * i + 1 < o.length) (h : Kd.R (Kd.int .i64) 2 w base (fun _ => True) (.slice (some ⟨g, 0, none⟩) N c) (swapI o i)) :
    Kd.R (Kd.int .i64) 2 ((w.setCell ⟨g, i, none⟩ (.int .i64 (rdOf 0 (swapI o i) (j : Int)))).setCell ⟨g, j, none⟩ (.int .i64 (rdOf 0 (swapI o i) (i : Int)))) base (fun _ => True) (.slice (some ⟨g, 0, none⟩) N c) (swapI o (i + 1)) := by
  have h1 := Kd.R_putn h (i : Int) (rdOf 0 (swapI o i) (j : Int))
  have h2 := Kd.R_putn h1 (j : Int) (rdOf 0 (swapI o i) (i : Int))
  rw [Int.toNat_natCast, Int.toNat_natCast] at h2
  rw [swapI_step o i hi, ← hj, ← rdOf_nat (swapI o i) j, ← rdOf_nat (swapI o i) i]
  exact h2
end Go.Proofs.Ytoedcnhgobbnfaa.All


namespace Go.Proofs.Ytoedcnhgobbnfaa.All
open Go.RowKit Go.Proofs.YtoedcnhgobbnfaaW.PrintWords Go.Proofs.YtoedcnhgobbnfaaW.PrintLast Go.Proofs.YtoedcnhgobbnfaaW.PrintMore
attribute [local go_sem] max2_int min2_int max_two min_two max_three min_three max_four min_four   -- for this text's walks alone
set_option linter.unusedVariables false
set_option linter.unusedSimpArgs false

/-! ### impl_Order: function 31 -/
set_option maxHeartbeats 8000000 in
set_option maxRecDepth 100000 in
theorem impl_Order.walk (a0_0 : ByteArray) (a0_1 : Int) (A0_2 : Option Addr) (c0_2 : Nat) (l0_2 : List Int) (a0_3 : Int) (A0_4 : Option Addr) (c0_4 : Nat) (l0_4 : List (S62)) (w0 : World) (hr0_2 : Kd.C (Kd.int .i64) w0 A0_2 l0_2.length l0_2) (hc0_2 : l0_2.length ≤ c0_2) (hr0_4 : Kd.C k62 w0 A0_4 l0_4.length l0_4) (hc0_4 : l0_4.length ≤ c0_4)
 (nx : List (List Int)) (n : Nat) (hnx : ∀ b : Int, 0 ≤ b → b < (n : Int) → impl_NextBlocks.f a0_0 a0_1 l0_2 a0_3 l0_4 b = some (nx.getD b.toNat [])) (hv : ∀ b : Int, 0 ≤ b → b < (n : Int) → ∀ x ∈ nx.getD b.toNat [], 0 ≤ x ∧ x < (n : Int)) (hl : ∀ b : Int, 0 ≤ b → b < (n : Int) → (nx.getD b.toNat []).length ≤ 1000000000) (hn9 : n ≤ 1000000000) (bf bw bs bo gs cap : Nat) :
 ∀ (k : Nat) (b : Int) (seen : List Bool) (vo : Value) (o : List Int) (r : List Bool × List Int) (w : World), walkO k nx b seen o = some r → r.2.length ≤ 1000000000 → 0 ≤ b → b < (n : Int) → seen.length = n → OI w0 #[.string a0_0, .int .i64 a0_1, .slice A0_2 l0_2.length c0_2, .int .i64 a0_3, .slice A0_4 l0_4.length c0_4] (.func (.func 57) #[] #[.pointer (some ⟨bs, 0, none⟩), .pointer (some ⟨bf, 0, none⟩), .pointer (some ⟨bw, 0, none⟩), .pointer (some ⟨bo, 0, none⟩)]) bf bw bs bo gs cap w seen vo o →
  Calls Try.prog 57 #[.int .i64 b, .pointer (some ⟨bs, 0, none⟩), .pointer (some ⟨bf, 0, none⟩), .pointer (some ⟨bw, 0, none⟩), .pointer (some ⟨bo, 0, none⟩)] w fun e w' => e = .returned (.tuple #[]) ∧ ∃ vo', OI w0 #[.string a0_0, .int .i64 a0_1, .slice A0_2 l0_2.length c0_2, .int .i64 a0_3, .slice A0_4 l0_4.length c0_4] (.func (.func 57) #[] #[.pointer (some ⟨bs, 0, none⟩), .pointer (some ⟨bf, 0, none⟩), .pointer (some ⟨bw, 0, none⟩), .pointer (some ⟨bo, 0, none⟩)]) bf bw bs bo gs cap w' r.1 vo' r.2 ∧ OK bo gs w w' vo vo' := by
 have HR2 := Aside0.mk hr0_2
 have HR4 := Aside0.mk hr0_4
 have HNX := Aside0.mk hnx
 have HV := Aside0.mk hv
 have HL := Aside0.mk hl
 clear hr0_2 hr0_4 hnx hv hl
 have hu1 := Try.underlying30
 intro k
 induction k with
 | zero => intro b seen vo o r w h; simp [walkO] at h
 | succ k ih =>
  have IH := Aside0.mk ih
  clear ih
  intro b seen vo o r w h h9 hb0 hb1 hsl hI
  rw [walkO] at h
  obtain ⟨q, hq, h⟩ := Option.bind_eq_some_iff.1 h
  obtain rfl := Option.some.inj h
  clear h
  have hp : 0 < seen.length := by omega
  have hq9 : q.2.length ≤ 1000000000 := by have := h9; simp at this; omega
  obtain ⟨hI2, hK2⟩ := hI.set b hp
  have hc := Kd.R_celln false hI.r b hb0 (by omega)
  obtain ⟨c0, z0⟩ := hc
  have s0 := (blk_cell hI.s 0).trans rfl
  have f0 := (blk_cell hI2.f 0).trans rfl
  have f1 := (blk_cell hI2.f 1).trans rfl
  have f2 := (blk_cell hI2.f 2).trans rfl
  have f3 := (blk_cell hI2.f 3).trans rfl
  have f4 := (blk_cell hI2.f 4).trans rfl
  have hb2 : b < (seen.length : Int) := by omega
  obtain ⟨ns, hns⟩ : ∃ s, s = nx.getD b.toNat [] := ⟨_, rfl⟩
  rw [← hns] at hq
  have HNB := Aside0.mk (show impl_NextBlocks.f a0_0 a0_1 l0_2 a0_3 l0_4 b = some ns from by rw [hns]; exact HNX.out b hb0 hb1)
  have HNV := Aside0.mk (show ∀ x ∈ ns, 0 ≤ x ∧ x < (n : Int) from by rw [hns]; exact HV.out b hb0 hb1)
  have hnl : ns.length ≤ 1000000000 := by rw [hns]; exact HL.out b hb0 hb1
  have HQ := Aside0.mk hq
  have HI := Aside0.mk hI
  have HI2 := Aside0.mk hI2
  have HK2 := Aside0.mk hK2
  have HSL := Aside0.mk hsl
  have HP := Aside0.mk hp
  clear hns hq hI hI2 hK2 hsl
  go_enter Try.func57, Try.ntmps57
  go_wp2_with (first | (go_at_call 18; refine (impl_NextBlocks.calls a0_0 a0_1 A0_2 c0_2 l0_2 a0_3 A0_4 c0_4 l0_4 b ns _ (Kd.C_below HR2.out HI2.out.hb) hc0_2 (Kd.C_below HR4.out HI2.out.hb) hc0_4 HNB.out).mono ?_; rintro e w2 ⟨v, rfl, hv2, hb3⟩; obtain ⟨A, cc, hvv⟩ := Kd.R_slice hv2; subst hvv; have HI3 := Aside0.mk (HI2.out.below hb3); have HK3 := Aside0.mk (HK2.out.trans (OK.below hb3)); have HV2 := Aside0.mk hv2; clear hv2 hb3 c0 z0 s0 f0 f1 f2 f3 f4))
  have HN0 := Aside0.mk (show ∀ g, Value.ownBlock (.slice A ns.length cc) = some g → vo.ownBlock ≠ some g from fun g hg e => by have h1 := HV2.out.2.choose_spec.1; have h2 := own_lt HI.out.ro.2.choose_spec.1 g e; have h3 := own_ge h1 g hg; rw [size_setCell_] at h3; omega)
  have HVR := Aside0.mk (Kd.R_lower HV2.out (show w0.heap.size ≤ _ from HI2.out.hb.size))
  clear HV2
  go_loopw [15] (fun v wr => ∃ (m : Nat) (s1 : List Bool) (v1 : Value) (o1 : List Int), m ≤ ns.length ∧ v = .int .i64 (m : Int) ∧ Aside0 (foldO (walkO k nx) (ns.drop m) s1 o1 = some q) ∧ Aside0 (s1.length = n) ∧ Aside0 (OI w0 #[.string a0_0, .int .i64 a0_1, .slice A0_2 l0_2.length c0_2, .int .i64 a0_3, .slice A0_4 l0_4.length c0_4] (.func (.func 57) #[] #[.pointer (some ⟨bs, 0, none⟩), .pointer (some ⟨bf, 0, none⟩), .pointer (some ⟨bw, 0, none⟩), .pointer (some ⟨bo, 0, none⟩)]) bf bw bs bo gs cap wr s1 v1 o1) ∧ Aside0 (OK bo gs w wr vo v1) ∧ Aside0 (Kd.R (Kd.int .i64) 2 wr w0.heap.size (fun _ => True) (.slice A ns.length cc) ns) ∧ Aside0 (∀ g, Value.ownBlock (.slice A ns.length cc) = some g → v1.ownBlock ≠ some g)) (fun v _ => ns.length - (intOf v).toNat)
  case atStart => exact ⟨0, seen.set b.toNat true, vo, o, Nat.zero_le _, rfl, ⟨by rw [List.drop_zero]; exact HQ.out⟩, ⟨by rw [List.length_set]; exact HSL.out⟩, HI3, HK3, HVR, HN0⟩
  case round =>
   clear HQ HI2 HK2 HI3 HK3 HVR HN0
   obtain ⟨m, s1, v1, o1, hm, rfl, HQ, HS1, HI3, HK3, HVR, HN1⟩ := hrel
   have hp1 : 0 < s1.length := by have := HS1.out; have := HSL.out; omega
   by_cases hlm : m < ns.length
   · obtain ⟨x, hx⟩ : ∃ x, x = ns[m] := ⟨_, rfl⟩
     have hxv := HNV.out x (by rw [hx]; exact List.getElem_mem _)
     obtain ⟨g, cap2, hg, _, _, _⟩ := Kd.R_form HVR.out (by omega)
     injection hg with hg hg2 hg3
     subst hg
     subst hg3
     obtain ⟨cx, _⟩ := Kd.R_celln 0 HVR.out (m : Int) (by omega) (by omega)
     have hrx : rdOf 0 ns (m : Int) = x := by rw [hx]; simp [rdOf, List.getElem?_eq_getElem hlm]
     rw [hrx, Int.toNat_natCast] at cx
     obtain ⟨c1, z1⟩ := Kd.R_celln false HI3.out.r x hxv.1 (by have := HS1.out; omega)
     have hrs : rdOf false s1 x = s1.getD x.toNat false := by simp [rdOf, List.getD_eq_getElem?_getD]
     rw [hrs] at c1
     have s0 := (blk_cell HI3.out.s 0).trans rfl
     have k0 := (blk_cell HI3.out.wk 0).trans rfl
     obtain ⟨x1, x2⟩ := hxv
     have x3 : x < (s1.length : Int) := by have := HS1.out; omega
     have hq := HQ.out
     rw [List.drop_eq_getElem_cons hlm, ← hx, foldO] at hq
     clear hx hrx hrs
     cases hs : s1.getD x.toNat false
     · rw [if_neg (by rw [hs]; simp)] at hq
       obtain ⟨q1, hq1, hq2⟩ := Option.bind_eq_some_iff.1 hq
       have hlen := walkO_len nx k x s1 o1 q1 hq1
       have hlen2 := (foldO_len (fun b s o r h => walkO_len nx k b s o r h) _ _ _ q hq2).2
       rw [hs] at c1
       have HQ1 := Aside0.mk hq1
       have HQ2 := Aside0.mk hq2
       have HLN := Aside0.mk hlen.1
       have hq19 : q1.2.length ≤ 1000000000 := by omega
       clear hq hq1 hq2 hs hlen hlen2
       go_wp2_with (first | (go_at_call 57; refine (IH.out x s1 v1 o1 q1 _ HQ1.out hq19 x1 x2 HS1.out HI3.out).mono ?_; rintro e w3 ⟨rfl, v3, hi3, hk3⟩; obtain ⟨hr3, hn3⟩ := HI3.out.row_kept hp1 HVR.out HN1.out hk3; have HI4 := Aside0.mk hi3; have HK4 := Aside0.mk (HK3.out.trans hk3); have HVR4 := Aside0.mk hr3; have HN4 := Aside0.mk hn3; clear hi3 hk3 hr3 hn3 cx c1 z1 s0 k0))
       go_roundw
       case measure => simp [intOf]; omega
       case rel => first | exact ⟨m + 1, q1.1, v3, q1.2, by omega, by go_num, HQ2, ⟨HLN.out.trans HS1.out⟩, HI4, HK4, HVR4, HN4⟩ | ((repeat apply Exists.intro); exact ⟨⟨m + 1, q1.1, v3, q1.2, by omega, by go_num, HQ2, ⟨HLN.out.trans HS1.out⟩, HI4, HK4, HVR4, HN4⟩, rfl⟩)
     · rw [if_pos hs] at hq
       rw [hs] at c1
       have HQ2 := Aside0.mk hq
       clear hq hs
       go_wp2
       go_roundw
       case measure => simp [intOf]; omega
       case rel => exact ⟨m + 1, s1, v1, o1, by omega, by go_num, HQ2, HS1, HI3, HK3, HVR, HN1⟩
   · have hme : m = ns.length := by omega
     subst hme
     have hq := HQ.out
     rw [List.drop_length, foldO] at hq
     obtain rfl := Option.some.inj hq
     simp only at hq9 h9
     clear hq HQ HVR HN1
     have b0 := (blk_cell HI3.out.hbo 0).trans rfl
     go_wp2_with (first | (at_builtin; refine Kd.R_append (Kd.int .i64) (w0 := w0) w0.heap.size rfl (.tmp 28) (.tmp 30) 22 2 (.int .i64 0) 8 rfl Try.underlying22 info2 rfl (by decide) (by decide) v1 o1 b [.int .i64 b] (fun _ => True) (fun _ => False) rfl rfl ?aP (fun _ hk => hk.elim) ?aF ?aO ?aB ?aS ?aL ?_; (case aP => exact rfl); (case aF => exact (fun _ _ => trivial)); (case aO => exact HI3.out.ro); (case aB => exact HI3.out.hb); (case aS => exact HI3.out.hb.size); (case aL => omega); intro v4 w4 ho4 hb4 hg4 hat4; have hbo4 := blk_grown HI3.out.hbo hg4 (HI3.out.neo hp1).2.2.2.1; have b4 := (blk_cell hbo4 0).trans rfl; have z4 := blk_frozen hbo4 0; have hP4 := HI3.out.push hp1 ho4 hb4 hg4 hat4; obtain ⟨g4, c4, e4, _, _, _⟩ := Kd.R_form ho4 (by simp); subst e4; rw [List.length_append, List.length_singleton] at hP4; have HP4 := Aside0.mk hP4; clear hP4 b0 ho4 hb4 hg4 hat4 hbo4))
     (try simp only [Exit.inBlock, Exit.then])
     first | refine bodyPost_ret (results_none rfl _ _ _) rfl ?_ | refine bodyPost_end (results_none rfl _ _ _) rfl ?_
     exact ⟨rfl, _, HP4.out.1, HK3.out.trans HP4.out.2⟩
def nxOf (a0_0 : ByteArray) (a0_1 : Int) (l0_2 : List Int) (a0_3 : Int) (l0_4 : List (S62)) : List (List Int) := (List.range l0_4.length).map fun (b : Nat) => (impl_NextBlocks.f a0_0 a0_1 l0_2 a0_3 l0_4 (b : Int)).getD []
def okNx (a0_0 : ByteArray) (a0_1 : Int) (l0_2 : List Int) (a0_3 : Int) (l0_4 : List (S62)) : Prop := l0_4.length ≤ 1000000000 ∧ ∀ b ∈ List.range l0_4.length, (impl_NextBlocks.f a0_0 a0_1 l0_2 a0_3 l0_4 (b : Int)).isSome = true ∧ ((impl_NextBlocks.f a0_0 a0_1 l0_2 a0_3 l0_4 (b : Int)).getD []).length ≤ 1000000000 ∧ ∀ x ∈ (impl_NextBlocks.f a0_0 a0_1 l0_2 a0_3 l0_4 (b : Int)).getD [], 0 ≤ x ∧ x < (l0_4.length : Int)
instance (a0_0 : ByteArray) (a0_1 : Int) (l0_2 : List Int) (a0_3 : Int) (l0_4 : List (S62)) : Decidable (okNx a0_0 a0_1 l0_2 a0_3 l0_4) := by unfold okNx; infer_instance
def impl_Order.f (k : Nat) (a0_0 : ByteArray) (a0_1 : Int) (l0_2 : List Int) (a0_3 : Int) (l0_4 : List (S62)) : Option (List Int) :=
 if l0_4.length = 0 then some [] else if okNx a0_0 a0_1 l0_2 a0_3 l0_4 then (walkO k (nxOf a0_0 a0_1 l0_2 a0_3 l0_4) 0 (List.replicate l0_4.length false) []).bind fun r => if r.2.length ≤ 1000000000 then some r.2.reverse else none else none
theorem nxOf_get {a0_0 : ByteArray} {a0_1 : Int} {l0_2 : List Int} {a0_3 : Int} {l0_4 : List (S62)} (h : okNx a0_0 a0_1 l0_2 a0_3 l0_4) {b : Int} (h0 : 0 ≤ b) (h1 : b < (l0_4.length : Int)) :
 impl_NextBlocks.f a0_0 a0_1 l0_2 a0_3 l0_4 b = some ((nxOf a0_0 a0_1 l0_2 a0_3 l0_4).getD b.toNat []) ∧ ((nxOf a0_0 a0_1 l0_2 a0_3 l0_4).getD b.toNat []).length ≤ 1000000000 ∧ ∀ x ∈ (nxOf a0_0 a0_1 l0_2 a0_3 l0_4).getD b.toNat [], 0 ≤ x ∧ x < (l0_4.length : Int) := by
 obtain ⟨n, rfl⟩ : ∃ n : Nat, b = (n : Int) := ⟨b.toNat, by omega⟩
 have hn : n < l0_4.length := by omega
 obtain ⟨q1, q2, q3⟩ := h.2 n (List.mem_range.2 hn)
 have e : (nxOf a0_0 a0_1 l0_2 a0_3 l0_4).getD (n : Int).toNat [] = (impl_NextBlocks.f a0_0 a0_1 l0_2 a0_3 l0_4 (n : Int)).getD [] := by
  rw [Int.toNat_natCast, List.getD_eq_getElem?_getD]
  unfold nxOf
  rw [List.getElem?_map, List.getElem?_range hn]
  rfl
 rw [e]
 refine ⟨?_, q2, q3⟩
 obtain ⟨v, hv⟩ := Option.isSome_iff_exists.1 q1
 rw [hv]
 rfl
set_option maxHeartbeats 8000000 in
set_option maxRecDepth 100000 in
theorem impl_Order.calls (k : Nat) (a0_0 : ByteArray) (a0_1 : Int) (A0_2 : Option Addr) (c0_2 : Nat) (l0_2 : List Int) (a0_3 : Int) (A0_4 : Option Addr) (c0_4 : Nat) (l0_4 : List (S62)) (r : List Int) (w : World) (hr0_2 : Kd.C (Kd.int .i64) w A0_2 l0_2.length l0_2) (hc0_2 : l0_2.length ≤ c0_2) (hr0_4 : Kd.C k62 w A0_4 l0_4.length l0_4) (hc0_4 : l0_4.length ≤ c0_4) (h : impl_Order.f k a0_0 a0_1 l0_2 a0_3 l0_4 = some r) :
 Calls Try.prog 31 #[.agg #[.string a0_0, .int .i64 a0_1, .slice A0_2 l0_2.length c0_2, .int .i64 a0_3, .slice A0_4 l0_4.length c0_4]] w fun e w' => ∃ v0_ : Value, e = .returned (v0_) ∧ Kd.R (Kd.int .i64) 2 w' w.heap.size (fun _ => True) v0_ r ∧ Below w.heap.size w w' := by
 have hu1 := Try.underlying30
 have HR2 := Aside0.mk hr0_2
 have HR4 := Aside0.mk hr0_4
 clear hr0_2 hr0_4
 unfold impl_Order.f at h
 by_cases hz : l0_4.length = 0
 · rw [if_pos hz] at h
   obtain rfl := Option.some.inj h
   have hz2 : ((l0_4.length : Int) == 0) = true := by rw [hz]; rfl
   clear h
   go_enter Try.func31, Try.ntmps31
   go_wp2
   go_ret
   exact ⟨_, rfl, Kd.R_nil _ _ _ _ _, below_alloc (Below.refl _ _) _⟩
 · rw [if_neg hz] at h
   split at h
   case isFalse => cases h
   rename_i hok
   obtain ⟨q, hq, h⟩ := Option.bind_eq_some_iff.1 h
   split at h
   case isFalse => cases h
   rename_i hq9
   obtain rfl := Option.some.inj h
   have hz2 : ((l0_4.length : Int) == 0) = false := beq_eq_false_iff_ne.2 (by omega)
   have hn9 := hok.1
   have HOK := Aside0.mk hok
   have HQ := Aside0.mk hq
   have hn0 : 0 < l0_4.length := by omega
   clear h hok hq hz
   have hmf : ∀ (fn : Fn) (first cap : Array Value) (w : World), (Instr.makeFunc fn first cap).run Try.prog w = .ok (.func fn first cap) w := fun _ _ _ _ => rfl
   go_enter Try.func31, Try.ntmps31
   have hst := fun (a_ : Addr) (m_ : Mode) (W_ : World) (c1 c2 c3 c4 : Value) => run_store Try.prog W_ a_ (.func (.func 57) #[] #[c1, c2, c3, c4]) m_ rfl
   go_wp2_with (first | ((with_reducible refine gate_dst (N := 15) rfl ?_); refine Kd.R_make Kd.bool _ 4 rfl (N := 15) rfl 54 _ _ rfl (l0_4.length : Int) rfl rfl Try.underlying54 (.bool false) 1 info4 rfl (by decide) (by omega) false (ok := fun _ => True) (okp := fun _ => True) rfl (fun _ hk => hk) trivial (by omega) (by omega) (Below.refl _ _) (Nat.le_refl _) ?_; intro v3 w3 ho3 hb3 hg_ hnew_; rw [Int.toNat_natCast] at ho3; obtain ⟨gs, cap, e3, hgs, _, _⟩ := Kd.R_form ho3 (by simp; omega); subst e3; have HO3 := Aside0.mk ho3; have HB3 := Aside0.mk hb3; have HGS := Aside0.mk hgs; clear ho3 hb3 hg_ hnew_ hgs) | (go_at_call 57; refine (impl_Order.walk a0_0 a0_1 A0_2 c0_2 l0_2 a0_3 A0_4 c0_4 l0_4 w HR2.out hc0_2 HR4.out hc0_4 (nxOf a0_0 a0_1 l0_2 a0_3 l0_4) l0_4.length (fun b h0 h1 => (nxOf_get HOK.out h0 h1).1) (fun b h0 h1 => (nxOf_get HOK.out h0 h1).2.2) (fun b h0 h1 => (nxOf_get HOK.out h0 h1).2.1) hn9 w.heap.size (w3.heap.size + 1) w3.heap.size (w.heap.size + 1) gs cap k 0 (List.replicate l0_4.length false) (.slice none 0 0) [] q _ HQ.out hq9 (by omega) (by omega) (by simp) ?oi).mono ?_; (case oi => have hs := OI.start (FC := #[.string a0_0, .int .i64 a0_1, .slice A0_2 l0_2.length c0_2, .int .i64 a0_3, .slice A0_4 l0_4.length c0_4]) (fv := (.func (.func 57) #[] #[.pointer (some ⟨w3.heap.size, 0, none⟩), .pointer (some ⟨w.heap.size, 0, none⟩), .pointer (some ⟨w3.heap.size + 1, 0, none⟩), .pointer (some ⟨w.heap.size + 1, 0, none⟩)])) HB3.out HO3.out (by have := HGS.out; simp at this; omega); simpa using hs); rintro e w5 ⟨rfl, v5, hi5, hk5⟩; obtain ⟨g5, c5, e5, hg5, _, _⟩ := Kd.R_form hi5.ro (walkO_pos HQ.out); subst e5; have HI5 := Aside0.mk hi5; have HG5 := Aside0.mk hg5; have b0 := (blk_cell hi5.hbo 0).trans rfl; clear hi5 hk5 hg5 hst hmf))
   have hpos := walkO_pos HQ.out
   go_quiet (fail)
   go_wp2
   have HOC := Aside0.mk HI5.out.hbo
   have HRO := Aside0.mk HI5.out.ro
   have HBB := Aside0.mk HI5.out.hb
   clear HI5 HB3 HO3 HGS hz2 HOK HQ HR2 HR4
   obtain ⟨N, hN⟩ : ∃ N : Nat, N = q.2.length := ⟨_, rfl⟩
   rw [← hN] at HOC HRO b0 hq9 hpos ⊢
   have HN := Aside0.mk hN
   clear hN
   go_loopw [6, 7] (fun v6 v7 wr => ∃ (i : Nat) (j : Int), 2 * i ≤ N ∧ v6 = .int .i64 (i : Int) ∧ v7 = .int .i64 j ∧ j = (N : Int) - 1 - (i : Int) ∧ Aside0 (Kd.R (Kd.int .i64) 2 wr w.heap.size (fun _ => True) (.slice (some ⟨g5, 0, none⟩) N c5) (swapI q.2 i)) ∧ Aside0 (wr.heap[w.heap.size + 1]? = some (.cells #[.slice (some ⟨g5, 0, none⟩) N c5] 22 (0, 0))) ∧ Aside0 (Below w.heap.size w wr)) (fun v6 _ _ => N - (intOf v6).toNat)
   case atStart => exact ⟨0, (N : Int) - 1, by omega, rfl, rfl, by omega, ⟨by rw [swapI_zero]; exact HRO.out⟩, HOC, ⟨pw_below_drewN HBB.out _⟩⟩
   case round =>
    clear HOC HRO HBB b0
    obtain ⟨i, j, hi2, rfl, rfl, hj, HRO, HOC, HBB⟩ := hrel
    by_cases hlt : (i : Int) < j
    · obtain ⟨jn, hjn⟩ : ∃ jn : Nat, j = (jn : Int) := ⟨j.toNat, by omega⟩
      subst hjn
      obtain ⟨ci, zi⟩ := Kd.R_celln 0 HRO.out (i : Int) (by omega) (by omega)
      obtain ⟨cj, zj⟩ := Kd.R_celln 0 HRO.out (jn : Int) (by omega) (by omega)
      simp only [Int.toNat_natCast] at ci zi cj zj
      have b0 := (blk_cell HOC.out 0).trans rfl
      have hij : i ≠ jn := by omega
      have hjN : jn < N := by omega
      have hjN2 : (jn : Int) < (N : Int) := by omega
      have hiN2 : (i : Int) < (N : Int) := by omega
      have HJ := Aside0.mk hj
      clear hj
      have hne := Kd.R_ne HRO.out HOC.out (by decide)
      have hg1 : w.heap.size + 1 ≠ g5 := fun e => hne (by rw [e]; rfl)
      go_wp2
      go_region
      (try simp only [Exit.inBlock, Exit.then])
      go_wp2
      go_roundw
      case measure => simp [intOf]; omega
      case rel => exact ⟨i + 1, (jn : Int) - 1, by have := HJ.out; omega, by go_num, by go_num, by have := HJ.out; omega, ⟨Kd.R_drew (swap_R HN.out (by have := HJ.out; have := HN.out; omega) (by have := HJ.out; have := HN.out; omega) HRO.out)⟩, ⟨blk_drew (blk_far (blk_far HOC.out hg1 _) hg1 _)⟩, ⟨Below.drew (below_set (below_set HBB.out (HG5.out)) HG5.out)⟩⟩
    · have he : N ≤ 2 * i + 1 := by omega
      have b0 := (blk_cell HOC.out 0).trans rfl
      have hR := HRO.out
      rw [swapI_end q.2 i (by have := HN.out; omega)] at hR
      have HR9 := Aside0.mk hR
      clear hR he hj
      go_wp2
      go_ret
      exact ⟨_, rfl, HR9.out, HBB.out⟩

end Go.Proofs.Ytoedcnhgobbnfaa.All


namespace Go.Proofs.Ytoedcnhgobbnfaa.All
open Go.RowKit Go.Proofs.YtoedcnhgobbnfaaW.PrintWords Go.Proofs.YtoedcnhgobbnfaaW.PrintLast Go.Proofs.YtoedcnhgobbnfaaW.PrintMore
attribute [local go_sem] max2_int min2_int max_two min_two max_three min_three max_four min_four   -- for this text's walks alone
set_option linter.unusedVariables false
set_option linter.unusedSimpArgs false

/-! ### laws_FnExactOrder: function 7 -/
def laws_FnExactOrder.j0 : Nat → List Int → List Int → Bool → ByteArray → Int → List Int → Int → List (S96) → Option (Bool)
 | 0, _, _, _, _, _, _, _, _ => none
 | k + 1, x4, x6, x42, x648000, x648001, x648002, x648003, x648004 => if x42 = true then (some false) else ((laws_markInt64S.f k x6 1).bind fun bt687 => ((laws_heldInt64S.f k bt687.2 1).bind fun t689 => (if t689 < 0 then (some false) else (if t689 = bt687.1 then ((laws_toFunc.f k x648000 x648001 x648002 x648003 x648004).bind fun bt690 => ((impl_Order.f k bt690.1 bt690.2.1 bt690.2.2.1 bt690.2.2.2.1 bt690.2.2.2.2).bind fun t699 => ((laws_eqInt64S.f k t699 x4).bind fun t702 => (if t702 = true then ((laws_heldInt64S.f k bt687.2 1).bind fun t703 => (if t703 < 0 then (some false) else (if t703 = bt687.1 then (some true) else (some false)))) else (some false))))) else (some false)))))
def laws_FnExactOrder.f (k : Nat) (a0_0 : ByteArray) (a0_1 : Int) (l0_2 : List Int) (a0_3 : Int) (l0_4 : List (S96)) : Option (Bool) := (laws_szFunc.f k a0_0 a0_1 l0_2 a0_3 l0_4 1048576).bind fun t648 => (if t648 < 0 then (some true) else ((laws_toFunc.f k a0_0 a0_1 l0_2 a0_3 l0_4).bind fun bt649 => ((spec_Order.f k bt649.1 bt649.2.1 bt649.2.2.1 bt649.2.2.2.1 bt649.2.2.2.2).bind fun t658 => ((laws_toFunc.f k a0_0 a0_1 l0_2 a0_3 l0_4).bind fun bt661 => ((impl_Order.f k bt661.1 bt661.2.1 bt661.2.2.1 bt661.2.2.2.1 bt661.2.2.2.2).bind fun t671 => ((laws_eqInt64S.f k t671 t658).bind fun t674 => (if t674 = true then ((laws_toFunc.f k a0_0 a0_1 l0_2 a0_3 l0_4).bind fun bt675 => ((laws_eqFunc.f k bt661.1 bt661.2.1 bt661.2.2.1 bt661.2.2.2.1 bt661.2.2.2.2 bt675.1 bt675.2.1 bt675.2.2.1 bt675.2.2.2.1 bt675.2.2.2.2).bind fun t684 => (if t684 = true then ((laws_markFunc.f bt661.1 bt661.2.1 bt661.2.2.1 bt661.2.2.2.1 bt661.2.2.2.2 1).bind fun t685 => (if t685 < 0 then (laws_FnExactOrder.j0 k t658 t671 true a0_0 a0_1 l0_2 a0_3 l0_4) else ((laws_eqInt64S.f k t671 t658).bind fun t686 => (laws_FnExactOrder.j0 k t658 t671 (!t686) a0_0 a0_1 l0_2 a0_3 l0_4)))) else (some false)))) else (some false))))))))
set_option maxHeartbeats 8000000 in
set_option maxRecDepth 100000 in
theorem laws_FnExactOrder.calls (k : Nat) (a0_0 : ByteArray) (a0_1 : Int) (A0_2 : Option Addr) (c0_2 : Nat) (l0_2 : List Int) (a0_3 : Int) (A0_4 : Option Addr) (c0_4 : Nat) (l0_4 : List (S96)) (r : Bool) (w : World) (hr0_2 : Kd.C (Kd.int .i64) w A0_2 l0_2.length l0_2) (hc0_2 : l0_2.length ≤ c0_2) (hr0_4 : Kd.C k96 w A0_4 l0_4.length l0_4) (hc0_4 : l0_4.length ≤ c0_4) (h : laws_FnExactOrder.f k a0_0 a0_1 l0_2 a0_3 l0_4 = some r) (hr_ : Aside0 (r = true)) :
 Calls Try.prog 7 #[.agg #[.string a0_0, .int .i64 a0_1, .slice A0_2 l0_2.length c0_2, .int .i64 a0_3, .slice A0_4 l0_4.length c0_4]] w fun e w' => e = .returned (.bool r) ∧ Below w.heap.size w w' := by
 have hu25 := Try.underlying25
 have hu30 := Try.underlying30
 have HR0_2 := Aside0.mk hr0_2
 have HC0_2 := Aside0.mk hc0_2
 clear hr0_2 hc0_2
 have HR0_4 := Aside0.mk hr0_4
 have HC0_4 := Aside0.mk hc0_4
 clear hr0_4 hc0_4
 have HB := Aside0.mk (Below.refl w.heap.size w)
 have H : ((laws_szFunc.f k a0_0 a0_1 l0_2 a0_3 l0_4 1048576).bind fun t648 => (if t648 < 0 then (some true) else ((laws_toFunc.f k a0_0 a0_1 l0_2 a0_3 l0_4).bind fun bt649 => ((spec_Order.f k bt649.1 bt649.2.1 bt649.2.2.1 bt649.2.2.2.1 bt649.2.2.2.2).bind fun t658 => ((laws_toFunc.f k a0_0 a0_1 l0_2 a0_3 l0_4).bind fun bt661 => ((impl_Order.f k bt661.1 bt661.2.1 bt661.2.2.1 bt661.2.2.2.1 bt661.2.2.2.2).bind fun t671 => ((laws_eqInt64S.f k t671 t658).bind fun t674 => (if t674 = true then ((laws_toFunc.f k a0_0 a0_1 l0_2 a0_3 l0_4).bind fun bt675 => ((laws_eqFunc.f k bt661.1 bt661.2.1 bt661.2.2.1 bt661.2.2.2.1 bt661.2.2.2.2 bt675.1 bt675.2.1 bt675.2.2.1 bt675.2.2.2.1 bt675.2.2.2.2).bind fun t684 => (if t684 = true then ((laws_markFunc.f bt661.1 bt661.2.1 bt661.2.2.1 bt661.2.2.2.1 bt661.2.2.2.2 1).bind fun t685 => (if t685 < 0 then (laws_FnExactOrder.j0 k t658 t671 true a0_0 a0_1 l0_2 a0_3 l0_4) else ((laws_eqInt64S.f k t671 t658).bind fun t686 => (laws_FnExactOrder.j0 k t658 t671 (!t686) a0_0 a0_1 l0_2 a0_3 l0_4)))) else (some false)))) else (some false))))))))) = some r := h
 clear h
 replace H := Option.bind_eq_some_iff.mp H
 obtain ⟨t648, A20, H⟩ := H
 replace H : (if t648 < 0 then (some true) else ((laws_toFunc.f k a0_0 a0_1 l0_2 a0_3 l0_4).bind fun bt649 => ((spec_Order.f k bt649.1 bt649.2.1 bt649.2.2.1 bt649.2.2.2.1 bt649.2.2.2.2).bind fun t658 => ((laws_toFunc.f k a0_0 a0_1 l0_2 a0_3 l0_4).bind fun bt661 => ((impl_Order.f k bt661.1 bt661.2.1 bt661.2.2.1 bt661.2.2.2.1 bt661.2.2.2.2).bind fun t671 => ((laws_eqInt64S.f k t671 t658).bind fun t674 => (if t674 = true then ((laws_toFunc.f k a0_0 a0_1 l0_2 a0_3 l0_4).bind fun bt675 => ((laws_eqFunc.f k bt661.1 bt661.2.1 bt661.2.2.1 bt661.2.2.2.1 bt661.2.2.2.2 bt675.1 bt675.2.1 bt675.2.2.1 bt675.2.2.2.1 bt675.2.2.2.2).bind fun t684 => (if t684 = true then ((laws_markFunc.f bt661.1 bt661.2.1 bt661.2.2.1 bt661.2.2.2.1 bt661.2.2.2.2 1).bind fun t685 => (if t685 < 0 then (laws_FnExactOrder.j0 k t658 t671 true a0_0 a0_1 l0_2 a0_3 l0_4) else ((laws_eqInt64S.f k t671 t658).bind fun t686 => (laws_FnExactOrder.j0 k t658 t671 (!t686) a0_0 a0_1 l0_2 a0_3 l0_4)))) else (some false)))) else (some false)))))))) = some r := H
 have A2 := Aside0.mk A20
 clear A20
 by_cases c3 : t648 < 0
 · rw [if_pos c3] at H
   have c3b0 : decide (t648 < 0) = true := decide_eq_true c3
   clear c3
   obtain rfl := Option.some.inj H
   go_enter Try.func7, Try.ntmps7
   go_wp2_with (first | ((with_reducible refine gate_dst (N := 1) rfl ?_); refine box_event ?hg (N := 1) ?hd (cs := #[.string a0_0, .int .i64 a0_1, .slice A0_2 l0_2.length c0_2, .int .i64 a0_3, .slice A0_4 l0_4.length c0_4]) (t := 25) ?hr ?_; (case hd => rfl); (case hg => rfl); (case hr => first | (go_simp; done) | (go_simp; rfl)); intro gb647 hg w4 hbox hb; have n0_ := Aside0.mk (below_step (by repeat (first | (with_reducible first | exact HB.out | apply below_alloc | apply pw_below_drewN | apply below_drew1) | exact HB.out)) hb); have n1_ := Aside0.mk (hbox); have n2_ := Aside0.mk ((by rw [hg]; exact (below_size (by repeat (first | (with_reducible first | exact HB.out | apply below_alloc | apply pw_below_drewN | apply below_drew1) | exact HB.out))) : w.heap.size ≤ gb647)); have n3_ := Aside0.mk ((by rw [hg]; exact (below_size (by repeat (first | (with_reducible first | exact HB.out | apply below_alloc | apply pw_below_drewN | apply below_drew1) | exact HB.out))) : w.heap.size ≤ gb647)); clear HB; have HB := n0_; have BK647 := n1_; have GW647 := n2_; have GE647 := n3_; clear n0_ n1_ n2_ n3_; clear hb hbox hg; have hcz5_0 : w4.cell? ⟨gb647, 0, none⟩ = some (.string a0_0) := (blk_cell BK647.out 0).trans rfl; have hcz5_1 : w4.cell? ⟨gb647, 1, none⟩ = some (.int .i64 a0_1) := (blk_cell BK647.out 1).trans rfl; have hcz5_2 : w4.cell? ⟨gb647, 2, none⟩ = some (.slice A0_2 l0_2.length c0_2) := (blk_cell BK647.out 2).trans rfl; have hcz5_3 : w4.cell? ⟨gb647, 3, none⟩ = some (.int .i64 a0_3) := (blk_cell BK647.out 3).trans rfl; have hcz5_4 : w4.cell? ⟨gb647, 4, none⟩ = some (.slice A0_4 l0_4.length c0_4) := (blk_cell BK647.out 4).trans rfl; have hfz5_0 := blk_frozen BK647.out 0; have hfz5_1 := blk_frozen BK647.out 1; have hfz5_2 := blk_frozen BK647.out 2; have hfz5_3 := blk_frozen BK647.out 3; have hfz5_4 := blk_frozen BK647.out 4) | ((with_reducible refine gate_callee (f := 12) rfl ?_); refine goesL_ (some 13) rfl rfl Try.func12 (by kernel_rfl) rfl #[.agg #[.string a0_0, .int .i64 a0_1, .slice A0_2 l0_2.length c0_2, .int .i64 a0_3, .slice A0_4 l0_4.length c0_4], .int .i64 1048576] rfl (by (try simp only [List.map_toArray, List.map_cons, List.map_nil]); first | done | rfl | (simp only [List.length_drop, List.length_take]; rfl)) ?_; (with_reducible refine (laws_szFunc.calls k a0_0 a0_1 _ _ l0_2 a0_3 _ _ l0_4 1048576 t648 _ ?side1 ?side2 ?side3 ?side4 A2.out).mono ?_); (case side1 => repeat (first | exact (Kd.C_below HR0_2.out HB.out) | (with_reducible refine Kd.C_alloc ?_ _) | (with_reducible refine Kd.C_drewN ?_ _) | (with_reducible refine Kd.C_drew ?_))); (case side2 => exact HC0_2.out); (case side3 => repeat (first | exact (Kd.C_below HR0_4.out HB.out) | (with_reducible refine Kd.C_alloc ?_ _) | (with_reducible refine Kd.C_drewN ?_ _) | (with_reducible refine Kd.C_drew ?_))); (case side4 => exact HC0_4.out); rintro e w6 ⟨rfl, hb⟩; refine ⟨_, rfl, ?_⟩; have n0_ := Aside0.mk (blk_below (g := gb647) (o := .cells #[.string a0_0, .int .i64 a0_1, .slice A0_2 l0_2.length c0_2, .int .i64 a0_3, .slice A0_4 l0_4.length c0_4] 25 (0, 0)) (by (with_reducible repeat (first | refine blk_drewN ?_ _ | refine blk_drew ?_ | refine blk_alloc ?_ _)); exact BK647.out) hb); have n1_ := Aside0.mk (below_step (by repeat (first | (with_reducible first | exact HB.out | apply below_alloc | apply pw_below_drewN | apply below_drew1 | refine below_set ?_ GE647.out) | exact HB.out)) hb); clear BK647; clear HB; have BK647 := n0_; have HB := n1_; clear n0_ n1_; (try clear hb); (try clear hb2); (try clear hk); (try clear hi)))
   go_ret
   exact ⟨by first | rfl | (simp [errW_none, errW_some] <;> rfl) | (simp [*, errW_none, errW_some] <;> rfl), by repeat (first | (with_reducible first | exact HB.out | apply below_alloc | apply pw_below_drewN | apply below_drew1 | refine below_set ?_ GE647.out) | exact HB.out)⟩
 · rw [if_neg c3] at H
   have c3b0 : decide (t648 < 0) = false := decide_eq_false c3
   clear c3
   replace H := Option.bind_eq_some_iff.mp H
   obtain ⟨⟨t649, t650, t651, t654, t655⟩, A70, H⟩ := H
   replace H : ((spec_Order.f k t649 t650 t651 t654 t655).bind fun t658 => ((laws_toFunc.f k a0_0 a0_1 l0_2 a0_3 l0_4).bind fun bt661 => ((impl_Order.f k bt661.1 bt661.2.1 bt661.2.2.1 bt661.2.2.2.1 bt661.2.2.2.2).bind fun t671 => ((laws_eqInt64S.f k t671 t658).bind fun t674 => (if t674 = true then ((laws_toFunc.f k a0_0 a0_1 l0_2 a0_3 l0_4).bind fun bt675 => ((laws_eqFunc.f k bt661.1 bt661.2.1 bt661.2.2.1 bt661.2.2.2.1 bt661.2.2.2.2 bt675.1 bt675.2.1 bt675.2.2.1 bt675.2.2.2.1 bt675.2.2.2.2).bind fun t684 => (if t684 = true then ((laws_markFunc.f bt661.1 bt661.2.1 bt661.2.2.1 bt661.2.2.2.1 bt661.2.2.2.2 1).bind fun t685 => (if t685 < 0 then (laws_FnExactOrder.j0 k t658 t671 true a0_0 a0_1 l0_2 a0_3 l0_4) else ((laws_eqInt64S.f k t671 t658).bind fun t686 => (laws_FnExactOrder.j0 k t658 t671 (!t686) a0_0 a0_1 l0_2 a0_3 l0_4)))) else (some false)))) else (some false)))))) = some r := H
   have A7 := Aside0.mk A70
   clear A70
   replace H := Option.bind_eq_some_iff.mp H
   obtain ⟨t658, A80, H⟩ := H
   replace H : ((laws_toFunc.f k a0_0 a0_1 l0_2 a0_3 l0_4).bind fun bt661 => ((impl_Order.f k bt661.1 bt661.2.1 bt661.2.2.1 bt661.2.2.2.1 bt661.2.2.2.2).bind fun t671 => ((laws_eqInt64S.f k t671 t658).bind fun t674 => (if t674 = true then ((laws_toFunc.f k a0_0 a0_1 l0_2 a0_3 l0_4).bind fun bt675 => ((laws_eqFunc.f k bt661.1 bt661.2.1 bt661.2.2.1 bt661.2.2.2.1 bt661.2.2.2.2 bt675.1 bt675.2.1 bt675.2.2.1 bt675.2.2.2.1 bt675.2.2.2.2).bind fun t684 => (if t684 = true then ((laws_markFunc.f bt661.1 bt661.2.1 bt661.2.2.1 bt661.2.2.2.1 bt661.2.2.2.2 1).bind fun t685 => (if t685 < 0 then (laws_FnExactOrder.j0 k t658 t671 true a0_0 a0_1 l0_2 a0_3 l0_4) else ((laws_eqInt64S.f k t671 t658).bind fun t686 => (laws_FnExactOrder.j0 k t658 t671 (!t686) a0_0 a0_1 l0_2 a0_3 l0_4)))) else (some false)))) else (some false))))) = some r := H
   have A8 := Aside0.mk A80
   clear A80
   replace H := Option.bind_eq_some_iff.mp H
   obtain ⟨⟨t661, t662, t663, t666, t667⟩, A90, H⟩ := H
   replace H : ((impl_Order.f k t661 t662 t663 t666 t667).bind fun t671 => ((laws_eqInt64S.f k t671 t658).bind fun t674 => (if t674 = true then ((laws_toFunc.f k a0_0 a0_1 l0_2 a0_3 l0_4).bind fun bt675 => ((laws_eqFunc.f k t661 t662 t663 t666 t667 bt675.1 bt675.2.1 bt675.2.2.1 bt675.2.2.2.1 bt675.2.2.2.2).bind fun t684 => (if t684 = true then ((laws_markFunc.f t661 t662 t663 t666 t667 1).bind fun t685 => (if t685 < 0 then (laws_FnExactOrder.j0 k t658 t671 true a0_0 a0_1 l0_2 a0_3 l0_4) else ((laws_eqInt64S.f k t671 t658).bind fun t686 => (laws_FnExactOrder.j0 k t658 t671 (!t686) a0_0 a0_1 l0_2 a0_3 l0_4)))) else (some false)))) else (some false)))) = some r := H
   have A9 := Aside0.mk A90
   clear A90
   replace H := Option.bind_eq_some_iff.mp H
   obtain ⟨t671, A100, H⟩ := H
   replace H : ((laws_eqInt64S.f k t671 t658).bind fun t674 => (if t674 = true then ((laws_toFunc.f k a0_0 a0_1 l0_2 a0_3 l0_4).bind fun bt675 => ((laws_eqFunc.f k t661 t662 t663 t666 t667 bt675.1 bt675.2.1 bt675.2.2.1 bt675.2.2.2.1 bt675.2.2.2.2).bind fun t684 => (if t684 = true then ((laws_markFunc.f t661 t662 t663 t666 t667 1).bind fun t685 => (if t685 < 0 then (laws_FnExactOrder.j0 k t658 t671 true a0_0 a0_1 l0_2 a0_3 l0_4) else ((laws_eqInt64S.f k t671 t658).bind fun t686 => (laws_FnExactOrder.j0 k t658 t671 (!t686) a0_0 a0_1 l0_2 a0_3 l0_4)))) else (some false)))) else (some false))) = some r := H
   have A10 := Aside0.mk A100
   clear A100
   replace H := Option.bind_eq_some_iff.mp H
   obtain ⟨t674, A110, H⟩ := H
   replace H : (if t674 = true then ((laws_toFunc.f k a0_0 a0_1 l0_2 a0_3 l0_4).bind fun bt675 => ((laws_eqFunc.f k t661 t662 t663 t666 t667 bt675.1 bt675.2.1 bt675.2.2.1 bt675.2.2.2.1 bt675.2.2.2.2).bind fun t684 => (if t684 = true then ((laws_markFunc.f t661 t662 t663 t666 t667 1).bind fun t685 => (if t685 < 0 then (laws_FnExactOrder.j0 k t658 t671 true a0_0 a0_1 l0_2 a0_3 l0_4) else ((laws_eqInt64S.f k t671 t658).bind fun t686 => (laws_FnExactOrder.j0 k t658 t671 (!t686) a0_0 a0_1 l0_2 a0_3 l0_4)))) else (some false)))) else (some false)) = some r := H
   have A11 := Aside0.mk A110
   clear A110
   by_cases c12 : t674 = true
   · subst c12
     have H1 : ((laws_toFunc.f k a0_0 a0_1 l0_2 a0_3 l0_4).bind fun bt675 => ((laws_eqFunc.f k t661 t662 t663 t666 t667 bt675.1 bt675.2.1 bt675.2.2.1 bt675.2.2.2.1 bt675.2.2.2.2).bind fun t684 => (if t684 = true then ((laws_markFunc.f t661 t662 t663 t666 t667 1).bind fun t685 => (if t685 < 0 then (laws_FnExactOrder.j0 k t658 t671 true a0_0 a0_1 l0_2 a0_3 l0_4) else ((laws_eqInt64S.f k t671 t658).bind fun t686 => (laws_FnExactOrder.j0 k t658 t671 (!t686) a0_0 a0_1 l0_2 a0_3 l0_4)))) else (some false)))) = some r := by rw [if_pos rfl] at H; exact H
     clear H
     have H := H1
     clear H1
     replace H := Option.bind_eq_some_iff.mp H
     obtain ⟨⟨t675, t676, t677, t680, t681⟩, A130, H⟩ := H
     replace H : ((laws_eqFunc.f k t661 t662 t663 t666 t667 t675 t676 t677 t680 t681).bind fun t684 => (if t684 = true then ((laws_markFunc.f t661 t662 t663 t666 t667 1).bind fun t685 => (if t685 < 0 then (laws_FnExactOrder.j0 k t658 t671 true a0_0 a0_1 l0_2 a0_3 l0_4) else ((laws_eqInt64S.f k t671 t658).bind fun t686 => (laws_FnExactOrder.j0 k t658 t671 (!t686) a0_0 a0_1 l0_2 a0_3 l0_4)))) else (some false))) = some r := H
     have A13 := Aside0.mk A130
     clear A130
     replace H := Option.bind_eq_some_iff.mp H
     obtain ⟨t684, A140, H⟩ := H
     replace H : (if t684 = true then ((laws_markFunc.f t661 t662 t663 t666 t667 1).bind fun t685 => (if t685 < 0 then (laws_FnExactOrder.j0 k t658 t671 true a0_0 a0_1 l0_2 a0_3 l0_4) else ((laws_eqInt64S.f k t671 t658).bind fun t686 => (laws_FnExactOrder.j0 k t658 t671 (!t686) a0_0 a0_1 l0_2 a0_3 l0_4)))) else (some false)) = some r := H
     have A14 := Aside0.mk A140
     clear A140
     by_cases c15 : t684 = true
     · subst c15
       have H1 : ((laws_markFunc.f t661 t662 t663 t666 t667 1).bind fun t685 => (if t685 < 0 then (laws_FnExactOrder.j0 k t658 t671 true a0_0 a0_1 l0_2 a0_3 l0_4) else ((laws_eqInt64S.f k t671 t658).bind fun t686 => (laws_FnExactOrder.j0 k t658 t671 (!t686) a0_0 a0_1 l0_2 a0_3 l0_4)))) = some r := by rw [if_pos rfl] at H; exact H
       clear H
       have H := H1
       clear H1
       replace H := Option.bind_eq_some_iff.mp H
       obtain ⟨t685, A160, H⟩ := H
       replace H : (if t685 < 0 then (laws_FnExactOrder.j0 k t658 t671 true a0_0 a0_1 l0_2 a0_3 l0_4) else ((laws_eqInt64S.f k t671 t658).bind fun t686 => (laws_FnExactOrder.j0 k t658 t671 (!t686) a0_0 a0_1 l0_2 a0_3 l0_4))) = some r := H
       have A16 := Aside0.mk A160
       clear A160
       have HC17 := Aside0.mk H
       clear H
       go_enter Try.func7, Try.ntmps7
       try go_wp2_with (first | ((with_reducible refine gate_dst (N := 1) rfl ?_); refine box_event ?hg (N := 1) ?hd (cs := #[.string a0_0, .int .i64 a0_1, .slice A0_2 l0_2.length c0_2, .int .i64 a0_3, .slice A0_4 l0_4.length c0_4]) (t := 25) ?hr ?_; (case hd => rfl); (case hg => rfl); (case hr => first | (go_simp; done) | (go_simp; rfl)); intro gb647 hg w18 hbox hb; have n0_ := Aside0.mk (below_step (by repeat (first | (with_reducible first | exact HB.out | apply below_alloc | apply pw_below_drewN | apply below_drew1) | exact HB.out)) hb); have n1_ := Aside0.mk (hbox); have n2_ := Aside0.mk ((by rw [hg]; exact (below_size (by repeat (first | (with_reducible first | exact HB.out | apply below_alloc | apply pw_below_drewN | apply below_drew1) | exact HB.out))) : w.heap.size ≤ gb647)); have n3_ := Aside0.mk ((by rw [hg]; exact (below_size (by repeat (first | (with_reducible first | exact HB.out | apply below_alloc | apply pw_below_drewN | apply below_drew1) | exact HB.out))) : w.heap.size ≤ gb647)); clear HB; have HB := n0_; have BK647 := n1_; have GW647 := n2_; have GE647 := n3_; clear n0_ n1_ n2_ n3_; clear hb hbox hg; have hcz19_0 : w18.cell? ⟨gb647, 0, none⟩ = some (.string a0_0) := (blk_cell BK647.out 0).trans rfl; have hcz19_1 : w18.cell? ⟨gb647, 1, none⟩ = some (.int .i64 a0_1) := (blk_cell BK647.out 1).trans rfl; have hcz19_2 : w18.cell? ⟨gb647, 2, none⟩ = some (.slice A0_2 l0_2.length c0_2) := (blk_cell BK647.out 2).trans rfl; have hcz19_3 : w18.cell? ⟨gb647, 3, none⟩ = some (.int .i64 a0_3) := (blk_cell BK647.out 3).trans rfl; have hcz19_4 : w18.cell? ⟨gb647, 4, none⟩ = some (.slice A0_4 l0_4.length c0_4) := (blk_cell BK647.out 4).trans rfl; have hfz19_0 := blk_frozen BK647.out 0; have hfz19_1 := blk_frozen BK647.out 1; have hfz19_2 := blk_frozen BK647.out 2; have hfz19_3 := blk_frozen BK647.out 3; have hfz19_4 := blk_frozen BK647.out 4) | ((with_reducible refine gate_callee (f := 12) rfl ?_); refine goesL_ (some 13) rfl rfl Try.func12 (by kernel_rfl) rfl #[.agg #[.string a0_0, .int .i64 a0_1, .slice A0_2 l0_2.length c0_2, .int .i64 a0_3, .slice A0_4 l0_4.length c0_4], .int .i64 1048576] rfl (by (try simp only [List.map_toArray, List.map_cons, List.map_nil]); first | done | rfl | (simp only [List.length_drop, List.length_take]; rfl)) ?_; (with_reducible refine (laws_szFunc.calls k a0_0 a0_1 _ _ l0_2 a0_3 _ _ l0_4 1048576 t648 _ ?side1 ?side2 ?side3 ?side4 A2.out).mono ?_); (case side1 => repeat (first | exact (Kd.C_below HR0_2.out HB.out) | (with_reducible refine Kd.C_alloc ?_ _) | (with_reducible refine Kd.C_drewN ?_ _) | (with_reducible refine Kd.C_drew ?_))); (case side2 => exact HC0_2.out); (case side3 => repeat (first | exact (Kd.C_below HR0_4.out HB.out) | (with_reducible refine Kd.C_alloc ?_ _) | (with_reducible refine Kd.C_drewN ?_ _) | (with_reducible refine Kd.C_drew ?_))); (case side4 => exact HC0_4.out); rintro e w20 ⟨rfl, hb⟩; refine ⟨_, rfl, ?_⟩; have n0_ := Aside0.mk (blk_below (g := gb647) (o := .cells #[.string a0_0, .int .i64 a0_1, .slice A0_2 l0_2.length c0_2, .int .i64 a0_3, .slice A0_4 l0_4.length c0_4] 25 (0, 0)) (by (with_reducible repeat (first | refine blk_drewN ?_ _ | refine blk_drew ?_ | refine blk_alloc ?_ _)); exact BK647.out) hb); have n1_ := Aside0.mk (below_step (by repeat (first | (with_reducible first | exact HB.out | apply below_alloc | apply pw_below_drewN | apply below_drew1 | refine below_set ?_ GE647.out) | exact HB.out)) hb); clear BK647; clear HB; have BK647 := n0_; have HB := n1_; clear n0_ n1_; (try clear hb); (try clear hb2); (try clear hk); (try clear hi); have hcz21_0 : w20.cell? ⟨gb647, 0, none⟩ = some (.string a0_0) := (blk_cell BK647.out 0).trans rfl; have hcz21_1 : w20.cell? ⟨gb647, 1, none⟩ = some (.int .i64 a0_1) := (blk_cell BK647.out 1).trans rfl; have hcz21_2 : w20.cell? ⟨gb647, 2, none⟩ = some (.slice A0_2 l0_2.length c0_2) := (blk_cell BK647.out 2).trans rfl; have hcz21_3 : w20.cell? ⟨gb647, 3, none⟩ = some (.int .i64 a0_3) := (blk_cell BK647.out 3).trans rfl; have hcz21_4 : w20.cell? ⟨gb647, 4, none⟩ = some (.slice A0_4 l0_4.length c0_4) := (blk_cell BK647.out 4).trans rfl; have hfz21_0 := blk_frozen BK647.out 0; have hfz21_1 := blk_frozen BK647.out 1; have hfz21_2 := blk_frozen BK647.out 2; have hfz21_3 := blk_frozen BK647.out 3; have hfz21_4 := blk_frozen BK647.out 4) | ((with_reducible refine gate_callee (f := 14) rfl ?_); refine goesL_ (some 17) rfl rfl Try.func14 (by kernel_rfl) rfl #[.agg #[.string a0_0, .int .i64 a0_1, .slice A0_2 l0_2.length c0_2, .int .i64 a0_3, .slice A0_4 l0_4.length c0_4]] rfl (by (try simp only [List.map_toArray, List.map_cons, List.map_nil]); first | done | rfl | (simp only [List.length_drop, List.length_take]; rfl)) ?_; (with_reducible refine (laws_toFunc.calls k a0_0 a0_1 _ _ l0_2 a0_3 _ _ l0_4 t649 t650 t651 t654 t655 _ ?side1 ?side2 ?side3 ?side4 A7.out).mono ?_); (case side1 => repeat (first | exact (Kd.C_below HR0_2.out HB.out) | (with_reducible refine Kd.C_alloc ?_ _) | (with_reducible refine Kd.C_drewN ?_ _) | (with_reducible refine Kd.C_drew ?_))); (case side2 => exact HC0_2.out); (case side3 => repeat (first | exact (Kd.C_below HR0_4.out HB.out) | (with_reducible refine Kd.C_alloc ?_ _) | (with_reducible refine Kd.C_drewN ?_ _) | (with_reducible refine Kd.C_drew ?_))); (case side4 => exact HC0_4.out); rintro e w22 ⟨v652, v656, rfl, ho0, ho1, hb⟩; refine ⟨_, rfl, ?_⟩; have n0_ := Aside0.mk (Kd.R_lower ho0 (below_size (by repeat (first | (with_reducible first | exact HB.out | apply below_alloc | apply pw_below_drewN | apply below_drew1 | refine below_set ?_ GE647.out) | exact HB.out)))); have n1_ := Aside0.mk (Kd.R_lower ho1 (below_size (by repeat (first | (with_reducible first | exact HB.out | apply below_alloc | apply pw_below_drewN | apply below_drew1 | refine below_set ?_ GE647.out) | exact HB.out)))); have n2_ := Aside0.mk (blk_below (g := gb647) (o := .cells #[.string a0_0, .int .i64 a0_1, .slice A0_2 l0_2.length c0_2, .int .i64 a0_3, .slice A0_4 l0_4.length c0_4] 25 (0, 0)) (by (with_reducible repeat (first | refine blk_drewN ?_ _ | refine blk_drew ?_ | refine blk_alloc ?_ _)); exact BK647.out) hb); have n3_ := Aside0.mk (below_step (by repeat (first | (with_reducible first | exact HB.out | apply below_alloc | apply pw_below_drewN | apply below_drew1 | refine below_set ?_ GE647.out) | exact HB.out)) hb); clear BK647; clear HB; have HO653 := n0_; have HO657 := n1_; have BK647 := n2_; have HB := n3_; clear n0_ n1_ n2_ n3_; (try clear hb); (try clear hb2); (try clear hk); (try clear hi); (try clear ho0); (try clear ho1); obtain ⟨Ao23, co23, eo23⟩ := Kd.R_slice HO653.out; subst eo23; obtain ⟨Ao24, co24, eo24⟩ := Kd.R_slice HO657.out; subst eo24) | ((with_reducible refine gate_callee (f := 30) rfl ?_); refine goesL_ (some 18) rfl rfl Try.func30 (by kernel_rfl) rfl #[.agg #[.string t649, .int .i64 t650, .slice Ao23 t651.length co23, .int .i64 t654, .slice Ao24 t655.length co24]] rfl (by (try simp only [List.map_toArray, List.map_cons, List.map_nil]); first | done | rfl | (simp only [List.length_drop, List.length_take]; rfl)) ?_; (with_reducible refine (spec_Order.calls k t649 t650 _ _ t651 t654 _ _ t655 t658 _ ?side1 ?side2 ?side3 ?side4 A8.out).mono ?_); (case side1 => repeat (first | exact (Kd.R_reads' HO653.out).2.2 | (with_reducible refine Kd.C_alloc ?_ _) | (with_reducible refine Kd.C_drewN ?_ _) | (with_reducible refine Kd.C_drew ?_))); (case side2 => exact (Kd.R_reads' HO653.out).2.1); (case side3 => repeat (first | exact (Kd.R_reads' HO657.out).2.2 | (with_reducible refine Kd.C_alloc ?_ _) | (with_reducible refine Kd.C_drewN ?_ _) | (with_reducible refine Kd.C_drew ?_))); (case side4 => exact (Kd.R_reads' HO657.out).2.1); rintro e w25 ⟨v659, rfl, ho0, hb⟩; refine ⟨_, rfl, ?_⟩; have n0_ := Aside0.mk (Kd.R_elder' (by (with_reducible repeat (first | apply Kd.R_alloc | apply Kd.R_drewN | apply Kd.R_drew)); exact HO653.out) (Kd.R_base ho0) hb); have n1_ := Aside0.mk (Kd.R_elder' (by (with_reducible repeat (first | apply Kd.R_alloc | apply Kd.R_drewN | apply Kd.R_drew)); exact HO657.out) (Kd.R_base ho0) hb); have n2_ := Aside0.mk (Kd.R_lower (Kd.R_new' ho0 (Kd.R_lt (by (with_reducible repeat (first | apply Kd.R_alloc | apply Kd.R_drewN | apply Kd.R_drew)); exact HO653.out))) (below_size (by repeat (first | (with_reducible first | exact HB.out | apply below_alloc | apply pw_below_drewN | apply below_drew1 | refine below_set ?_ GE647.out) | exact HB.out)))); have n3_ := Aside0.mk (blk_below (g := gb647) (o := .cells #[.string a0_0, .int .i64 a0_1, .slice A0_2 l0_2.length c0_2, .int .i64 a0_3, .slice A0_4 l0_4.length c0_4] 25 (0, 0)) (by (with_reducible repeat (first | refine blk_drewN ?_ _ | refine blk_drew ?_ | refine blk_alloc ?_ _)); exact BK647.out) hb); have n4_ := Aside0.mk (below_step (by repeat (first | (with_reducible first | exact HB.out | apply below_alloc | apply pw_below_drewN | apply below_drew1 | refine below_set ?_ GE647.out) | exact HB.out)) hb); clear HO653; clear HO657; clear BK647; clear HB; have HO653 := n0_; have HO657 := n1_; have HO660 := n2_; have BK647 := n3_; have HB := n4_; clear n0_ n1_ n2_ n3_ n4_; (try clear hb); (try clear hb2); (try clear hk); (try clear hi); (try clear ho0); have hcz26_0 : w25.cell? ⟨gb647, 0, none⟩ = some (.string a0_0) := (blk_cell BK647.out 0).trans rfl; have hcz26_1 : w25.cell? ⟨gb647, 1, none⟩ = some (.int .i64 a0_1) := (blk_cell BK647.out 1).trans rfl; have hcz26_2 : w25.cell? ⟨gb647, 2, none⟩ = some (.slice A0_2 l0_2.length c0_2) := (blk_cell BK647.out 2).trans rfl; have hcz26_3 : w25.cell? ⟨gb647, 3, none⟩ = some (.int .i64 a0_3) := (blk_cell BK647.out 3).trans rfl; have hcz26_4 : w25.cell? ⟨gb647, 4, none⟩ = some (.slice A0_4 l0_4.length c0_4) := (blk_cell BK647.out 4).trans rfl; have hfz26_0 := blk_frozen BK647.out 0; have hfz26_1 := blk_frozen BK647.out 1; have hfz26_2 := blk_frozen BK647.out 2; have hfz26_3 := blk_frozen BK647.out 3; have hfz26_4 := blk_frozen BK647.out 4) | ((with_reducible refine gate_callee (f := 14) rfl ?_); refine goesL_ (some 20) rfl rfl Try.func14 (by kernel_rfl) rfl #[.agg #[.string a0_0, .int .i64 a0_1, .slice A0_2 l0_2.length c0_2, .int .i64 a0_3, .slice A0_4 l0_4.length c0_4]] rfl (by (try simp only [List.map_toArray, List.map_cons, List.map_nil]); first | done | rfl | (simp only [List.length_drop, List.length_take]; rfl)) ?_; (with_reducible refine (laws_toFunc.calls k a0_0 a0_1 _ _ l0_2 a0_3 _ _ l0_4 t661 t662 t663 t666 t667 _ ?side1 ?side2 ?side3 ?side4 A9.out).mono ?_); (case side1 => repeat (first | exact (Kd.C_below HR0_2.out HB.out) | (with_reducible refine Kd.C_alloc ?_ _) | (with_reducible refine Kd.C_drewN ?_ _) | (with_reducible refine Kd.C_drew ?_))); (case side2 => exact HC0_2.out); (case side3 => repeat (first | exact (Kd.C_below HR0_4.out HB.out) | (with_reducible refine Kd.C_alloc ?_ _) | (with_reducible refine Kd.C_drewN ?_ _) | (with_reducible refine Kd.C_drew ?_))); (case side4 => exact HC0_4.out); rintro e w27 ⟨v664, v668, rfl, ho0, ho1, hb⟩; refine ⟨_, rfl, ?_⟩; have n0_ := Aside0.mk (Kd.R_elder' (by (with_reducible repeat (first | apply Kd.R_alloc | apply Kd.R_drewN | apply Kd.R_drew)); exact HO653.out) (Kd.R_base ho0) hb); have n1_ := Aside0.mk (Kd.R_mono (Kd.R_told (Kd.R_told (Kd.R_old (by (with_reducible repeat (first | apply Kd.R_alloc | apply Kd.R_drewN | apply Kd.R_drew)); exact HO657.out) hb) (Kd.R_base ho0)) (Kd.R_base ho1)) (fun _ h_ => h_.1)); have n2_ := Aside0.mk (Kd.R_elder' (by (with_reducible repeat (first | apply Kd.R_alloc | apply Kd.R_drewN | apply Kd.R_drew)); exact HO660.out) (Kd.R_base ho0) hb); have n3_ := Aside0.mk (Kd.R_lower (Kd.R_new' (Kd.R_new' ho0 (Kd.R_lt (by (with_reducible repeat (first | apply Kd.R_alloc | apply Kd.R_drewN | apply Kd.R_drew)); exact HO653.out))) (Kd.R_lt (by (with_reducible repeat (first | apply Kd.R_alloc | apply Kd.R_drewN | apply Kd.R_drew)); exact HO660.out))) (below_size (by repeat (first | (with_reducible first | exact HB.out | apply below_alloc | apply pw_below_drewN | apply below_drew1 | refine below_set ?_ GE647.out) | exact HB.out)))); have n4_ := Aside0.mk (Kd.R_lower (Kd.R_new' (Kd.R_new' (Kd.R_new' ho1 (Kd.R_lt (by (with_reducible repeat (first | apply Kd.R_alloc | apply Kd.R_drewN | apply Kd.R_drew)); exact HO653.out))) (Kd.R_lt (by (with_reducible repeat (first | apply Kd.R_alloc | apply Kd.R_drewN | apply Kd.R_drew)); exact HO657.out))) (Kd.R_lt (by (with_reducible repeat (first | apply Kd.R_alloc | apply Kd.R_drewN | apply Kd.R_drew)); exact HO660.out))) (below_size (by repeat (first | (with_reducible first | exact HB.out | apply below_alloc | apply pw_below_drewN | apply below_drew1 | refine below_set ?_ GE647.out) | exact HB.out)))); have n5_ := Aside0.mk (blk_below (g := gb647) (o := .cells #[.string a0_0, .int .i64 a0_1, .slice A0_2 l0_2.length c0_2, .int .i64 a0_3, .slice A0_4 l0_4.length c0_4] 25 (0, 0)) (by (with_reducible repeat (first | refine blk_drewN ?_ _ | refine blk_drew ?_ | refine blk_alloc ?_ _)); exact BK647.out) hb); have n6_ := Aside0.mk (below_step (by repeat (first | (with_reducible first | exact HB.out | apply below_alloc | apply pw_below_drewN | apply below_drew1 | refine below_set ?_ GE647.out) | exact HB.out)) hb); clear HO653; clear HO657; clear HO660; clear BK647; clear HB; have HO653 := n0_; have HO657 := n1_; have HO660 := n2_; have HO665 := n3_; have HO669 := n4_; have BK647 := n5_; have HB := n6_; clear n0_ n1_ n2_ n3_ n4_ n5_ n6_; (try clear hb); (try clear hb2); (try clear hk); (try clear hi); (try clear ho0); (try clear ho1)) | ((with_reducible refine gate_dst (N := 5) rfl ?_); refine box_event ?hg (N := 5) ?hd (cs := #[.string (⟨#[]⟩ : ByteArray), .int .i64 0, .slice none 0 0, .int .i64 0, .slice none 0 0]) (t := 30) ?hr ?_; (case hd => rfl); (case hg => rfl); (case hr => first | (go_simp; done) | (go_simp; rfl)); intro gb670 hg w28 hbox hb; have n0_ := Aside0.mk (Kd.R_below (by (with_reducible repeat (first | apply Kd.R_alloc | apply Kd.R_drewN | apply Kd.R_drew)); exact HO653.out) hb); have n1_ := Aside0.mk (Kd.R_below (by (with_reducible repeat (first | apply Kd.R_alloc | apply Kd.R_drewN | apply Kd.R_drew)); exact HO657.out) hb); have n2_ := Aside0.mk (Kd.R_below (by (with_reducible repeat (first | apply Kd.R_alloc | apply Kd.R_drewN | apply Kd.R_drew)); exact HO660.out) hb); have n3_ := Aside0.mk (Kd.R_below (by (with_reducible repeat (first | apply Kd.R_alloc | apply Kd.R_drewN | apply Kd.R_drew)); exact HO665.out) hb); have n4_ := Aside0.mk (Kd.R_below (by (with_reducible repeat (first | apply Kd.R_alloc | apply Kd.R_drewN | apply Kd.R_drew)); exact HO669.out) hb); have n5_ := Aside0.mk (blk_below (g := gb647) (o := .cells #[.string a0_0, .int .i64 a0_1, .slice A0_2 l0_2.length c0_2, .int .i64 a0_3, .slice A0_4 l0_4.length c0_4] 25 (0, 0)) (by (with_reducible repeat (first | refine blk_drewN ?_ _ | refine blk_drew ?_ | refine blk_alloc ?_ _)); exact BK647.out) hb); have n6_ := Aside0.mk (below_step (by repeat (first | (with_reducible first | exact HB.out | apply below_alloc | apply pw_below_drewN | apply below_drew1 | refine below_set ?_ GE647.out) | exact HB.out)) hb); have n7_ := Aside0.mk (hbox); have n8_ := Aside0.mk ((by rw [hg]; exact (below_size (by repeat (first | (with_reducible first | exact HB.out | apply below_alloc | apply pw_below_drewN | apply below_drew1 | refine below_set ?_ GE647.out) | exact HB.out))) : w.heap.size ≤ gb670)); have n9_ := Aside0.mk ((by rw [hg]; exact (below_size (by repeat (first | (with_reducible first | exact HB.out | apply below_alloc | apply pw_below_drewN | apply below_drew1 | refine below_set ?_ GE647.out) | exact HB.out))) : w.heap.size ≤ gb670)); have n10_ := Aside0.mk ((by rw [hg]; exact Nat.ne_of_lt (blk_lt (g := gb647) (o := .cells #[.string a0_0, .int .i64 a0_1, .slice A0_2 l0_2.length c0_2, .int .i64 a0_3, .slice A0_4 l0_4.length c0_4] 25 (0, 0)) (by (with_reducible repeat (first | refine blk_drewN ?_ _ | refine blk_drew ?_ | refine blk_alloc ?_ _)); exact BK647.out)) : gb647 ≠ gb670)); have n11_ := Aside0.mk ((by rw [hg]; exact Nat.ne_of_gt (blk_lt (g := gb647) (o := .cells #[.string a0_0, .int .i64 a0_1, .slice A0_2 l0_2.length c0_2, .int .i64 a0_3, .slice A0_4 l0_4.length c0_4] 25 (0, 0)) (by (with_reducible repeat (first | refine blk_drewN ?_ _ | refine blk_drew ?_ | refine blk_alloc ?_ _)); exact BK647.out)) : gb670 ≠ gb647)); clear HO653; clear HO657; clear HO660; clear HO665; clear HO669; clear BK647; clear HB; have HO653 := n0_; have HO657 := n1_; have HO660 := n2_; have HO665 := n3_; have HO669 := n4_; have BK647 := n5_; have HB := n6_; have BK670 := n7_; have GW670 := n8_; have GE670 := n9_; have NB647_670 := n10_; have NB670_647 := n11_; clear n0_ n1_ n2_ n3_ n4_ n5_ n6_ n7_ n8_ n9_ n10_ n11_; clear hb hbox hg; have hnb29 := NB670_647.out; have hnc29 := NB647_670.out; have hcz30_0 : w28.cell? ⟨gb670, 0, none⟩ = some (.string (⟨#[]⟩ : ByteArray)) := (blk_cell BK670.out 0).trans rfl; have hcz30_1 : w28.cell? ⟨gb670, 1, none⟩ = some (.int .i64 0) := (blk_cell BK670.out 1).trans rfl; have hcz30_2 : w28.cell? ⟨gb670, 2, none⟩ = some (.slice none 0 0) := (blk_cell BK670.out 2).trans rfl; have hcz30_3 : w28.cell? ⟨gb670, 3, none⟩ = some (.int .i64 0) := (blk_cell BK670.out 3).trans rfl; have hcz30_4 : w28.cell? ⟨gb670, 4, none⟩ = some (.slice none 0 0) := (blk_cell BK670.out 4).trans rfl; have hfz30_0 := blk_frozen BK670.out 0; have hfz30_1 := blk_frozen BK670.out 1; have hfz30_2 := blk_frozen BK670.out 2; have hfz30_3 := blk_frozen BK670.out 3; have hfz30_4 := blk_frozen BK670.out 4; obtain ⟨Ao31, co31, eo31⟩ := Kd.R_slice HO665.out; subst eo31; obtain ⟨Ao32, co32, eo32⟩ := Kd.R_slice HO669.out; subst eo32) | ((with_reducible refine gate_callee (f := 31) rfl ?_); refine goesL_ (some 22) rfl rfl Try.func31 (by kernel_rfl) rfl #[.agg #[.string t661, .int .i64 t662, .slice Ao31 t663.length co31, .int .i64 t666, .slice Ao32 t667.length co32]] rfl (by (try simp only [List.map_toArray, List.map_cons, List.map_nil]); first | done | rfl | (simp only [List.length_drop, List.length_take]; rfl)) ?_; (with_reducible refine (impl_Order.calls k t661 t662 _ _ t663 t666 _ _ t667 t671 _ ?side1 ?side2 ?side3 ?side4 A10.out).mono ?_); (case side1 => refine (Kd.R_reads' (e := 2) (base := w.heap.size) (ok := fun k_ => ((True ∧ some k_ ≠ (.slice Ao23 t651.length co23 : Value).ownBlock) ∧ some k_ ≠ (v659 : Value).ownBlock)) (n := t663.length) (c := co31) ?_).2.2; exact (by (with_reducible repeat (first | apply Kd.R_alloc | apply Kd.R_drewN | apply Kd.R_drew)); exact (Kd.R_mono (Kd.R_far (p := ⟨gb670, 4, none⟩) (Kd.R_far (p := ⟨gb670, 3, none⟩) (Kd.R_far (p := ⟨gb670, 2, none⟩) (Kd.R_far (p := ⟨gb670, 1, none⟩) (Kd.R_far (p := ⟨gb670, 0, none⟩) (Kd.R_types HO665.out BK670.out (by decide)) (fun _ hk => hk.2) (.string t661)) (fun _ hk => hk.2) (.int .i64 t662)) (fun _ hk => hk.2) (.slice Ao31 t663.length co31)) (fun _ hk => hk.2) (.int .i64 t666)) (fun _ hk => hk.2) (.slice Ao32 t667.length co32)) (fun _ h_ => h_.1)))); (case side2 => exact (Kd.R_reads' HO665.out).2.1); (case side3 => refine (Kd.R_reads' (e := 62) (base := w.heap.size) (ok := fun k_ => (((some k_ ≠ (.slice Ao31 t663.length co31 : Value).ownBlock ∧ some k_ ≠ (.slice Ao23 t651.length co23 : Value).ownBlock) ∧ some k_ ≠ (.slice Ao24 t655.length co24 : Value).ownBlock) ∧ some k_ ≠ (v659 : Value).ownBlock)) (n := t667.length) (c := co32) ?_).2.2; exact (by (with_reducible repeat (first | apply Kd.R_alloc | apply Kd.R_drewN | apply Kd.R_drew)); exact (Kd.R_mono (Kd.R_far (p := ⟨gb670, 4, none⟩) (Kd.R_far (p := ⟨gb670, 3, none⟩) (Kd.R_far (p := ⟨gb670, 2, none⟩) (Kd.R_far (p := ⟨gb670, 1, none⟩) (Kd.R_far (p := ⟨gb670, 0, none⟩) (Kd.R_types HO669.out BK670.out (by decide)) (fun _ hk => hk.2) (.string t661)) (fun _ hk => hk.2) (.int .i64 t662)) (fun _ hk => hk.2) (.slice Ao31 t663.length co31)) (fun _ hk => hk.2) (.int .i64 t666)) (fun _ hk => hk.2) (.slice Ao32 t667.length co32)) (fun _ h_ => h_.1)))); (case side4 => exact (Kd.R_reads' HO669.out).2.1); rintro e w33 ⟨v672, rfl, ho0, hb⟩; refine ⟨_, rfl, ?_⟩; have n0_ := Aside0.mk (Kd.R_elder' (by (with_reducible repeat (first | apply Kd.R_alloc | apply Kd.R_drewN | apply Kd.R_drew)); exact (Kd.R_mono (Kd.R_far (p := ⟨gb670, 4, none⟩) (Kd.R_far (p := ⟨gb670, 3, none⟩) (Kd.R_far (p := ⟨gb670, 2, none⟩) (Kd.R_far (p := ⟨gb670, 1, none⟩) (Kd.R_far (p := ⟨gb670, 0, none⟩) (Kd.R_types HO653.out BK670.out (by decide)) (fun _ hk => hk.2) (.string t661)) (fun _ hk => hk.2) (.int .i64 t662)) (fun _ hk => hk.2) (.slice Ao31 t663.length co31)) (fun _ hk => hk.2) (.int .i64 t666)) (fun _ hk => hk.2) (.slice Ao32 t667.length co32)) (fun _ h_ => h_.1))) (Kd.R_base ho0) hb); have n1_ := Aside0.mk (Kd.R_elder' (by (with_reducible repeat (first | apply Kd.R_alloc | apply Kd.R_drewN | apply Kd.R_drew)); exact (Kd.R_mono (Kd.R_far (p := ⟨gb670, 4, none⟩) (Kd.R_far (p := ⟨gb670, 3, none⟩) (Kd.R_far (p := ⟨gb670, 2, none⟩) (Kd.R_far (p := ⟨gb670, 1, none⟩) (Kd.R_far (p := ⟨gb670, 0, none⟩) (Kd.R_types HO657.out BK670.out (by decide)) (fun _ hk => hk.2) (.string t661)) (fun _ hk => hk.2) (.int .i64 t662)) (fun _ hk => hk.2) (.slice Ao31 t663.length co31)) (fun _ hk => hk.2) (.int .i64 t666)) (fun _ hk => hk.2) (.slice Ao32 t667.length co32)) (fun _ h_ => h_.1))) (Kd.R_base ho0) hb); have n2_ := Aside0.mk (Kd.R_elder' (by (with_reducible repeat (first | apply Kd.R_alloc | apply Kd.R_drewN | apply Kd.R_drew)); exact (Kd.R_mono (Kd.R_far (p := ⟨gb670, 4, none⟩) (Kd.R_far (p := ⟨gb670, 3, none⟩) (Kd.R_far (p := ⟨gb670, 2, none⟩) (Kd.R_far (p := ⟨gb670, 1, none⟩) (Kd.R_far (p := ⟨gb670, 0, none⟩) (Kd.R_types HO660.out BK670.out (by decide)) (fun _ hk => hk.2) (.string t661)) (fun _ hk => hk.2) (.int .i64 t662)) (fun _ hk => hk.2) (.slice Ao31 t663.length co31)) (fun _ hk => hk.2) (.int .i64 t666)) (fun _ hk => hk.2) (.slice Ao32 t667.length co32)) (fun _ h_ => h_.1))) (Kd.R_base ho0) hb); have n3_ := Aside0.mk (Kd.R_elder' (by (with_reducible repeat (first | apply Kd.R_alloc | apply Kd.R_drewN | apply Kd.R_drew)); exact (Kd.R_mono (Kd.R_far (p := ⟨gb670, 4, none⟩) (Kd.R_far (p := ⟨gb670, 3, none⟩) (Kd.R_far (p := ⟨gb670, 2, none⟩) (Kd.R_far (p := ⟨gb670, 1, none⟩) (Kd.R_far (p := ⟨gb670, 0, none⟩) (Kd.R_types HO665.out BK670.out (by decide)) (fun _ hk => hk.2) (.string t661)) (fun _ hk => hk.2) (.int .i64 t662)) (fun _ hk => hk.2) (.slice Ao31 t663.length co31)) (fun _ hk => hk.2) (.int .i64 t666)) (fun _ hk => hk.2) (.slice Ao32 t667.length co32)) (fun _ h_ => h_.1))) (Kd.R_base ho0) hb); have n4_ := Aside0.mk (Kd.R_elder' (by (with_reducible repeat (first | apply Kd.R_alloc | apply Kd.R_drewN | apply Kd.R_drew)); exact (Kd.R_mono (Kd.R_far (p := ⟨gb670, 4, none⟩) (Kd.R_far (p := ⟨gb670, 3, none⟩) (Kd.R_far (p := ⟨gb670, 2, none⟩) (Kd.R_far (p := ⟨gb670, 1, none⟩) (Kd.R_far (p := ⟨gb670, 0, none⟩) (Kd.R_types HO669.out BK670.out (by decide)) (fun _ hk => hk.2) (.string t661)) (fun _ hk => hk.2) (.int .i64 t662)) (fun _ hk => hk.2) (.slice Ao31 t663.length co31)) (fun _ hk => hk.2) (.int .i64 t666)) (fun _ hk => hk.2) (.slice Ao32 t667.length co32)) (fun _ h_ => h_.1))) (Kd.R_base ho0) hb); have n5_ := Aside0.mk (Kd.R_lower (Kd.R_new' (Kd.R_new' (Kd.R_new' ho0 (Kd.R_lt (by (with_reducible repeat (first | apply Kd.R_alloc | apply Kd.R_drewN | apply Kd.R_drew)); exact (Kd.R_mono (Kd.R_far (p := ⟨gb670, 4, none⟩) (Kd.R_far (p := ⟨gb670, 3, none⟩) (Kd.R_far (p := ⟨gb670, 2, none⟩) (Kd.R_far (p := ⟨gb670, 1, none⟩) (Kd.R_far (p := ⟨gb670, 0, none⟩) (Kd.R_types HO653.out BK670.out (by decide)) (fun _ hk => hk.2) (.string t661)) (fun _ hk => hk.2) (.int .i64 t662)) (fun _ hk => hk.2) (.slice Ao31 t663.length co31)) (fun _ hk => hk.2) (.int .i64 t666)) (fun _ hk => hk.2) (.slice Ao32 t667.length co32)) (fun _ h_ => h_.1))))) (Kd.R_lt (by (with_reducible repeat (first | apply Kd.R_alloc | apply Kd.R_drewN | apply Kd.R_drew)); exact (Kd.R_mono (Kd.R_far (p := ⟨gb670, 4, none⟩) (Kd.R_far (p := ⟨gb670, 3, none⟩) (Kd.R_far (p := ⟨gb670, 2, none⟩) (Kd.R_far (p := ⟨gb670, 1, none⟩) (Kd.R_far (p := ⟨gb670, 0, none⟩) (Kd.R_types HO660.out BK670.out (by decide)) (fun _ hk => hk.2) (.string t661)) (fun _ hk => hk.2) (.int .i64 t662)) (fun _ hk => hk.2) (.slice Ao31 t663.length co31)) (fun _ hk => hk.2) (.int .i64 t666)) (fun _ hk => hk.2) (.slice Ao32 t667.length co32)) (fun _ h_ => h_.1))))) (Kd.R_lt (by (with_reducible repeat (first | apply Kd.R_alloc | apply Kd.R_drewN | apply Kd.R_drew)); exact (Kd.R_mono (Kd.R_far (p := ⟨gb670, 4, none⟩) (Kd.R_far (p := ⟨gb670, 3, none⟩) (Kd.R_far (p := ⟨gb670, 2, none⟩) (Kd.R_far (p := ⟨gb670, 1, none⟩) (Kd.R_far (p := ⟨gb670, 0, none⟩) (Kd.R_types HO665.out BK670.out (by decide)) (fun _ hk => hk.2) (.string t661)) (fun _ hk => hk.2) (.int .i64 t662)) (fun _ hk => hk.2) (.slice Ao31 t663.length co31)) (fun _ hk => hk.2) (.int .i64 t666)) (fun _ hk => hk.2) (.slice Ao32 t667.length co32)) (fun _ h_ => h_.1))))) (below_size (by repeat (first | (with_reducible first | exact HB.out | apply below_alloc | apply pw_below_drewN | apply below_drew1 | refine below_set ?_ GE647.out | refine below_set ?_ GE670.out) | exact HB.out)))); have n6_ := Aside0.mk (blk_below (g := gb647) (o := .cells #[.string a0_0, .int .i64 a0_1, .slice A0_2 l0_2.length c0_2, .int .i64 a0_3, .slice A0_4 l0_4.length c0_4] 25 (0, 0)) (by (with_reducible repeat (first | refine blk_drewN ?_ _ | refine blk_drew ?_ | refine blk_alloc ?_ _)); refine blk_far ?_ NB647_670.out _; (with_reducible repeat (first | refine blk_drewN ?_ _ | refine blk_drew ?_ | refine blk_alloc ?_ _)); refine blk_far ?_ NB647_670.out _; (with_reducible repeat (first | refine blk_drewN ?_ _ | refine blk_drew ?_ | refine blk_alloc ?_ _)); refine blk_far ?_ NB647_670.out _; (with_reducible repeat (first | refine blk_drewN ?_ _ | refine blk_drew ?_ | refine blk_alloc ?_ _)); refine blk_far ?_ NB647_670.out _; (with_reducible repeat (first | refine blk_drewN ?_ _ | refine blk_drew ?_ | refine blk_alloc ?_ _)); refine blk_far ?_ NB647_670.out _; (with_reducible repeat (first | refine blk_drewN ?_ _ | refine blk_drew ?_ | refine blk_alloc ?_ _)); exact BK647.out) hb); have n7_ := Aside0.mk (blk_below (g := gb670) (o := .cells #[.string t661, .int .i64 t662, .slice Ao31 t663.length co31, .int .i64 t666, .slice Ao32 t667.length co32] 30 (0, 0)) (by (with_reducible repeat (first | refine blk_drewN ?_ _ | refine blk_drew ?_ | refine blk_alloc ?_ _)); refine blk_put (cs := #[.string t661, .int .i64 t662, .slice Ao31 t663.length co31, .int .i64 t666, .slice none 0 0]) ?_ 4 _ rfl; (with_reducible repeat (first | refine blk_drewN ?_ _ | refine blk_drew ?_ | refine blk_alloc ?_ _)); refine blk_put (cs := #[.string t661, .int .i64 t662, .slice Ao31 t663.length co31, .int .i64 0, .slice none 0 0]) ?_ 3 _ rfl; (with_reducible repeat (first | refine blk_drewN ?_ _ | refine blk_drew ?_ | refine blk_alloc ?_ _)); refine blk_put (cs := #[.string t661, .int .i64 t662, .slice none 0 0, .int .i64 0, .slice none 0 0]) ?_ 2 _ rfl; (with_reducible repeat (first | refine blk_drewN ?_ _ | refine blk_drew ?_ | refine blk_alloc ?_ _)); refine blk_put (cs := #[.string t661, .int .i64 0, .slice none 0 0, .int .i64 0, .slice none 0 0]) ?_ 1 _ rfl; (with_reducible repeat (first | refine blk_drewN ?_ _ | refine blk_drew ?_ | refine blk_alloc ?_ _)); refine blk_put (cs := #[.string (⟨#[]⟩ : ByteArray), .int .i64 0, .slice none 0 0, .int .i64 0, .slice none 0 0]) ?_ 0 _ rfl; (with_reducible repeat (first | refine blk_drewN ?_ _ | refine blk_drew ?_ | refine blk_alloc ?_ _)); exact BK670.out) hb); have n8_ := Aside0.mk (below_step (by repeat (first | (with_reducible first | exact HB.out | apply below_alloc | apply pw_below_drewN | apply below_drew1 | refine below_set ?_ GE647.out | refine below_set ?_ GE670.out) | exact HB.out)) hb); clear HO653; clear HO657; clear HO660; clear HO665; clear HO669; clear BK647; clear BK670; clear HB; have HO653 := n0_; have HO657 := n1_; have HO660 := n2_; have HO665 := n3_; have HO669 := n4_; have HO673 := n5_; have BK647 := n6_; have BK670 := n7_; have HB := n8_; clear n0_ n1_ n2_ n3_ n4_ n5_ n6_ n7_ n8_; (try clear hb); (try clear hb2); (try clear hk); (try clear hi); (try clear ho0); obtain ⟨Ao34, co34, eo34⟩ := Kd.R_slice HO673.out; subst eo34; obtain ⟨Ao35, co35, eo35⟩ := Kd.R_slice HO660.out; subst eo35) | ((with_reducible refine gate_callee (f := 19) rfl ?_); refine goesL_ (some 25) rfl rfl Try.func19 (by kernel_rfl) rfl #[.slice Ao34 t671.length co34, .slice Ao35 t658.length co35] rfl (by (try simp only [List.map_toArray, List.map_cons, List.map_nil]); first | done | rfl | (simp only [List.length_drop, List.length_take]; rfl)) ?_; (with_reducible refine (laws_eqInt64S.calls k _ _ t671 _ _ t658 true _ ?side1 ?side2 ?side3 ?side4 A11.out).mono ?_); (case side1 => repeat (first | exact (Kd.R_reads' HO673.out).2.2 | (with_reducible refine Kd.C_alloc ?_ _) | (with_reducible refine Kd.C_drewN ?_ _) | (with_reducible refine Kd.C_drew ?_))); (case side2 => exact (Kd.R_reads' HO673.out).2.1); (case side3 => repeat (first | exact (Kd.R_reads' HO660.out).2.2 | (with_reducible refine Kd.C_alloc ?_ _) | (with_reducible refine Kd.C_drewN ?_ _) | (with_reducible refine Kd.C_drew ?_))); (case side4 => exact (Kd.R_reads' HO660.out).2.1); rintro e w' ⟨rfl, ⟨nd, rfl⟩⟩; refine ⟨_, rfl, ?_⟩))
       (try (rw [drewN_self w33]; generalize hq_ : World.drewN w33 _ = w33; have n0_ : Aside0 (Kd.R (Kd.int .i64) 2 w33 w.heap.size (fun k_ => (((True ∧ some k_ ≠ (.slice Ao35 t658.length co35 : Value).ownBlock) ∧ some k_ ≠ (.slice Ao31 t663.length co31 : Value).ownBlock) ∧ some k_ ≠ (.slice Ao34 t671.length co34 : Value).ownBlock)) (.slice Ao23 t651.length co23) t651) := ⟨by rw [← hq_]; exact (by (with_reducible repeat (first | apply Kd.R_alloc | apply Kd.R_drewN | apply Kd.R_drew)); exact HO653.out)⟩; have n1_ : Aside0 (Kd.R k62 62 w33 w.heap.size (fun k_ => ((((some k_ ≠ (.slice Ao23 t651.length co23 : Value).ownBlock ∧ some k_ ≠ (.slice Ao35 t658.length co35 : Value).ownBlock) ∧ some k_ ≠ (.slice Ao31 t663.length co31 : Value).ownBlock) ∧ some k_ ≠ (.slice Ao32 t667.length co32 : Value).ownBlock) ∧ some k_ ≠ (.slice Ao34 t671.length co34 : Value).ownBlock)) (.slice Ao24 t655.length co24) t655) := ⟨by rw [← hq_]; exact (by (with_reducible repeat (first | apply Kd.R_alloc | apply Kd.R_drewN | apply Kd.R_drew)); exact HO657.out)⟩; have n2_ : Aside0 (Kd.R (Kd.int .i64) 2 w33 w.heap.size (fun k_ => (((True ∧ some k_ ≠ (.slice Ao23 t651.length co23 : Value).ownBlock) ∧ some k_ ≠ (.slice Ao31 t663.length co31 : Value).ownBlock) ∧ some k_ ≠ (.slice Ao34 t671.length co34 : Value).ownBlock)) (.slice Ao35 t658.length co35) t658) := ⟨by rw [← hq_]; exact (by (with_reducible repeat (first | apply Kd.R_alloc | apply Kd.R_drewN | apply Kd.R_drew)); exact HO660.out)⟩; have n3_ : Aside0 (Kd.R (Kd.int .i64) 2 w33 w.heap.size (fun k_ => (((True ∧ some k_ ≠ (.slice Ao23 t651.length co23 : Value).ownBlock) ∧ some k_ ≠ (.slice Ao35 t658.length co35 : Value).ownBlock) ∧ some k_ ≠ (.slice Ao34 t671.length co34 : Value).ownBlock)) (.slice Ao31 t663.length co31) t663) := ⟨by rw [← hq_]; exact (by (with_reducible repeat (first | apply Kd.R_alloc | apply Kd.R_drewN | apply Kd.R_drew)); exact HO665.out)⟩; have n4_ : Aside0 (Kd.R k62 62 w33 w.heap.size (fun k_ => ((((some k_ ≠ (.slice Ao31 t663.length co31 : Value).ownBlock ∧ some k_ ≠ (.slice Ao23 t651.length co23 : Value).ownBlock) ∧ some k_ ≠ (.slice Ao24 t655.length co24 : Value).ownBlock) ∧ some k_ ≠ (.slice Ao35 t658.length co35 : Value).ownBlock) ∧ some k_ ≠ (.slice Ao34 t671.length co34 : Value).ownBlock)) (.slice Ao32 t667.length co32) t667) := ⟨by rw [← hq_]; exact (by (with_reducible repeat (first | apply Kd.R_alloc | apply Kd.R_drewN | apply Kd.R_drew)); exact HO669.out)⟩; have n5_ : Aside0 (Kd.R (Kd.int .i64) 2 w33 w.heap.size (fun k_ => (((True ∧ some k_ ≠ (.slice Ao23 t651.length co23 : Value).ownBlock) ∧ some k_ ≠ (.slice Ao35 t658.length co35 : Value).ownBlock) ∧ some k_ ≠ (.slice Ao31 t663.length co31 : Value).ownBlock)) (.slice Ao34 t671.length co34) t671) := ⟨by rw [← hq_]; exact (by (with_reducible repeat (first | apply Kd.R_alloc | apply Kd.R_drewN | apply Kd.R_drew)); exact HO673.out)⟩; have n6_ : Aside0 (w33.heap[gb647]? = some (.cells #[.string a0_0, .int .i64 a0_1, .slice A0_2 l0_2.length c0_2, .int .i64 a0_3, .slice A0_4 l0_4.length c0_4] 25 (0, 0))) := ⟨by rw [← hq_]; exact (by (with_reducible repeat (first | refine blk_drewN ?_ _ | refine blk_drew ?_ | refine blk_alloc ?_ _)); exact BK647.out)⟩; have n7_ : Aside0 (w33.heap[gb670]? = some (.cells #[.string t661, .int .i64 t662, .slice Ao31 t663.length co31, .int .i64 t666, .slice Ao32 t667.length co32] 30 (0, 0))) := ⟨by rw [← hq_]; exact (by (with_reducible repeat (first | refine blk_drewN ?_ _ | refine blk_drew ?_ | refine blk_alloc ?_ _)); exact BK670.out)⟩; have n8_ : Aside0 (Below w.heap.size w w33) := ⟨by rw [← hq_]; exact (by repeat (first | (with_reducible first | exact HB.out | apply below_alloc | apply pw_below_drewN | apply below_drew1 | refine below_set ?_ GE647.out | refine below_set ?_ GE670.out) | exact HB.out))⟩; clear HO653 HO657 HO660 HO665 HO669 HO673 BK647 BK670 HB hq_; have HO653 := n0_; have HO657 := n1_; have HO660 := n2_; have HO665 := n3_; have HO669 := n4_; have HO673 := n5_; have BK647 := n6_; have BK670 := n7_; have HB := n8_; clear n0_ n1_ n2_ n3_ n4_ n5_ n6_ n7_ n8_))
       have n0_ := Aside0.mk (Kd.R_drew HO653.out)
       have n1_ := Aside0.mk (Kd.R_drew HO657.out)
       have n2_ := Aside0.mk (Kd.R_drew HO660.out)
       have n3_ := Aside0.mk (Kd.R_drew HO665.out)
       have n4_ := Aside0.mk (Kd.R_drew HO669.out)
       have n5_ := Aside0.mk (Kd.R_drew HO673.out)
       have n6_ := Aside0.mk (blk_drew BK647.out)
       have n7_ := Aside0.mk (blk_drew BK670.out)
       have n8_ := Aside0.mk (below_drew1 HB.out)
       clear HO653
       clear HO657
       clear HO660
       clear HO665
       clear HO669
       clear HO673
       clear BK647
       clear BK670
       clear HB
       have HO653 := n0_
       have HO657 := n1_
       have HO660 := n2_
       have HO665 := n3_
       have HO669 := n4_
       have HO673 := n5_
       have BK647 := n6_
       have BK670 := n7_
       have HB := n8_
       clear n0_ n1_ n2_ n3_ n4_ n5_ n6_ n7_ n8_
       refine start_ (n := 5) (S := fun w' => w'.cell? ⟨gb670, 0, none⟩ = some (.string t661) ∧ w'.cell? ⟨gb670, 1, none⟩ = some (.int .i64 t662) ∧ w'.cell? ⟨gb670, 2, none⟩ = some (.slice Ao31 t663.length co31) ∧ w'.cell? ⟨gb670, 3, none⟩ = some (.int .i64 t666) ∧ w'.cell? ⟨gb670, 4, none⟩ = some (.slice Ao32 t667.length co32) ∧ w'.cell? ⟨gb647, 0, none⟩ = some (.string a0_0) ∧ w'.cell? ⟨gb647, 1, none⟩ = some (.int .i64 a0_1) ∧ w'.cell? ⟨gb647, 2, none⟩ = some (.slice A0_2 l0_2.length c0_2) ∧ w'.cell? ⟨gb647, 3, none⟩ = some (.int .i64 a0_3) ∧ w'.cell? ⟨gb647, 4, none⟩ = some (.slice A0_4 l0_4.length c0_4)) (ds := []) #[false, false, false, false, false] (by kernel_rfl) rfl rfl ⟨(blk_cell BK670.out 0).trans rfl, (blk_cell BK670.out 1).trans rfl, (blk_cell BK670.out 2).trans rfl, (blk_cell BK670.out 3).trans rfl, (blk_cell BK670.out 4).trans rfl, (blk_cell BK647.out 0).trans rfl, (blk_cell BK647.out 1).trans rfl, (blk_cell BK647.out 2).trans rfl, (blk_cell BK647.out 3).trans rfl, (blk_cell BK647.out 4).trans rfl⟩ (fun hHeld => ?_)
       generalize w33.drew = w36 at HO653 HO657 HO660 HO665 HO669 HO673 BK647 BK670 HB hHeld ⊢
       refine take_ (i := 0) (N := some 27) (v := ?_) (a' := ?_) #[true, false, false, false, false] rfl rfl (by kernel_rfl) (fun _ _ _ h => h) (Or.inl ⟨by rfl, ?_⟩) hHeld ?_ ?_
       rotate_left
       · rintro w' ⟨s0, s1, s2, s3, s4, s5, s6, s7, s8, s9⟩
         go_simp
         with_reducible rfl
       rotate_left
       · simp only [Act.put, List.setIfInBounds_toArray, List.set_cons_zero, List.set_cons_succ, i64_w, i32_w]
         rfl
       refine take_ (i := 1) (N := some 28) (v := ?_) (a' := ?_) #[true, true, false, false, false] rfl rfl (by kernel_rfl) (fun _ _ _ h => h) (Or.inl ⟨by rfl, ?_⟩) hHeld ?_ ?_
       rotate_left
       · rintro w' ⟨s0, s1, s2, s3, s4, s5, s6, s7, s8, s9⟩
         go_simp
         with_reducible rfl
       rotate_left
       · simp only [Act.put, List.setIfInBounds_toArray, List.set_cons_zero, List.set_cons_succ, i64_w, i32_w]
         rfl
       refine one_ (i := 2) (N := some 29) #[true, true, true, false, false] rfl rfl (by kernel_rfl) (by decide) (fun K hK => ?_)
       refine goes_ Try.func14 (by kernel_rfl) rfl #[.agg #[.string a0_0, .int .i64 a0_1, .slice A0_2 l0_2.length c0_2, .int .i64 a0_3, .slice A0_4 l0_4.length c0_4]] (by rfl) rfl rfl (by (try simp only [List.map_toArray, List.map_cons, List.map_nil]); first | done | rfl | (simp only [List.length_drop, List.length_take]; rfl)) ?_
       with_reducible refine (laws_toFunc.calls k a0_0 a0_1 _ _ l0_2 a0_3 _ _ l0_4 t675 t676 t677 t680 t681 _ ?side1 ?side2 ?side3 ?side4 A13.out).mono ?_
       (case side1 => repeat (first | exact (Kd.C_below HR0_2.out HB.out) | (with_reducible refine Kd.C_alloc ?_ _) | (with_reducible refine Kd.C_drewN ?_ _) | (with_reducible refine Kd.C_drew ?_)))
       (case side2 => exact HC0_2.out)
       (case side3 => repeat (first | exact (Kd.C_below HR0_4.out HB.out) | (with_reducible refine Kd.C_alloc ?_ _) | (with_reducible refine Kd.C_drewN ?_ _) | (with_reducible refine Kd.C_drew ?_)))
       (case side4 => exact HC0_4.out)
       rintro e w37 ⟨v678, v682, rfl, ho0, ho1, hb⟩
       refine ⟨_, rfl, ?_⟩
       have n0_ := Aside0.mk (Kd.R_elder' (by (with_reducible repeat (first | apply Kd.R_alloc | apply Kd.R_drewN | apply Kd.R_drew)); exact HO653.out) (Kd.R_base ho0) hb)
       have n1_ := Aside0.mk (Kd.R_mono (Kd.R_told (Kd.R_told (Kd.R_old (by (with_reducible repeat (first | apply Kd.R_alloc | apply Kd.R_drewN | apply Kd.R_drew)); exact HO657.out) hb) (Kd.R_base ho0)) (Kd.R_base ho1)) (fun _ h_ => h_.1))
       have n2_ := Aside0.mk (Kd.R_elder' (by (with_reducible repeat (first | apply Kd.R_alloc | apply Kd.R_drewN | apply Kd.R_drew)); exact HO660.out) (Kd.R_base ho0) hb)
       have n3_ := Aside0.mk (Kd.R_elder' (by (with_reducible repeat (first | apply Kd.R_alloc | apply Kd.R_drewN | apply Kd.R_drew)); exact HO665.out) (Kd.R_base ho0) hb)
       have n4_ := Aside0.mk (Kd.R_mono (Kd.R_told (Kd.R_told (Kd.R_old (by (with_reducible repeat (first | apply Kd.R_alloc | apply Kd.R_drewN | apply Kd.R_drew)); exact HO669.out) hb) (Kd.R_base ho0)) (Kd.R_base ho1)) (fun _ h_ => h_.1))
       have n5_ := Aside0.mk (Kd.R_elder' (by (with_reducible repeat (first | apply Kd.R_alloc | apply Kd.R_drewN | apply Kd.R_drew)); exact HO673.out) (Kd.R_base ho0) hb)
       have n6_ := Aside0.mk (Kd.R_lower (Kd.R_new' (Kd.R_new' (Kd.R_new' (Kd.R_new' ho0 (Kd.R_lt (by (with_reducible repeat (first | apply Kd.R_alloc | apply Kd.R_drewN | apply Kd.R_drew)); exact HO653.out))) (Kd.R_lt (by (with_reducible repeat (first | apply Kd.R_alloc | apply Kd.R_drewN | apply Kd.R_drew)); exact HO660.out))) (Kd.R_lt (by (with_reducible repeat (first | apply Kd.R_alloc | apply Kd.R_drewN | apply Kd.R_drew)); exact HO665.out))) (Kd.R_lt (by (with_reducible repeat (first | apply Kd.R_alloc | apply Kd.R_drewN | apply Kd.R_drew)); exact HO673.out))) (below_size (by repeat (first | (with_reducible first | exact HB.out | apply below_alloc | apply pw_below_drewN | apply below_drew1 | refine below_set ?_ GE647.out | refine below_set ?_ GE670.out) | exact HB.out))))
       have n7_ := Aside0.mk (Kd.R_lower (Kd.R_new' (Kd.R_new' (Kd.R_new' (Kd.R_new' (Kd.R_new' (Kd.R_new' ho1 (Kd.R_lt (by (with_reducible repeat (first | apply Kd.R_alloc | apply Kd.R_drewN | apply Kd.R_drew)); exact HO653.out))) (Kd.R_lt (by (with_reducible repeat (first | apply Kd.R_alloc | apply Kd.R_drewN | apply Kd.R_drew)); exact HO657.out))) (Kd.R_lt (by (with_reducible repeat (first | apply Kd.R_alloc | apply Kd.R_drewN | apply Kd.R_drew)); exact HO660.out))) (Kd.R_lt (by (with_reducible repeat (first | apply Kd.R_alloc | apply Kd.R_drewN | apply Kd.R_drew)); exact HO665.out))) (Kd.R_lt (by (with_reducible repeat (first | apply Kd.R_alloc | apply Kd.R_drewN | apply Kd.R_drew)); exact HO669.out))) (Kd.R_lt (by (with_reducible repeat (first | apply Kd.R_alloc | apply Kd.R_drewN | apply Kd.R_drew)); exact HO673.out))) (below_size (by repeat (first | (with_reducible first | exact HB.out | apply below_alloc | apply pw_below_drewN | apply below_drew1 | refine below_set ?_ GE647.out | refine below_set ?_ GE670.out) | exact HB.out))))
       have n8_ := Aside0.mk (blk_below (g := gb647) (o := .cells #[.string a0_0, .int .i64 a0_1, .slice A0_2 l0_2.length c0_2, .int .i64 a0_3, .slice A0_4 l0_4.length c0_4] 25 (0, 0)) (by (with_reducible repeat (first | refine blk_drewN ?_ _ | refine blk_drew ?_ | refine blk_alloc ?_ _)); exact BK647.out) hb)
       have n9_ := Aside0.mk (blk_below (g := gb670) (o := .cells #[.string t661, .int .i64 t662, .slice Ao31 t663.length co31, .int .i64 t666, .slice Ao32 t667.length co32] 30 (0, 0)) (by (with_reducible repeat (first | refine blk_drewN ?_ _ | refine blk_drew ?_ | refine blk_alloc ?_ _)); exact BK670.out) hb)
       have n10_ := Aside0.mk (below_step (by repeat (first | (with_reducible first | exact HB.out | apply below_alloc | apply pw_below_drewN | apply below_drew1 | refine below_set ?_ GE647.out | refine below_set ?_ GE670.out) | exact HB.out)) hb)
       clear HO653
       clear HO657
       clear HO660
       clear HO665
       clear HO669
       clear HO673
       clear BK647
       clear BK670
       clear HB
       have HO653 := n0_
       have HO657 := n1_
       have HO660 := n2_
       have HO665 := n3_
       have HO669 := n4_
       have HO673 := n5_
       have HO679 := n6_
       have HO683 := n7_
       have BK647 := n8_
       have BK670 := n9_
       have HB := n10_
       clear n0_ n1_ n2_ n3_ n4_ n5_ n6_ n7_ n8_ n9_ n10_
       (try clear hb)
       (try clear hb2)
       (try clear hk)
       (try clear hi)
       (try clear ho0)
       (try clear ho1)
       obtain ⟨Ao38, co38, eo38⟩ := Kd.R_slice HO679.out
       (first | subst eo38 | (injection eo38 with f1_ f2_ f3_; have f4_ := f1_.symm; have f5_ := f3_.symm; clear f1_ f2_ f3_; subst f4_; subst f5_))
       obtain ⟨Ao39, co39, eo39⟩ := Kd.R_slice HO683.out
       (first | subst eo39 | (injection eo39 with f1_ f2_ f3_; have f4_ := f1_.symm; have f5_ := f3_.symm; clear f1_ f2_ f3_; subst f4_; subst f5_))
       refine hK.out _ _ ⟨(blk_cell BK670.out 0).trans rfl, (blk_cell BK670.out 1).trans rfl, (blk_cell BK670.out 2).trans rfl, (blk_cell BK670.out 3).trans rfl, (blk_cell BK670.out 4).trans rfl, (blk_cell BK647.out 0).trans rfl, (blk_cell BK647.out 1).trans rfl, (blk_cell BK647.out 2).trans rfl, (blk_cell BK647.out 3).trans rfl, (blk_cell BK647.out 4).trans rfl⟩ (fun hHeld => ?_)
       clear hK K
       refine norm_ (a' := ?_) ?_ ?_
       rotate_left
       · show Act.put _ (some 29) _ = _
         simp only [Act.put, List.setIfInBounds_toArray, List.set_cons_zero, List.set_cons_succ, i64_w, i32_w]
         rfl
       refine one_ (i := 3) (N := some 30) #[true, true, true, true, false] rfl rfl (by kernel_rfl) (by decide) (fun K hK => ?_)
       refine goes_ Try.func16 (by kernel_rfl) rfl #[.agg #[.string t661, .int .i64 t662, .slice Ao31 t663.length co31, .int .i64 t666, .slice Ao32 t667.length co32], .agg #[.string t675, .int .i64 t676, .slice Ao38 t677.length co38, .int .i64 t680, .slice Ao39 t681.length co39]] (by rfl) rfl rfl (by (try simp only [List.map_toArray, List.map_cons, List.map_nil]); first | done | rfl | (simp only [List.length_drop, List.length_take]; rfl)) ?_
       with_reducible refine (laws_eqFunc.calls k t661 t662 _ _ t663 t666 _ _ t667 t675 t676 _ _ t677 t680 _ _ t681 true _ ?side1 ?side2 ?side3 ?side4 ?side5 ?side6 ?side7 ?side8 A14.out).mono ?_
       (case side1 => repeat (first | exact (Kd.R_reads' HO665.out).2.2 | (with_reducible refine Kd.C_alloc ?_ _) | (with_reducible refine Kd.C_drewN ?_ _) | (with_reducible refine Kd.C_drew ?_)))
       (case side2 => exact (Kd.R_reads' HO665.out).2.1)
       (case side3 => repeat (first | exact (Kd.R_reads' HO669.out).2.2 | (with_reducible refine Kd.C_alloc ?_ _) | (with_reducible refine Kd.C_drewN ?_ _) | (with_reducible refine Kd.C_drew ?_)))
       (case side4 => exact (Kd.R_reads' HO669.out).2.1)
       (case side5 => repeat (first | exact (Kd.R_reads' HO679.out).2.2 | (with_reducible refine Kd.C_alloc ?_ _) | (with_reducible refine Kd.C_drewN ?_ _) | (with_reducible refine Kd.C_drew ?_)))
       (case side6 => exact (Kd.R_reads' HO679.out).2.1)
       (case side7 => repeat (first | exact (Kd.R_reads' HO683.out).2.2 | (with_reducible refine Kd.C_alloc ?_ _) | (with_reducible refine Kd.C_drewN ?_ _) | (with_reducible refine Kd.C_drew ?_)))
       (case side8 => exact (Kd.R_reads' HO683.out).2.1)
       rintro e w40 ⟨rfl, hb⟩
       refine ⟨_, rfl, ?_⟩
       have n0_ := Aside0.mk (Kd.R_below (by (with_reducible repeat (first | apply Kd.R_alloc | apply Kd.R_drewN | apply Kd.R_drew)); exact HO653.out) hb)
       have n1_ := Aside0.mk (Kd.R_below (by (with_reducible repeat (first | apply Kd.R_alloc | apply Kd.R_drewN | apply Kd.R_drew)); exact HO657.out) hb)
       have n2_ := Aside0.mk (Kd.R_below (by (with_reducible repeat (first | apply Kd.R_alloc | apply Kd.R_drewN | apply Kd.R_drew)); exact HO660.out) hb)
       have n3_ := Aside0.mk (Kd.R_below (by (with_reducible repeat (first | apply Kd.R_alloc | apply Kd.R_drewN | apply Kd.R_drew)); exact HO665.out) hb)
       have n4_ := Aside0.mk (Kd.R_below (by (with_reducible repeat (first | apply Kd.R_alloc | apply Kd.R_drewN | apply Kd.R_drew)); exact HO669.out) hb)
       have n5_ := Aside0.mk (Kd.R_below (by (with_reducible repeat (first | apply Kd.R_alloc | apply Kd.R_drewN | apply Kd.R_drew)); exact HO673.out) hb)
       have n6_ := Aside0.mk (Kd.R_below (by (with_reducible repeat (first | apply Kd.R_alloc | apply Kd.R_drewN | apply Kd.R_drew)); exact HO679.out) hb)
       have n7_ := Aside0.mk (Kd.R_below (by (with_reducible repeat (first | apply Kd.R_alloc | apply Kd.R_drewN | apply Kd.R_drew)); exact HO683.out) hb)
       have n8_ := Aside0.mk (blk_below (g := gb647) (o := .cells #[.string a0_0, .int .i64 a0_1, .slice A0_2 l0_2.length c0_2, .int .i64 a0_3, .slice A0_4 l0_4.length c0_4] 25 (0, 0)) (by (with_reducible repeat (first | refine blk_drewN ?_ _ | refine blk_drew ?_ | refine blk_alloc ?_ _)); exact BK647.out) hb)
       have n9_ := Aside0.mk (blk_below (g := gb670) (o := .cells #[.string t661, .int .i64 t662, .slice Ao31 t663.length co31, .int .i64 t666, .slice Ao32 t667.length co32] 30 (0, 0)) (by (with_reducible repeat (first | refine blk_drewN ?_ _ | refine blk_drew ?_ | refine blk_alloc ?_ _)); exact BK670.out) hb)
       have n10_ := Aside0.mk (below_step (by repeat (first | (with_reducible first | exact HB.out | apply below_alloc | apply pw_below_drewN | apply below_drew1 | refine below_set ?_ GE647.out | refine below_set ?_ GE670.out) | exact HB.out)) hb)
       clear HO653
       clear HO657
       clear HO660
       clear HO665
       clear HO669
       clear HO673
       clear HO679
       clear HO683
       clear BK647
       clear BK670
       clear HB
       have HO653 := n0_
       have HO657 := n1_
       have HO660 := n2_
       have HO665 := n3_
       have HO669 := n4_
       have HO673 := n5_
       have HO679 := n6_
       have HO683 := n7_
       have BK647 := n8_
       have BK670 := n9_
       have HB := n10_
       clear n0_ n1_ n2_ n3_ n4_ n5_ n6_ n7_ n8_ n9_ n10_
       (try clear hb)
       (try clear hb2)
       (try clear hk)
       (try clear hi)
       refine hK.out _ _ ⟨(blk_cell BK670.out 0).trans rfl, (blk_cell BK670.out 1).trans rfl, (blk_cell BK670.out 2).trans rfl, (blk_cell BK670.out 3).trans rfl, (blk_cell BK670.out 4).trans rfl, (blk_cell BK647.out 0).trans rfl, (blk_cell BK647.out 1).trans rfl, (blk_cell BK647.out 2).trans rfl, (blk_cell BK647.out 3).trans rfl, (blk_cell BK647.out 4).trans rfl⟩ (fun hHeld => ?_)
       clear hK K
       refine norm_ (a' := ?_) ?_ ?_
       rotate_left
       · show Act.put _ (some 30) _ = _
         simp only [Act.put, List.setIfInBounds_toArray, List.set_cons_zero, List.set_cons_succ, i64_w, i32_w]
         rfl
       refine pure_ (i := 4) (N := some 31) (v := ?_) (a' := ?_) #[true, true, true, true, true] rfl rfl (by kernel_rfl) (fun _ _ _ h => h) (Or.inl ⟨by rfl, ?_⟩) ?_ ?_
       rotate_left
       · intro w'
         go_simp
         with_reducible rfl
       rotate_left
       · simp only [Act.put, List.setIfInBounds_toArray, List.set_cons_zero, List.set_cons_succ, i64_w, i32_w]
         rfl
       refine done_ (by kernel_rfl) ?_
       have hcz41_0 : w40.cell? ⟨gb670, 0, none⟩ = some (.string t661) := (blk_cell BK670.out 0).trans rfl
       have hcz41_1 : w40.cell? ⟨gb670, 1, none⟩ = some (.int .i64 t662) := (blk_cell BK670.out 1).trans rfl
       have hcz41_2 : w40.cell? ⟨gb670, 2, none⟩ = some (.slice Ao31 t663.length co31) := (blk_cell BK670.out 2).trans rfl
       have hcz41_3 : w40.cell? ⟨gb670, 3, none⟩ = some (.int .i64 t666) := (blk_cell BK670.out 3).trans rfl
       have hcz41_4 : w40.cell? ⟨gb670, 4, none⟩ = some (.slice Ao32 t667.length co32) := (blk_cell BK670.out 4).trans rfl
       have hfz41_0 := blk_frozen BK670.out 0
       have hfz41_1 := blk_frozen BK670.out 1
       have hfz41_2 := blk_frozen BK670.out 2
       have hfz41_3 := blk_frozen BK670.out 3
       have hfz41_4 := blk_frozen BK670.out 4
       go_upto_region 14 with (first | ((with_reducible refine gate_callee (f := 20) rfl ?_); refine goesL_ (some 34) rfl rfl Try.func20 (by kernel_rfl) rfl #[.agg #[.string t661, .int .i64 t662, .slice Ao31 t663.length co31, .int .i64 t666, .slice Ao32 t667.length co32], .int .i64 1] rfl (by (try simp only [List.map_toArray, List.map_cons, List.map_nil]); first | done | rfl | (simp only [List.length_drop, List.length_take]; rfl)) ?_; (with_reducible refine (laws_markFunc.calls t661 t662 (fun k_ => some k_ = (.slice Ao31 t663.length co31 : Value).ownBlock) (.slice Ao31 t663.length co31) t663 t666 (fun k_ => ((((((((some k_ ≠ (.slice Ao31 t663.length co31 : Value).ownBlock ∧ some k_ ≠ (.slice Ao23 t651.length co23 : Value).ownBlock) ∧ some k_ ≠ (.slice Ao24 t655.length co24 : Value).ownBlock) ∧ some k_ ≠ (.slice Ao35 t658.length co35 : Value).ownBlock) ∧ some k_ ≠ (.slice Ao34 t671.length co34 : Value).ownBlock) ∧ some k_ ≠ (.slice Ao38 t677.length co38 : Value).ownBlock) ∧ some k_ ≠ (.slice Ao39 t681.length co39 : Value).ownBlock) ∧ k_ ≠ gb647) ∧ k_ ≠ gb670) ∧ w.heap.size ≤ k_) (.slice Ao32 t667.length co32) t667 1 t685 w _ ?side1 ?side2 ?side3 A16.out).mono ?_); (case side1 => repeat (first | (with_reducible first | exact HB.out | apply below_alloc | apply pw_below_drewN | apply below_drew1 | refine below_set ?_ GE647.out | refine below_set ?_ GE670.out) | exact HB.out)); (case side2 => exact Kd.R_tight rfl HO665.out); (case side3 => exact Kd.R_mono (Kd.R_bound (Kd.R_types (Kd.R_types (HO669.out) BK647.out (by decide)) BK670.out (by decide))) (fun _ h_ => ⟨h_.1, h_.2.1⟩)); rintro e w42 ⟨rfl, hb, hkp⟩; refine ⟨_, rfl, ?_⟩; have n0_ := Aside0.mk (blk_kept (by (with_reducible repeat (first | refine blk_drewN ?_ _ | refine blk_drew ?_ | refine blk_alloc ?_ _)); exact BK647.out) hkp (fun hs_ => Or.elim hs_ (fun e_ => (fun e_ => (Kd.R_ne HO665.out BK647.out (by decide)) e_) e_) (fun e_ => (fun p_ => (p_.1.1.2) rfl) e_))); have n1_ := Aside0.mk (Kd.R_mono (ok' := fun k_ => some k_ ≠ (.slice Ao35 t658.length co35 : Value).ownBlock ∧ some k_ ≠ (.slice Ao34 t671.length co34 : Value).ownBlock ∧ some k_ ≠ (.slice Ao38 t677.length co38 : Value).ownBlock) (Kd.R_keptB ((Kd.R_mono (Kd.R_tight2 rfl HO653.out) (fun k_ hk => (⟨hk.2, fun p_ => (p_.1.1.1.1.1.1.1.1.2) hk.1⟩ : _ ∧ ¬ ((fun k_ => ((((((((some k_ ≠ (.slice Ao31 t663.length co31 : Value).ownBlock ∧ some k_ ≠ (.slice Ao23 t651.length co23 : Value).ownBlock) ∧ some k_ ≠ (.slice Ao24 t655.length co24 : Value).ownBlock) ∧ some k_ ≠ (.slice Ao35 t658.length co35 : Value).ownBlock) ∧ some k_ ≠ (.slice Ao34 t671.length co34 : Value).ownBlock) ∧ some k_ ≠ (.slice Ao38 t677.length co38 : Value).ownBlock) ∧ some k_ ≠ (.slice Ao39 t681.length co39 : Value).ownBlock) ∧ k_ ≠ gb647) ∧ k_ ≠ gb670) ∧ w.heap.size ≤ k_)) k_)))) hkp (fun k_ hk_ hs_ => Or.elim hs_ (fun e_ => (hk_.1.1.1.2) e_) (fun e_ => (hk_.2) e_))) (fun k_ hk_ => ⟨hk_.1.1.1.1.1.2, hk_.1.1.1.2, hk_.1.1.2⟩)); have n2_ := Aside0.mk (Kd.R_mono (ok' := fun k_ => some k_ ≠ (.slice Ao23 t651.length co23 : Value).ownBlock ∧ some k_ ≠ (.slice Ao34 t671.length co34 : Value).ownBlock ∧ some k_ ≠ (.slice Ao38 t677.length co38 : Value).ownBlock) (Kd.R_keptB ((Kd.R_mono (Kd.R_tight2 rfl HO660.out) (fun k_ hk => (⟨hk.2, fun p_ => (p_.1.1.1.1.1.1.2) hk.1⟩ : _ ∧ ¬ ((fun k_ => ((((((((some k_ ≠ (.slice Ao31 t663.length co31 : Value).ownBlock ∧ some k_ ≠ (.slice Ao23 t651.length co23 : Value).ownBlock) ∧ some k_ ≠ (.slice Ao24 t655.length co24 : Value).ownBlock) ∧ some k_ ≠ (.slice Ao35 t658.length co35 : Value).ownBlock) ∧ some k_ ≠ (.slice Ao34 t671.length co34 : Value).ownBlock) ∧ some k_ ≠ (.slice Ao38 t677.length co38 : Value).ownBlock) ∧ some k_ ≠ (.slice Ao39 t681.length co39 : Value).ownBlock) ∧ k_ ≠ gb647) ∧ k_ ≠ gb670) ∧ w.heap.size ≤ k_)) k_)))) hkp (fun k_ hk_ hs_ => Or.elim hs_ (fun e_ => (hk_.1.1.1.2) e_) (fun e_ => (hk_.2) e_))) (fun k_ hk_ => ⟨hk_.1.1.1.1.1.2, hk_.1.1.1.2, hk_.1.1.2⟩)); have n3_ := Aside0.mk (blk_kept (by (with_reducible repeat (first | refine blk_drewN ?_ _ | refine blk_drew ?_ | refine blk_alloc ?_ _)); exact BK670.out) hkp (fun hs_ => Or.elim hs_ (fun e_ => (fun e_ => (Kd.R_ne HO665.out BK670.out (by decide)) e_) e_) (fun e_ => (fun p_ => (p_.1.2) rfl) e_))); have n4_ := Aside0.mk (Kd.R_mono (ok' := fun k_ => some k_ ≠ (.slice Ao23 t651.length co23 : Value).ownBlock ∧ some k_ ≠ (.slice Ao35 t658.length co35 : Value).ownBlock ∧ some k_ ≠ (.slice Ao38 t677.length co38 : Value).ownBlock) (Kd.R_keptB ((Kd.R_mono (Kd.R_tight2 rfl HO673.out) (fun k_ hk => (⟨hk.2, fun p_ => (p_.1.1.1.1.1.2) hk.1⟩ : _ ∧ ¬ ((fun k_ => ((((((((some k_ ≠ (.slice Ao31 t663.length co31 : Value).ownBlock ∧ some k_ ≠ (.slice Ao23 t651.length co23 : Value).ownBlock) ∧ some k_ ≠ (.slice Ao24 t655.length co24 : Value).ownBlock) ∧ some k_ ≠ (.slice Ao35 t658.length co35 : Value).ownBlock) ∧ some k_ ≠ (.slice Ao34 t671.length co34 : Value).ownBlock) ∧ some k_ ≠ (.slice Ao38 t677.length co38 : Value).ownBlock) ∧ some k_ ≠ (.slice Ao39 t681.length co39 : Value).ownBlock) ∧ k_ ≠ gb647) ∧ k_ ≠ gb670) ∧ w.heap.size ≤ k_)) k_)))) hkp (fun k_ hk_ hs_ => Or.elim hs_ (fun e_ => (hk_.1.1.2) e_) (fun e_ => (hk_.2) e_))) (fun k_ hk_ => ⟨hk_.1.1.1.1.1.2, hk_.1.1.1.1.2, hk_.1.1.2⟩)); have n5_ := Aside0.mk (Kd.R_mono (ok' := fun k_ => some k_ ≠ (.slice Ao23 t651.length co23 : Value).ownBlock ∧ some k_ ≠ (.slice Ao35 t658.length co35 : Value).ownBlock ∧ some k_ ≠ (.slice Ao34 t671.length co34 : Value).ownBlock) (Kd.R_keptB ((Kd.R_mono (Kd.R_tight2 rfl HO679.out) (fun k_ hk => (⟨hk.2, fun p_ => (p_.1.1.1.1.2) hk.1⟩ : _ ∧ ¬ ((fun k_ => ((((((((some k_ ≠ (.slice Ao31 t663.length co31 : Value).ownBlock ∧ some k_ ≠ (.slice Ao23 t651.length co23 : Value).ownBlock) ∧ some k_ ≠ (.slice Ao24 t655.length co24 : Value).ownBlock) ∧ some k_ ≠ (.slice Ao35 t658.length co35 : Value).ownBlock) ∧ some k_ ≠ (.slice Ao34 t671.length co34 : Value).ownBlock) ∧ some k_ ≠ (.slice Ao38 t677.length co38 : Value).ownBlock) ∧ some k_ ≠ (.slice Ao39 t681.length co39 : Value).ownBlock) ∧ k_ ≠ gb647) ∧ k_ ≠ gb670) ∧ w.heap.size ≤ k_)) k_)))) hkp (fun k_ hk_ hs_ => Or.elim hs_ (fun e_ => (hk_.1.1.2) e_) (fun e_ => (hk_.2) e_))) (fun k_ hk_ => ⟨hk_.1.1.1.1.1.2, hk_.1.1.1.1.2, hk_.1.1.2⟩)); have n6_ := Aside0.mk (hb); clear BK647; clear HO653; clear HO660; clear BK670; clear HO673; clear HO679; clear HB; clear HO665; clear HO669; clear HO657; clear HO683; have BK647 := n0_; have HO653 := n1_; have HO660 := n2_; have BK670 := n3_; have HO673 := n4_; have HO679 := n5_; have HB := n6_; clear n0_ n1_ n2_ n3_ n4_ n5_ n6_; (try clear hb); (try clear hkp)))
       (try simp only [Act.put, List.setIfInBounds_toArray, List.set_cons_zero, List.set_cons_succ])
       go_cut [42] (fun v42 wc => ∃ (kq : Nat) (x42_16 : Bool), v42 = .bool x42_16 ∧ Aside0 (laws_FnExactOrder.j0 kq t658 t671 x42_16 a0_0 a0_1 l0_2 a0_3 l0_4 = some r) ∧ Aside0 (kq ≤ k) ∧ Aside0 (Kd.R (Kd.int .i64) 2 wc w.heap.size (fun k_ => some k_ ≠ ((.slice Ao34 t671.length co34) : Value).ownBlock) (.slice Ao35 t658.length co35) t658) ∧ Aside0 (Kd.R (Kd.int .i64) 2 wc w.heap.size (fun k_ => some k_ ≠ ((.slice Ao35 t658.length co35) : Value).ownBlock) (.slice Ao34 t671.length co34) t671) ∧ Aside0 (wc.heap[gb647]? = some (.cells #[.string a0_0, .int .i64 a0_1, (.slice A0_2 l0_2.length c0_2), .int .i64 a0_3, (.slice A0_4 l0_4.length c0_4)] 25 (0, 0))) ∧ Aside0 (Below w.heap.size w wc))
       case first =>
        have H := HC17.out
        clear HC17
        by_cases c43 : t685 < 0
        · rw [if_pos c43] at H
          have c43b0 : decide (t685 < 0) = true := decide_eq_true c43
          clear c43
          (first | rw [c43b0] | (simp only [i64_w, i32_w]; rw [c43b0]) | skip)
          have H' := Aside0.mk H
          clear H
          go_wp2
          go_meet
          case rel => exact ⟨_, (true), (by first | rfl | (simp; done) | (simp [*]; done)), H', ⟨by first | omega | exact Nat.le_refl _⟩, ⟨by (with_reducible repeat (first | apply Kd.R_alloc | apply Kd.R_drewN | apply Kd.R_drew)); exact Kd.R_mono HO660.out (fun _ hk => hk.2.1)⟩, ⟨by (with_reducible repeat (first | apply Kd.R_alloc | apply Kd.R_drewN | apply Kd.R_drew)); exact Kd.R_mono HO673.out (fun _ hk => hk.2.1)⟩, ⟨by (with_reducible repeat (first | refine blk_drewN ?_ _ | refine blk_drew ?_ | refine blk_alloc ?_ _)); exact BK647.out⟩, ⟨by repeat (first | (with_reducible first | exact HB.out | apply below_alloc | apply pw_below_drewN | apply below_drew1 | refine below_set ?_ GE647.out | refine below_set ?_ GE670.out) | exact HB.out)⟩⟩
        · rw [if_neg c43] at H
          have c43b0 : decide (t685 < 0) = false := decide_eq_false c43
          clear c43
          (first | rw [c43b0] | (simp only [i64_w, i32_w]; rw [c43b0]) | skip)
          replace H := Option.bind_eq_some_iff.mp H
          obtain ⟨t686, A440, H⟩ := H
          replace H : (laws_FnExactOrder.j0 k t658 t671 (!t686) a0_0 a0_1 l0_2 a0_3 l0_4) = some r := H
          have A44 := Aside0.mk A440
          clear A440
          have H' := Aside0.mk H
          clear H
          go_wp2_with (first | (go_at_call 19; (with_reducible refine (laws_eqInt64S.calls k _ _ t671 _ _ t658 t686 _ ?side1 ?side2 ?side3 ?side4 A44.out).mono ?_); (case side1 => repeat (first | exact (Kd.R_reads' HO673.out).2.2 | (with_reducible refine Kd.C_alloc ?_ _) | (with_reducible refine Kd.C_drewN ?_ _) | (with_reducible refine Kd.C_drew ?_))); (case side2 => exact (Kd.R_reads' HO673.out).2.1); (case side3 => repeat (first | exact (Kd.R_reads' HO660.out).2.2 | (with_reducible refine Kd.C_alloc ?_ _) | (with_reducible refine Kd.C_drewN ?_ _) | (with_reducible refine Kd.C_drew ?_))); (case side4 => exact (Kd.R_reads' HO660.out).2.1); rintro e w' ⟨rfl, ⟨nd, rfl⟩⟩))
          go_meet
          case rel => exact ⟨_, (!t686), (by first | rfl | (simp; done) | (simp [*]; done)), H', ⟨by first | omega | exact Nat.le_refl _⟩, ⟨by (with_reducible repeat (first | apply Kd.R_alloc | apply Kd.R_drewN | apply Kd.R_drew)); exact Kd.R_mono HO660.out (fun _ hk => hk.2.1)⟩, ⟨by (with_reducible repeat (first | apply Kd.R_alloc | apply Kd.R_drewN | apply Kd.R_drew)); exact Kd.R_mono HO673.out (fun _ hk => hk.2.1)⟩, ⟨by (with_reducible repeat (first | refine blk_drewN ?_ _ | refine blk_drew ?_ | refine blk_alloc ?_ _)); exact BK647.out⟩, ⟨by repeat (first | (with_reducible first | exact HB.out | apply below_alloc | apply pw_below_drewN | apply below_drew1 | refine below_set ?_ GE647.out | refine below_set ?_ GE670.out) | exact HB.out)⟩⟩
       case rest =>
        clear HC17
        try clear c1
        try clear c2
        try clear p2
        try clear c3
        try clear c3b0
        try clear c4
        try clear c7
        try clear c12
        try clear c14
        try clear c15
        try clear c16
        try clear c19
        try clear c20
        try clear c29
        try clear c30
        try clear c31
        try clear c43
        try clear c43b0
        try clear hcz19_0
        try clear hcz19_1
        try clear hcz19_2
        try clear hcz19_3
        try clear hcz19_4
        try clear hcz21_0
        try clear hcz21_1
        try clear hcz21_2
        try clear hcz21_3
        try clear hcz21_4
        try clear hcz26_0
        try clear hcz26_1
        try clear hcz26_2
        try clear hcz26_3
        try clear hcz26_4
        try clear hcz30_0
        try clear hcz30_1
        try clear hcz30_2
        try clear hcz30_3
        try clear hcz30_4
        try clear hcz41_0
        try clear hcz41_1
        try clear hcz41_2
        try clear hcz41_3
        try clear hcz41_4
        try clear hcz5_0
        try clear hcz5_1
        try clear hcz5_2
        try clear hcz5_3
        try clear hcz5_4
        try clear hfz19_0
        try clear hfz19_1
        try clear hfz19_2
        try clear hfz19_3
        try clear hfz19_4
        try clear hfz21_0
        try clear hfz21_1
        try clear hfz21_2
        try clear hfz21_3
        try clear hfz21_4
        try clear hfz26_0
        try clear hfz26_1
        try clear hfz26_2
        try clear hfz26_3
        try clear hfz26_4
        try clear hfz30_0
        try clear hfz30_1
        try clear hfz30_2
        try clear hfz30_3
        try clear hfz30_4
        try clear hfz41_0
        try clear hfz41_1
        try clear hfz41_2
        try clear hfz41_3
        try clear hfz41_4
        try clear hfz5_0
        try clear hfz5_1
        try clear hfz5_2
        try clear hfz5_3
        try clear hfz5_4
        obtain ⟨kq, x42_16, rfl, HA, HJ16, HO_4, HO_6, BK647, HB⟩ := hcut
        cases kq with
        | zero => exact absurd HA.out (by simp [laws_FnExactOrder.j0])
        | succ kj16 =>
         have H := HA.out
         clear HA
         simp only [laws_FnExactOrder.j0] at H
         by_cases c45 : x42_16 = true
         · subst c45
           have H1 : (some false) = some r := by rw [if_pos rfl] at H; exact H
           clear H
           have H := H1
           clear H1
           exact Bool.noConfusion ((Option.some.inj H).trans hr_.out)
         · replace c45 := Bool.eq_false_iff.mpr c45
           subst c45
           have H1 : ((laws_markInt64S.f kj16 t671 1).bind fun bt687 => ((laws_heldInt64S.f kj16 bt687.2 1).bind fun t689 => (if t689 < 0 then (some false) else (if t689 = bt687.1 then ((laws_toFunc.f kj16 a0_0 a0_1 l0_2 a0_3 l0_4).bind fun bt690 => ((impl_Order.f kj16 bt690.1 bt690.2.1 bt690.2.2.1 bt690.2.2.2.1 bt690.2.2.2.2).bind fun t699 => ((laws_eqInt64S.f kj16 t699 t658).bind fun t702 => (if t702 = true then ((laws_heldInt64S.f kj16 bt687.2 1).bind fun t703 => (if t703 < 0 then (some false) else (if t703 = bt687.1 then (some true) else (some false)))) else (some false))))) else (some false))))) = some r := by rw [if_neg (show ¬ (false = true) by decide)] at H; exact H
           clear H
           have H := H1
           clear H1
           replace H := Option.bind_eq_some_iff.mp H
           obtain ⟨⟨t687, t688⟩, A460, H⟩ := H
           replace H : ((laws_heldInt64S.f kj16 t688 1).bind fun t689 => (if t689 < 0 then (some false) else (if t689 = t687 then ((laws_toFunc.f kj16 a0_0 a0_1 l0_2 a0_3 l0_4).bind fun bt690 => ((impl_Order.f kj16 bt690.1 bt690.2.1 bt690.2.2.1 bt690.2.2.2.1 bt690.2.2.2.2).bind fun t699 => ((laws_eqInt64S.f kj16 t699 t658).bind fun t702 => (if t702 = true then ((laws_heldInt64S.f kj16 t688 1).bind fun t703 => (if t703 < 0 then (some false) else (if t703 = t687 then (some true) else (some false)))) else (some false))))) else (some false)))) = some r := H
           have A46 := Aside0.mk A460
           clear A460
           replace H := Option.bind_eq_some_iff.mp H
           obtain ⟨t689, A470, H⟩ := H
           replace H : (if t689 < 0 then (some false) else (if t689 = t687 then ((laws_toFunc.f kj16 a0_0 a0_1 l0_2 a0_3 l0_4).bind fun bt690 => ((impl_Order.f kj16 bt690.1 bt690.2.1 bt690.2.2.1 bt690.2.2.2.1 bt690.2.2.2.2).bind fun t699 => ((laws_eqInt64S.f kj16 t699 t658).bind fun t702 => (if t702 = true then ((laws_heldInt64S.f kj16 t688 1).bind fun t703 => (if t703 < 0 then (some false) else (if t703 = t687 then (some true) else (some false)))) else (some false))))) else (some false))) = some r := H
           have A47 := Aside0.mk A470
           clear A470
           by_cases c48 : t689 < 0
           · rw [if_pos c48] at H
             have c48b0 : decide (t689 < 0) = true := decide_eq_true c48
             clear c48
             exact Bool.noConfusion ((Option.some.inj H).trans hr_.out)
           · rw [if_neg c48] at H
             have c48b0 : decide (t689 < 0) = false := decide_eq_false c48
             clear c48
             by_cases c50 : t689 = t687
             · rw [if_pos c50] at H
               have c50b0 : (t689 == t687) = true := beq_iff_eq.mpr c50
               have c50b1 : (t689 != t687) = false := bne_eq_false_iff_eq.mpr c50
               clear c50
               replace H := Option.bind_eq_some_iff.mp H
               obtain ⟨⟨t690, t691, t692, t695, t696⟩, A510, H⟩ := H
               replace H : ((impl_Order.f kj16 t690 t691 t692 t695 t696).bind fun t699 => ((laws_eqInt64S.f kj16 t699 t658).bind fun t702 => (if t702 = true then ((laws_heldInt64S.f kj16 t688 1).bind fun t703 => (if t703 < 0 then (some false) else (if t703 = t687 then (some true) else (some false)))) else (some false)))) = some r := H
               have A51 := Aside0.mk A510
               clear A510
               replace H := Option.bind_eq_some_iff.mp H
               obtain ⟨t699, A520, H⟩ := H
               replace H : ((laws_eqInt64S.f kj16 t699 t658).bind fun t702 => (if t702 = true then ((laws_heldInt64S.f kj16 t688 1).bind fun t703 => (if t703 < 0 then (some false) else (if t703 = t687 then (some true) else (some false)))) else (some false))) = some r := H
               have A52 := Aside0.mk A520
               clear A520
               replace H := Option.bind_eq_some_iff.mp H
               obtain ⟨t702, A530, H⟩ := H
               replace H : (if t702 = true then ((laws_heldInt64S.f kj16 t688 1).bind fun t703 => (if t703 < 0 then (some false) else (if t703 = t687 then (some true) else (some false)))) else (some false)) = some r := H
               have A53 := Aside0.mk A530
               clear A530
               by_cases c54 : t702 = true
               · subst c54
                 have H1 : ((laws_heldInt64S.f kj16 t688 1).bind fun t703 => (if t703 < 0 then (some false) else (if t703 = t687 then (some true) else (some false)))) = some r := by rw [if_pos rfl] at H; exact H
                 clear H
                 have H := H1
                 clear H1
                 replace H := Option.bind_eq_some_iff.mp H
                 obtain ⟨t703, A550, H⟩ := H
                 replace H : (if t703 < 0 then (some false) else (if t703 = t687 then (some true) else (some false))) = some r := H
                 have A55 := Aside0.mk A550
                 clear A550
                 by_cases c56 : t703 < 0
                 · rw [if_pos c56] at H
                   have c56b0 : decide (t703 < 0) = true := decide_eq_true c56
                   clear c56
                   exact Bool.noConfusion ((Option.some.inj H).trans hr_.out)
                 · rw [if_neg c56] at H
                   have c56b0 : decide (t703 < 0) = false := decide_eq_false c56
                   clear c56
                   by_cases c64 : t703 = t687
                   · rw [if_pos c64] at H
                     have c64b0 : (t703 == t687) = true := beq_iff_eq.mpr c64
                     have c64b1 : (t703 != t687) = false := bne_eq_false_iff_eq.mpr c64
                     clear c64
                     obtain rfl := Option.some.inj H
                     go_wp2_with (first | ((with_reducible refine gate_callee (f := 21) rfl ?_); refine goesL_ (some 45) rfl rfl Try.func21 (by kernel_rfl) rfl #[.slice Ao34 t671.length co34, .int .i64 1] rfl (by (try simp only [List.map_toArray, List.map_cons, List.map_nil]); first | done | rfl | (simp only [List.length_drop, List.length_take]; rfl)) ?_; (with_reducible refine (laws_markInt64S.calls kj16 (fun k_ => some k_ = (.slice Ao34 t671.length co34 : Value).ownBlock) (.slice Ao34 t671.length co34) t671 1 t687 t688 w _ ?side1 ?side2 A46.out).mono ?_); (case side1 => repeat (first | (with_reducible first | exact HB.out | apply below_alloc | apply pw_below_drewN | apply below_drew1 | refine below_set ?_ GE647.out) | exact HB.out)); (case side2 => exact Kd.R_tight rfl HO_6.out); rintro e w65 ⟨rfl, hy0, hb, hkp⟩; refine ⟨_, rfl, ?_⟩; have n0_ := Aside0.mk (Kd.R_mono (ok' := fun k_ => some k_ ≠ (.slice Ao34 t671.length co34 : Value).ownBlock) (Kd.R_keptB (HO_4.out) hkp (fun k_ hk_ hs_ => (hk_) hs_)) (fun k_ hk_ => hk_.1)); have n1_ := Aside0.mk (Kd.R_reok rfl hy0 (fun k_ e_ => HO_6.out.1 k_ e_)); have n2_ := Aside0.mk (blk_kept (by (with_reducible repeat (first | refine blk_drewN ?_ _ | refine blk_drew ?_ | refine blk_alloc ?_ _)); exact BK647.out) hkp (fun hs_ => (fun e_ => (Kd.R_ne HO_6.out BK647.out (by decide)) e_) hs_)); have n3_ := Aside0.mk (hb); clear HO_4; clear HO_6; clear BK647; clear HB; have HO_4 := n0_; have HO_6 := n1_; have BK647 := n2_; have HB := n3_; clear n0_ n1_ n2_ n3_; (try clear hb); (try clear hkp); (try clear hy0)) | ((with_reducible refine gate_callee (f := 22) rfl ?_); refine goesL_ (some 48) rfl rfl Try.func22 (by kernel_rfl) rfl #[.slice Ao34 t688.length co34, .int .i64 1] rfl (by (try simp only [List.map_toArray, List.map_cons, List.map_nil]); first | done | (rw [show t688.length = t671.length from (Kd.R_reads' HO_6.out).1.symm] <;> rfl) | rfl | (simp only [List.length_drop, List.length_take]; rfl)) ?_; (with_reducible refine (laws_heldInt64S.calls kj16 _ _ t688 1 t689 _ ?side1 ?side2 A47.out).mono ?_); (case side1 => repeat (first | exact (Kd.R_reads' HO_6.out).2.2 | (with_reducible refine Kd.C_alloc ?_ _) | (with_reducible refine Kd.C_drewN ?_ _) | (with_reducible refine Kd.C_drew ?_))); (case side2 => rw [show t688.length = t671.length from (Kd.R_reads' HO_6.out).1.symm]; exact (Kd.R_reads' HO_6.out).2.1); rintro e w' ⟨rfl, ⟨nd, rfl⟩⟩; refine ⟨_, rfl, ?_⟩; have hcz66_0 : w65.cell? ⟨gb647, 0, none⟩ = some (.string a0_0) := (blk_cell BK647.out 0).trans rfl; have hcz66_1 : w65.cell? ⟨gb647, 1, none⟩ = some (.int .i64 a0_1) := (blk_cell BK647.out 1).trans rfl; have hcz66_2 : w65.cell? ⟨gb647, 2, none⟩ = some (.slice A0_2 l0_2.length c0_2) := (blk_cell BK647.out 2).trans rfl; have hcz66_3 : w65.cell? ⟨gb647, 3, none⟩ = some (.int .i64 a0_3) := (blk_cell BK647.out 3).trans rfl; have hcz66_4 : w65.cell? ⟨gb647, 4, none⟩ = some (.slice A0_4 l0_4.length c0_4) := (blk_cell BK647.out 4).trans rfl; have hfz66_0 := blk_frozen BK647.out 0; have hfz66_1 := blk_frozen BK647.out 1; have hfz66_2 := blk_frozen BK647.out 2; have hfz66_3 := blk_frozen BK647.out 3; have hfz66_4 := blk_frozen BK647.out 4) | ((with_reducible refine gate_callee (f := 14) rfl ?_); refine goesL_ (some 55) rfl rfl Try.func14 (by kernel_rfl) rfl #[.agg #[.string a0_0, .int .i64 a0_1, .slice A0_2 l0_2.length c0_2, .int .i64 a0_3, .slice A0_4 l0_4.length c0_4]] rfl (by (try simp only [List.map_toArray, List.map_cons, List.map_nil]); first | done | rfl | (simp only [List.length_drop, List.length_take]; rfl)) ?_; (with_reducible refine (laws_toFunc.calls kj16 a0_0 a0_1 _ _ l0_2 a0_3 _ _ l0_4 t690 t691 t692 t695 t696 _ ?side1 ?side2 ?side3 ?side4 A51.out).mono ?_); (case side1 => repeat (first | exact (Kd.C_below HR0_2.out (by repeat (first | (with_reducible first | exact HB.out | apply below_alloc | apply pw_below_drewN | apply below_drew1 | refine below_set ?_ GE647.out) | exact HB.out))) | (with_reducible refine Kd.C_alloc ?_ _) | (with_reducible refine Kd.C_drewN ?_ _) | (with_reducible refine Kd.C_drew ?_))); (case side2 => exact HC0_2.out); (case side3 => repeat (first | exact (Kd.C_below HR0_4.out (by repeat (first | (with_reducible first | exact HB.out | apply below_alloc | apply pw_below_drewN | apply below_drew1 | refine below_set ?_ GE647.out) | exact HB.out))) | (with_reducible refine Kd.C_alloc ?_ _) | (with_reducible refine Kd.C_drewN ?_ _) | (with_reducible refine Kd.C_drew ?_))); (case side4 => exact HC0_4.out); rintro e w67 ⟨v693, v697, rfl, ho0, ho1, hb⟩; refine ⟨_, rfl, ?_⟩; have n0_ := Aside0.mk (Kd.R_elder' (by (with_reducible repeat (first | apply Kd.R_alloc | apply Kd.R_drewN | apply Kd.R_drew)); exact HO_4.out) (Kd.R_base ho0) hb); have n1_ := Aside0.mk (Kd.R_elder' (by (with_reducible repeat (first | apply Kd.R_alloc | apply Kd.R_drewN | apply Kd.R_drew)); exact HO_6.out) (Kd.R_base ho0) hb); have n2_ := Aside0.mk (Kd.R_lower (Kd.R_new' (Kd.R_new' ho0 (Kd.R_lt (by (with_reducible repeat (first | apply Kd.R_alloc | apply Kd.R_drewN | apply Kd.R_drew)); exact HO_4.out))) (Kd.R_lt (by (with_reducible repeat (first | apply Kd.R_alloc | apply Kd.R_drewN | apply Kd.R_drew)); exact HO_6.out))) (below_size (by repeat (first | (with_reducible first | exact HB.out | apply below_alloc | apply pw_below_drewN | apply below_drew1 | refine below_set ?_ GE647.out) | exact HB.out)))); have n3_ := Aside0.mk (Kd.R_lower (Kd.R_new' (Kd.R_new' ho1 (Kd.R_lt (by (with_reducible repeat (first | apply Kd.R_alloc | apply Kd.R_drewN | apply Kd.R_drew)); exact HO_4.out))) (Kd.R_lt (by (with_reducible repeat (first | apply Kd.R_alloc | apply Kd.R_drewN | apply Kd.R_drew)); exact HO_6.out))) (below_size (by repeat (first | (with_reducible first | exact HB.out | apply below_alloc | apply pw_below_drewN | apply below_drew1 | refine below_set ?_ GE647.out) | exact HB.out)))); have n4_ := Aside0.mk (blk_below (g := gb647) (o := .cells #[.string a0_0, .int .i64 a0_1, .slice A0_2 l0_2.length c0_2, .int .i64 a0_3, .slice A0_4 l0_4.length c0_4] 25 (0, 0)) (by (with_reducible repeat (first | refine blk_drewN ?_ _ | refine blk_drew ?_ | refine blk_alloc ?_ _)); exact BK647.out) hb); have n5_ := Aside0.mk (below_step (by repeat (first | (with_reducible first | exact HB.out | apply below_alloc | apply pw_below_drewN | apply below_drew1 | refine below_set ?_ GE647.out) | exact HB.out)) hb); clear HO_4; clear HO_6; clear BK647; clear HB; have HO_4 := n0_; have HO_6 := n1_; have HO694 := n2_; have HO698 := n3_; have BK647 := n4_; have HB := n5_; clear n0_ n1_ n2_ n3_ n4_ n5_; (try clear hb); (try clear hb2); (try clear hk); (try clear hi); (try clear ho0); (try clear ho1); obtain ⟨Ao68, co68, eo68⟩ := Kd.R_slice HO694.out; subst eo68; obtain ⟨Ao69, co69, eo69⟩ := Kd.R_slice HO698.out; subst eo69) | ((with_reducible refine gate_callee (f := 31) rfl ?_); refine goesL_ (some 56) rfl rfl Try.func31 (by kernel_rfl) rfl #[.agg #[.string t690, .int .i64 t691, .slice Ao68 t692.length co68, .int .i64 t695, .slice Ao69 t696.length co69]] rfl (by (try simp only [List.map_toArray, List.map_cons, List.map_nil]); first | done | rfl | (simp only [List.length_drop, List.length_take]; rfl)) ?_; (with_reducible refine (impl_Order.calls kj16 t690 t691 _ _ t692 t695 _ _ t696 t699 _ ?side1 ?side2 ?side3 ?side4 A52.out).mono ?_); (case side1 => repeat (first | exact (Kd.R_reads' HO694.out).2.2 | (with_reducible refine Kd.C_alloc ?_ _) | (with_reducible refine Kd.C_drewN ?_ _) | (with_reducible refine Kd.C_drew ?_))); (case side2 => exact (Kd.R_reads' HO694.out).2.1); (case side3 => repeat (first | exact (Kd.R_reads' HO698.out).2.2 | (with_reducible refine Kd.C_alloc ?_ _) | (with_reducible refine Kd.C_drewN ?_ _) | (with_reducible refine Kd.C_drew ?_))); (case side4 => exact (Kd.R_reads' HO698.out).2.1); rintro e w70 ⟨v700, rfl, ho0, hb⟩; refine ⟨_, rfl, ?_⟩; have n0_ := Aside0.mk (Kd.R_elder' (by (with_reducible repeat (first | apply Kd.R_alloc | apply Kd.R_drewN | apply Kd.R_drew)); exact HO_4.out) (Kd.R_base ho0) hb); have n1_ := Aside0.mk (Kd.R_elder' (by (with_reducible repeat (first | apply Kd.R_alloc | apply Kd.R_drewN | apply Kd.R_drew)); exact HO_6.out) (Kd.R_base ho0) hb); have n2_ := Aside0.mk (Kd.R_elder' (by (with_reducible repeat (first | apply Kd.R_alloc | apply Kd.R_drewN | apply Kd.R_drew)); exact HO694.out) (Kd.R_base ho0) hb); have n3_ := Aside0.mk (Kd.R_elder' (by (with_reducible repeat (first | apply Kd.R_alloc | apply Kd.R_drewN | apply Kd.R_drew)); exact HO698.out) (Kd.R_base ho0) hb); have n4_ := Aside0.mk (Kd.R_lower (Kd.R_new' (Kd.R_new' (Kd.R_new' ho0 (Kd.R_lt (by (with_reducible repeat (first | apply Kd.R_alloc | apply Kd.R_drewN | apply Kd.R_drew)); exact HO_4.out))) (Kd.R_lt (by (with_reducible repeat (first | apply Kd.R_alloc | apply Kd.R_drewN | apply Kd.R_drew)); exact HO_6.out))) (Kd.R_lt (by (with_reducible repeat (first | apply Kd.R_alloc | apply Kd.R_drewN | apply Kd.R_drew)); exact HO694.out))) (below_size (by repeat (first | (with_reducible first | exact HB.out | apply below_alloc | apply pw_below_drewN | apply below_drew1 | refine below_set ?_ GE647.out) | exact HB.out)))); have n5_ := Aside0.mk (blk_below (g := gb647) (o := .cells #[.string a0_0, .int .i64 a0_1, .slice A0_2 l0_2.length c0_2, .int .i64 a0_3, .slice A0_4 l0_4.length c0_4] 25 (0, 0)) (by (with_reducible repeat (first | refine blk_drewN ?_ _ | refine blk_drew ?_ | refine blk_alloc ?_ _)); exact BK647.out) hb); have n6_ := Aside0.mk (below_step (by repeat (first | (with_reducible first | exact HB.out | apply below_alloc | apply pw_below_drewN | apply below_drew1 | refine below_set ?_ GE647.out) | exact HB.out)) hb); clear HO_4; clear HO_6; clear HO694; clear HO698; clear BK647; clear HB; have HO_4 := n0_; have HO_6 := n1_; have HO694 := n2_; have HO698 := n3_; have HO701 := n4_; have BK647 := n5_; have HB := n6_; clear n0_ n1_ n2_ n3_ n4_ n5_ n6_; (try clear hb); (try clear hb2); (try clear hk); (try clear hi); (try clear ho0); obtain ⟨Ao71, co71, eo71⟩ := Kd.R_slice HO701.out; subst eo71) | ((with_reducible refine gate_callee (f := 19) rfl ?_); refine goesL_ (some 59) rfl rfl Try.func19 (by kernel_rfl) rfl #[.slice Ao71 t699.length co71, .slice Ao35 t658.length co35] rfl (by (try simp only [List.map_toArray, List.map_cons, List.map_nil]); first | done | rfl | (simp only [List.length_drop, List.length_take]; rfl)) ?_; (with_reducible refine (laws_eqInt64S.calls kj16 _ _ t699 _ _ t658 true _ ?side1 ?side2 ?side3 ?side4 A53.out).mono ?_); (case side1 => repeat (first | exact (Kd.R_reads' HO701.out).2.2 | (with_reducible refine Kd.C_alloc ?_ _) | (with_reducible refine Kd.C_drewN ?_ _) | (with_reducible refine Kd.C_drew ?_))); (case side2 => exact (Kd.R_reads' HO701.out).2.1); (case side3 => repeat (first | exact (Kd.R_reads' HO_4.out).2.2 | (with_reducible refine Kd.C_alloc ?_ _) | (with_reducible refine Kd.C_drewN ?_ _) | (with_reducible refine Kd.C_drew ?_))); (case side4 => exact (Kd.R_reads' HO_4.out).2.1); rintro e w' ⟨rfl, ⟨nd, rfl⟩⟩; refine ⟨_, rfl, ?_⟩) | ((with_reducible refine gate_callee (f := 22) rfl ?_); refine goesL_ (some 63) rfl rfl Try.func22 (by kernel_rfl) rfl #[.slice Ao34 t688.length co34, .int .i64 1] rfl (by (try simp only [List.map_toArray, List.map_cons, List.map_nil]); first | done | (rw [show t688.length = t671.length from (Kd.R_reads' HO_6.out).1.symm] <;> rfl) | rfl | (simp only [List.length_drop, List.length_take]; rfl)) ?_; (with_reducible refine (laws_heldInt64S.calls kj16 _ _ t688 1 t703 _ ?side1 ?side2 A55.out).mono ?_); (case side1 => repeat (first | exact (Kd.R_reads' HO_6.out).2.2 | (with_reducible refine Kd.C_alloc ?_ _) | (with_reducible refine Kd.C_drewN ?_ _) | (with_reducible refine Kd.C_drew ?_))); (case side2 => rw [show t688.length = t671.length from (Kd.R_reads' HO_6.out).1.symm]; exact (Kd.R_reads' HO_6.out).2.1); rintro e w' ⟨rfl, ⟨nd, rfl⟩⟩; refine ⟨_, rfl, ?_⟩))
                     go_ret
                     exact ⟨by first | rfl | (simp [errW_none, errW_some] <;> rfl) | (simp [*, errW_none, errW_some] <;> rfl), by repeat (first | (with_reducible first | exact HB.out | apply below_alloc | apply pw_below_drewN | apply below_drew1 | refine below_set ?_ GE647.out) | exact HB.out)⟩
                   · rw [if_neg c64] at H
                     have c64b0 : (t703 == t687) = false := beq_eq_false_iff_ne.mpr c64
                     have c64b1 : (t703 != t687) = true := bne_iff_ne.mpr c64
                     exact Bool.noConfusion ((Option.some.inj H).trans hr_.out)
               · replace c54 := Bool.eq_false_iff.mpr c54
                 subst c54
                 have H1 : (some false) = some r := by rw [if_neg (show ¬ (false = true) by decide)] at H; exact H
                 clear H
                 have H := H1
                 clear H1
                 exact Bool.noConfusion ((Option.some.inj H).trans hr_.out)
             · rw [if_neg c50] at H
               have c50b0 : (t689 == t687) = false := beq_eq_false_iff_ne.mpr c50
               have c50b1 : (t689 != t687) = true := bne_iff_ne.mpr c50
               exact Bool.noConfusion ((Option.some.inj H).trans hr_.out)
     · replace c15 := Bool.eq_false_iff.mpr c15
       subst c15
       have H1 : (some false) = some r := by rw [if_neg (show ¬ (false = true) by decide)] at H; exact H
       clear H
       have H := H1
       clear H1
       exact Bool.noConfusion ((Option.some.inj H).trans hr_.out)
   · replace c12 := Bool.eq_false_iff.mpr c12
     subst c12
     have H1 : (some false) = some r := by rw [if_neg (show ¬ (false = true) by decide)] at H; exact H
     clear H
     have H := H1
     clear H1
     exact Bool.noConfusion ((Option.some.inj H).trans hr_.out)

end Go.Proofs.Ytoedcnhgobbnfaa.All


/- What reads as data of a type can be read as a value of its kind. -/
namespace Go.Proofs.Ytoedcnhgobbnfaa.All
open Go.RowKit Go.Proofs.YtoedcnhgobbnfaaW.PrintWords Go.Proofs.YtoedcnhgobbnfaaW.PrintLast Go.Proofs.YtoedcnhgobbnfaaW.PrintMore
set_option linter.unusedVariables false
set_option linter.unusedSimpArgs false
structure Rdb {α : Type} (d : Kd α) (P : Program) (t : TypeId) (ok : α → Prop) : Prop where
  sz : P.cellsOf t = d.sz
  rd : ∀ {H : Type} {enc : TypeId × Value → H} {w : World} {base : Nat} {sp : Nat → Bool} {held : Bool} {fuel : Nat} {cs : List Value} {x : DataW H × List MemPlace}, DataW.trod enc P w base sp held fuel t cs = some x → ∃ a, d.K w a cs ∧ ok a
theorem Rdb.int {P : Program} {t : TypeId} {k : IntKind} (ht : P.underlying t = some (.int k)) (hs : P.cellsOf t = 1) : Rdb (Kd.int k) P t (fun a => (Lit.int k a).wf = true) :=
  ⟨hs, fun h => by obtain ⟨n, rfl, _, hw⟩ := DataW.trod_int ht h; exact ⟨n, rfl, hw⟩⟩
theorem Rdb.bool {P : Program} {t : TypeId} (ht : P.underlying t = some .bool) (hs : P.cellsOf t = 1) : Rdb Kd.bool P t (fun _ => True) :=
  ⟨hs, fun h => by obtain ⟨b, rfl, _⟩ := DataW.trod_bool ht h; exact ⟨b, rfl, trivial⟩⟩
theorem Rdb.string {P : Program} {t : TypeId} (ht : P.underlying t = some .string) (hs : P.cellsOf t = 1) : Rdb Kd.string P t (fun s => s.size ≤ 9223372036854775807) :=
  ⟨hs, fun h => by obtain ⟨s, rfl, _, hm⟩ := DataW.trod_string ht h; exact ⟨s, rfl, hm⟩⟩
theorem rdb_list {α : Type} {P : Nat → α → Prop} : ∀ n : Nat, (∀ j, j < n → ∃ x, P j x) → ∃ l : List α, l.length = n ∧ ∀ (j : Nat) (x : α), l[j]? = some x → P j x
  | 0, _ => ⟨[], rfl, fun j x h => by simp at h⟩
  | n + 1, h => by
    obtain ⟨l, hl, hp⟩ := rdb_list n (fun j hj => h j (by omega))
    obtain ⟨x, hx⟩ := h n (by omega)
    refine ⟨l ++ [x], by simp [hl], fun j y hy => ?_⟩
    by_cases hj : j < n
    · rw [List.getElem?_append_left (by omega)] at hy
      exact hp j y hy
    · have hlt := (List.getElem?_eq_some_iff.1 hy).1
      simp [hl] at hlt
      have : j = n := by omega
      subst this
      rw [List.getElem?_append_right (by omega)] at hy
      simp [hl] at hy
      subst hy
      exact hx
theorem Rdb.slice {α : Type} {d : Kd α} {P : Program} {t e : TypeId} {ok : α → Prop} (ht : P.underlying t = some (.slice e)) (hs : P.cellsOf t = 1) (h : Rdb d P e ok) : Rdb (Kd.slice e d) P t (fun xs => xs.length ≤ 9223372036854775807 ∧ ∀ x ∈ xs, ok x) := by
  refine ⟨hs, fun {H enc w base sp held fuel cs x} hx => ?_⟩
  rcases Deep.open_slice ht hx with ⟨rfl, _⟩ | ⟨a, len, cap, m, n, D, Pl, rfl, hb, hl, hm, hmm, _, hel⟩
  · exact ⟨[], ⟨none, 0, rfl, Nat.le_refl _, rfl, by simp, fun h0 => by simp at h0⟩, by simp, fun x hx => by simp at hx⟩
  · have hmax : len ≤ 9223372036854775807 := Nat.le_trans hl hm
    have hlm : len ≤ m := by rw [hmm]; split <;> omega
    obtain ⟨xs, hlen, hxs⟩ := rdb_list (P := fun j (x : α) => ok x ∧ ∃ c, c.length = d.sz ∧ d.K w x c ∧ ∀ (i : Nat) (u : Value), c[i]? = some u → w.cell? (a.add (j * d.sz + i)) = some u) len (fun j hj => by
      obtain ⟨cs', hc, htr⟩ := hel j (by omega)
      obtain ⟨x, hK, hok⟩ := h.rd htr
      obtain ⟨_, hcl, hcc⟩ := World.cells?_some hc
      rw [h.sz] at hcl hcc
      refine ⟨x, hok, cs', hcl, hK, fun i u hu => ?_⟩
      have hi := (List.getElem?_eq_some_iff.1 hu).1
      have := hcc i (by omega)
      rw [Addr.add_add] at this
      exact this.trans hu)
    refine ⟨xs, ⟨some a, cap, by rw [hlen], by omega, rfl, by omega, fun _ => ⟨a, rfl, fun j p hj => (hxs j p hj).2⟩⟩, by omega, fun x hx => ?_⟩
    obtain ⟨j, hj⟩ := List.getElem?_of_mem hx
    exact (hxs j x hj).1
/-- The fields of a struct (types and places) from cell 'off' on. -/
structure RdbFs {α : Type} (d : Kd α) (P : Program) (fs : List (TypeId × Nat)) (off : Nat) (ok : α → Prop) : Prop where
  rd : ∀ {H : Type} {enc : TypeId × Value → H} {w : World} {base : Nat} {sp : Nat → Bool} {held : Bool} {n : Nat} {cs : List Value}, cs.length = off + d.sz →
    (∀ f ∈ fs, ∃ x, DataW.trod enc P w base sp held n f.1 ((cs.drop f.2).take (P.cellsOf f.1)) = some x) → ∃ a, d.K w a (cs.drop off) ∧ ok a
theorem RdbFs.one {α : Type} {d : Kd α} {P : Program} {t : TypeId} {off : Nat} {ok : α → Prop} (h : Rdb d P t ok) : RdbFs d P [(t, off)] off ok := by
  refine ⟨fun {H enc w base sp held n cs} hl hf => ?_⟩
  obtain ⟨x, hx⟩ := hf (t, off) (by simp)
  simp only at hx
  rw [h.sz, List.take_of_length_le (by rw [List.length_drop]; omega)] at hx
  exact h.rd hx
theorem RdbFs.cons {α β : Type} {a : Kd α} {b : Kd β} {P : Program} {t : TypeId} {fs : List (TypeId × Nat)} {off off' : Nat} {ok : α → Prop} {ok' : β → Prop} (ho : off + a.sz = off') (h : Rdb a P t ok) (hs : RdbFs b P fs off' ok') : RdbFs (Kd.pair a b) P ((t, off) :: fs) off (fun x => ok x.1 ∧ ok' x.2) := by
  subst ho
  refine ⟨fun {H enc w base sp held n cs} hl hf => ?_⟩
  have hl' : cs.length = off + a.sz + b.sz := by rw [hl]; show off + (a.sz + b.sz) = _; omega
  obtain ⟨x, hx⟩ := hf (t, off) (by simp)
  simp only at hx
  rw [h.sz] at hx
  obtain ⟨y, hy, oky⟩ := h.rd hx
  obtain ⟨z, hz, okz⟩ := hs.rd hl' (fun g hg => hf g (by simp [hg]))
  refine ⟨(y, z), ⟨(cs.drop off).take a.sz, cs.drop (off + a.sz), ?_, hy, hz⟩, oky, okz⟩
  rw [← List.drop_drop, List.take_append_drop]
theorem Rdb.struct {α : Type} {d : Kd α} {P : Program} {t : TypeId} {fs : Array Field} {ok : α → Prop} (ht : P.underlying t = some (.struct fs)) (hs : P.cellsOf t = d.sz) (tos : List (TypeId × Nat)) (htos : fs.toList.map (fun f => (f.type, f.offset)) = tos) (h : RdbFs d P tos 0 ok) : Rdb d P t ok := by
  subst htos
  refine ⟨hs, fun hx => ?_⟩
  obtain ⟨xs, n, rfl, rfl, hl, hxl, hf⟩ := DataW.trod_struct ht hx
  have := h.rd (n := n) (by rw [hl, hs, Nat.zero_add]) (fun f hfm => by
    obtain ⟨f', hf', rfl⟩ := List.mem_map.1 hfm
    obtain ⟨i, hi⟩ := List.getElem?_of_mem hf'
    rw [Array.getElem?_toList] at hi
    have h1 := hf i f' hi
    have hlt : i < xs.length := by rw [hxl]; exact (Array.getElem?_eq_some_iff.1 hi).1
    exact ⟨xs[i], by rw [h1, List.getElem?_eq_getElem hlt]⟩)
  simpa using this
theorem Rdb.iso {α β : Type} {d : Kd α} {P : Program} {t : TypeId} {ok : α → Prop} {f : β → α} (h : Rdb d P t ok) (g : α → β) (hg : ∀ y, f (g y) = y) : Rdb (Kd.iso d f) P t (fun x => ok (f x)) :=
  ⟨h.sz, fun hx => by
    obtain ⟨a, hK, hok⟩ := h.rd hx
    refine ⟨g a, ?_, by rw [hg]; exact hok⟩
    show d.K _ (f (g a)) _
    rw [hg]
    exact hK⟩
end Go.Proofs.Ytoedcnhgobbnfaa.All


/- How the laws' arguments read. Printed by gen_row.py. -/
namespace Go.Proofs.Ytoedcnhgobbnfaa.All
open Go.RowKit Go.Proofs.YtoedcnhgobbnfaaW.PrintWords
set_option linter.unusedVariables false
def ok158 (x : S158) : Prop := (Lit.int .i64 x.f0).wf = true ∧ (Lit.int .i64 x.f1).wf = true ∧ (Lit.int .i64 x.f2).wf = true ∧ (Lit.int .u64 x.f3).wf = true
set_option maxRecDepth 100000 in
theorem rdb158 : Rdb k158 Try.prog 158 ok158 := Rdb.iso (f := fun x : S158 => (x.f0, x.f1, x.f2, x.f3)) (Rdb.struct Try.underlying158 (by kernel_rfl) [(2, 0), (2, 1), (2, 2), (73, 3)] rfl (RdbFs.cons rfl (Rdb.int Try.underlying2 (by kernel_rfl)) (RdbFs.cons rfl (Rdb.int Try.underlying2 (by kernel_rfl)) (RdbFs.cons rfl (Rdb.int Try.underlying2 (by kernel_rfl)) (RdbFs.one (Rdb.int Try.underlying73 (by kernel_rfl))))))) (fun y => (⟨y.1, y.2.1, y.2.2.1, y.2.2.2⟩ : S158)) (fun _ => rfl)
def ok140 (x : S140) : Prop := (Lit.int .i64 x.f0).wf = true ∧ (Lit.int .i64 x.f1).wf = true ∧ (Lit.int .i64 x.f2).wf = true ∧ (Lit.int .i64 x.f3).wf = true ∧ (Lit.int .i64 x.f4).wf = true ∧ (Lit.int .i64 x.f5).wf = true ∧ (x.f6.length ≤ 9223372036854775807 ∧ ∀ y ∈ x.f6, ok158 y) ∧ (x.f7.length ≤ 9223372036854775807 ∧ ∀ y ∈ x.f7, (Lit.int .i64 y).wf = true) ∧ (x.f8.length ≤ 9223372036854775807 ∧ ∀ y ∈ x.f8, (Lit.int .u64 y).wf = true)
set_option maxRecDepth 100000 in
theorem rdb140 : Rdb k140 Try.prog 140 ok140 := Rdb.iso (f := fun x : S140 => (x.f0, x.f1, x.f2, x.f3, x.f4, x.f5, x.f6, x.f7, x.f8)) (Rdb.struct Try.underlying140 (by kernel_rfl) [(2, 0), (2, 1), (2, 2), (2, 3), (2, 4), (2, 5), (138, 6), (22, 7), (64, 8)] rfl (RdbFs.cons rfl (Rdb.int Try.underlying2 (by kernel_rfl)) (RdbFs.cons rfl (Rdb.int Try.underlying2 (by kernel_rfl)) (RdbFs.cons rfl (Rdb.int Try.underlying2 (by kernel_rfl)) (RdbFs.cons rfl (Rdb.int Try.underlying2 (by kernel_rfl)) (RdbFs.cons rfl (Rdb.int Try.underlying2 (by kernel_rfl)) (RdbFs.cons rfl (Rdb.int Try.underlying2 (by kernel_rfl)) (RdbFs.cons rfl (Rdb.slice Try.underlying138 (by kernel_rfl) rdb158) (RdbFs.cons rfl (Rdb.slice Try.underlying22 (by kernel_rfl) (Rdb.int Try.underlying2 (by kernel_rfl))) (RdbFs.one (Rdb.slice Try.underlying64 (by kernel_rfl) (Rdb.int Try.underlying73 (by kernel_rfl))))))))))))) (fun y => (⟨y.1, y.2.1, y.2.2.1, y.2.2.2.1, y.2.2.2.2.1, y.2.2.2.2.2.1, y.2.2.2.2.2.2.1, y.2.2.2.2.2.2.2.1, y.2.2.2.2.2.2.2.2⟩ : S140)) (fun _ => rfl)
def ok96 (x : S96) : Prop := (x.f0.length ≤ 9223372036854775807 ∧ ∀ y ∈ x.f0, ok140 y)
set_option maxRecDepth 100000 in
theorem rdb96 : Rdb k96 Try.prog 96 ok96 := Rdb.iso (f := fun x : S96 => x.f0) (Rdb.struct Try.underlying96 (by kernel_rfl) [(94, 0)] rfl (RdbFs.one (Rdb.slice Try.underlying94 (by kernel_rfl) rdb140))) (fun y => (⟨y⟩ : S96)) (fun _ => rfl)
set_option maxRecDepth 100000 in
theorem rdbTop25 : Rdb (Kd.pair Kd.string (Kd.pair (Kd.int .i64) (Kd.pair (Kd.slice 2 (Kd.int .i64)) (Kd.pair (Kd.int .i64) (Kd.slice 96 k96))))) Try.prog 25 (fun x => x.1.size ≤ 9223372036854775807 ∧ (Lit.int .i64 x.2.1).wf = true ∧ (x.2.2.1.length ≤ 9223372036854775807 ∧ ∀ y ∈ x.2.2.1, (Lit.int .i64 y).wf = true) ∧ (Lit.int .i64 x.2.2.2.1).wf = true ∧ (x.2.2.2.2.length ≤ 9223372036854775807 ∧ ∀ y ∈ x.2.2.2.2, ok96 y)) := Rdb.struct Try.underlying25 (by kernel_rfl) [(9, 0), (2, 1), (22, 2), (2, 3), (23, 4)] rfl (RdbFs.cons rfl (Rdb.string Try.underlying9 (by kernel_rfl)) (RdbFs.cons rfl (Rdb.int Try.underlying2 (by kernel_rfl)) (RdbFs.cons rfl (Rdb.slice Try.underlying22 (by kernel_rfl) (Rdb.int Try.underlying2 (by kernel_rfl))) (RdbFs.cons rfl (Rdb.int Try.underlying2 (by kernel_rfl)) (RdbFs.one (Rdb.slice Try.underlying23 (by kernel_rfl) rdb96))))))
end Go.Proofs.Ytoedcnhgobbnfaa.All


/- Plain laws of szFunc, toFunc, eqFunc over the laws' functions. -/
namespace Go.Proofs.Ytoedcnhgobbnfaa.All
open Go.RowKit Go.Proofs.YtoedcnhgobbnfaaW.PrintWords Go.Proofs.YtoedcnhgobbnfaaW.PrintLast Go.Proofs.YtoedcnhgobbnfaaW.PrintMore
set_option linter.unusedVariables false
set_option linter.unusedSimpArgs false
def iOperand (x : S158) : S75 := ⟨x.f0, x.f1, x.f2, x.f3⟩
def iInstr (x : S140) : S66 := ⟨x.f0, x.f1, x.f2, x.f3, x.f4, x.f5, x.f6.map iOperand, x.f7, x.f8⟩
def iBlock (x : S96) : S62 := ⟨x.f0.map iInstr⟩
def sInstr (x : S140) : Nat := x.f6.length + x.f7.length + x.f8.length
def sInstrS (xs : List S140) : Nat := xs.length + (xs.map sInstr).sum
def sBlock (x : S96) : Nat := sInstrS x.f0
def sBlockS (xs : List S96) : Nat := xs.length + (xs.map sBlock).sum
/-- What is known of lengths: each list's own is a machine number. -/
def lInstr (x : S140) : Prop := x.f6.length ≤ 9223372036854775807 ∧ x.f7.length ≤ 9223372036854775807 ∧ x.f8.length ≤ 9223372036854775807
def lInstrS (xs : List S140) : Prop := xs.length ≤ 9223372036854775807 ∧ ∀ x ∈ xs, lInstr x
def lBlockS (xs : List S96) : Prop := xs.length ≤ 9223372036854775807 ∧ ∀ x ∈ xs, lInstrS x.f0
theorem szInt64S_f (l : List Int) (a : Int) (h0 : 0 ≤ a) (h1 : a ≤ 1048576) (hl : l.length ≤ 9223372036854775807) : laws_szInt64S.f l a = some (if (l.length : Int) ≤ a then a - l.length else -1) := by
  unfold laws_szInt64S.f; rw [wrap64_id (by omega) (by omega)]
  by_cases h : (l.length : Int) ≤ a
  · rw [if_neg (by omega), if_pos h]
  · rw [if_pos (by omega), if_neg h]
theorem szUint64S_f (l : List Int) (a : Int) (h0 : 0 ≤ a) (h1 : a ≤ 1048576) (hl : l.length ≤ 9223372036854775807) : laws_szUint64S.f l a = some (if (l.length : Int) ≤ a then a - l.length else -1) := by
  unfold laws_szUint64S.f; rw [wrap64_id (by omega) (by omega)]
  by_cases h : (l.length : Int) ≤ a
  · rw [if_neg (by omega), if_pos h]
  · rw [if_pos (by omega), if_neg h]
theorem szOperandS_f (l : List S158) (a : Int) (h0 : 0 ≤ a) (h1 : a ≤ 1048576) (hl : l.length ≤ 9223372036854775807) : laws_szOperandS.f l a = some (if (l.length : Int) ≤ a then a - l.length else -1) := by
  unfold laws_szOperandS.f; rw [wrap64_id (by omega) (by omega)]
  by_cases h : (l.length : Int) ≤ a
  · rw [if_neg (by omega), if_pos h]
  · rw [if_pos (by omega), if_neg h]
theorem szInstr_f (x : S140) (a : Int) (h0 : 0 ≤ a) (h1 : a ≤ 1048576) (hx : lInstr x) : laws_szInstr.f x.f0 x.f1 x.f2 x.f3 x.f4 x.f5 x.f6 x.f7 x.f8 a = some (if (sInstr x : Int) ≤ a then a - sInstr x else -1) := by
  obtain ⟨l6, l7, l8⟩ := hx
  unfold laws_szInstr.f sInstr
  rw [szOperandS_f _ _ h0 h1 l6]; simp only [Option.bind_some]
  by_cases c6 : (x.f6.length : Int) ≤ a
  · rw [if_pos c6, if_neg (by omega), szInt64S_f _ _ (by omega) (by omega) l7]; simp only [Option.bind_some]
    by_cases c7 : (x.f7.length : Int) ≤ a - x.f6.length
    · rw [if_pos c7, if_neg (by omega), szUint64S_f _ _ (by omega) (by omega) l8]; simp only [Option.bind_some]
      by_cases c8 : (x.f8.length : Int) ≤ a - x.f6.length - x.f7.length
      · rw [if_pos c8, if_neg (by omega), if_pos (by omega)]; congr 1; omega
      · rw [if_neg c8, if_pos (by omega), if_neg (by omega)]
    · rw [if_neg c7, if_pos (by omega), if_neg (by omega)]
  · rw [if_neg c6, if_pos (by omega), if_neg (by omega)]
theorem szInstrS_f (xs : List S140) (a : Int) (h0 : 0 ≤ a) (h1 : a ≤ 1048576) (hx : lInstrS xs) : Ev (fun k => laws_szInstrS.f k xs a) (if (sInstrS xs : Int) ≤ a then a - sInstrS xs else -1) := by
  obtain ⟨hl, hx⟩ := hx
  unfold laws_szInstrS.f
  rw [wrap64_id (by omega) (by omega)]
  by_cases c : (xs.length : Int) ≤ a
  · refine Ev.neg (by omega) ?_
    have h := sz_gen sInstr z140 xs (fun k a i => laws_szInstrS.l0 k xs a i) (fun i a r hi h0 h1 h => by
      refine Ev.succ ?_
      simp only [laws_szInstrS.l0]
      refine Ev.pos (by omega) (Ev.pos (by omega) ?_)
      have hm : lInstr (rd_T140 xs i) := hx _ (by simp only [rd_T140, Int.toNat_natCast]; rw [getD_eq hi]; exact List.getElem_mem hi)
      refine Ev.eq_bind (szInstr_f _ a h0 h1 hm) ?_
      have e : rd_T140 xs i = xs.getD i z140 := by simp [rd_T140]
      rw [e]
      split at h
      · rename_i hc
        rw [if_pos hc, wrap64_nat (by omega)]
        exact Ev.neg (by omega) h
      · rename_i hc
        rw [if_neg hc]
        exact Ev.pos (by omega) (Ev.some h.symm)) (fun a => by
      refine Ev.succ ?_
      simp only [laws_szInstrS.l0]
      exact Ev.neg (by omega) (Ev.now _)) (a - xs.length) (by omega) (by omega)
    have e : (if ((xs.map sInstr).sum : Int) ≤ a - xs.length then a - xs.length - (xs.map sInstr).sum else -1) = (if (sInstrS xs : Int) ≤ a then a - sInstrS xs else -1) := by unfold sInstrS; split <;> split <;> omega
    rw [← e]
    exact h
  · rw [if_neg (by unfold sInstrS; omega)]
    exact Ev.pos (by omega) (Ev.now _)
theorem szBlockS_f (xs : List S96) (a : Int) (h0 : 0 ≤ a) (h1 : a ≤ 1048576) (hx : lBlockS xs) : Ev (fun k => laws_szBlockS.f k xs a) (if (sBlockS xs : Int) ≤ a then a - sBlockS xs else -1) := by
  obtain ⟨hl, hx⟩ := hx
  unfold laws_szBlockS.f
  rw [wrap64_id (by omega) (by omega)]
  by_cases c : (xs.length : Int) ≤ a
  · refine Ev.neg (by omega) ?_
    have h := sz_gen sBlock z96 xs (fun k a i => laws_szBlockS.l0 k xs a i) (fun i a r hi h0 h1 h => by
      refine Ev.succ ?_
      simp only [laws_szBlockS.l0]
      refine Ev.pos (by omega) (Ev.pos (by omega) ?_)
      have hm : lInstrS (rd_T96 xs i).f0 := hx _ (by simp only [rd_T96, Int.toNat_natCast]; rw [getD_eq hi]; exact List.getElem_mem hi)
      have e : rd_T96 xs i = xs.getD i z96 := by simp [rd_T96]
      rw [e] at hm ⊢
      have h2 := szInstrS_f _ a h0 h1 hm
      unfold laws_szBlock.f
      split at h
      · rename_i hc
        rw [if_pos (show (sInstrS (xs.getD i z96).f0 : Int) ≤ a from hc)] at h2
        refine Ev.bind (Ev.bind h2 (Ev.neg (by unfold sBlock at hc; omega) (Ev.now _))) ?_
        rw [wrap64_nat (by omega)]
        exact Ev.neg (by unfold sBlock at hc; omega) h
      · rename_i hc
        rw [if_neg (show ¬ (sInstrS (xs.getD i z96).f0 : Int) ≤ a from hc)] at h2
        refine Ev.bind (Ev.bind h2 (Ev.pos (by omega) (Ev.now _))) ?_
        exact Ev.pos (by omega) (Ev.some h.symm)) (fun a => by
      refine Ev.succ ?_
      simp only [laws_szBlockS.l0]
      exact Ev.neg (by omega) (Ev.now _)) (a - xs.length) (by omega) (by omega)
    have e : (if ((xs.map sBlock).sum : Int) ≤ a - xs.length then a - xs.length - (xs.map sBlock).sum else -1) = (if (sBlockS xs : Int) ≤ a then a - sBlockS xs else -1) := by unfold sBlockS; split <;> split <;> omega
    rw [← e]
    exact h
  · rw [if_neg (by unfold sBlockS; omega)]
    exact Ev.pos (by omega) (Ev.now _)
theorem szFunc_f (n : ByteArray) (b : Int) (ps : List Int) (c : Int) (bs : List S96) (hn : n.size ≤ 9223372036854775807) (hp : ps.length ≤ 9223372036854775807) (hb : lBlockS bs) :
    ∃ r, Ev (fun k => laws_szFunc.f k n b ps c bs 1048576) r ∧ (r < 0 ∨ n.size + ps.length + sBlockS bs ≤ 1048576) := by
  unfold laws_szFunc.f
  rw [wrap64_id (by omega) (by omega)]
  by_cases c1 : (n.size : Int) ≤ 1048576
  · by_cases c2 : (ps.length : Int) ≤ 1048576 - n.size
    · by_cases c3 : (sBlockS bs : Int) ≤ 1048576 - n.size - ps.length
      · refine ⟨1048576 - n.size - ps.length - sBlockS bs, Ev.neg (by omega) ?_, .inr (by omega)⟩
        refine Ev.eq_bind (szInt64S_f _ _ (by omega) (by omega) hp) ?_
        rw [if_pos c2]
        refine Ev.neg (by omega) ?_
        have h := szBlockS_f bs (1048576 - n.size - ps.length) (by omega) (by omega) hb
        rw [if_pos c3] at h
        exact Ev.bind h (Ev.neg (by omega) (Ev.now _))
      · refine ⟨-1, Ev.neg (by omega) ?_, .inl (by omega)⟩
        refine Ev.eq_bind (szInt64S_f _ _ (by omega) (by omega) hp) ?_
        rw [if_pos c2]
        refine Ev.neg (by omega) ?_
        have h := szBlockS_f bs (1048576 - n.size - ps.length) (by omega) (by omega) hb
        rw [if_neg c3] at h
        exact Ev.bind h (Ev.pos (by omega) (Ev.now _))
    · refine ⟨-1, Ev.neg (by omega) ?_, .inl (by omega)⟩
      refine Ev.eq_bind (szInt64S_f _ _ (by omega) (by omega) hp) ?_
      rw [if_neg c2]
      exact Ev.pos (by omega) (Ev.now _)
  · exact ⟨-1, Ev.pos (by omega) (Ev.now _), .inl (by omega)⟩

/-! ### to -/
theorem toInt64S_f (l : List Int) (hl : l.length ≤ 1048576) : Ev (fun k => laws_toInt64S.f k l) l := by
  unfold laws_toInt64S.f
  refine Ev.pos (by omega) (Ev.pos (by omega) ?_)
  have h := to_gen (fun x : Int => x) 0 0 l (fun k out i => laws_toInt64S.l0 k l out i) (fun i out r hi ho h => by
    refine Ev.succ ?_
    simp only [laws_toInt64S.l0]
    refine Ev.pos (by omega) (Ev.pos (by omega) (Ev.pos (by omega) ?_))
    rw [wrap64_nat (by omega)]
    simpa [rd] using h) (fun out _ => by
    refine Ev.succ ?_
    simp only [laws_toInt64S.l0]
    exact Ev.neg (by omega) (Ev.now _))
  simpa using h
theorem toUint64S_f (l : List Int) (hl : l.length ≤ 1048576) : Ev (fun k => laws_toUint64S.f k l) l := by
  unfold laws_toUint64S.f
  refine Ev.pos (by omega) (Ev.pos (by omega) ?_)
  have h := to_gen (fun x : Int => x) 0 0 l (fun k out i => laws_toUint64S.l0 k l out i) (fun i out r hi ho h => by
    refine Ev.succ ?_
    simp only [laws_toUint64S.l0]
    refine Ev.pos (by omega) (Ev.pos (by omega) (Ev.pos (by omega) ?_))
    rw [wrap64_nat (by omega)]
    simpa [rd] using h) (fun out _ => by
    refine Ev.succ ?_
    simp only [laws_toUint64S.l0]
    exact Ev.neg (by omega) (Ev.now _))
  simpa using h
theorem toOperandS_f (l : List S158) (hl : l.length ≤ 1048576) : Ev (fun k => laws_toOperandS.f k l) (l.map iOperand) := by
  unfold laws_toOperandS.f
  refine Ev.pos (by omega) (Ev.pos (by omega) ?_)
  have h := to_gen iOperand z75 z158 l (fun k out i => laws_toOperandS.l0 k l out i) (fun i out r hi ho h => by
    refine Ev.succ ?_
    simp only [laws_toOperandS.l0]
    refine Ev.pos (by omega) (Ev.pos (by omega) (Ev.eq_bind (by unfold laws_toOperand.f; rfl) (Ev.pos (by omega) ?_)))
    rw [wrap64_nat (by omega)]
    simpa [rd_T158, iOperand] using h) (fun out _ => by
    refine Ev.succ ?_
    simp only [laws_toOperandS.l0]
    exact Ev.neg (by omega) (Ev.now _))
  simpa using h
theorem toInstrS_f (l : List S140) (hl : sInstrS l ≤ 1048576) : Ev (fun k => laws_toInstrS.f k l) (l.map iInstr) := by
  unfold laws_toInstrS.f
  have hl1 : l.length ≤ 1048576 := by unfold sInstrS at hl; omega
  refine Ev.pos (by omega) (Ev.pos (by omega) ?_)
  have h := to_gen iInstr z66 z140 l (fun k out i => laws_toInstrS.l0 k l out i) (fun i out r hi ho h => by
    refine Ev.succ ?_
    simp only [laws_toInstrS.l0]
    have hs := sum_getD_le sInstr z140 l i hi
    have e : rd_T140 l i = l.getD i z140 := by simp [rd_T140]
    rw [e]
    have hz : sInstr (l.getD i z140) = (l.getD i z140).f6.length + (l.getD i z140).f7.length + (l.getD i z140).f8.length := rfl
    unfold sInstrS at hl
    refine Ev.pos (by omega) (Ev.pos (by omega) (Ev.bind (a := ((l.getD i z140).f0, (l.getD i z140).f1, (l.getD i z140).f2, (l.getD i z140).f3, (l.getD i z140).f4, (l.getD i z140).f5, (l.getD i z140).f6.map iOperand, (l.getD i z140).f7, (l.getD i z140).f8)) ?_ (Ev.pos (by omega) ?_)))
    · unfold laws_toInstr.f
      exact Ev.bind (toOperandS_f _ (by omega)) (Ev.bind (toInt64S_f _ (by omega)) (Ev.bind (toUint64S_f _ (by omega)) (Ev.now _)))
    · rw [wrap64_nat (by omega)]
      exact h) (fun out _ => by
    refine Ev.succ ?_
    simp only [laws_toInstrS.l0]
    exact Ev.neg (by omega) (Ev.now _))
  simpa using h
theorem toBlockS_f (l : List S96) (hl : sBlockS l ≤ 1048576) : Ev (fun k => laws_toBlockS.f k l) (l.map iBlock) := by
  unfold laws_toBlockS.f
  have hl1 : l.length ≤ 1048576 := by unfold sBlockS at hl; omega
  refine Ev.pos (by omega) (Ev.pos (by omega) ?_)
  have h := to_gen iBlock z62 z96 l (fun k out i => laws_toBlockS.l0 k l out i) (fun i out r hi ho h => by
    refine Ev.succ ?_
    simp only [laws_toBlockS.l0]
    have hs := sum_getD_le sBlock z96 l i hi
    have e : rd_T96 l i = l.getD i z96 := by simp [rd_T96]
    rw [e]
    have hz : sBlock (l.getD i z96) = sInstrS (l.getD i z96).f0 := rfl
    unfold sBlockS at hl
    refine Ev.pos (by omega) (Ev.pos (by omega) (Ev.bind (a := (l.getD i z96).f0.map iInstr) ?_ (Ev.pos (by omega) ?_)))
    · unfold laws_toBlock.f
      exact Ev.bind (toInstrS_f _ (by omega)) (Ev.now _)
    · rw [wrap64_nat (by omega)]
      exact h) (fun out _ => by
    refine Ev.succ ?_
    simp only [laws_toBlockS.l0]
    exact Ev.neg (by omega) (Ev.now _))
  simpa using h
theorem toFunc_f (n : ByteArray) (b : Int) (ps : List Int) (c : Int) (bs : List S96) (h : n.size + ps.length + sBlockS bs ≤ 1048576) : Ev (fun k => laws_toFunc.f k n b ps c bs) (n, b, ps, c, bs.map iBlock) := by
  unfold laws_toFunc.f
  exact Ev.bind (toInt64S_f _ (by omega)) (Ev.bind (toBlockS_f _ (by omega)) (Ev.now _))

/-! ### eq, of one value with itself -/
theorem eqInt64S_f (l : List Int) (hl : l.length ≤ 9223372036854775806) : Ev (fun k => laws_eqInt64S.f k l l) true := by
  unfold laws_eqInt64S.f
  refine Ev.pos rfl (all_gen l.length (fun k i => laws_eqInt64S.l0 k l l i) (fun i hi h => ?_) ?_)
  · refine Ev.succ ?_
    simp only [laws_eqInt64S.l0]
    rw [wrap64_nat (by omega)]
    exact Ev.pos (by omega) (Ev.pos (by omega) (Ev.pos (by omega) (Ev.pos trivial h)))
  · refine Ev.succ ?_
    simp only [laws_eqInt64S.l0]
    exact Ev.neg (by omega) (Ev.now _)
theorem eqUint64S_f (l : List Int) (hl : l.length ≤ 9223372036854775806) : Ev (fun k => laws_eqUint64S.f k l l) true := by
  unfold laws_eqUint64S.f
  refine Ev.pos rfl (all_gen l.length (fun k i => laws_eqUint64S.l0 k l l i) (fun i hi h => ?_) ?_)
  · refine Ev.succ ?_
    simp only [laws_eqUint64S.l0]
    rw [wrap64_nat (by omega)]
    exact Ev.pos (by omega) (Ev.pos (by omega) (Ev.pos (by omega) (Ev.pos trivial h)))
  · refine Ev.succ ?_
    simp only [laws_eqUint64S.l0]
    exact Ev.neg (by omega) (Ev.now _)
theorem eqOperandS_f (l : List S75) (hl : l.length ≤ 9223372036854775806) : Ev (fun k => laws_eqOperandS.f k l l) true := by
  unfold laws_eqOperandS.f
  refine Ev.pos rfl (all_gen l.length (fun k i => laws_eqOperandS.l0 k l l i) (fun i hi h => ?_) ?_)
  · refine Ev.succ ?_
    simp only [laws_eqOperandS.l0]
    rw [wrap64_nat (by omega)]
    exact Ev.pos (by omega) (Ev.pos (by omega) (Ev.pos (by omega) (Ev.eq_bind (a := true) (by simp [laws_eqOperand.f]) (Ev.pos rfl h))))
  · refine Ev.succ ?_
    simp only [laws_eqOperandS.l0]
    exact Ev.neg (by omega) (Ev.now _)
def bInstr (x : S66) : Prop := x.f6.length ≤ 1048576 ∧ x.f7.length ≤ 1048576 ∧ x.f8.length ≤ 1048576
def bBlock (x : S62) : Prop := x.f0.length ≤ 1048576 ∧ ∀ y ∈ x.f0, bInstr y
theorem eqInstr_f (x : S66) (h : bInstr x) : Ev (fun k => laws_eqInstr.f k x.f0 x.f1 x.f2 x.f3 x.f4 x.f5 x.f6 x.f7 x.f8 x.f0 x.f1 x.f2 x.f3 x.f4 x.f5 x.f6 x.f7 x.f8) true := by
  obtain ⟨h6, h7, h8⟩ := h
  unfold laws_eqInstr.f
  exact Ev.pos rfl (Ev.pos rfl (Ev.pos rfl (Ev.pos rfl (Ev.pos rfl (Ev.pos rfl (Ev.bind (eqOperandS_f _ (by omega)) (Ev.pos rfl (Ev.bind (eqInt64S_f _ (by omega)) (Ev.pos rfl (Ev.bind (eqUint64S_f _ (by omega)) (Ev.pos rfl (Ev.now _))))))))))))
theorem eqInstrS_f (l : List S66) (hl : l.length ≤ 1048576) (hb : ∀ y ∈ l, bInstr y) : Ev (fun k => laws_eqInstrS.f k l l) true := by
  unfold laws_eqInstrS.f
  refine Ev.pos rfl (all_gen l.length (fun k i => laws_eqInstrS.l0 k l l i) (fun i hi h => ?_) ?_)
  · refine Ev.succ ?_
    simp only [laws_eqInstrS.l0]
    rw [wrap64_nat (by omega)]
    have hm : bInstr (rd_T66 l i) := hb _ (by simp only [rd_T66, Int.toNat_natCast]; rw [getD_eq hi]; exact List.getElem_mem hi)
    exact Ev.pos (by omega) (Ev.pos (by omega) (Ev.pos (by omega) (Ev.bind (eqInstr_f _ hm) (Ev.pos rfl h))))
  · refine Ev.succ ?_
    simp only [laws_eqInstrS.l0]
    exact Ev.neg (by omega) (Ev.now _)
theorem eqBlockS_f (l : List S62) (hl : l.length ≤ 1048576) (hb : ∀ y ∈ l, bBlock y) : Ev (fun k => laws_eqBlockS.f k l l) true := by
  unfold laws_eqBlockS.f
  refine Ev.pos rfl (all_gen l.length (fun k i => laws_eqBlockS.l0 k l l i) (fun i hi h => ?_) ?_)
  · refine Ev.succ ?_
    simp only [laws_eqBlockS.l0]
    rw [wrap64_nat (by omega)]
    have hm : bBlock (rd_T62 l i) := hb _ (by simp only [rd_T62, Int.toNat_natCast]; rw [getD_eq hi]; exact List.getElem_mem hi)
    refine Ev.pos (by omega) (Ev.pos (by omega) (Ev.pos (by omega) (Ev.bind (a := true) ?_ (Ev.pos rfl h))))
    unfold laws_eqBlock.f
    exact Ev.bind (eqInstrS_f _ hm.1 hm.2) (Ev.pos rfl (Ev.now _))
  · refine Ev.succ ?_
    simp only [laws_eqBlockS.l0]
    exact Ev.neg (by omega) (Ev.now _)
theorem eqFunc_f (n : ByteArray) (b : Int) (ps : List Int) (c : Int) (bs : List S62) (hp : ps.length ≤ 1048576) (hl : bs.length ≤ 1048576) (hb : ∀ y ∈ bs, bBlock y) : Ev (fun k => laws_eqFunc.f k n b ps c bs n b ps c bs) true := by
  unfold laws_eqFunc.f
  exact Ev.pos rfl (Ev.pos rfl (Ev.bind (eqInt64S_f _ (by omega)) (Ev.pos rfl (Ev.pos rfl (Ev.bind (eqBlockS_f _ hl hb) (Ev.pos rfl (Ev.now _)))))))
theorem bBlock_of (bs : List S96) (h : sBlockS bs ≤ 1048576) : ∀ y ∈ bs.map iBlock, bBlock y := by
  intro y hy
  obtain ⟨x, hx, rfl⟩ := List.mem_map.1 hy
  obtain ⟨i, hi, rfl⟩ := List.getElem_of_mem hx
  have h1 := sum_getD_le sBlock z96 bs i hi
  rw [getD_eq hi] at h1
  have hz : sBlock bs[i] = bs[i].f0.length + (bs[i].f0.map sInstr).sum := rfl
  unfold sBlockS at h
  refine ⟨by show (bs[i].f0.map iInstr).length ≤ _; rw [List.length_map]; omega, fun z hz2 => ?_⟩
  obtain ⟨u, hu, rfl⟩ := List.mem_map.1 (show z ∈ bs[i].f0.map iInstr from hz2)
  obtain ⟨j, hj, rfl⟩ := List.getElem_of_mem hu
  have h2 := sum_getD_le sInstr z140 bs[i].f0 j hj
  rw [getD_eq hj] at h2
  have hz3 : sInstr bs[i].f0[j] = bs[i].f0[j].f6.length + bs[i].f0[j].f7.length + bs[i].f0[j].f8.length := rfl
  refine ⟨?_, ?_, ?_⟩
  · show (bs[i].f0[j].f6.map iOperand).length ≤ _; rw [List.length_map]; omega
  · show bs[i].f0[j].f7.length ≤ _; omega
  · show bs[i].f0[j].f8.length ≤ _; omega
end Go.Proofs.Ytoedcnhgobbnfaa.All


/- What reads as data has machine lengths. -/
namespace Go.Proofs.Ytoedcnhgobbnfaa.All
open Go.RowKit Go.Proofs.YtoedcnhgobbnfaaW.PrintWords Go.Proofs.YtoedcnhgobbnfaaW.PrintLast Go.Proofs.YtoedcnhgobbnfaaW.PrintMore
set_option linter.unusedVariables false
set_option linter.unusedSimpArgs false
theorem lBlockS_ok {l : List S96} (h : l.length ≤ 9223372036854775807 ∧ ∀ y ∈ l, ok96 y) : lBlockS l := by
  refine ⟨h.1, fun b hb => ?_⟩
  have h1 := h.2 b hb
  unfold ok96 at h1
  refine ⟨h1.1, fun x hx => ?_⟩
  have h2 := h1.2 x hx
  unfold ok140 at h2
  obtain ⟨_, _, _, _, _, _, h6, h7, h8⟩ := h2
  exact ⟨h6.1, h7.1, h8.1⟩
end Go.Proofs.Ytoedcnhgobbnfaa.All


/- Plain laws: a result's own cells marked, and found marked. -/
namespace Go.Proofs.Ytoedcnhgobbnfaa.All
open Go.RowKit Go.Proofs.YtoedcnhgobbnfaaW.PrintWords Go.Proofs.YtoedcnhgobbnfaaW.PrintLast Go.Proofs.YtoedcnhgobbnfaaW.PrintMore
set_option linter.unusedVariables false
set_option linter.unusedSimpArgs false
def marks (n : Nat) : List Int := (List.range n).map fun (j : Nat) => (1 : Int) + (j : Int)
theorem marks_length (n : Nat) : (marks n).length = n := by simp [marks]
theorem marks_at (n i : Nat) (h : i < n) : rd (marks n) i = 1 + i := by
  simp [rd, marks, List.getElem?_range, h]
theorem markInt64S_f (l : List Int) (hl : l.length ≤ 1000000000000) : Ev (fun k => laws_markInt64S.f k l 1) ((1 : Int) + (l.length : Nat), marks l.length) := by
  unfold laws_markInt64S.f marks
  refine mk_gen (fun (j : Nat) => (1 : Int) + (j : Int)) l (fun out => ((1 : Int) + (l.length : Nat), out)) (fun k out i => laws_markInt64S.l0 k out (1 + i) i) (fun i out r hi ho h => ?_) (fun out ho => ?_)
  · refine Ev.succ ?_
    simp only [laws_markInt64S.l0]
    refine Ev.pos (by omega) (Ev.pos (by omega) ?_)
    rw [wrap64_nat (by omega), wrap64_id (by omega) (by omega)]
    have e : (1 : Int) + ((i + 1 : Nat) : Int) = 1 + (i : Int) + 1 := by omega
    rw [e] at h
    simpa using h
  · refine Ev.succ ?_
    simp only [laws_markInt64S.l0]
    exact Ev.neg (by omega) (Ev.now _)
theorem heldInt64S_f (n : Nat) (hl : n ≤ 1000000000000) : Ev (fun k => laws_heldInt64S.f k (marks n) 1) ((1 : Int) + (n : Nat)) := by
  unfold laws_heldInt64S.f
  refine for_gen ((1 : Int) + (n : Nat)) n (fun k i => laws_heldInt64S.l0 k (marks n) (1 + i) i) (fun i hi h => ?_) ?_
  · refine Ev.succ ?_
    simp only [laws_heldInt64S.l0]
    rw [marks_at n i hi]
    refine Ev.pos (by rw [marks_length]; omega) (Ev.pos (by omega) (Ev.pos rfl ?_))
    rw [wrap64_nat (by omega), wrap64_id (by omega) (by omega)]
    have e : (1 : Int) + ((i + 1 : Nat) : Int) = 1 + (i : Int) + 1 := by omega
    rw [e] at h
    exact h
  · refine Ev.succ ?_
    simp only [laws_heldInt64S.l0]
    exact Ev.neg (by rw [marks_length]; omega) (Ev.now _)
end Go.Proofs.Ytoedcnhgobbnfaa.All


/- How many cells the laws mark. -/
namespace Go.Proofs.Ytoedcnhgobbnfaa.All
open Go.RowKit Go.Proofs.YtoedcnhgobbnfaaW.PrintWords Go.Proofs.YtoedcnhgobbnfaaW.PrintLast Go.Proofs.YtoedcnhgobbnfaaW.PrintMore
set_option linter.unusedVariables false
set_option linter.unusedSimpArgs false
def nB (bs : List S62) : Nat := (bs.map fun b => b.f0.length).sum
theorem cnt_of_s (bs : List S96) : nB (bs.map iBlock) ≤ sBlockS bs ∧ cntL_Block (bs.map iBlock) ≤ 10 * sBlockS bs := by
  have hI : ∀ xs : List S140, cntL_Instr (xs.map iInstr) ≤ 10 * sInstrS xs := by
    intro xs
    unfold cntL_Instr sInstrS
    induction xs with
    | nil => simp
    | cons x xs ih =>
      have h1 : cnt_Instr (iInstr x) = 6 + 4 * x.f6.length + x.f7.length + x.f8.length := by
        unfold cnt_Instr iInstr cntL_int64 cntL_uint64 cntL_Operand
        have h2 : ∀ l : List S158, ((l.map iOperand).map cnt_Operand).sum = 4 * l.length := by
          intro l
          induction l with
          | nil => rfl
          | cons a l ih => simp only [List.map_cons, List.sum_cons, ih, List.length_cons]; have : cnt_Operand (iOperand a) = 4 := rfl; omega
        simp only [h2]
      have h3 : sInstr x = x.f6.length + x.f7.length + x.f8.length := rfl
      simp only [List.map_cons, List.sum_cons, List.length_cons] at ih ⊢
      omega
  unfold nB cntL_Block sBlockS
  induction bs with
  | nil => simp
  | cons x xs ih =>
    have h1 := hI x.f0
    have h2 : cnt_Block (iBlock x) = cntL_Instr (x.f0.map iInstr) := rfl
    have h3 : sBlock x = sInstrS x.f0 := rfl
    have h4 : (iBlock x).f0.length = x.f0.length := by simp [iBlock]
    have h5 : x.f0.length ≤ sInstrS x.f0 := by unfold sInstrS; omega
    simp only [List.map_cons, List.sum_cons, List.length_cons] at ih ⊢
    omega
end Go.Proofs.Ytoedcnhgobbnfaa.All


namespace Go.Proofs.Ytoedcnhgobbnfaa.All
open Go.RowKit Go.Proofs.YtoedcnhgobbnfaaW.PrintWords Go.Proofs.YtoedcnhgobbnfaaW.PrintLast Go.Proofs.YtoedcnhgobbnfaaW.PrintMore
attribute [local go_sem] max2_int min2_int max_two min_two max_three min_three max_four min_four   -- for this text's walks alone
set_option linter.unusedVariables false
set_option linter.unusedSimpArgs false

/-! ### spec_l4Reach: function 46 -/
mutual
def spec_l4Reach.j0 : Nat → Int → Int → List Bool → Bool → List (List Int) → List (List Int) → Option (List Bool)
 | 0, _, _, _, _, _, _ => none
 | k + 1, x1, x2, x7, x29, x129000, x129001 => if x29 = true then (some x7) else (if 0 ≤ x1 then (if x1 < (x7.length : Int) then (spec_l4Reach.l0 k x2 (x7.set (x1 : Int).toNat true) (([x1] : List Int)) x129000 x129001) else (none)) else (none))
def spec_l4Reach.l0 : Nat → Int → List Bool → List Int → List (List Int) → List (List Int) → Option (List Bool)
 | 0, _, _, _, _, _ => none
 | k + 1, x2, x7, x8, x129000, x129001 => if (x8.length : Int) > 0 then (if 0 ≤ (wrap64 ((x8.length : Int) - 1)) then (if (wrap64 ((x8.length : Int) - 1)) < (x8.length : Int) then (if (wrap64 ((x8.length : Int) - 1)) ≤ (x8.length : Int) then (spec_l4Reach.l1 k x2 x7 (x8.take ((wrap64 ((x8.length : Int) - 1)) : Int).toNat) (rd x8 (wrap64 ((x8.length : Int) - 1))) 0 x129000 x129001) else (none)) else (none)) else (none)) else (some x7)
def spec_l4Reach.l1 : Nat → Int → List Bool → List Int → Int → Int → List (List Int) → List (List Int) → Option (List Bool)
 | 0, _, _, _, _, _, _, _ => none
 | k + 1, x2, x7, x8, x9, x10, x129000, x129001 => if 0 ≤ x9 then (if x9 < (x129000.length : Int) then (if x10 < ((rd_L4 x129000 x9).length : Int) then (if 0 ≤ x10 then (if (rd (rd_L4 x129000 x9) x10) = x2 then (spec_l4Reach.l1 k x2 x7 x8 x9 (wrap64 (x10 + 1)) x129000 x129001) else (if 0 ≤ (rd (rd_L4 x129000 x9) x10) then (if (rd (rd_L4 x129000 x9) x10) < (x7.length : Int) then (if (rdOf false x7 (rd (rd_L4 x129000 x9) x10) = true) then (spec_l4Reach.l1 k x2 x7 x8 x9 (wrap64 (x10 + 1)) x129000 x129001) else (if x8.length < 17592186044416 then (spec_l4Reach.l1 k x2 (x7.set ((rd (rd_L4 x129000 x9) x10) : Int).toNat true) (x8 ++ [rd (rd_L4 x129000 x9) x10]) x9 (wrap64 (x10 + 1)) x129000 x129001) else (none))) else (none)) else (none))) else (none)) else (spec_l4Reach.l0 k x2 x7 x8 x129000 x129001)) else (none)) else (none)
end
def spec_l4Reach.f (k : Nat) (l0_0 : List (List Int)) (l0_1 : List (List Int)) (a1 : Int) (a2 : Int) : Option (List Bool) := if 0 ≤ (l0_0.length : Int) then (if ((l0_0.length : Int) : Int).toNat ≤ 281474976710656 then ((some (List.replicate ((l0_0.length : Int) : Int).toNat false : List Bool)).bind fun y129 => (if a1 = a2 then (spec_l4Reach.j0 k a1 a2 y129 true l0_0 l0_1) else (if a1 < 0 then (spec_l4Reach.j0 k a1 a2 y129 true l0_0 l0_1) else (spec_l4Reach.j0 k a1 a2 y129 (decide (a1 ≥ (l0_0.length : Int))) l0_0 l0_1)))) else (none)) else (none)
set_option maxHeartbeats 8000000 in
set_option maxRecDepth 100000 in
theorem spec_l4Reach.calls (k : Nat) (A0_0 : Option Addr) (c0_0 : Nat) (l0_0 : List (List Int)) (A0_1 : Option Addr) (c0_1 : Nat) (l0_1 : List (List Int)) (a1 : Int) (a2 : Int) (r : List Bool) (w : World) (hr0_0 : Kd.C (Kd.slice 2 (Kd.int .i64)) w A0_0 l0_0.length l0_0) (hc0_0 : l0_0.length ≤ c0_0) (hr0_1 : Kd.C (Kd.slice 2 (Kd.int .i64)) w A0_1 l0_1.length l0_1) (hc0_1 : l0_1.length ≤ c0_1) (h : spec_l4Reach.f k l0_0 l0_1 a1 a2 = some r) :
 Calls Try.prog 46 #[.agg #[.slice A0_0 l0_0.length c0_0, .slice A0_1 l0_1.length c0_1], .int .i64 a1, .int .i64 a2] w fun e w' => ∃ v0_ : Value, e = .returned (v0_) ∧ Kd.R Kd.bool 4 w' w.heap.size (fun _ => True) v0_ r ∧ Below w.heap.size w w' := by
 have hu52 := Try.underlying52
 have HR0_0 := Aside0.mk hr0_0
 have HC0_0 := Aside0.mk hc0_0
 clear hr0_0 hc0_0
 have HR0_1 := Aside0.mk hr0_1
 have HC0_1 := Aside0.mk hc0_1
 clear hr0_1 hc0_1
 have HB := Aside0.mk (Below.refl w.heap.size w)
 have H : (if 0 ≤ (l0_0.length : Int) then (if ((l0_0.length : Int) : Int).toNat ≤ 281474976710656 then ((some (List.replicate ((l0_0.length : Int) : Int).toNat false : List Bool)).bind fun y129 => (if a1 = a2 then (spec_l4Reach.j0 k a1 a2 y129 true l0_0 l0_1) else (if a1 < 0 then (spec_l4Reach.j0 k a1 a2 y129 true l0_0 l0_1) else (spec_l4Reach.j0 k a1 a2 y129 (decide (a1 ≥ (l0_0.length : Int))) l0_0 l0_1)))) else (none)) else (none)) = some r := h
 clear h
 by_cases c4 : 0 ≤ (l0_0.length : Int)
 · rw [if_pos c4] at H
   have c4b0 := eq_true c4
   have c4b1 : decide (0 ≤ (l0_0.length : Int)) = true := decide_eq_true c4
   clear c4
   by_cases c5 : ((l0_0.length : Int) : Int).toNat ≤ 281474976710656
   · rw [if_pos c5] at H
     have c5b0 := eq_true c5
     have c5b1 : decide (((l0_0.length : Int) : Int).toNat ≤ 281474976710656) = true := decide_eq_true c5
     clear c5
     obtain ⟨y129, hy129⟩ : ∃ y_ : List Bool, y_ = (List.replicate ((l0_0.length : Int) : Int).toNat false) := ⟨_, rfl⟩
     replace H : (if a1 = a2 then (spec_l4Reach.j0 k a1 a2 y129 true l0_0 l0_1) else (if a1 < 0 then (spec_l4Reach.j0 k a1 a2 y129 true l0_0 l0_1) else (spec_l4Reach.j0 k a1 a2 y129 (decide (a1 ≥ (l0_0.length : Int))) l0_0 l0_1))) = some r := by first | (rw [hy129]; with_reducible exact H) | (have H2_ := (Option.bind_some _ _).symm.trans H; rw [hy129]; with_reducible exact H2_) | (have H2_ := (Option.bind_some _ _).symm.trans H; with_reducible exact H2_) | with_reducible exact H | (rw [hy129]; exact H) | exact H
     have Ny129 := Aside0.mk hy129
     clear hy129
     have HC6 := Aside0.mk H
     clear H
     go_enter Try.func46, Try.ntmps46
     go_upto_region 2 with (first | ((with_reducible refine gate_dst (N := 3) rfl ?_); (try (refine gate_guard (by rfl) ?_; dsimp only)); refine box_event ?hg (N := 3) ?hd (cs := #[.slice A0_0 l0_0.length c0_0, .slice A0_1 l0_1.length c0_1]) (t := 52) ?hr ?_; (case hd => rfl); (case hg => rfl); (case hr => first | (go_simp; done) | (go_simp; rfl)); intro gb128 hg w7 hbox hb; have n0_ := Aside0.mk (below_step (by repeat (first | (with_reducible first | exact HB.out | apply below_alloc | apply pw_below_drewN | apply below_drew1) | exact HB.out)) hb); have n1_ := Aside0.mk (hbox); have n2_ := Aside0.mk ((by rw [hg]; exact (below_size (by repeat (first | (with_reducible first | exact HB.out | apply below_alloc | apply pw_below_drewN | apply below_drew1) | exact HB.out))) : w.heap.size ≤ gb128)); have n3_ := Aside0.mk ((by rw [hg]; exact (below_size (by repeat (first | (with_reducible first | exact HB.out | apply below_alloc | apply pw_below_drewN | apply below_drew1) | exact HB.out))) : w.heap.size ≤ gb128)); clear HB; have HB := n0_; have BK128 := n1_; have GW128 := n2_; have GE128 := n3_; clear n0_ n1_ n2_ n3_; clear hb hbox hg; have hcz8_0 : w7.cell? ⟨gb128, 0, none⟩ = some (.slice A0_0 l0_0.length c0_0) := (blk_cell BK128.out 0).trans rfl; have hcz8_1 : w7.cell? ⟨gb128, 1, none⟩ = some (.slice A0_1 l0_1.length c0_1) := (blk_cell BK128.out 1).trans rfl; have hfz8_0 := blk_frozen BK128.out 0; have hfz8_1 := blk_frozen BK128.out 1) | ((with_reducible refine gate_dst (N := 15) rfl ?_); (try (refine gate_guard (by rfl) ?_; dsimp only)); refine Kd.R_make Kd.bool _ 4 rfl (N := 15) rfl 54 _ _ rfl (l0_0.length : Int) rfl rfl Try.underlying54 (.bool false) 1 info4 rfl (by decide) (by omega) false (ok := fun _ => True) (okp := fun _ => True) rfl (fun _ hk => hk) trivial (of_decide_eq_true (by first | (with_reducible assumption) | assumption)) (Nat.le_trans (Nat.mul_le_mul_right _ (of_decide_eq_true (by first | (with_reducible assumption) | assumption) : (l0_0.length : Int).toNat ≤ 281474976710656)) (by omega)) (Below.refl _ _) (Nat.le_refl _) ?_; intro v130 w9 ho10 hb hg_ hnew_; clear hg_ hnew_; (first | rw [← Ny129.out] at ho10 | (simp only [Int.reduceToNat] at ho10; rw [← Ny129.out] at ho10)); have n0_ := Aside0.mk (Kd.R_lower ho10 (below_size (by repeat (first | (with_reducible first | exact HB.out | apply below_alloc | apply pw_below_drewN | apply below_drew1 | refine below_set ?_ GE128.out) | exact HB.out)))); have n1_ := Aside0.mk (blk_below (g := gb128) (o := .cells #[.slice A0_0 l0_0.length c0_0, .slice A0_1 l0_1.length c0_1] 52 (0, 0)) (by (with_reducible repeat (first | refine blk_drewN ?_ _ | refine blk_drew ?_ | refine blk_alloc ?_ _)); exact BK128.out) hb); have n2_ := Aside0.mk (below_step (by repeat (first | (with_reducible first | exact HB.out | apply below_alloc | apply pw_below_drewN | apply below_drew1 | refine below_set ?_ GE128.out) | exact HB.out)) hb); clear BK128; clear HB; have HO131 := n0_; have BK128 := n1_; have HB := n2_; clear n0_ n1_ n2_; clear hb ho10))
     (try simp only [Act.put, List.setIfInBounds_toArray, List.set_cons_zero, List.set_cons_succ])
     go_cut [29] (fun v29 wc => ∃ (kq : Nat) (x29_5 : Bool), v29 = .bool x29_5 ∧ Aside0 (spec_l4Reach.j0 kq a1 a2 y129 x29_5 l0_0 l0_1 = some r) ∧ Aside0 (kq ≤ k) ∧ Aside0 (Kd.R Kd.bool 4 wc w.heap.size (fun _ => True) v130 y129) ∧ Aside0 (wc.heap[gb128]? = some (.cells #[(.slice A0_0 l0_0.length c0_0), (.slice A0_1 l0_1.length c0_1)] 52 (0, 0))) ∧ Aside0 (Below w.heap.size w wc))
     case first =>
      have H := HC6.out
      clear HC6
      by_cases c11 : a1 = a2
      · rw [if_pos c11] at H
        have c11b0 : (a1 == a2) = true := beq_iff_eq.mpr c11
        have c11b1 : (a1 != a2) = false := bne_eq_false_iff_eq.mpr c11
        clear c11
        (first | rw [c11b0] | (simp only [i64_w, i32_w]; rw [c11b0]) | skip)
        have H' := Aside0.mk H
        clear H
        go_wp2
        go_meet
        case rel => exact ⟨_, (true), (by first | rfl | (simp; done) | (simp [*]; done)), H', ⟨by first | omega | exact Nat.le_refl _⟩, ⟨by (with_reducible repeat (first | apply Kd.R_alloc | apply Kd.R_drewN | apply Kd.R_drew)); exact HO131.out⟩, ⟨by (with_reducible repeat (first | refine blk_drewN ?_ _ | refine blk_drew ?_ | refine blk_alloc ?_ _)); exact BK128.out⟩, ⟨by repeat (first | (with_reducible first | exact HB.out | apply below_alloc | apply pw_below_drewN | apply below_drew1 | refine below_set ?_ GE128.out) | exact HB.out)⟩⟩
      · rw [if_neg c11] at H
        have c11b0 : (a1 == a2) = false := beq_eq_false_iff_ne.mpr c11
        have c11b1 : (a1 != a2) = true := bne_iff_ne.mpr c11
        (first | rw [c11b0] | (simp only [i64_w, i32_w]; rw [c11b0]) | skip)
        by_cases c12 : a1 < 0
        · rw [if_pos c12] at H
          have c12b0 : decide (a1 < 0) = true := decide_eq_true c12
          clear c12
          have H' := Aside0.mk H
          clear H
          go_wp2
          go_meet
          case rel => exact ⟨_, (true), (by first | rfl | (simp; done) | (simp [*]; done)), H', ⟨by first | omega | exact Nat.le_refl _⟩, ⟨by (with_reducible repeat (first | apply Kd.R_alloc | apply Kd.R_drewN | apply Kd.R_drew)); exact HO131.out⟩, ⟨by (with_reducible repeat (first | refine blk_drewN ?_ _ | refine blk_drew ?_ | refine blk_alloc ?_ _)); exact BK128.out⟩, ⟨by repeat (first | (with_reducible first | exact HB.out | apply below_alloc | apply pw_below_drewN | apply below_drew1 | refine below_set ?_ GE128.out) | exact HB.out)⟩⟩
        · rw [if_neg c12] at H
          have c12b0 : decide (a1 < 0) = false := decide_eq_false c12
          clear c12
          have H' := Aside0.mk H
          clear H
          have hcz13_0 : w9.cell? ⟨gb128, 0, none⟩ = some (.slice A0_0 l0_0.length c0_0) := (blk_cell BK128.out 0).trans rfl
          have hcz13_1 : w9.cell? ⟨gb128, 1, none⟩ = some (.slice A0_1 l0_1.length c0_1) := (blk_cell BK128.out 1).trans rfl
          have hfz13_0 := blk_frozen BK128.out 0
          have hfz13_1 := blk_frozen BK128.out 1
          go_wp2
          go_meet
          case rel => exact ⟨_, (decide (a1 ≥ (l0_0.length : Int))), (by first | rfl | (simp; done) | (simp [*]; done)), H', ⟨by first | omega | exact Nat.le_refl _⟩, ⟨by (with_reducible repeat (first | apply Kd.R_alloc | apply Kd.R_drewN | apply Kd.R_drew)); exact HO131.out⟩, ⟨by (with_reducible repeat (first | refine blk_drewN ?_ _ | refine blk_drew ?_ | refine blk_alloc ?_ _)); exact BK128.out⟩, ⟨by repeat (first | (with_reducible first | exact HB.out | apply below_alloc | apply pw_below_drewN | apply below_drew1 | refine below_set ?_ GE128.out) | exact HB.out)⟩⟩
     case rest =>
      clear HC6
      try clear c1
      try clear p2
      try clear c4
      try clear c4b0
      try clear c4b1
      try clear c5
      try clear c5b0
      try clear c5b1
      try clear c11
      try clear c11b0
      try clear c11b1
      try clear c12
      try clear c12b0
      try clear hcz13_0
      try clear hcz13_1
      try clear hcz8_0
      try clear hcz8_1
      try clear hfz13_0
      try clear hfz13_1
      try clear hfz8_0
      try clear hfz8_1
      obtain ⟨kq, x29_5, rfl, HA, HJ5, HO_7, BK128, HB⟩ := hcut
      cases kq with
      | zero => exact absurd HA.out (by simp [spec_l4Reach.j0])
      | succ kj5 =>
       have H := HA.out
       clear HA
       simp only [spec_l4Reach.j0] at H
       by_cases c14 : x29_5 = true
       · subst c14
         have H1 : (some y129) = some r := by rw [if_pos rfl] at H; exact H
         clear H
         have H := H1
         clear H1
         obtain rfl := Option.some.inj H
         go_wp2
         go_ret
         exact ⟨_, by first | rfl | (simp [errW_none, errW_some] <;> rfl) | (simp [*, errW_none, errW_some] <;> rfl), by (with_reducible repeat (first | apply Kd.R_alloc | apply Kd.R_drewN | apply Kd.R_drew)); exact HO_7.out, by repeat (first | (with_reducible first | exact HB.out | apply below_alloc | apply pw_below_drewN | apply below_drew1 | refine below_set ?_ GE128.out) | exact HB.out)⟩
       · replace c14 := Bool.eq_false_iff.mpr c14
         subst c14
         have H1 : (if 0 ≤ a1 then (if a1 < (y129.length : Int) then (spec_l4Reach.l0 kj5 a2 (y129.set (a1 : Int).toNat true) (([a1] : List Int)) l0_0 l0_1) else (none)) else (none)) = some r := by rw [if_neg (show ¬ (false = true) by decide)] at H; exact H
         clear H
         have H := H1
         clear H1
         by_cases c15 : 0 ≤ a1
         · rw [if_pos c15] at H
           have c15b0 : decide (0 ≤ a1) = true := decide_eq_true c15
           clear c15
           by_cases c16 : a1 < (y129.length : Int)
           · rw [if_pos c16] at H
             have c16b0 : decide (a1 < (y129.length : Int)) = true := decide_eq_true c16
             clear c16
             obtain ⟨y132, hy132⟩ : ∃ y_ : List Bool, y_ = (y129.set (a1 : Int).toNat true) := ⟨_, rfl⟩
             replace H : (spec_l4Reach.l0 kj5 a2 y132 (([a1] : List Int)) l0_0 l0_1) = some r := by first | (rw [hy132]; with_reducible exact H) | (have H2_ := (Option.bind_some _ _).symm.trans H; rw [hy132]; with_reducible exact H2_) | (have H2_ := (Option.bind_some _ _).symm.trans H; with_reducible exact H2_) | with_reducible exact H | (rw [hy132]; exact H) | exact H
             have Ny132 := Aside0.mk hy132
             clear hy132
             obtain ⟨y133, hy133⟩ : ∃ y_ : List Int, y_ = (([a1] : List Int)) := ⟨_, rfl⟩
             replace H : (spec_l4Reach.l0 kj5 a2 y132 y133 l0_0 l0_1) = some r := by first | (rw [hy133]; with_reducible exact H) | (have H2_ := (Option.bind_some _ _).symm.trans H; rw [hy133]; with_reducible exact H2_) | (have H2_ := (Option.bind_some _ _).symm.trans H; with_reducible exact H2_) | with_reducible exact H | (rw [hy133]; exact H) | exact H
             have Ny133 := Aside0.mk hy133
             clear hy133
             have H' := Aside0.mk H
             clear H
             have p17 : 0 ≤ (a1 : Int) := of_decide_eq_true (by first | (with_reducible assumption) | assumption)
             have q17 : (a1 : Int) < ((y129.length : Int) : Int) := of_decide_eq_true (by first | (with_reducible assumption) | assumption)
             obtain ⟨go17, co17, eo17, gb17, gl17, cl17, HG17⟩ := Kd.R_form HO_7.out (by omega)
             (first | cases eo17 | (injection eo17 with ea_ en_ ec_; (first | subst ea_ | (injection ea_ with ea_; subst ea_)); subst ec_; clear en_))
             have GB17 := Aside0.mk gb17
             have GG17 := Aside0.mk HG17
             clear gb17 gl17 HG17
             obtain ⟨hx17_0, hf17_0⟩ := Kd.R_celln false HO_7.out (a1 : Int) p17 q17
             replace p17 := eq_true p17
             replace q17 := eq_true q17
             have HP18 := Kd.R_putg HO_7.out (a1 : Int) true
             go_wp2_with (first | ((with_reducible refine gate_store (t := 4) (p := 33) rfl ?_); refine store_event (t := 4) (p := 33) (v := ?vo_w19) (w1 := (wc.setCell ⟨go17, (a1 : Int).toNat, none⟩ (.bool true))) ?hg ?ho ?hn ?hr ?_; (case ho => rfl); (case hg => rfl); (case hn => rfl); (case hr => first | (go_simp; done) | (go_simp; rfl)); intro w19 hw; have hg : wc.grownBy w19 (some go17) := (by rw [hw]; exact HP18.2); have hp_ : Kd.R Kd.bool 4 w19 w.heap.size (fun _ => True) (.slice (some ⟨go17, 0, none⟩) y129.length co17) y132 := (by rw [hw, Ny132.out]; exact HP18.1); clear HP18; have n0_ := Aside0.mk (hp_); have n1_ := Aside0.mk (blk_grown (g := gb128) (o := .cells #[.slice A0_0 l0_0.length c0_0, .slice A0_1 l0_1.length c0_1] 52 (0, 0)) (by (with_reducible repeat (first | refine blk_drewN ?_ _ | refine blk_drew ?_ | refine blk_alloc ?_ _)); exact BK128.out) hg (Kd.R_ne HO_7.out BK128.out (by decide))); have n2_ := Aside0.mk ((by rw [hw]; exact below_set (HB.out) GB17.out : Below w.heap.size w w19)); clear HO_7; clear BK128; clear HB; have HO_7 := n0_; have BK128 := n1_; have HB := n2_; clear n0_ n1_ n2_; clear hg hw hp_) | ((with_reducible refine gate_dst (N := 35) rfl ?_); (try (refine gate_guard (by rfl) ?_; dsimp only)); refine Kd.R_lit (Kd.int .i64) _ 2 ?hg (N := 35) ?hd (xs := ([a1] : List Int)) (inner := [.int .i64 a1]) (ok := fun _ => True) (okp := fun _ => True) ?hr ?hp (fun _ hk => hk) trivial (Below.refl _ _) (Nat.le_refl _) (by simp) ?_; (case hd => rfl); (case hg => rfl); (case hr => first | (go_simp; done) | (go_simp; rfl)); (case hp => exact (Reps.one (show Kd.M (Kd.int .i64) _ _ _ a1 [.int .i64 a1] from rfl) (Reps.none _ _))); intro v134 w20 ho21 hb hg_ hnew_; clear hg_ hnew_; (first | rw [← Ny133.out] at ho21 | (simp only [Int.reduceToNat] at ho21; rw [← Ny133.out] at ho21)); have n0_ := Aside0.mk (Kd.R_below (by (with_reducible repeat (first | apply Kd.R_alloc | apply Kd.R_drewN | apply Kd.R_drew)); exact HO_7.out) hb); have n1_ := Aside0.mk (Kd.R_lower ho21 (below_size (by repeat (first | (with_reducible first | exact HB.out | apply below_alloc | apply pw_below_drewN | apply below_drew1 | refine below_set ?_ GE128.out) | exact HB.out)))); have n2_ := Aside0.mk (blk_below (g := gb128) (o := .cells #[.slice A0_0 l0_0.length c0_0, .slice A0_1 l0_1.length c0_1] 52 (0, 0)) (by (with_reducible repeat (first | refine blk_drewN ?_ _ | refine blk_drew ?_ | refine blk_alloc ?_ _)); exact BK128.out) hb); have n3_ := Aside0.mk (below_step (by repeat (first | (with_reducible first | exact HB.out | apply below_alloc | apply pw_below_drewN | apply below_drew1 | refine below_set ?_ GE128.out) | exact HB.out)) hb); clear HO_7; clear BK128; clear HB; have HO_7 := n0_; have HO135 := n1_; have BK128 := n2_; have HB := n3_; clear n0_ n1_ n2_ n3_; clear hb ho21))
             go_loopg [8] kj5 (fun kq v8 w' => ∃ (x7_2 : List Bool) (x8_2 : List Int), Aside0 (spec_l4Reach.l0 kq a2 x7_2 x8_2 l0_0 l0_1 = some r) ∧ Aside0 (kq ≤ kj5) ∧ Aside0 (Kd.R Kd.bool 4 w' w.heap.size (fun _ => True) (.slice (some ⟨go17, 0, none⟩) y129.length co17) x7_2) ∧ Aside0 (Kd.R (Kd.int .i64) 2 w' w.heap.size (fun _ => True) v8 x8_2) ∧ Aside0 (w'.heap[gb128]? = some (.cells #[(.slice A0_0 l0_0.length c0_0), (.slice A0_1 l0_1.length c0_1)] 52 (0, 0))) ∧ Aside0 (Below w.heap.size w w'))
             case atStart => exact ⟨(y132), (y133), H', ⟨Nat.le_refl _⟩, ⟨by (with_reducible repeat (first | apply Kd.R_alloc | apply Kd.R_drewN | apply Kd.R_drew)); exact HO_7.out⟩, ⟨by (with_reducible repeat (first | apply Kd.R_alloc | apply Kd.R_drewN | apply Kd.R_drew)); exact HO135.out⟩, ⟨by (with_reducible repeat (first | refine blk_drewN ?_ _ | refine blk_drew ?_ | refine blk_alloc ?_ _)); exact BK128.out⟩, ⟨by repeat (first | (with_reducible first | exact HB.out | apply below_alloc | apply pw_below_drewN | apply below_drew1 | refine below_set ?_ GE128.out) | exact HB.out)⟩⟩
             case round =>
              clear H'
              try clear c1
              try clear p1
              try clear q1
              try clear hx1
              try clear p2
              try clear c4
              try clear c4b0
              try clear c4b1
              try clear c5
              try clear c5b0
              try clear c5b1
              try clear c11
              try clear c11b0
              try clear c11b1
              try clear c12
              try clear c12b0
              try clear c14
              try clear c15
              try clear c15b0
              try clear c16
              try clear c16b0
              try clear p17
              try clear q17
              try clear hx17
              try clear hf17
              try clear hcz13_0
              try clear hcz13_1
              try clear hcz8_0
              try clear hcz8_1
              try clear hfz13_0
              try clear hfz13_1
              try clear hfz8_0
              try clear hfz8_1
              try clear hx17_0
              try clear p17
              try clear p2
              try clear q17
              obtain ⟨x7_2, x8_2, HA, HK2, HO_7, HO_8, BK128, HB⟩ := hrel
              have hl7_2 := (Kd.R_reads' HO_7.out).1
              rw [hl7_2] at HO_7
              (try simp only [hl7_2])
              (try simp only [hl7_2] at BK128)
              (try simp only [hl7_2] at HO_8)
              cases gk with
              | zero => exact absurd HA.out (by simp [spec_l4Reach.l0])
              | succ k2 =>
               have H := HA.out
               clear HA
               simp only [spec_l4Reach.l0] at H
               by_cases c22 : (x8_2.length : Int) > 0
               · rw [if_pos c22] at H
                 have c22b0 : decide (0 < (x8_2.length : Int)) = true := decide_eq_true c22
                 have c22b1 : decide (0 < x8_2.length) = true := decide_eq_true (by omega)
                 clear c22
                 obtain ⟨ji23, hji23⟩ : ∃ j_ : Int, (wrap64 ((x8_2.length : Int) - 1)) = j_ := ⟨_, rfl⟩
                 replace H : (if 0 ≤ (ji23) then (if (ji23) < (x8_2.length : Int) then (if (ji23) ≤ (x8_2.length : Int) then (spec_l4Reach.l1 k2 a2 x7_2 (x8_2.take ((ji23) : Int).toNat) (rd x8_2 (ji23)) 0 l0_0 l0_1) else (none)) else (none)) else (none)) = some r := by first | (rw [hji23] at H; exact H) | (simp only [hji23] at H ⊢; exact H)
                 have hji23w : (IntKind.i64.wrap ((x8_2.length : Int) - 1)) = ji23 := (i64_w _).trans hji23
                 by_cases c24 : 0 ≤ (ji23)
                 · rw [if_pos c24] at H
                   have c24b0 : decide (0 ≤ (ji23)) = true := decide_eq_true c24
                   clear c24
                   by_cases c25 : (ji23) < (x8_2.length : Int)
                   · rw [if_pos c25] at H
                     have c25b0 : decide ((ji23) < (x8_2.length : Int)) = true := decide_eq_true c25
                     clear c25
                     by_cases c26 : (ji23) ≤ (x8_2.length : Int)
                     · rw [if_pos c26] at H
                       have c26b0 := eq_true c26
                       have c26b1 : decide ((ji23) ≤ (x8_2.length : Int)) = true := decide_eq_true c26
                       clear c26
                       obtain ⟨y137, hy137⟩ : ∃ y_ : List Int, y_ = (x8_2.take ((ji23) : Int).toNat) := ⟨_, rfl⟩
                       replace H : (spec_l4Reach.l1 k2 a2 x7_2 y137 (rd x8_2 (ji23)) 0 l0_0 l0_1) = some r := by first | (rw [hy137]; with_reducible exact H) | (have H2_ := (Option.bind_some _ _).symm.trans H; rw [hy137]; with_reducible exact H2_) | (have H2_ := (Option.bind_some _ _).symm.trans H; with_reducible exact H2_) | with_reducible exact H | (rw [hy137]; exact H) | exact H
                       have Ny137 := Aside0.mk hy137
                       clear hy137
                       have H' := Aside0.mk H
                       clear H
                       obtain ⟨Ao27, co27, eo27⟩ := Kd.R_slice HO_8.out
                       subst eo27
                       have p136 : 0 ≤ ((ji23) : Int) := of_decide_eq_true (by first | (with_reducible assumption) | assumption)
                       have q136 : (ji23) < (x8_2.length : Int) := of_decide_eq_true (by first | (with_reducible assumption) | assumption)
                       obtain ⟨ad136, e136, hx136_0⟩ := Kd.at_int (Kd.R_reads' HO_8.out).2.2 (ji23) p136 q136
                       cases e136
                       replace p136 := eq_true p136
                       replace q136 := eq_true q136
                       have q28 : ((ji23) : Int) ≤ ((x8_2.length : Int) : Int) := of_decide_eq_true (by first | (with_reducible assumption) | assumption)
                       obtain ⟨i028, hi028, _, hsz28, _⟩ := info_parts info2
                       have hcut28 := cut_to (P := Try.prog) 22 2 .i64 Try.underlying22 hi028 (some ad136) x8_2.length co27 (ji23) (of_decide_eq_true (by first | (with_reducible assumption) | assumption)) q28 (Kd.R_reads' HO_8.out).2.1
                       have hr28 := Kd.R_take (m := ((ji23) : Int).toNat) HO_8.out (by omega)
                       have hy28 : y137.length = ((ji23) : Int).toNat := (by rw [Ny137.out, List.length_take]; omega)
                       rw [← Ny137.out] at hr28
                       rw [← hy28] at hr28 hcut28
                       clear hy28 hi028 hsz28 HO_8
                       have HO139 := Aside0.mk hr28
                       clear hr28
                       replace q28 := eq_true q28
                       go_wp2
                       go_loopg [8, 10] k2 (fun kq v8 v10 w' => ∃ (x7_3 : List Bool) (x8_3 : List Int) (x10_3 : Int), v10 = .int .i64 x10_3 ∧ Aside0 (spec_l4Reach.l1 kq a2 x7_3 x8_3 (rd x8_2 (ji23)) x10_3 l0_0 l0_1 = some r) ∧ Aside0 (kq ≤ k2) ∧ Aside0 (Kd.R Kd.bool 4 w' w.heap.size (fun _ => True) (.slice (some ⟨go17, 0, none⟩) x7_2.length co17) x7_3) ∧ Aside0 (Kd.R (Kd.int .i64) 2 w' w.heap.size (fun _ => True) v8 x8_3) ∧ Aside0 (w'.heap[gb128]? = some (.cells #[(.slice A0_0 l0_0.length c0_0), (.slice A0_1 l0_1.length c0_1)] 52 (0, 0))) ∧ Aside0 (Below w.heap.size w w'))
                       case atStart => exact ⟨(x7_2), (y137), (0), (by first | rfl | (simp; done) | (simp [*]; done)), H', ⟨Nat.le_refl _⟩, ⟨by (try simp only [hl7_2]); (with_reducible repeat (first | apply Kd.R_alloc | apply Kd.R_drewN | apply Kd.R_drew)); exact HO_7.out⟩, ⟨by (try simp only [hl7_2]); (with_reducible repeat (first | apply Kd.R_alloc | apply Kd.R_drewN | apply Kd.R_drew)); exact HO139.out⟩, ⟨by (try simp only [hl7_2]); (with_reducible repeat (first | refine blk_drewN ?_ _ | refine blk_drew ?_ | refine blk_alloc ?_ _)); exact BK128.out⟩, ⟨by repeat (first | (with_reducible first | exact HB.out | apply below_alloc | apply pw_below_drewN | apply below_drew1 | refine below_set ?_ GE128.out) | exact HB.out)⟩⟩
                       case round =>
                        clear H'
                        try clear c1
                        try clear p1
                        try clear q1
                        try clear hx1
                        try clear c2
                        try clear p2
                        try clear q2
                        try clear c4
                        try clear c4b0
                        try clear c4b1
                        try clear c5
                        try clear c5b0
                        try clear c5b1
                        try clear p6
                        try clear c11
                        try clear c11b0
                        try clear c11b1
                        try clear c12
                        try clear c12b0
                        try clear p13
                        try clear q13
                        try clear hx13
                        try clear c14
                        try clear c15
                        try clear c15b0
                        try clear c16
                        try clear c16b0
                        try clear p17
                        try clear q17
                        try clear hx17
                        try clear hf17
                        try clear c22
                        try clear c22b0
                        try clear c22b1
                        try clear c24
                        try clear c24b0
                        try clear c25
                        try clear c25b0
                        try clear c26
                        try clear c26b0
                        try clear c26b1
                        try clear q28
                        try clear hcz13_0
                        try clear hcz13_1
                        try clear hcz8_0
                        try clear hcz8_1
                        try clear hfz13_0
                        try clear hfz13_1
                        try clear hfz8_0
                        try clear hfz8_1
                        try clear hx136_0
                        try clear hx17_0
                        try clear p1
                        try clear p136
                        try clear p17
                        try clear p2
                        try clear q1
                        try clear q136
                        try clear q17
                        try clear q28
                        obtain ⟨x7_3, x8_3, x10_3, rfl, HA, HK3, HO_7, HO_8, BK128, HB⟩ := hrel
                        have hl7_3 := (Kd.R_reads' HO_7.out).1
                        rw [hl7_3] at HO_7
                        (try simp only [hl7_3])
                        (try simp only [hl7_3] at BK128)
                        (try simp only [hl7_3] at HO_8)
                        cases gk with
                        | zero => exact absurd HA.out (by simp [spec_l4Reach.l1])
                        | succ k3 =>
                         have H := HA.out
                         clear HA
                         simp only [spec_l4Reach.l1] at H
                         by_cases c29 : 0 ≤ (rd x8_2 (ji23))
                         · rw [if_pos c29] at H
                           have c29b0 : decide (0 ≤ (rd x8_2 (ji23))) = true := decide_eq_true c29
                           clear c29
                           by_cases c30 : (rd x8_2 (ji23)) < (l0_0.length : Int)
                           · rw [if_pos c30] at H
                             have c30b0 : decide ((rd x8_2 (ji23)) < (l0_0.length : Int)) = true := decide_eq_true c30
                             clear c30
                             by_cases c31 : x10_3 < ((rd_L4 l0_0 (rd x8_2 (ji23))).length : Int)
                             · rw [if_pos c31] at H
                               have c31b0 : decide (x10_3 < ((rd_L4 l0_0 (rd x8_2 (ji23))).length : Int)) = true := decide_eq_true c31
                               clear c31
                               by_cases c32 : 0 ≤ x10_3
                               · rw [if_pos c32] at H
                                 have c32b0 : decide (0 ≤ x10_3) = true := decide_eq_true c32
                                 clear c32
                                 by_cases c33 : (rd (rd_L4 l0_0 (rd x8_2 (ji23))) x10_3) = a2
                                 · rw [if_pos c33] at H
                                   have c33b0 : ((rd (rd_L4 l0_0 (rd x8_2 (ji23))) x10_3) == a2) = true := beq_iff_eq.mpr c33
                                   have c33b1 : ((rd (rd_L4 l0_0 (rd x8_2 (ji23))) x10_3) != a2) = false := bne_eq_false_iff_eq.mpr c33
                                   clear c33
                                   have H' := Aside0.mk H
                                   clear H
                                   have hcz34_0 : wr.cell? ⟨gb128, 0, none⟩ = some (.slice A0_0 l0_0.length c0_0) := (blk_cell BK128.out 0).trans rfl
                                   have hcz34_1 : wr.cell? ⟨gb128, 1, none⟩ = some (.slice A0_1 l0_1.length c0_1) := (blk_cell BK128.out 1).trans rfl
                                   have hfz34_0 := blk_frozen BK128.out 0
                                   have hfz34_1 := blk_frozen BK128.out 1
                                   have p140 : 0 ≤ ((rd x8_2 (ji23)) : Int) := of_decide_eq_true (by first | (with_reducible assumption) | assumption)
                                   have q140 : (rd x8_2 (ji23)) < (l0_0.length : Int) := of_decide_eq_true (by first | (with_reducible assumption) | assumption)
                                   obtain ⟨ad140, A140_0, c140_0, e140, hx140_0, hl140_0, hi140_0⟩ := at_L4 HR0_0.out (rd x8_2 (ji23)) p140 q140
                                   cases e140
                                   replace hx140_0 := (HB.out.cell (World.block_lt_of_cell? w _ hx140_0)).trans hx140_0
                                   have HR140_0 := Aside0.mk hi140_0
                                   have HC140_0 := Aside0.mk hl140_0
                                   clear hi140_0 hl140_0
                                   replace p140 := eq_true p140
                                   replace q140 := eq_true q140
                                   have p141 : 0 ≤ ((rd x8_2 (ji23)) : Int) := of_decide_eq_true (by first | (with_reducible assumption) | assumption)
                                   have q141 : (rd x8_2 (ji23)) < (l0_0.length : Int) := of_decide_eq_true (by first | (with_reducible assumption) | assumption)
                                   obtain ⟨ad141, A141_0, c141_0, e141, hx141_0, hl141_0, hi141_0⟩ := at_L4 HR0_0.out (rd x8_2 (ji23)) p141 q141
                                   obtain rfl : ad140 = ad141 := (by injection e141)
                                   replace hx141_0 := (HB.out.cell (World.block_lt_of_cell? w _ hx141_0)).trans hx141_0
                                   have HR141_0 := Aside0.mk hi141_0
                                   have HC141_0 := Aside0.mk hl141_0
                                   clear hi141_0 hl141_0
                                   replace p141 := eq_true p141
                                   replace q141 := eq_true q141
                                   have ea_ := Option.some.inj (hx140_0.symm.trans hx141_0)
                                   injection ea_ with ea_ en_ ec_
                                   subst ea_
                                   subst ec_
                                   clear en_
                                   have p142 : 0 ≤ (x10_3 : Int) := of_decide_eq_true (by first | (with_reducible assumption) | assumption)
                                   have q142 : x10_3 < ((rd_L4 l0_0 (rd x8_2 (ji23))).length : Int) := of_decide_eq_true (by first | (with_reducible assumption) | assumption)
                                   obtain ⟨ad142, e142, hx142_0⟩ := Kd.at_int HR141_0.out x10_3 p142 q142
                                   cases e142
                                   replace hx142_0 := (HB.out.cell (World.block_lt_of_cell? w _ hx142_0)).trans hx142_0
                                   replace p142 := eq_true p142
                                   replace q142 := eq_true q142
                                   go_wp2
                                   (try simp only [← hl7_3])
                                   go_roundg k3
                                   case measure => have := HJ5.out; have := HK2.out; have := HK3.out; omega
                                   case rel => exact ⟨(x7_3), (x8_3), (wrap64 (x10_3 + 1)), (by first | rfl | (simp; done) | (simp [*]; done)), H', ⟨by have := HJ5.out; have := HK2.out; have := HK3.out; omega⟩, ⟨by (try simp only [hl7_2]); (try simp only [hl7_3]); (with_reducible repeat (first | apply Kd.R_alloc | apply Kd.R_drewN | apply Kd.R_drew)); exact HO_7.out⟩, ⟨by (try simp only [hl7_2]); (try simp only [hl7_3]); (with_reducible repeat (first | apply Kd.R_alloc | apply Kd.R_drewN | apply Kd.R_drew)); exact HO_8.out⟩, ⟨by (try simp only [hl7_2]); (try simp only [hl7_3]); (with_reducible repeat (first | refine blk_drewN ?_ _ | refine blk_drew ?_ | refine blk_alloc ?_ _)); exact BK128.out⟩, ⟨by repeat (first | (with_reducible first | exact HB.out | apply below_alloc | apply pw_below_drewN | apply below_drew1 | refine below_set ?_ GE128.out) | exact HB.out)⟩⟩
                                 · rw [if_neg c33] at H
                                   have c33b0 : ((rd (rd_L4 l0_0 (rd x8_2 (ji23))) x10_3) == a2) = false := beq_eq_false_iff_ne.mpr c33
                                   have c33b1 : ((rd (rd_L4 l0_0 (rd x8_2 (ji23))) x10_3) != a2) = true := bne_iff_ne.mpr c33
                                   by_cases c35 : 0 ≤ (rd (rd_L4 l0_0 (rd x8_2 (ji23))) x10_3)
                                   · rw [if_pos c35] at H
                                     have c35b0 : decide (0 ≤ (rd (rd_L4 l0_0 (rd x8_2 (ji23))) x10_3)) = true := decide_eq_true c35
                                     clear c35
                                     by_cases c36 : (rd (rd_L4 l0_0 (rd x8_2 (ji23))) x10_3) < (x7_3.length : Int)
                                     · rw [if_pos c36] at H
                                       have c36b0 : decide ((rd (rd_L4 l0_0 (rd x8_2 (ji23))) x10_3) < (x7_3.length : Int)) = true := decide_eq_true c36
                                       clear c36
                                       obtain ⟨bq37, hbq37⟩ : ∃ b_ : Bool, b_ = (rdOf false x7_3 (rd (rd_L4 l0_0 (rd x8_2 (ji23))) x10_3)) := ⟨_, rfl⟩
                                       replace H : (if (bq37 = true) then (spec_l4Reach.l1 k3 a2 x7_3 x8_3 (rd x8_2 (ji23)) (wrap64 (x10_3 + 1)) l0_0 l0_1) else (if x8_3.length < 17592186044416 then (spec_l4Reach.l1 k3 a2 (x7_3.set ((rd (rd_L4 l0_0 (rd x8_2 (ji23))) x10_3) : Int).toNat true) (x8_3 ++ [rd (rd_L4 l0_0 (rd x8_2 (ji23))) x10_3]) (rd x8_2 (ji23)) (wrap64 (x10_3 + 1)) l0_0 l0_1) else (none))) = some r := by rw [← hbq37] at H; exact H
                                       have Nbq37 := Aside0.mk hbq37
                                       clear hbq37
                                       by_cases c38 : (bq37 = true)
                                       · subst c38
                                         have H1 : (spec_l4Reach.l1 k3 a2 x7_3 x8_3 (rd x8_2 (ji23)) (wrap64 (x10_3 + 1)) l0_0 l0_1) = some r := by rw [if_pos rfl] at H; exact H
                                         clear H
                                         have H := H1
                                         clear H1
                                         have H' := Aside0.mk H
                                         clear H
                                         have hcz39_0 : wr.cell? ⟨gb128, 0, none⟩ = some (.slice A0_0 l0_0.length c0_0) := (blk_cell BK128.out 0).trans rfl
                                         have hcz39_1 : wr.cell? ⟨gb128, 1, none⟩ = some (.slice A0_1 l0_1.length c0_1) := (blk_cell BK128.out 1).trans rfl
                                         have hfz39_0 := blk_frozen BK128.out 0
                                         have hfz39_1 := blk_frozen BK128.out 1
                                         have p140 : 0 ≤ ((rd x8_2 (ji23)) : Int) := of_decide_eq_true (by first | (with_reducible assumption) | assumption)
                                         have q140 : (rd x8_2 (ji23)) < (l0_0.length : Int) := of_decide_eq_true (by first | (with_reducible assumption) | assumption)
                                         obtain ⟨ad140, A140_0, c140_0, e140, hx140_0, hl140_0, hi140_0⟩ := at_L4 HR0_0.out (rd x8_2 (ji23)) p140 q140
                                         cases e140
                                         replace hx140_0 := (HB.out.cell (World.block_lt_of_cell? w _ hx140_0)).trans hx140_0
                                         have HR140_0 := Aside0.mk hi140_0
                                         have HC140_0 := Aside0.mk hl140_0
                                         clear hi140_0 hl140_0
                                         replace p140 := eq_true p140
                                         replace q140 := eq_true q140
                                         have p141 : 0 ≤ ((rd x8_2 (ji23)) : Int) := of_decide_eq_true (by first | (with_reducible assumption) | assumption)
                                         have q141 : (rd x8_2 (ji23)) < (l0_0.length : Int) := of_decide_eq_true (by first | (with_reducible assumption) | assumption)
                                         obtain ⟨ad141, A141_0, c141_0, e141, hx141_0, hl141_0, hi141_0⟩ := at_L4 HR0_0.out (rd x8_2 (ji23)) p141 q141
                                         obtain rfl : ad140 = ad141 := (by injection e141)
                                         replace hx141_0 := (HB.out.cell (World.block_lt_of_cell? w _ hx141_0)).trans hx141_0
                                         have HR141_0 := Aside0.mk hi141_0
                                         have HC141_0 := Aside0.mk hl141_0
                                         clear hi141_0 hl141_0
                                         replace p141 := eq_true p141
                                         replace q141 := eq_true q141
                                         have ea_ := Option.some.inj (hx140_0.symm.trans hx141_0)
                                         injection ea_ with ea_ en_ ec_
                                         subst ea_
                                         subst ec_
                                         clear en_
                                         have p142 : 0 ≤ (x10_3 : Int) := of_decide_eq_true (by first | (with_reducible assumption) | assumption)
                                         have q142 : x10_3 < ((rd_L4 l0_0 (rd x8_2 (ji23))).length : Int) := of_decide_eq_true (by first | (with_reducible assumption) | assumption)
                                         obtain ⟨ad142, e142, hx142_0⟩ := Kd.at_int HR141_0.out x10_3 p142 q142
                                         cases e142
                                         replace hx142_0 := (HB.out.cell (World.block_lt_of_cell? w _ hx142_0)).trans hx142_0
                                         replace p142 := eq_true p142
                                         replace q142 := eq_true q142
                                         have p143 : 0 ≤ ((rd (rd_L4 l0_0 (rd x8_2 (ji23))) x10_3) : Int) := of_decide_eq_true (by first | (with_reducible assumption) | assumption)
                                         have q143 : (rd (rd_L4 l0_0 (rd x8_2 (ji23))) x10_3) < (x7_3.length : Int) := of_decide_eq_true (by first | (with_reducible assumption) | assumption)
                                         obtain ⟨ad143, e143, hx143_0⟩ := Kd.at_bool (Kd.R_reads' HO_7.out).2.2 (rd (rd_L4 l0_0 (rd x8_2 (ji23))) x10_3) p143 q143
                                         (try rw [← Nbq37.out] at hx143_0)
                                         obtain rfl : (⟨go17, 0, none⟩ : Addr) = ad143 := (by injection e143)
                                         (first | simp only [add_plain] at hx143_0 | simp only [add_at] at hx143_0 | simp only [Addr.add, Nat.zero_add] at hx143_0 | skip)
                                         replace p143 := eq_true p143
                                         replace q143 := eq_true q143
                                         go_wp2
                                         (try simp only [← hl7_3])
                                         go_roundg k3
                                         case measure => have := HJ5.out; have := HK2.out; have := HK3.out; omega
                                         case rel => exact ⟨(x7_3), (x8_3), (wrap64 (x10_3 + 1)), (by first | rfl | (simp; done) | (simp [*]; done)), H', ⟨by have := HJ5.out; have := HK2.out; have := HK3.out; omega⟩, ⟨by (try simp only [hl7_2]); (try simp only [hl7_3]); (with_reducible repeat (first | apply Kd.R_alloc | apply Kd.R_drewN | apply Kd.R_drew)); exact HO_7.out⟩, ⟨by (try simp only [hl7_2]); (try simp only [hl7_3]); (with_reducible repeat (first | apply Kd.R_alloc | apply Kd.R_drewN | apply Kd.R_drew)); exact HO_8.out⟩, ⟨by (try simp only [hl7_2]); (try simp only [hl7_3]); (with_reducible repeat (first | refine blk_drewN ?_ _ | refine blk_drew ?_ | refine blk_alloc ?_ _)); exact BK128.out⟩, ⟨by repeat (first | (with_reducible first | exact HB.out | apply below_alloc | apply pw_below_drewN | apply below_drew1 | refine below_set ?_ GE128.out) | exact HB.out)⟩⟩
                                       · replace c38 := Bool.eq_false_iff.mpr c38
                                         subst c38
                                         have H1 : (if x8_3.length < 17592186044416 then (spec_l4Reach.l1 k3 a2 (x7_3.set ((rd (rd_L4 l0_0 (rd x8_2 (ji23))) x10_3) : Int).toNat true) (x8_3 ++ [rd (rd_L4 l0_0 (rd x8_2 (ji23))) x10_3]) (rd x8_2 (ji23)) (wrap64 (x10_3 + 1)) l0_0 l0_1) else (none)) = some r := by rw [if_neg (show ¬ (false = true) by decide)] at H; exact H
                                         clear H
                                         have H := H1
                                         clear H1
                                         obtain ⟨y144, hy144⟩ : ∃ y_ : List Bool, y_ = (x7_3.set ((rd (rd_L4 l0_0 (rd x8_2 (ji23))) x10_3) : Int).toNat true) := ⟨_, rfl⟩
                                         replace H : (if x8_3.length < 17592186044416 then (spec_l4Reach.l1 k3 a2 y144 (x8_3 ++ [rd (rd_L4 l0_0 (rd x8_2 (ji23))) x10_3]) (rd x8_2 (ji23)) (wrap64 (x10_3 + 1)) l0_0 l0_1) else (none)) = some r := by first | (rw [hy144]; with_reducible exact H) | (have H2_ := (Option.bind_some _ _).symm.trans H; rw [hy144]; with_reducible exact H2_) | (have H2_ := (Option.bind_some _ _).symm.trans H; with_reducible exact H2_) | with_reducible exact H | (rw [hy144]; exact H) | exact H
                                         have Ny144 := Aside0.mk hy144
                                         clear hy144
                                         by_cases c41 : x8_3.length < 17592186044416
                                         · rw [if_pos c41] at H
                                           have LMc41 := Aside0.mk c41
                                           clear c41
                                           obtain ⟨y145, hy145⟩ : ∃ y_ : List Int, y_ = (x8_3 ++ [rd (rd_L4 l0_0 (rd x8_2 (ji23))) x10_3]) := ⟨_, rfl⟩
                                           replace H : (spec_l4Reach.l1 k3 a2 y144 y145 (rd x8_2 (ji23)) (wrap64 (x10_3 + 1)) l0_0 l0_1) = some r := by first | (rw [hy145]; with_reducible exact H) | (have H2_ := (Option.bind_some _ _).symm.trans H; rw [hy145]; with_reducible exact H2_) | (have H2_ := (Option.bind_some _ _).symm.trans H; with_reducible exact H2_) | with_reducible exact H | (rw [hy145]; exact H) | exact H
                                           have Ny145 := Aside0.mk hy145
                                           clear hy145
                                           have H' := Aside0.mk H
                                           clear H
                                           have hcz42_0 : wr.cell? ⟨gb128, 0, none⟩ = some (.slice A0_0 l0_0.length c0_0) := (blk_cell BK128.out 0).trans rfl
                                           have hcz42_1 : wr.cell? ⟨gb128, 1, none⟩ = some (.slice A0_1 l0_1.length c0_1) := (blk_cell BK128.out 1).trans rfl
                                           have hfz42_0 := blk_frozen BK128.out 0
                                           have hfz42_1 := blk_frozen BK128.out 1
                                           have p140 : 0 ≤ ((rd x8_2 (ji23)) : Int) := of_decide_eq_true (by first | (with_reducible assumption) | assumption)
                                           have q140 : (rd x8_2 (ji23)) < (l0_0.length : Int) := of_decide_eq_true (by first | (with_reducible assumption) | assumption)
                                           obtain ⟨ad140, A140_0, c140_0, e140, hx140_0, hl140_0, hi140_0⟩ := at_L4 HR0_0.out (rd x8_2 (ji23)) p140 q140
                                           cases e140
                                           replace hx140_0 := (HB.out.cell (World.block_lt_of_cell? w _ hx140_0)).trans hx140_0
                                           have HR140_0 := Aside0.mk hi140_0
                                           have HC140_0 := Aside0.mk hl140_0
                                           clear hi140_0 hl140_0
                                           replace p140 := eq_true p140
                                           replace q140 := eq_true q140
                                           have p141 : 0 ≤ ((rd x8_2 (ji23)) : Int) := of_decide_eq_true (by first | (with_reducible assumption) | assumption)
                                           have q141 : (rd x8_2 (ji23)) < (l0_0.length : Int) := of_decide_eq_true (by first | (with_reducible assumption) | assumption)
                                           obtain ⟨ad141, A141_0, c141_0, e141, hx141_0, hl141_0, hi141_0⟩ := at_L4 HR0_0.out (rd x8_2 (ji23)) p141 q141
                                           obtain rfl : ad140 = ad141 := (by injection e141)
                                           replace hx141_0 := (HB.out.cell (World.block_lt_of_cell? w _ hx141_0)).trans hx141_0
                                           have HR141_0 := Aside0.mk hi141_0
                                           have HC141_0 := Aside0.mk hl141_0
                                           clear hi141_0 hl141_0
                                           replace p141 := eq_true p141
                                           replace q141 := eq_true q141
                                           have ea_ := Option.some.inj (hx140_0.symm.trans hx141_0)
                                           injection ea_ with ea_ en_ ec_
                                           subst ea_
                                           subst ec_
                                           clear en_
                                           have p142 : 0 ≤ (x10_3 : Int) := of_decide_eq_true (by first | (with_reducible assumption) | assumption)
                                           have q142 : x10_3 < ((rd_L4 l0_0 (rd x8_2 (ji23))).length : Int) := of_decide_eq_true (by first | (with_reducible assumption) | assumption)
                                           obtain ⟨ad142, e142, hx142_0⟩ := Kd.at_int HR141_0.out x10_3 p142 q142
                                           cases e142
                                           replace hx142_0 := (HB.out.cell (World.block_lt_of_cell? w _ hx142_0)).trans hx142_0
                                           replace p142 := eq_true p142
                                           replace q142 := eq_true q142
                                           have p143 : 0 ≤ ((rd (rd_L4 l0_0 (rd x8_2 (ji23))) x10_3) : Int) := of_decide_eq_true (by first | (with_reducible assumption) | assumption)
                                           have q143 : (rd (rd_L4 l0_0 (rd x8_2 (ji23))) x10_3) < (x7_3.length : Int) := of_decide_eq_true (by first | (with_reducible assumption) | assumption)
                                           obtain ⟨ad143, e143, hx143_0⟩ := Kd.at_bool (Kd.R_reads' HO_7.out).2.2 (rd (rd_L4 l0_0 (rd x8_2 (ji23))) x10_3) p143 q143
                                           (try rw [← Nbq37.out] at hx143_0)
                                           obtain rfl : (⟨go17, 0, none⟩ : Addr) = ad143 := (by injection e143)
                                           (first | simp only [add_plain] at hx143_0 | simp only [add_at] at hx143_0 | simp only [Addr.add, Nat.zero_add] at hx143_0 | skip)
                                           replace p143 := eq_true p143
                                           replace q143 := eq_true q143
                                           have p40 : 0 ≤ ((rd (rd_L4 l0_0 (rd x8_2 (ji23))) x10_3) : Int) := of_decide_eq_true (by first | (with_reducible assumption) | assumption)
                                           have q40 : ((rd (rd_L4 l0_0 (rd x8_2 (ji23))) x10_3) : Int) < ((x7_3.length : Int) : Int) := of_decide_eq_true (by first | (with_reducible assumption) | assumption)
                                           obtain ⟨hx40_0, hf40_0⟩ := Kd.R_celln false HO_7.out ((rd (rd_L4 l0_0 (rd x8_2 (ji23))) x10_3) : Int) p40 q40
                                           replace p40 := eq_true p40
                                           replace q40 := eq_true q40
                                           have HP43 := Kd.R_putg HO_7.out ((rd (rd_L4 l0_0 (rd x8_2 (ji23))) x10_3) : Int) true
                                           go_wp2_with (first | ((with_reducible refine gate_store (t := 4) (p := 80) rfl ?_); refine store_event (t := 4) (p := 80) (v := ?vo_w44) (w1 := (wr.setCell ⟨go17, ((rd (rd_L4 l0_0 (rd x8_2 (ji23))) x10_3) : Int).toNat, none⟩ (.bool true))) ?hg ?ho ?hn ?hr ?_; (case ho => rfl); (case hg => rfl); (case hn => rfl); (case hr => first | (go_simp; done) | (go_simp; rfl)); intro w44 hw; have hg : wr.grownBy w44 (some go17) := (by rw [hw]; exact HP43.2); have hp_ : Kd.R Kd.bool 4 w44 w.heap.size (fun _ => True) (.slice (some ⟨go17, 0, none⟩) x7_3.length co17) y144 := (by rw [hw, Ny144.out]; exact HP43.1); clear HP43; have n0_ := Aside0.mk (hp_); have n1_ := Aside0.mk (Kd.R_over' (v := (.slice (some ⟨go17, 0, none⟩) x7_3.length co17)) (by (with_reducible repeat (first | apply Kd.R_alloc | apply Kd.R_drewN | apply Kd.R_drew)); exact HO_8.out) (Kd.R_typed HO_7.out) (by decide) hg); have n2_ := Aside0.mk (blk_grown (g := gb128) (o := .cells #[.slice (some ad140) l0_0.length c0_0, .slice A0_1 l0_1.length c0_1] 52 (0, 0)) (by (with_reducible repeat (first | refine blk_drewN ?_ _ | refine blk_drew ?_ | refine blk_alloc ?_ _)); exact BK128.out) hg (Kd.R_ne HO_7.out BK128.out (by decide))); have n3_ := Aside0.mk ((by rw [hw]; exact below_set (HB.out) GB17.out : Below w.heap.size w w44)); clear HO_7; clear HO_8; clear BK128; clear HB; have HO_7 := n0_; have HO_8 := n1_; have BK128 := n2_; have HB := n3_; clear n0_ n1_ n2_ n3_; clear hg hw hp_) | ((with_reducible refine gate_builtin (b := .append) (xs := #[.tmp 81, .tmp 83]) rfl ?_); (try (refine gate_guard (by rfl) ?_; dsimp only)); at_builtin; refine Kd.R_append (Kd.int .i64) (w0 := w) w.heap.size rfl (.tmp 81) (.tmp 83) 22 2 (.int .i64 0) 8 rfl Try.underlying22 info2 rfl (by decide) (by omega) u8 x8_3 (rd (rd_L4 l0_0 (rd x8_2 (ji23))) x10_3) [.int .i64 (rd (rd_L4 l0_0 (rd x8_2 (ji23))) x10_3)] (fun _ => True) (fun _ => False) rfl rfl ?aP (fun _ hk => hk.elim) ?aF ?aO ?aB ?aS ?aL ?_; (case aP => exact rfl); (case aB => exact (by repeat (first | (with_reducible first | exact HB.out | apply below_alloc | apply pw_below_drewN | apply below_drew1 | refine below_set ?_ GE128.out) | exact HB.out))); (case aF => exact (fun _ _ => trivial)); (case aO => exact (by (with_reducible repeat (first | apply Kd.R_alloc | apply Kd.R_drewN | apply Kd.R_drew)); exact HO_8.out)); (case aS => exact (below_size (by repeat (first | (with_reducible first | exact HB.out | apply below_alloc | apply pw_below_drewN | apply below_drew1 | refine below_set ?_ GE128.out) | exact HB.out)))); (case aL => have := LMc41.out; omega); intro v146 w45 ho hb hg hat; rw [← Ny145.out] at ho; have n0_ := Aside0.mk (Kd.R_over' (by (with_reducible repeat (first | apply Kd.R_alloc | apply Kd.R_drewN | apply Kd.R_drew)); exact HO_7.out) (Kd.R_typed (by (with_reducible repeat (first | apply Kd.R_alloc | apply Kd.R_drewN | apply Kd.R_drew)); exact HO_8.out)) (by decide) hg); have n1_ := Aside0.mk (blk_grown (g := gb128) (o := .cells #[.slice (some ad140) l0_0.length c0_0, .slice A0_1 l0_1.length c0_1] 52 (0, 0)) (by (with_reducible repeat (first | refine blk_drewN ?_ _ | refine blk_drew ?_ | refine blk_alloc ?_ _)); exact BK128.out) hg (Kd.R_ne HO_8.out BK128.out (by decide))); have n2_ := Aside0.mk (hb); have n3_ := Aside0.mk (ho); clear HO_7; clear BK128; clear HB; clear HO_8; have HO_7 := n0_; have BK128 := n1_; have HB := n2_; have HO147 := n3_; clear n0_ n1_ n2_ n3_; clear ho hb hg hat))
                                           (try simp only [← hl7_3])
                                           go_roundg k3
                                           case measure => have := HJ5.out; have := HK2.out; have := HK3.out; omega
                                           case rel => exact ⟨(y144), (y145), (wrap64 (x10_3 + 1)), (by first | rfl | (simp; done) | (simp [*]; done)), H', ⟨by have := HJ5.out; have := HK2.out; have := HK3.out; omega⟩, ⟨by (try simp only [hl7_2]); (try simp only [hl7_3]); (with_reducible repeat (first | apply Kd.R_alloc | apply Kd.R_drewN | apply Kd.R_drew)); exact HO_7.out⟩, ⟨by (try simp only [hl7_2]); (try simp only [hl7_3]); (with_reducible repeat (first | apply Kd.R_alloc | apply Kd.R_drewN | apply Kd.R_drew)); exact HO147.out⟩, ⟨by (try simp only [hl7_2]); (try simp only [hl7_3]); (with_reducible repeat (first | refine blk_drewN ?_ _ | refine blk_drew ?_ | refine blk_alloc ?_ _)); exact BK128.out⟩, ⟨by repeat (first | (with_reducible first | exact HB.out | apply below_alloc | apply pw_below_drewN | apply below_drew1 | refine below_set ?_ GE128.out) | exact HB.out)⟩⟩
                                         · rw [if_neg c41] at H
                                           exact absurd H (by simp)
                                     · rw [if_neg c36] at H
                                       exact absurd H (by simp)
                                   · rw [if_neg c35] at H
                                     exact absurd H (by simp)
                               · rw [if_neg c32] at H
                                 exact absurd H (by simp)
                             · rw [if_neg c31] at H
                               have c31b0 : decide (x10_3 < ((rd_L4 l0_0 (rd x8_2 (ji23))).length : Int)) = false := decide_eq_false c31
                               clear c31
                               have H' := Aside0.mk H
                               clear H
                               have hcz46_0 : wr.cell? ⟨gb128, 0, none⟩ = some (.slice A0_0 l0_0.length c0_0) := (blk_cell BK128.out 0).trans rfl
                               have hcz46_1 : wr.cell? ⟨gb128, 1, none⟩ = some (.slice A0_1 l0_1.length c0_1) := (blk_cell BK128.out 1).trans rfl
                               have hfz46_0 := blk_frozen BK128.out 0
                               have hfz46_1 := blk_frozen BK128.out 1
                               have p140 : 0 ≤ ((rd x8_2 (ji23)) : Int) := of_decide_eq_true (by first | (with_reducible assumption) | assumption)
                               have q140 : (rd x8_2 (ji23)) < (l0_0.length : Int) := of_decide_eq_true (by first | (with_reducible assumption) | assumption)
                               obtain ⟨ad140, A140_0, c140_0, e140, hx140_0, hl140_0, hi140_0⟩ := at_L4 HR0_0.out (rd x8_2 (ji23)) p140 q140
                               cases e140
                               replace hx140_0 := (HB.out.cell (World.block_lt_of_cell? w _ hx140_0)).trans hx140_0
                               have HR140_0 := Aside0.mk hi140_0
                               have HC140_0 := Aside0.mk hl140_0
                               clear hi140_0 hl140_0
                               replace p140 := eq_true p140
                               replace q140 := eq_true q140
                               go_wp2
                               (try simp only [← hl7_2, ← hl7_3])
                               go_roundg k3
                               case measure => have := HJ5.out; have := HK2.out; have := HK3.out; omega
                               case rel => exact ⟨(x7_3), (x8_3), H', ⟨by have := HJ5.out; have := HK2.out; have := HK3.out; omega⟩, ⟨by (try simp only [hl7_2]); (try simp only [hl7_3]); (with_reducible repeat (first | apply Kd.R_alloc | apply Kd.R_drewN | apply Kd.R_drew)); exact HO_7.out⟩, ⟨by (try simp only [hl7_2]); (try simp only [hl7_3]); (with_reducible repeat (first | apply Kd.R_alloc | apply Kd.R_drewN | apply Kd.R_drew)); exact HO_8.out⟩, ⟨by (try simp only [hl7_2]); (try simp only [hl7_3]); (with_reducible repeat (first | refine blk_drewN ?_ _ | refine blk_drew ?_ | refine blk_alloc ?_ _)); exact BK128.out⟩, ⟨by repeat (first | (with_reducible first | exact HB.out | apply below_alloc | apply pw_below_drewN | apply below_drew1 | refine below_set ?_ GE128.out) | exact HB.out)⟩⟩
                           · rw [if_neg c30] at H
                             exact absurd H (by simp)
                         · rw [if_neg c29] at H
                           exact absurd H (by simp)
                     · rw [if_neg c26] at H
                       exact absurd H (by simp)
                   · rw [if_neg c25] at H
                     exact absurd H (by simp)
                 · rw [if_neg c24] at H
                   exact absurd H (by simp)
               · rw [if_neg c22] at H
                 have c22b0 : decide (0 < (x8_2.length : Int)) = false := decide_eq_false c22
                 have c22b1 : decide (0 < x8_2.length) = false := decide_eq_false (by omega)
                 clear c22
                 obtain rfl := Option.some.inj H
                 obtain ⟨Ao47, co47, eo47⟩ := Kd.R_slice HO_8.out
                 subst eo47
                 go_wp2
                 go_ret
                 exact ⟨_, by first | rfl | (simp [errW_none, errW_some] <;> rfl) | (simp [*, errW_none, errW_some] <;> rfl), by (with_reducible repeat (first | apply Kd.R_alloc | apply Kd.R_drewN | apply Kd.R_drew)); exact HO_7.out, by repeat (first | (with_reducible first | exact HB.out | apply below_alloc | apply pw_below_drewN | apply below_drew1 | refine below_set ?_ GE128.out) | exact HB.out)⟩
           · rw [if_neg c16] at H
             exact absurd H (by simp)
         · rw [if_neg c15] at H
           exact absurd H (by simp)
   · rw [if_neg c5] at H
     exact absurd H (by simp)
 · rw [if_neg c4] at H
   exact absurd H (by simp)

end Go.Proofs.Ytoedcnhgobbnfaa.All

