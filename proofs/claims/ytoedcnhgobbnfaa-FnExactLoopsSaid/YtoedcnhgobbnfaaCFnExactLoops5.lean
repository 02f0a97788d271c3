/- Part 5 of the proof of FnExactLoops: functions of the translation with what they return, and plain laws of these. Written by programs of this session over the kit's print, and by hand. -/
import Derived.Test.YtoedcnhgobbnfaaProg
import Derived.Test.YtoedcnhgobbnfaaCFnExactLoopsWApart
import Derived.Test.YtoedcnhgobbnfaaCFnExactLoopsWArr
import Derived.Test.YtoedcnhgobbnfaaCFnExactLoopsWFoot
import Derived.Test.YtoedcnhgobbnfaaCFnExactLoopsWGuard
import Derived.Test.YtoedcnhgobbnfaaCFnExactLoopsWInv
import Derived.Test.YtoedcnhgobbnfaaCFnExactLoopsWKept
import Derived.Test.YtoedcnhgobbnfaaCFnExactLoopsWLast
import Derived.Test.YtoedcnhgobbnfaaCFnExactLoopsWMore
import Derived.Test.YtoedcnhgobbnfaaCFnExactLoopsWN
import Derived.Test.YtoedcnhgobbnfaaCFnExactLoopsWNEv
import Derived.Test.YtoedcnhgobbnfaaCFnExactLoopsWQPut
import Derived.Test.YtoedcnhgobbnfaaCFnExactLoopsWRepsOne
import Derived.Test.YtoedcnhgobbnfaaCFnExactLoopsWShare
import Derived.Test.YtoedcnhgobbnfaaCFnExactLoopsWTab
import Derived.Test.YtoedcnhgobbnfaaCFnExactLoopsWWords
import Derived.Test.YtoedcnhgobbnfaaCFnExactLoopsWZeros
import Derived.Below
import Derived.Deep.Draws
import Derived.Deep.AppendLies
import Derived.Maps.AppendAt
import Derived.OwnWalk
import Derived.Laws.BytesArg
import Derived.Laws.MakeOwn
import Derived.Laws.OwnMore
import Derived.Deep.OwnRows
import Derived.Tactics
import Derived.Lib.ConvBytes
import Derived.Laws.Slices
import Derived.WalkKit
import Derived.KernelRfl
import Derived.RowKit3
import Derived.Deep.LoopGhost
import Derived.Deep.QuietTactic
import Derived.BigQuiet
import Derived.WideLaws
import Derived.Deep.DeepCutAuto
import Derived.Deep.CutBlock
import Derived.Deep.RegionHeld3
import Derived.Laws.Rows
import Derived.Lib.AppendStr
import Derived.ArgAppend
import Derived.Laws.IdiomCopy
import Derived.OrdersHeld
import Derived.Laws.BitsLemmas
import Derived.RowKit
import Derived.Maps.OwnSet
import Derived.Maps.OwnOps
import Derived.Deep.Slices
import Derived.ChangeArms
import Derived.ProofKit
import Derived.OpenShut
import Derived.ShutString
import Derived.ChangeOld
import Derived.SizedLaws
import Derived.Test.YtoedcnhgobbnfaaCFnExactLoops1
import Derived.Test.YtoedcnhgobbnfaaCFnExactLoops2
import Derived.Test.YtoedcnhgobbnfaaCFnExactLoops3
import Derived.Test.YtoedcnhgobbnfaaCFnExactLoops4
namespace Go.Proofs.Ytoedcnhgobbnfaa.All
open Go.RowKit Go.Proofs.YtoedcnhgobbnfaaW.PrintWords Go.Proofs.YtoedcnhgobbnfaaW.PrintLast Go.Proofs.YtoedcnhgobbnfaaW.PrintMore
attribute [local go_sem] max2_int min2_int max_two min_two max_three min_three max_four min_four   -- for this text's walks alone
set_option linter.unusedVariables false
set_option linter.unusedSimpArgs false

def laws_markInt64S.l0 : Nat → List Int → Int → Int → Option (Int × List Int)
 | 0, _, _, _ => none
 | k + 1, x0, x1, x5 => if x5 < (x0.length : Int) then (if 0 ≤ x5 then (laws_markInt64S.l0 k (x0.set (x5 : Int).toNat x1) (wrap64 (x1 + 1)) (wrap64 (x5 + 1))) else (none)) else (some (x1, x0))
def laws_markInt64S.f (k : Nat) (l0 : List Int) (a1 : Int) : Option (Int × List Int) := laws_markInt64S.l0 k l0 a1 0
set_option maxHeartbeats 8000000 in
set_option maxRecDepth 100000 in
theorem laws_markInt64S.calls (k : Nat) (P0_ : Nat → Prop) (u9000_ : Value) (l0 : List Int) (a1 : Int) (r1 : Int) (r2 : List Int) (w0 w : World) (hB : Below w0.heap.size w0 w) (ho0 : Kd.R (Kd.int .i64) 2 w w0.heap.size P0_ u9000_ l0) (h : laws_markInt64S.f k l0 a1 = some (r1, r2)) :
 Calls Try.prog 21 #[u9000_, .int .i64 a1] w fun e w' => e = .returned (.int .i64 r1) ∧ Kd.R (Kd.int .i64) 2 w' w0.heap.size (fun k_ => (P0_ k_ ∨ w.heap.size ≤ k_)) u9000_ r2 ∧ Below w0.heap.size w0 w' ∧ Kept w w' (fun k_ => P0_ k_) := by
 have HO0 := Aside0.mk (show Kd.R (Kd.int .i64) 2 w w0.heap.size (fun k_ => (P0_ k_ ∨ w.heap.size ≤ k_)) u9000_ l0 from Kd.R_mono ho0 (fun k_ hk => (.inl hk)))
 have HK := Aside0.mk (Kept.refl w (fun k_ => P0_ k_))
 have HW0 := Aside0.mk hB.size
 have HB := Aside0.mk hB
 clear hB
 have H : (laws_markInt64S.l0 k l0 a1 0) = some (r1, r2) := h
 clear h
 have H' := Aside0.mk H
 clear H
 go_enter Try.func21, Try.ntmps21
 go_wp2
 go_loopg [1, 5] k (fun kq v1 v5 w' => ∃ (x0_1 : List Int) (x1_1 : Int) (x5_1 : Int), v1 = .int .i64 x1_1 ∧ v5 = .int .i64 x5_1 ∧ Aside0 (laws_markInt64S.l0 kq x0_1 x1_1 x5_1 = some (r1, r2)) ∧ Aside0 (kq ≤ k) ∧ Aside0 (Kd.R (Kd.int .i64) 2 w' w0.heap.size (fun k_ => (P0_ k_ ∨ w.heap.size ≤ k_)) u9000_ x0_1) ∧ Aside0 (Kept w w' (fun k_ => P0_ k_)) ∧ Aside0 (Below w0.heap.size w0 w'))
 case atStart => exact ⟨(l0), (a1), (0), sz_, sz_, H', ⟨Nat.le_refl _⟩, ⟨by (with_reducible repeat (first | apply Kd.R_alloc | apply Kd.R_drewN | apply Kd.R_drew)); exact HO0.out⟩, ⟨by repeat (first | (with_reducible first | exact HK.out | apply Kept.alloc | apply Kept.drewN | apply Kept.drew) | exact HK.out)⟩, ⟨ bz⟩⟩
 case round =>
  clear H'
  try clear c2
  try clear p2
  obtain ⟨x0_1, x1_1, x5_1, rfl, rfl, HA, HK1, HO_0, HK, HB⟩ := hrel
  cases gk with
  | zero => exact absurd HA.out (by simp [laws_markInt64S.l0])
  | succ k1 =>
   have H := HA.out
   clear HA
   simp only [laws_markInt64S.l0] at H
   by_cases c3 : x5_1 < (x0_1.length : Int)
   · rw [if_pos c3] at H
     have c3b0 : decide (x5_1 < (x0_1.length : Int)) = true := decide_eq_true c3
     clear c3
     by_cases c4 : 0 ≤ x5_1
     · rw [if_pos c4] at H
       have c4b0 : decide (0 ≤ x5_1) = true := decide_eq_true c4
       clear c4
       obtain ⟨y320, hy320⟩ : ∃ y_ : List Int, y_ = (x0_1.set (x5_1 : Int).toNat x1_1) := ⟨_, rfl⟩
       replace H : (laws_markInt64S.l0 k1 y320 (wrap64 (x1_1 + 1)) (wrap64 (x5_1 + 1))) = some (r1, r2) := by first | (rw [hy320]; with_reducible exact H) | (have H2_ := (Option.bind_some _ _).symm.trans H; rw [hy320]; with_reducible exact H2_) | (have H2_ := (Option.bind_some _ _).symm.trans H; with_reducible exact H2_) | with_reducible exact H | (rw [hy320]; exact H) | exact H
       have Ny320 := Aside0.mk hy320
       clear hy320
       have H' := Aside0.mk H
       clear H
       obtain ⟨Ao6, co6, eo6⟩ := Kd.R_slice HO_0.out
       subst eo6
       have p5 : 0 ≤ (x5_1 : Int) := of_decide_eq_true az
       have q5 : (x5_1 : Int) < ((x0_1.length : Int) : Int) := of_decide_eq_true az
       obtain ⟨go5, co5, eo5, gb5, gl5, cl5, HG5⟩ := Kd.R_form HO_0.out (by omega)
       (first | cases eo5 | (injection eo5 with ea_ en_ ec_; (first | subst ea_ | (injection ea_ with ea_; subst ea_)); subst ec_; clear en_))
       have GB5 := Aside0.mk gb5
       have GG5 := Aside0.mk HG5
       clear gb5 gl5 HG5
       have HMgo5 := Aside0.mk (show (P0_ go5 ∨ w.heap.size ≤ go5) from (HO_0.out.1 _ rfl))
       obtain ⟨hx5_0, hf5_0⟩ := Kd.R_celln 0 HO_0.out (x5_1 : Int) p5 q5
       replace p5 := eq_true p5
       replace q5 := eq_true q5
       have HP7 := Kd.R_putg HO_0.out (x5_1 : Int) x1_1
       go_wp2_with (first | ((with_reducible refine gate_store (t := 2) (p := 15) rfl ?_); refine store_event (t := 2) (p := 15) (v := ?vo_w8) (w1 := (wr.setCell ⟨go5, (x5_1 : Int).toNat, none⟩ (.int .i64 x1_1))) ?hg ?ho ?hn ?hr ?_; (case ho => rfl); (case hg => rfl); (case hn => rfl); (case hr => first | (go_simp; done) | (go_simp; rfl)); intro w8 hw; have hg : wr.grownBy w8 (some go5) := (by rw [hw]; exact HP7.2); have hp_ : Kd.R (Kd.int .i64) 2 w8 w0.heap.size (fun k_ => (P0_ k_ ∨ w.heap.size ≤ k_)) (.slice (some ⟨go5, 0, none⟩) x0_1.length co6) y320 := (by rw [hw, Ny320.out]; exact HP7.1); clear HP7; have n0_ := Aside0.mk (hp_); have n1_ := Aside0.mk ((by rw [hw]; exact below_set (HB.out) GB5.out : Below w0.heap.size w0 w8)); have n2_ := Aside0.mk (Kept.of_grown (S := (fun k_ => P0_ k_)) hg (by repeat (first | (with_reducible first | exact HK.out | apply Kept.alloc | apply Kept.drewN | apply Kept.drew) | exact HK.out)) (fun k_ e_ => (HO_0.out.1 k_ e_))); clear HO_0; clear HB; clear HK; have HO_0 := n0_; have HB := n1_; have HK := n2_; clear n0_ n1_ n2_; clear hg hw hp_))
       go_roundg k1
       case measure => have := HK1.out; omega
       case rel => exact ⟨(y320), (wrap64 (x1_1 + 1)), (wrap64 (x5_1 + 1)), sz_, sz_, H', ⟨by have := HK1.out; omega⟩, ⟨by (with_reducible repeat (first | apply Kd.R_alloc | apply Kd.R_drewN | apply Kd.R_drew)); exact HO_0.out⟩, ⟨by repeat (first | (with_reducible first | exact HK.out | apply Kept.alloc | apply Kept.drewN | apply Kept.drew) | exact HK.out)⟩, ⟨ bz⟩⟩
     · rw [if_neg c4] at H
       exact absurd H (by simp)
   · rw [if_neg c3] at H
     have c3b0 : decide (x5_1 < (x0_1.length : Int)) = false := decide_eq_false c3
     clear c3
     simp only [Option.some.injEq, Prod.mk.injEq] at H
     obtain ⟨rfl, rfl⟩ := H
     obtain ⟨Ao9, co9, eo9⟩ := Kd.R_slice HO_0.out
     subst eo9
     go_wp2
     go_ret
     exact ⟨by first | rfl | (simp [errW_none, errW_some] <;> rfl) | (simp [*, errW_none, errW_some] <;> rfl), by (with_reducible repeat (first | apply Kd.R_alloc | apply Kd.R_drewN | apply Kd.R_drew)); exact HO_0.out, bz, by repeat (first | (with_reducible first | exact HK.out | apply Kept.alloc | apply Kept.drewN | apply Kept.drew) | exact HK.out)⟩

end Go.Proofs.Ytoedcnhgobbnfaa.All

/- Plain laws of the printed functions: eventually (Ev), step by step; loops over a list. -/
namespace Go.Proofs.Ytoedcnhgobbnfaa.All
open Go.RowKit Go.Proofs.YtoedcnhgobbnfaaW.PrintWords Go.Proofs.YtoedcnhgobbnfaaW.PrintLast Go.Proofs.YtoedcnhgobbnfaaW.PrintMore
set_option linter.unusedVariables false
set_option linter.unusedSimpArgs false
theorem Ev.succ {α : Type} {g : Nat → Option α} {r : α} (h : Ev (fun k => g (k + 1)) r) : Ev g r := by
  obtain ⟨K, hK⟩ := h
  refine ⟨K + 1, fun k hk => ?_⟩
  obtain ⟨m, rfl⟩ : ∃ m, k = m + 1 := ⟨k - 1, by omega⟩
  exact hK m (by omega)
theorem Ev.pos {α : Type} {c : Prop} [Decidable c] {g h : Nat → Option α} {r : α} (hc : c) (k : Ev g r) : Ev (fun n => if c then g n else h n) r := Ev.congr (fun n => if_pos hc) k
theorem Ev.neg {α : Type} {c : Prop} [Decidable c] {g h : Nat → Option α} {r : α} (hc : ¬ c) (k : Ev h r) : Ev (fun n => if c then g n else h n) r := Ev.congr (fun n => if_neg hc) k
theorem Ev.some_bind {α β : Type} {a : α} {f : Nat → α → Option β} {r : β} (k : Ev (fun n => f n a) r) : Ev (fun n => (some a).bind (f n)) r := k
theorem Ev.eq_bind {α β : Type} {o : Option α} {a : α} {f : Nat → α → Option β} {r : β} (h : o = some a) (k : Ev (fun n => f n a) r) : Ev (fun n => o.bind (f n)) r := by subst h; exact k
theorem Ev.some {α : Type} {a r : α} (h : a = r) : Ev (fun _ => some a) r := h ▸ Ev.now a
theorem wrap64_id {x : Int} (h1 : -9223372036854775808 ≤ x) (h2 : x ≤ 9223372036854775807) : wrap64 x = x := by unfold wrap64; omega
theorem wrap64_nat {i : Nat} (h : i < 9223372036854775807) : wrap64 ((i : Int) + 1) = ((i + 1 : Nat) : Int) := by rw [wrap64_id (by omega) (by omega)]; rfl
theorem getD_eq {α : Type} {xs : List α} {i : Nat} (h : i < xs.length) (z : α) : xs.getD i z = xs[i] := by rw [List.getD_eq_getElem?_getD, List.getElem?_eq_getElem h]; rfl
/-- A loop that fills a list of the same length. -/
theorem to_gen {α β : Type} (f : α → β) (z : β) (za : α) (xs : List α) (g : Nat → List β → Int → Option (List β))
    (hstep : ∀ (i : Nat) (out : List β) (r : List β), i < xs.length → out.length = xs.length → Ev (fun k => g k (out.set i (f (xs.getD i za))) ((i + 1 : Nat) : Int)) r → Ev (fun k => g k out (i : Int)) r)
    (hend : ∀ out : List β, out.length = xs.length → Ev (fun k => g k out (xs.length : Int)) out) : Ev (fun k => g k (List.replicate xs.length z) 0) (xs.map f) := by
  have key : ∀ d i : Nat, i + d = xs.length → Ev (fun k => g k ((xs.map f).take i ++ List.replicate (xs.length - i) z) (i : Int)) (xs.map f) := by
    intro d
    induction d with
    | zero =>
      intro i hi
      obtain rfl : i = xs.length := by omega
      rw [Nat.sub_self, List.replicate_zero, List.append_nil, List.take_of_length_le (by simp)]
      exact hend _ (by simp)
    | succ d ih =>
      intro i hi
      have h1 := ih (i + 1) (by omega)
      refine hstep i _ _ (by omega) (by simp; omega) ?_
      have e : ((xs.map f).take i ++ List.replicate (xs.length - i) z).set i (f (xs.getD i za)) = (xs.map f).take (i + 1) ++ List.replicate (xs.length - (i + 1)) z := by
        have hl : ((xs.map f).take i).length = i := by simp; omega
        rw [List.set_append_right _ _ (by omega), hl, Nat.sub_self]
        obtain ⟨m, hm⟩ : ∃ m, xs.length - i = m + 1 := ⟨xs.length - i - 1, by omega⟩
        rw [hm, List.replicate_succ, List.set_cons_zero, List.take_succ_eq_append_getElem (by simp; omega), show xs.length - (i + 1) = m by omega, List.append_assoc]
        congr 1
        simp [List.getElem?_eq_getElem (show i < xs.length by omega)]
      rw [e]
      exact h1
  have h0 := key xs.length 0 (by omega)
  simpa using h0
/-- A loop whose end is r, whatever happens on the way. -/
theorem for_gen {ρ : Type} (r : ρ) (n : Nat) (g : Nat → Int → Option ρ) (hstep : ∀ i : Nat, i < n → Ev (fun k => g k ((i + 1 : Nat) : Int)) r → Ev (fun k => g k (i : Int)) r) (hend : Ev (fun k => g k (n : Int)) r) : Ev (fun k => g k 0) r := by
  have key : ∀ d i : Nat, i + d = n → Ev (fun k => g k (i : Int)) r := by
    intro d
    induction d with
    | zero => intro i hi; obtain rfl : i = n := by omega
              exact hend
    | succ d ih => intro i hi; exact hstep i (by omega) (ih (i + 1) (by omega))
  exact key n 0 (by omega)
/-- A loop that says yes at each step. -/
theorem all_gen (n : Nat) (g : Nat → Int → Option Bool) (hstep : ∀ i : Nat, i < n → Ev (fun k => g k ((i + 1 : Nat) : Int)) true → Ev (fun k => g k (i : Int)) true) (hend : Ev (fun k => g k (n : Int)) true) : Ev (fun k => g k 0) true := for_gen true n g hstep hend
/-- A loop that writes each element anew, by its number. -/
theorem mk_gen {β ρ : Type} (f : Nat → β) (xs : List β) (fin : List β → ρ) (g : Nat → List β → Int → Option ρ)
    (hstep : ∀ (i : Nat) (out : List β) (r : ρ), i < xs.length → out.length = xs.length → Ev (fun k => g k (out.set i (f i)) ((i + 1 : Nat) : Int)) r → Ev (fun k => g k out (i : Int)) r)
    (hend : ∀ out : List β, out.length = xs.length → Ev (fun k => g k out (xs.length : Int)) (fin out)) : Ev (fun k => g k xs 0) (fin ((List.range xs.length).map f)) := by
  have key : ∀ d i : Nat, i + d = xs.length → Ev (fun k => g k ((List.range i).map f ++ xs.drop i) (i : Int)) (fin ((List.range xs.length).map f)) := by
    intro d
    induction d with
    | zero =>
      intro i hi
      obtain rfl : i = xs.length := by omega
      rw [List.drop_length, List.append_nil]
      exact hend _ (by simp)
    | succ d ih =>
      intro i hi
      have h1 := ih (i + 1) (by omega)
      refine hstep i _ _ (by omega) (by simp; omega) ?_
      have e : ((List.range i).map f ++ xs.drop i).set i (f i) = (List.range (i + 1)).map f ++ xs.drop (i + 1) := by
        have hl : ((List.range i).map f).length = i := by simp
        rw [List.set_append_right _ _ (by omega), hl, Nat.sub_self, List.drop_eq_getElem_cons (show i < xs.length by omega), List.set_cons_zero, List.range_succ, List.map_append, List.append_assoc]
        rfl
      rw [e]
      exact h1
  have h0 := key xs.length 0 (by omega)
  simpa using h0
/-- A loop that takes sizes off; below 0 it ends with -1. -/
theorem sz_gen {α : Type} (s : α → Nat) (za : α) (xs : List α) (g : Nat → Int → Int → Option Int)
    (hstep : ∀ (i : Nat) (a r : Int), i < xs.length → 0 ≤ a → a ≤ 1048576 → (if (s (xs.getD i za) : Int) ≤ a then Ev (fun k => g k (a - s (xs.getD i za)) ((i + 1 : Nat) : Int)) r else r = -1) → Ev (fun k => g k a (i : Int)) r)
    (hend : ∀ a : Int, Ev (fun k => g k a (xs.length : Int)) a) (a : Int) (h0 : 0 ≤ a) (h1 : a ≤ 1048576) : Ev (fun k => g k a 0) (if ((xs.map s).sum : Int) ≤ a then a - (xs.map s).sum else -1) := by
  have key : ∀ d i : Nat, i + d = xs.length → ∀ a : Int, 0 ≤ a → a ≤ 1048576 → Ev (fun k => g k a (i : Int)) (if ((((xs.drop i).map s).sum : Nat) : Int) ≤ a then a - (((xs.drop i).map s).sum : Nat) else -1) := by
    intro d
    induction d with
    | zero =>
      intro i hi a h0 h1
      obtain rfl : i = xs.length := by omega
      rw [List.drop_length]
      simp [h0]
      exact hend a
    | succ d ih =>
      intro i hi a h0 h1
      have hlt : i < xs.length := by omega
      refine hstep i a _ hlt h0 h1 ?_
      rw [List.drop_eq_getElem_cons hlt, List.map_cons, List.sum_cons, getD_eq hlt]
      split
      · rename_i hc
        have h2 := ih (i + 1) (by omega) (a - (s xs[i] : Nat)) (by omega) (by omega)
        have e : (if ((((xs.drop (i + 1)).map s).sum : Nat) : Int) ≤ a - (s xs[i] : Nat) then a - (s xs[i] : Nat) - (((xs.drop (i + 1)).map s).sum : Nat) else -1) = (if ((s xs[i] + ((xs.drop (i + 1)).map s).sum : Nat) : Int) ≤ a then a - (s xs[i] + ((xs.drop (i + 1)).map s).sum : Nat) else -1) := by
          split <;> split <;> omega
        rw [← e]
        exact h2
      · rename_i hc
        rw [if_neg (by omega)]
  have h2 := key xs.length 0 (by omega) a h0 h1
  simpa using h2
theorem sum_getD_le {α : Type} (s : α → Nat) (z : α) : ∀ (xs : List α) (i : Nat), i < xs.length → s (xs.getD i z) ≤ (xs.map s).sum
  | x :: xs, 0, _ => by simp
  | x :: xs, i + 1, h => by
    have := sum_getD_le s z xs i (by simpa using h)
    simp only [List.getD_cons_succ, List.map_cons, List.sum_cons] at this ⊢
    omega
end Go.Proofs.Ytoedcnhgobbnfaa.All

/- The laws' marks in loops, kept: what they leave. -/
namespace Go.Proofs.Ytoedcnhgobbnfaa.All
open Go.RowKit Go.Proofs.YtoedcnhgobbnfaaW.PrintWords Go.Proofs.YtoedcnhgobbnfaaW.PrintLast Go.Proofs.YtoedcnhgobbnfaaW.PrintMore
set_option linter.unusedVariables false
set_option linter.unusedSimpArgs false
def mkI (a : Int) (n : Nat) : List Int := (List.range n).map fun (j : Nat) => a + (j : Int)
theorem mkI_length (a : Int) (n : Nat) : (mkI a n).length = n := by simp [mkI]
theorem mkI_at (a : Int) (n i : Nat) (h : i < n) : rd (mkI a n) i = a + i := by simp [rd, mkI, List.getElem?_range, h]
theorem mkI_f (a : Int) (l : List Int) (h0 : 0 ≤ a) (hl : a + l.length ≤ 5000000000000) : Ev (fun k => laws_markInt64S.f k l a) (a + (l.length : Nat), mkI a l.length) := by
  unfold laws_markInt64S.f mkI
  have key := mk_gen (fun (j : Nat) => a + (j : Int)) l (fun out => (a + (l.length : Nat), out)) (fun k out i => laws_markInt64S.l0 k out (a + i) i) (fun i out r hi ho h => ?_) (fun out ho => ?_)
  · simpa using key
  · refine Ev.succ ?_
    simp only [laws_markInt64S.l0]
    refine Ev.pos (by omega) (Ev.pos (by omega) (Ev.some_bind ?_))
    rw [wrap64_nat (by omega), wrap64_id (x := a + (i : Int) + 1) (by omega) (by omega)]
    have e : a + ((i + 1 : Nat) : Int) = a + (i : Int) + 1 := by omega
    rw [e] at h
    simpa using h
  · refine Ev.succ ?_
    simp only [laws_markInt64S.l0]
    exact Ev.neg (by omega) (Ev.now _)
def cntLp (xs : List (S86)) : Nat := (xs.map fun x => 1 + x.f1.length).sum
def mkL : Int → List (S86) → List (S86)
  | _, [] => []
  | a, x :: xs => ⟨a, mkI (a + 1) x.f1.length⟩ :: mkL (a + (1 + x.f1.length : Nat)) xs
theorem mkL_length : ∀ (a : Int) (xs : List (S86)), (mkL a xs).length = xs.length
  | _, [] => rfl
  | a, x :: xs => by rw [mkL, List.length_cons, mkL_length _ xs, List.length_cons]
theorem mkL_snoc : ∀ (a : Int) (xs : List (S86)) (x : S86), mkL a (xs ++ [x]) = mkL a xs ++ [⟨a + (cntLp xs : Nat), mkI (a + (cntLp xs : Nat) + 1) x.f1.length⟩]
  | a, [], x => by simp [mkL, cntLp]
  | a, y :: xs, x => by
    rw [List.cons_append, mkL, mkL_snoc _ xs x, mkL, List.cons_append]
    have e : a + (1 + y.f1.length : Nat) + (cntLp xs : Nat) = a + (cntLp (y :: xs) : Nat) := by unfold cntLp; rw [List.map_cons, List.sum_cons]; omega
    rw [e]
theorem cntLp_take (xs : List (S86)) (m : Nat) (h : m < xs.length) : cntLp (xs.take (m + 1)) = cntLp (xs.take m) + (1 + (xs.getD m z86).f1.length) := sum_take_succ _ _ xs m h
theorem cntLp_le (xs : List (S86)) (m : Nat) : cntLp (xs.take m) ≤ cntLp xs := sum_take_le _ xs m
theorem cntLp_len (xs : List (S86)) : xs.length ≤ cntLp xs := len_le_sum xs (fun x => by omega)
theorem mkL_step (a : Int) (xs : List (S86)) (m : Nat) (h : m < xs.length) :
    (mkL a (xs.take m) ++ xs.drop m).set m ⟨a + (cntLp (xs.take m) : Nat), mkI (a + (cntLp (xs.take m) : Nat) + 1) (xs.getD m z86).f1.length⟩ = mkL a (xs.take (m + 1)) ++ xs.drop (m + 1) := by
  have hl : (mkL a (xs.take m)).length = m := by rw [mkL_length, List.length_take]; omega
  have hg : xs.getD m z86 = xs[m] := by rw [List.getD_eq_getElem?_getD, List.getElem?_eq_getElem h]; rfl
  rw [List.set_append_right _ _ (by omega), hl, Nat.sub_self, List.drop_eq_getElem_cons h, List.set_cons_zero, List.take_succ_eq_append_getElem h, mkL_snoc, hg, List.append_assoc]
  rfl
theorem mkL_get (a : Int) (xs : List (S86)) (m : Nat) (h : m < xs.length) : (mkL a (xs.take m) ++ xs.drop m).getD m z86 = xs.getD m z86 := by
  have hl : (mkL a (xs.take m)).length = m := by rw [mkL_length, List.length_take]; omega
  rw [List.getD_eq_getElem?_getD, List.getElem?_append_right (by omega), hl, Nat.sub_self, List.getElem?_drop, Nat.add_zero, ← List.getD_eq_getElem?_getD]
end Go.Proofs.Ytoedcnhgobbnfaa.All

namespace Go.Proofs.Ytoedcnhgobbnfaa.All
open Go.RowKit Go.Proofs.YtoedcnhgobbnfaaW.PrintWords Go.Proofs.YtoedcnhgobbnfaaW.PrintLast Go.Proofs.YtoedcnhgobbnfaaW.PrintMore
attribute [local go_sem] max2_int min2_int max_two min_two max_three min_three max_four min_four   -- for this text's walks alone
set_option linter.unusedVariables false
set_option linter.unusedSimpArgs false

def laws_markLoopS.f (l0 : List (S86)) (a1 : Int) : Option (Int × List (S86)) := if 0 ≤ a1 then (if a1 + (cntLp l0 : Nat) ≤ 4000000000000 then some (a1 + (cntLp l0 : Nat), mkL a1 l0) else none) else none
set_option maxHeartbeats 4000000 in
set_option maxRecDepth 100000 in
theorem laws_markLoopS.go (P0_ : Nat → Prop) (v : Value) (xs : List (S86)) (a1 : Int) (w0 w : World) (h0 : 0 ≤ a1) (hb : a1 + (cntLp xs : Nat) ≤ 4000000000000) (hB : Below w0.heap.size w0 w) (hS : Kd.S k86 86 w w0.heap.size P0_ v xs) :
 Calls Try.prog 39 #[v, .int .i64 a1] w fun e w' => e = .returned (.int .i64 (a1 + (cntLp xs : Nat))) ∧ Kd.S k86 86 w' w0.heap.size P0_ v (mkL a1 xs) ∧ Below w0.heap.size w0 w' ∧ Kept w w' (fun k_ => P0_ k_) := by
 have hS' := Kd.S_mono (Kd.S_bound hS) (fun k hk => (⟨hk.1, hk.2.1⟩ : P0_ k ∧ w0.heap.size ≤ k))
 have HS0 := Aside0.mk hS'
 have HB0 := Aside0.mk hB
 obtain ⟨A, c, rfl⟩ := Kd.S_slice hS
 clear hS hS' hB
 have hlen := cntLp_len xs
 have hu1 := Try.underlying45
 have hu2 := Try.underlying86
 have hm9 : xs.length ≤ 4000000000000 := by omega
 have HBB := Aside0.mk hb
 clear hb
 go_enter Try.func39, Try.ntmps39
 go_wp2
 go_loopw [1, 5] (fun v1 v5 wr => ∃ m : Nat, m ≤ xs.length ∧ v1 = .int .i64 (a1 + (cntLp (xs.take m) : Nat)) ∧ v5 = .int .i64 (m : Int) ∧ Aside0 (Kd.S k86 86 wr w0.heap.size (fun k => P0_ k ∧ w0.heap.size ≤ k) (.slice A xs.length c) (mkL a1 (xs.take m) ++ xs.drop m)) ∧ Aside0 (Below w0.heap.size w0 wr) ∧ Aside0 (Kept w wr (fun k => P0_ k))) (fun _ v5 _ => xs.length - (intOf v5).toNat)
 case atStart => exact ⟨0, Nat.zero_le _, by simp [cntLp], rfl, ⟨by simpa [mkL] using HS0.out⟩, HB0, ⟨Kept.refl _ _⟩⟩
 case round =>
  clear HS0 HB0
  obtain ⟨m, hm, rfl, rfl, HS, HBr, HKr⟩ := hrel
  have hle := cntLp_le xs m
  by_cases hlt : m < xs.length
  · have htk := cntLp_take xs m hlt
    have hle1 := cntLp_le xs (m + 1)
    have hge := mkL_get a1 xs m hlt
    have hstep := mkL_step a1 xs m hlt
    have hxl : (mkL a1 (xs.take m) ++ xs.drop m).length = xs.length := by rw [List.length_append, mkL_length, List.length_take, List.length_drop]; omega
    have HST := Aside0.mk hstep
    have hS := HS.out
    obtain ⟨ys, hys⟩ : ∃ ys, ys = mkL a1 (xs.take m) ++ xs.drop m := ⟨_, rfl⟩
    rw [← hys] at hS hge hxl
    obtain ⟨g, cap, eg, hg1, hg2, _⟩ := Kd.S_form hS (by omega)
    injection eg with ea el ec
    clear el
    subst ea
    subst ec
    have hgok := (Kd.S_R hS).1 g rfl
    obtain ⟨oki, cl, hcl, hM, hcc, hokg, hH⟩ := Kd.S_lend hS z86 (m : Int) (by omega) (by omega)
    rw [Int.toNat_natCast, hge] at hM
    obtain ⟨x, hx⟩ : ∃ x, x = xs.getD m z86 := ⟨_, rfl⟩
    rw [← hx] at hM htk
    obtain ⟨v1, rfl, hR1⟩ := k86_openM hM
    obtain ⟨hat, hfr⟩ := Kd.H_at hH (by omega) (by omega)
    have c0 := hat 0 _ rfl
    have c1 := hat 1 _ rfl
    have z0 := hfr 0
    simp only [Int.toNat_natCast, show (k86).sz = 2 from rfl, Nat.add_zero] at c0 c1 z0
    obtain ⟨X, hX⟩ : ∃ X : Int, X = a1 + (cntLp (xs.take m) : Nat) := ⟨_, rfl⟩
    have hbb := HBB.out
    have hX0 : 0 ≤ X := by omega
    have hX1 : X + 1 + x.f1.length ≤ 4000000000000 := by omega
    rw [← hX] at HST
    rw [← hX]
    obtain ⟨K, hK⟩ := mkI_f (X + 1) x.f1 (by omega) (by omega)
    have hF := hK K (Nat.le_refl _)
    have hseg := (Kd.H_seg (seg := [.int .i64 X]) (j := 0) hH (by omega) (by omega) (by show 0 + 1 ≤ 2; omega) (by simp [Value.oneCell'])).1
    have hw1 : wr.setCells g ((m : Int).toNat * (k86).sz + 0) [.int .i64 X] = wr.setCell ⟨g, m * 2, none⟩ (.int .i64 X) := by rw [Int.toNat_natCast]; rfl
    rw [hw1] at hseg
    have hR2 := Kd.R_far hR1 (p := ⟨g, m * 2, none⟩) (fun k hk => (hokg k hk).2) (.int .i64 X)
    have hB2 : Below w0.heap.size w0 (wr.setCell ⟨g, m * 2, none⟩ (.int .i64 X)) := Below.setCell HBr.out hg1 _
    have hK2 : Kept wr (wr.setCell ⟨g, m * 2, none⟩ (.int .i64 X)) (fun k => P0_ k) := ⟨by simp, fun b hb hn => Below.heap_setCell wr ⟨g, m * 2, none⟩ _ b (fun e => hn (by rw [e]; exact hgok.1))⟩
    have HSEG := Aside0.mk hseg
    have HR2 := Aside0.mk hR2
    have HB2 := Aside0.mk hB2
    have HK2 := Aside0.mk hK2
    have HF := Aside0.mk hF
    have HOK := Aside0.mk hokg
    have HXX := Aside0.mk hx
    have hfin : a1 + (cntLp (xs.take (m + 1)) : Nat) = X + 1 + x.f1.length := by omega
    have HFIN := Aside0.mk hfin
    have HYS := Aside0.mk hys
    obtain ⟨A1, n1, k1, s1⟩ := Kd.R_slice' hR1
    subst s1
    clear hS hge hstep hH hM hcc hcl hat hfr hseg hR1 hR2 hB2 hK2 hF hK hokg hx hys hfin hle hle1 htk hbb hgok hw1 hX hxl
    go_wp2_with (first | (go_at_call 21; refine (laws_markInt64S.calls K oki _ x.f1 (X + 1) _ _ w0 _ HB2.out HR2.out HF.out).mono ?_; rintro e w2 ⟨rfl, r2, b2, k2⟩; have R2' := Aside0.mk (Kd.R_reok (ok := oki) rfl r2 (fun k hk => HR2.out.1 k hk)); have H2' := Aside0.mk (Kd.H_kept HSEG.out k2 (fun k _ hn => hn)); have B2' := Aside0.mk b2; have K2' := Aside0.mk (HK2.out.then_ (k2.mono (fun k hk => (HOK.out k hk).1.1)) (fun _ h => .inl h)); clear r2 b2 k2))
    go_roundw
    case measure => simp [intOf]; omega
    case rel =>
     have hback := Kd.H_back (x' := (⟨X, mkI (X + 1) x.f1.length⟩ : S86)) H2'.out (k86_mkM _ _ oki _ R2'.out) (fun k hk => hk)
     have hst := HST.out
     rw [← HXX.out] at hst
     rw [Int.toNat_natCast, HYS.out, hst] at hback
     exact ⟨m + 1, by omega, by rw [HFIN.out], by go_num, ⟨hback⟩, B2', ⟨HKr.out.then_ K2'.out (fun _ h => .inl h)⟩⟩
  · have hme : m = xs.length := by omega
    subst hme
    rw [List.take_length] at HS hle ⊢
    rw [List.drop_length, List.append_nil] at HS
    go_wp2
    go_ret
    exact ⟨rfl, Kd.S_mono HS.out (fun k hk => hk.1), HBr.out, HKr.out⟩
theorem laws_markLoopS.calls (P0_ : Nat → Prop) (u9000_ : Value) (l0 : List (S86)) (a1 : Int) (r1 : Int) (r2 : List (S86)) (w0 w : World) (hB : Below w0.heap.size w0 w) (ho0 : Kd.S k86 86 w w0.heap.size P0_ u9000_ l0) (h : laws_markLoopS.f l0 a1 = some (r1, r2)) :
 Calls Try.prog 39 #[u9000_, .int .i64 a1] w fun e w' => e = .returned (.int .i64 r1) ∧ Kd.S k86 86 w' w0.heap.size P0_ u9000_ r2 ∧ Below w0.heap.size w0 w' ∧ Kept w w' (fun k_ => P0_ k_) := by
 unfold laws_markLoopS.f at h
 split at h
 · rename_i h0
   split at h
   · rename_i h1
     simp only [Option.some.injEq, Prod.mk.injEq] at h
     obtain ⟨rfl, rfl⟩ := h
     exact laws_markLoopS.go P0_ u9000_ l0 a1 w0 w h0 h1 hB ho0
   · cases h
 · cases h

set_option linter.unusedVariables false
set_option linter.unusedSimpArgs false

def laws_heldInt64S.l0 : Nat → List Int → Int → Int → Option (Int)
 | 0, _, _, _ => none
 | k + 1, x0, x1, x5 => if x5 < (x0.length : Int) then (if 0 ≤ x5 then (if (rd x0 x5) = x1 then (laws_heldInt64S.l0 k x0 (wrap64 (x1 + 1)) (wrap64 (x5 + 1))) else (some (-1))) else (none)) else (some x1)
def laws_heldInt64S.f (k : Nat) (l0 : List Int) (a1 : Int) : Option (Int) := laws_heldInt64S.l0 k l0 a1 0
set_option maxHeartbeats 8000000 in
set_option maxRecDepth 100000 in
theorem laws_heldInt64S.calls (k : Nat) (A0 : Option Addr) (c0 : Nat) (l0 : List Int) (a1 : Int) (r : Int) (w : World) (hr0 : Kd.C (Kd.int .i64) w A0 l0.length l0) (hc0 : l0.length ≤ c0) (h : laws_heldInt64S.f k l0 a1 = some r) :
 Calls Try.prog 22 #[.slice A0 l0.length c0, .int .i64 a1] w fun e w' => e = .returned (.int .i64 r) ∧ Drawn0 w w' := by
 have HR0 := Aside0.mk hr0
 have HC0 := Aside0.mk hc0
 clear hr0 hc0
 have H : (laws_heldInt64S.l0 k l0 a1 0) = some r := h
 clear h
 have H' := Aside0.mk H
 clear H
 go_enter Try.func22, Try.ntmps22
 go_wp2
 go_loopg [1, 5] k (fun kq v1 v5 w' => ∃ (x1_1 : Int) (x5_1 : Int), v1 = .int .i64 x1_1 ∧ v5 = .int .i64 x5_1 ∧ Aside0 (laws_heldInt64S.l0 kq l0 x1_1 x5_1 = some r) ∧ Aside0 (kq ≤ k) ∧ Drawn0 w w')
 case atStart => exact ⟨(a1), (0), sz_, sz_, H', ⟨Nat.le_refl _⟩, by repeat (first | exact Drawn0.refl _ | apply Drawn0.step)⟩
 case round =>
  clear H'
  try clear c2
  try clear p2
  obtain ⟨x1_1, x5_1, rfl, rfl, HA, HK1, ⟨m1, rfl⟩⟩ := hrel
  cases gk with
  | zero => exact absurd HA.out (by simp [laws_heldInt64S.l0])
  | succ k1 =>
   have H := HA.out
   clear HA
   simp only [laws_heldInt64S.l0] at H
   by_cases c3 : x5_1 < (l0.length : Int)
   · rw [if_pos c3] at H
     have c3b0 : decide (x5_1 < (l0.length : Int)) = true := decide_eq_true c3
     clear c3
     by_cases c4 : 0 ≤ x5_1
     · rw [if_pos c4] at H
       have c4b0 : decide (0 ≤ x5_1) = true := decide_eq_true c4
       clear c4
       by_cases c5 : (rd l0 x5_1) = x1_1
       · rw [if_pos c5] at H
         have c5b0 : ((rd l0 x5_1) == x1_1) = true := beq_iff_eq.mpr c5
         have c5b1 : ((rd l0 x5_1) != x1_1) = false := bne_eq_false_iff_eq.mpr c5
         clear c5
         have H' := Aside0.mk H
         clear H
         have p327 : 0 ≤ (x5_1 : Int) := of_decide_eq_true az
         have q327 : x5_1 < (l0.length : Int) := of_decide_eq_true az
         obtain ⟨ad327, e327, hx327_0⟩ := Kd.at_int HR0.out x5_1 p327 q327
         cases e327
         replace p327 := eq_true p327
         replace q327 := eq_true q327
         go_wp2
         go_roundg k1
         case measure => have := HK1.out; omega
         case rel => exact ⟨(wrap64 (x1_1 + 1)), (wrap64 (x5_1 + 1)), sz_, sz_, H', ⟨by have := HK1.out; omega⟩, by repeat (first | exact Drawn0.refl _ | apply Drawn0.step)⟩
       · rw [if_neg c5] at H
         have c5b0 : ((rd l0 x5_1) == x1_1) = false := beq_eq_false_iff_ne.mpr c5
         have c5b1 : ((rd l0 x5_1) != x1_1) = true := bne_iff_ne.mpr c5
         obtain rfl := Option.some.inj H
         have p327 : 0 ≤ (x5_1 : Int) := of_decide_eq_true az
         have q327 : x5_1 < (l0.length : Int) := of_decide_eq_true az
         obtain ⟨ad327, e327, hx327_0⟩ := Kd.at_int HR0.out x5_1 p327 q327
         cases e327
         replace p327 := eq_true p327
         replace q327 := eq_true q327
         go_wp2
         go_ret
         exact ⟨by first | rfl | (simp; done) | (simp [*]; done), by repeat (first | exact Drawn0.refl _ | apply Drawn0.step)⟩
     · rw [if_neg c4] at H
       exact absurd H (by simp)
   · rw [if_neg c3] at H
     have c3b0 : decide (x5_1 < (l0.length : Int)) = false := decide_eq_false c3
     clear c3
     obtain rfl := Option.some.inj H
     go_wp2
     go_ret
     exact ⟨by first | rfl | (simp; done) | (simp [*]; done), by repeat (first | exact Drawn0.refl _ | apply Drawn0.step)⟩

set_option linter.unusedVariables false
set_option linter.unusedSimpArgs false

def laws_heldLoopS.l0 : Nat → List (S86) → Int → Int → Option (Int)
 | 0, _, _, _ => none
 | k + 1, x0, x1, x5 => if x5 < (x0.length : Int) then (if 0 ≤ x5 then (if ((rd_T86 x0 x5).f0) = x1 then ((laws_heldInt64S.f k ((rd_T86 x0 x5).f1) (wrap64 (x1 + 1))).bind fun t1058 => (if t1058 < 0 then (some (-1)) else (laws_heldLoopS.l0 k x0 t1058 (wrap64 (x5 + 1))))) else (some (-1))) else (none)) else (some x1)
def laws_heldLoopS.f (k : Nat) (l0 : List (S86)) (a1 : Int) : Option (Int) := laws_heldLoopS.l0 k l0 a1 0
set_option maxHeartbeats 8000000 in
set_option maxRecDepth 100000 in
theorem laws_heldLoopS.calls (k : Nat) (A0 : Option Addr) (c0 : Nat) (l0 : List (S86)) (a1 : Int) (r : Int) (w : World) (hr0 : Kd.C k86 w A0 l0.length l0) (hc0 : l0.length ≤ c0) (h : laws_heldLoopS.f k l0 a1 = some r) :
 Calls Try.prog 40 #[.slice A0 l0.length c0, .int .i64 a1] w fun e w' => e = .returned (.int .i64 r) ∧ Drawn0 w w' := by
 have HR0 := Aside0.mk hr0
 have HC0 := Aside0.mk hc0
 clear hr0 hc0
 have H : (laws_heldLoopS.l0 k l0 a1 0) = some r := h
 clear h
 have H' := Aside0.mk H
 clear H
 go_enter Try.func40, Try.ntmps40
 go_wp2
 go_loopg [1, 5] k (fun kq v1 v5 w' => ∃ (x1_1 : Int) (x5_1 : Int), v1 = .int .i64 x1_1 ∧ v5 = .int .i64 x5_1 ∧ Aside0 (laws_heldLoopS.l0 kq l0 x1_1 x5_1 = some r) ∧ Aside0 (kq ≤ k) ∧ Drawn0 w w')
 case atStart => exact ⟨(a1), (0), sz_, sz_, H', ⟨Nat.le_refl _⟩, by repeat (first | exact Drawn0.refl _ | apply Drawn0.step)⟩
 case round =>
  clear H'
  try clear p2
  obtain ⟨x1_1, x5_1, rfl, rfl, HA, HK1, ⟨m1, rfl⟩⟩ := hrel
  cases gk with
  | zero => exact absurd HA.out (by simp [laws_heldLoopS.l0])
  | succ k1 =>
   have H := HA.out
   clear HA
   simp only [laws_heldLoopS.l0] at H
   by_cases c3 : x5_1 < (l0.length : Int)
   · rw [if_pos c3] at H
     have c3b0 : decide (x5_1 < (l0.length : Int)) = true := decide_eq_true c3
     clear c3
     by_cases c4 : 0 ≤ x5_1
     · rw [if_pos c4] at H
       have c4b0 : decide (0 ≤ x5_1) = true := decide_eq_true c4
       clear c4
       by_cases c5 : ((rd_T86 l0 x5_1).f0) = x1_1
       · rw [if_pos c5] at H
         have c5b0 : (((rd_T86 l0 x5_1).f0) == x1_1) = true := beq_iff_eq.mpr c5
         have c5b1 : (((rd_T86 l0 x5_1).f0) != x1_1) = false := bne_eq_false_iff_eq.mpr c5
         clear c5
         replace H := Option.bind_eq_some_iff.mp H
         obtain ⟨t1058, A60, H⟩ := H
         replace H : (if t1058 < 0 then (some (-1)) else (laws_heldLoopS.l0 k1 l0 t1058 (wrap64 (x5_1 + 1)))) = some r := H
         have A6 := Aside0.mk A60
         clear A60
         by_cases c7 : t1058 < 0
         · rw [if_pos c7] at H
           have c7b0 : decide (t1058 < 0) = true := decide_eq_true c7
           clear c7
           obtain rfl := Option.some.inj H
           have p1056 : 0 ≤ (x5_1 : Int) := of_decide_eq_true az
           have q1056 : x5_1 < (l0.length : Int) := of_decide_eq_true az
           obtain ⟨ad1056, A1056_1, c1056_1, e1056, hx1056_0, hx1056_1, hl1056_1, hi1056_1⟩ := at_T86 HR0.out x5_1 p1056 q1056
           cases e1056
           have HR1056_1 := Aside0.mk hi1056_1
           have HC1056_1 := Aside0.mk hl1056_1
           clear hi1056_1 hl1056_1
           replace p1056 := eq_true p1056
           replace q1056 := eq_true q1056
           have p1057 : 0 ≤ (x5_1 : Int) := of_decide_eq_true az
           have q1057 : x5_1 < (l0.length : Int) := of_decide_eq_true az
           obtain ⟨ad1057, A1057_1, c1057_1, e1057, hx1057_0, hx1057_1, hl1057_1, hi1057_1⟩ := at_T86 HR0.out x5_1 p1057 q1057
           obtain rfl : ad1056 = ad1057 := (by injection e1057)
           have HR1057_1 := Aside0.mk hi1057_1
           have HC1057_1 := Aside0.mk hl1057_1
           clear hi1057_1 hl1057_1
           replace p1057 := eq_true p1057
           replace q1057 := eq_true q1057
           have ea_ := Option.some.inj (hx1056_1.symm.trans hx1057_1)
           injection ea_ with ea_ en_ ec_
           subst ea_
           subst ec_
           clear en_
           go_wp2_with (first | ((with_reducible refine gate_callee (f := 22) rfl ?_); refine goesL_ (some 27) rfl rfl Try.func22 (by kernel_rfl) rfl #[.slice A1056_1 ((rd_T86 l0 x5_1).f1).length c1056_1, .int .i64 (wrap64 (x1_1 + 1))] rfl lz ?_; (with_reducible refine (laws_heldInt64S.calls k1 _ _ ((rd_T86 l0 x5_1).f1) (wrap64 (x1_1 + 1)) t1058 _ ?side1 ?side2 A6.out).mono ?_); (case side1 => repeat (first | exact HR1057_1.out | (with_reducible refine Kd.C_alloc ?_ _) | (with_reducible refine Kd.C_drewN ?_ _) | (with_reducible refine Kd.C_drew ?_))); (case side2 => exact HC1057_1.out); rintro e w' ⟨rfl, ⟨nd, rfl⟩⟩; refine ⟨_, rfl, ?_⟩))
           go_ret
           exact ⟨by first | rfl | (simp; done) | (simp [*]; done), by repeat (first | exact Drawn0.refl _ | apply Drawn0.step)⟩
         · rw [if_neg c7] at H
           have c7b0 : decide (t1058 < 0) = false := decide_eq_false c7
           clear c7
           have H' := Aside0.mk H
           clear H
           have p1056 : 0 ≤ (x5_1 : Int) := of_decide_eq_true az
           have q1056 : x5_1 < (l0.length : Int) := of_decide_eq_true az
           obtain ⟨ad1056, A1056_1, c1056_1, e1056, hx1056_0, hx1056_1, hl1056_1, hi1056_1⟩ := at_T86 HR0.out x5_1 p1056 q1056
           cases e1056
           have HR1056_1 := Aside0.mk hi1056_1
           have HC1056_1 := Aside0.mk hl1056_1
           clear hi1056_1 hl1056_1
           replace p1056 := eq_true p1056
           replace q1056 := eq_true q1056
           have p1057 : 0 ≤ (x5_1 : Int) := of_decide_eq_true az
           have q1057 : x5_1 < (l0.length : Int) := of_decide_eq_true az
           obtain ⟨ad1057, A1057_1, c1057_1, e1057, hx1057_0, hx1057_1, hl1057_1, hi1057_1⟩ := at_T86 HR0.out x5_1 p1057 q1057
           obtain rfl : ad1056 = ad1057 := (by injection e1057)
           have HR1057_1 := Aside0.mk hi1057_1
           have HC1057_1 := Aside0.mk hl1057_1
           clear hi1057_1 hl1057_1
           replace p1057 := eq_true p1057
           replace q1057 := eq_true q1057
           have ea_ := Option.some.inj (hx1056_1.symm.trans hx1057_1)
           injection ea_ with ea_ en_ ec_
           subst ea_
           subst ec_
           clear en_
           go_wp2_with (first | ((with_reducible refine gate_callee (f := 22) rfl ?_); refine goesL_ (some 27) rfl rfl Try.func22 (by kernel_rfl) rfl #[.slice A1056_1 ((rd_T86 l0 x5_1).f1).length c1056_1, .int .i64 (wrap64 (x1_1 + 1))] rfl lz ?_; (with_reducible refine (laws_heldInt64S.calls k1 _ _ ((rd_T86 l0 x5_1).f1) (wrap64 (x1_1 + 1)) t1058 _ ?side1 ?side2 A6.out).mono ?_); (case side1 => repeat (first | exact HR1057_1.out | (with_reducible refine Kd.C_alloc ?_ _) | (with_reducible refine Kd.C_drewN ?_ _) | (with_reducible refine Kd.C_drew ?_))); (case side2 => exact HC1057_1.out); rintro e w' ⟨rfl, ⟨nd, rfl⟩⟩; refine ⟨_, rfl, ?_⟩))
           go_roundg k1
           case measure => have := HK1.out; omega
           case rel => exact ⟨(t1058), (wrap64 (x5_1 + 1)), sz_, sz_, H', ⟨by have := HK1.out; omega⟩, by repeat (first | exact Drawn0.refl _ | apply Drawn0.step)⟩
       · rw [if_neg c5] at H
         have c5b0 : (((rd_T86 l0 x5_1).f0) == x1_1) = false := beq_eq_false_iff_ne.mpr c5
         have c5b1 : (((rd_T86 l0 x5_1).f0) != x1_1) = true := bne_iff_ne.mpr c5
         obtain rfl := Option.some.inj H
         have p1056 : 0 ≤ (x5_1 : Int) := of_decide_eq_true az
         have q1056 : x5_1 < (l0.length : Int) := of_decide_eq_true az
         obtain ⟨ad1056, A1056_1, c1056_1, e1056, hx1056_0, hx1056_1, hl1056_1, hi1056_1⟩ := at_T86 HR0.out x5_1 p1056 q1056
         cases e1056
         have HR1056_1 := Aside0.mk hi1056_1
         have HC1056_1 := Aside0.mk hl1056_1
         clear hi1056_1 hl1056_1
         replace p1056 := eq_true p1056
         replace q1056 := eq_true q1056
         go_wp2
         go_ret
         exact ⟨by first | rfl | (simp; done) | (simp [*]; done), by repeat (first | exact Drawn0.refl _ | apply Drawn0.step)⟩
     · rw [if_neg c4] at H
       exact absurd H (by simp)
   · rw [if_neg c3] at H
     have c3b0 : decide (x5_1 < (l0.length : Int)) = false := decide_eq_false c3
     clear c3
     obtain rfl := Option.some.inj H
     go_wp2
     go_ret
     exact ⟨by first | rfl | (simp; done) | (simp [*]; done), by repeat (first | exact Drawn0.refl _ | apply Drawn0.step)⟩

end Go.Proofs.Ytoedcnhgobbnfaa.All

/- For the walk of the law of Loops. -/
namespace Go.Proofs.Ytoedcnhgobbnfaa.All
open Go.RowKit Go.Proofs.YtoedcnhgobbnfaaW.PrintWords Go.Proofs.YtoedcnhgobbnfaaW.PrintLast Go.Proofs.YtoedcnhgobbnfaaW.PrintMore
set_option linter.unusedVariables false
set_option linter.unusedSimpArgs false
end Go.Proofs.Ytoedcnhgobbnfaa.All

namespace Go.Proofs.Ytoedcnhgobbnfaa.All
open Go.RowKit Go.Proofs.YtoedcnhgobbnfaaW.PrintWords Go.Proofs.YtoedcnhgobbnfaaW.PrintLast Go.Proofs.YtoedcnhgobbnfaaW.PrintMore
attribute [local go_sem] max2_int min2_int max_two min_two max_three min_three max_four min_four   -- for this text's walks alone
set_option linter.unusedVariables false
set_option linter.unusedSimpArgs false

def laws_FnExactLoops.f (k : Nat) (a0_0 : ByteArray) (a0_1 : Int) (l0_2 : List Int) (a0_3 : Int) (l0_4 : List (S96)) : Option Bool :=
 (laws_szFunc.f k a0_0 a0_1 l0_2 a0_3 l0_4 1048576).bind fun t => if t < 0 then some true else
 (laws_toFunc.f k a0_0 a0_1 l0_2 a0_3 l0_4).bind fun q => (spec_Loops.f k q.1 q.2.1 q.2.2.1 q.2.2.2.1 q.2.2.2.2).bind fun r1 => (impl_Loops.f k q.1 q.2.1 q.2.2.1 q.2.2.2.1 q.2.2.2.2).bind fun r2 =>
 (laws_eqLoopS.f k r2 r1).bind fun e1 => if e1 = true then (laws_eqFunc.f k q.1 q.2.1 q.2.2.1 q.2.2.2.1 q.2.2.2.2 q.1 q.2.1 q.2.2.1 q.2.2.2.1 q.2.2.2.2).bind fun e2 => if e2 = true then
 (laws_markFunc.f q.1 q.2.1 q.2.2.1 q.2.2.2.1 q.2.2.2.2 1).bind fun t3 => if t3 < 0 then none else (laws_markLoopS.f r2 1).bind fun mm => (laws_heldLoopS.f k mm.2 1).bind fun z => if z < 0 then none else if z = mm.1 then some true else none
 else none else none
theorem laws_FnExactLoops.open {k : Nat} {a0_0 : ByteArray} {a0_1 : Int} {l0_2 : List Int} {a0_3 : Int} {l0_4 : List (S96)} {r : Bool} (h : laws_FnExactLoops.f k a0_0 a0_1 l0_2 a0_3 l0_4 = some r) :
 r = true ∧ ∃ t, laws_szFunc.f k a0_0 a0_1 l0_2 a0_3 l0_4 1048576 = some t ∧ (t < 0 ∨ (0 ≤ t ∧ ∃ q1 q2 q3 q4 q5 r1 r2 t3 m1 r3, laws_toFunc.f k a0_0 a0_1 l0_2 a0_3 l0_4 = some (q1, q2, q3, q4, q5) ∧ spec_Loops.f k q1 q2 q3 q4 q5 = some r1 ∧ impl_Loops.f k q1 q2 q3 q4 q5 = some r2 ∧
  laws_eqLoopS.f k r2 r1 = some true ∧ laws_eqFunc.f k q1 q2 q3 q4 q5 q1 q2 q3 q4 q5 = some true ∧ laws_markFunc.f q1 q2 q3 q4 q5 1 = some t3 ∧ 0 ≤ t3 ∧ laws_markLoopS.f r2 1 = some (m1, r3) ∧ laws_heldLoopS.f k r3 1 = some m1 ∧ 0 ≤ m1)) := by
 unfold laws_FnExactLoops.f at h
 obtain ⟨t, ht, h⟩ := Option.bind_eq_some_iff.1 h
 split at h
 · rename_i hc
   exact ⟨(Option.some.inj h).symm, t, ht, .inl hc⟩
 · rename_i hc
   obtain ⟨⟨q1, q2, q3, q4, q5⟩, hq, h⟩ := Option.bind_eq_some_iff.1 h
   obtain ⟨r1, h1, h⟩ := Option.bind_eq_some_iff.1 h
   obtain ⟨r2, h2, h⟩ := Option.bind_eq_some_iff.1 h
   obtain ⟨e1, h3, h⟩ := Option.bind_eq_some_iff.1 h
   split at h
   · rename_i he1
     subst he1
     obtain ⟨e2, h4, h⟩ := Option.bind_eq_some_iff.1 h
     split at h
     · rename_i he2
       subst he2
       obtain ⟨t3, h5, h⟩ := Option.bind_eq_some_iff.1 h
       split at h
       · cases h
       · rename_i hc3
         obtain ⟨⟨m1, r3⟩, h6, h⟩ := Option.bind_eq_some_iff.1 h
         obtain ⟨z, h7, h⟩ := Option.bind_eq_some_iff.1 h
         split at h
         · cases h
         · rename_i hc4
           split at h
           · rename_i hz
             have hr := (Option.some.inj h).symm
             have h7' : laws_heldLoopS.f k r3 1 = some m1 := by have hz' : z = m1 := hz; rw [← hz']; exact h7
             have h8 : 0 ≤ m1 := by have : (m1, r3).1 = m1 := rfl; omega
             exact ⟨hr, t, ht, .inr ⟨by omega, q1, q2, q3, q4, q5, r1, r2, t3, m1, r3, hq, h1, h2, h3, h4, h5, by omega, h6, h7', h8⟩⟩
           · cases h
     · cases h
   · cases h
set_option maxHeartbeats 8000000 in
set_option maxRecDepth 100000 in
theorem laws_FnExactLoops.calls (k : Nat) (a0_0 : ByteArray) (a0_1 : Int) (A0_2 : Option Addr) (c0_2 : Nat) (l0_2 : List Int) (a0_3 : Int) (A0_4 : Option Addr) (c0_4 : Nat) (l0_4 : List (S96)) (r : Bool) (w : World) (hr0_2 : Kd.C (Kd.int .i64) w A0_2 l0_2.length l0_2) (hc0_2 : l0_2.length ≤ c0_2) (hr0_4 : Kd.C k96 w A0_4 l0_4.length l0_4) (hc0_4 : l0_4.length ≤ c0_4) (h : laws_FnExactLoops.f k a0_0 a0_1 l0_2 a0_3 l0_4 = some r) :
 Calls Try.prog 10 #[.agg #[.string a0_0, .int .i64 a0_1, .slice A0_2 l0_2.length c0_2, .int .i64 a0_3, .slice A0_4 l0_4.length c0_4]] w fun e w' => e = .returned (.bool r) ∧ Below w.heap.size w w' := by
 obtain ⟨rfl, t, ht, hcase⟩ := laws_FnExactLoops.open h
 have hu1 := Try.underlying25
 have hu2 := Try.underlying30
 have HR2 := Aside0.mk hr0_2
 have HR4 := Aside0.mk hr0_4
 have HSZ := Aside0.mk ht
 clear hr0_2 hr0_4 ht h
 obtain ⟨w1, hw1⟩ : ∃ w1 : World, w1 = w.alloc (.cells #[.string a0_0, .int .i64 a0_1, .slice A0_2 l0_2.length c0_2, .int .i64 a0_3, .slice A0_4 l0_4.length c0_4] 25) := ⟨_, rfl⟩
 have HB := Aside0.mk (show Below w.heap.size w w1 from by rw [hw1]; exact below_alloc (Below.refl _ _) _)
 have B1 := Aside0.mk (show w1.heap[w.heap.size]? = some (.cells #[.string a0_0, .int .i64 a0_1, .slice A0_2 l0_2.length c0_2, .int .i64 a0_3, .slice A0_4 l0_4.length c0_4] 25 (0, 0)) from by rw [hw1]; exact blk_new _ _)
 have HW1 := Aside0.mk hw1
 clear hw1
 rcases hcase with hneg | ⟨hpos, q1, q2, q3, q4, q5, r1, r2, t3, m1, r3, hto, hsp, him, heq, hef, hmf, ht3, hml, hhe, hm1⟩
 · have hc : decide (t < 0) = true := decide_eq_true hneg
   have a0 := (blk_cell B1.out 0).trans rfl
   have a1 := (blk_cell B1.out 1).trans rfl
   have a2 := (blk_cell B1.out 2).trans rfl
   have a3 := (blk_cell B1.out 3).trans rfl
   have a4 := (blk_cell B1.out 4).trans rfl
   go_enter Try.func10, Try.ntmps10
   go_upto_region 2 with fail
   rw [← HW1.out]
   go_wp2_with (first | (go_at_call 12; refine (laws_szFunc.calls k a0_0 a0_1 A0_2 c0_2 l0_2 a0_3 A0_4 c0_4 l0_4 1048576 t _ (Kd.C_below HR2.out HB.out) hc0_2 (Kd.C_below HR4.out HB.out) hc0_4 HSZ.out).mono ?_; rintro e wn ⟨rfl, hb⟩; have n_HB := Aside0.mk (Below.trans HB.out (hb.mono HB.out.size)); clear hb HB; have HB := n_HB; clear n_HB))
   go_ret
   exact ⟨rfl, HB.out⟩
 · have hc : decide (t < 0) = false := decide_eq_false (by omega)
   have HTO := Aside0.mk hto
   have HSP := Aside0.mk hsp
   have HIM := Aside0.mk him
   have HEQ := Aside0.mk heq
   have HEF := Aside0.mk hef
   have HMF := Aside0.mk hmf
   have HML := Aside0.mk hml
   have HHE := Aside0.mk hhe
   clear hto hsp him heq hef hmf hml hhe
   have a0 := (blk_cell B1.out 0).trans rfl
   have a1 := (blk_cell B1.out 1).trans rfl
   have a2 := (blk_cell B1.out 2).trans rfl
   have a3 := (blk_cell B1.out 3).trans rfl
   have a4 := (blk_cell B1.out 4).trans rfl
   go_enter Try.func10, Try.ntmps10
   go_upto_region 2 with fail
   rw [← HW1.out]
   go_upto_region 6 with (first | (go_at_call 12; refine (laws_szFunc.calls k a0_0 a0_1 A0_2 c0_2 l0_2 a0_3 A0_4 c0_4 l0_4 1048576 t _ (Kd.C_below HR2.out HB.out) hc0_2 (Kd.C_below HR4.out HB.out) hc0_4 HSZ.out).mono ?_; rintro e wn ⟨rfl, hb⟩; have n_HB := Aside0.mk (Below.trans HB.out (hb.mono HB.out.size)); have n_B1 := Aside0.mk (blk_below B1.out hb); clear hb HB B1; have HB := n_HB; have B1 := n_B1; clear n_HB n_B1; (try clear a0 a1 a2 a3 a4); have a0 := (blk_cell B1.out 0).trans rfl; have a1 := (blk_cell B1.out 1).trans rfl; have a2 := (blk_cell B1.out 2).trans rfl; have a3 := (blk_cell B1.out 3).trans rfl; have a4 := (blk_cell B1.out 4).trans rfl) | (go_at_call 14; refine (laws_toFunc.calls k a0_0 a0_1 A0_2 c0_2 l0_2 a0_3 A0_4 c0_4 l0_4 q1 q2 q3 q4 q5 _ (Kd.C_below HR2.out (HB.out)) hc0_2 (Kd.C_below HR4.out (HB.out)) hc0_4 HTO.out).mono ?_; rintro e wn ⟨v2, v4, rfl, r2', r4', hb⟩; obtain ⟨AT2, cT2, hv2⟩ := Kd.R_slice r2'; obtain ⟨AT4, cT4, hv4⟩ := Kd.R_slice r4'; subst hv2; subst hv4; have T2 := Aside0.mk r2'; have T4 := Aside0.mk r4'; clear r2' r4'; have n_HB := Aside0.mk (Below.trans HB.out (hb.mono HB.out.size)); have n_B1 := Aside0.mk (blk_below B1.out hb); clear hb HB B1; have HB := n_HB; have B1 := n_B1; clear n_HB n_B1; (try clear a0 a1 a2 a3 a4); have a0 := (blk_cell B1.out 0).trans rfl; have a1 := (blk_cell B1.out 1).trans rfl; have a2 := (blk_cell B1.out 2).trans rfl; have a3 := (blk_cell B1.out 3).trans rfl; have a4 := (blk_cell B1.out 4).trans rfl) | (go_at_call 36; refine (spec_Loops.calls k q1 q2 AT2 cT2 q3 q4 AT4 cT4 q5 r1 _ (Kd.R_reads' T2.out).2.2 (Kd.R_reads' T2.out).2.1 (Kd.R_reads' T4.out).2.2 (Kd.R_reads' T4.out).2.1 HSP.out).mono ?_; rintro e wT ⟨v, rfl, s1, hb⟩; obtain ⟨AW, cW, hv⟩ := Kd.S_slice s1; subst hv; have SW := Aside0.mk (Kd.S_mono (Kd.S_bound s1) (fun k_ hk => (hk.2.2.1 : k_ < wT.heap.size))); clear T2 T4; clear s1; have n_HB := Aside0.mk (Below.trans HB.out (hb.mono HB.out.size)); have n_B1 := Aside0.mk (blk_below B1.out hb); clear hb HB B1; have HB := n_HB; have B1 := n_B1; clear n_HB n_B1; (try clear a0 a1 a2 a3 a4); have a0 := (blk_cell B1.out 0).trans rfl; have a1 := (blk_cell B1.out 1).trans rfl; have a2 := (blk_cell B1.out 2).trans rfl; have a3 := (blk_cell B1.out 3).trans rfl; have a4 := (blk_cell B1.out 4).trans rfl))
   have HBT := HB
   have B1T := B1
   have SWT := SW
   have HT := Aside0.mk (Below.refl wT.heap.size wT)
   go_upto_region 7 with (first | (go_at_call 14; refine (laws_toFunc.calls k a0_0 a0_1 A0_2 c0_2 l0_2 a0_3 A0_4 c0_4 l0_4 q1 q2 q3 q4 q5 _ (Kd.C_below HR2.out (HB.out)) hc0_2 (Kd.C_below HR4.out (HB.out)) hc0_4 HTO.out).mono ?_; rintro e wX ⟨v2, v4, rfl, r2', r4', hb⟩; obtain ⟨AT2, cT2, hv2⟩ := Kd.R_slice r2'; obtain ⟨AT4, cT4, hv4⟩ := Kd.R_slice r4'; subst hv2; subst hv4; have X2 := Aside0.mk (Kd.R_mono (Kd.R_bound r2') (fun k_ hk => (⟨hk.2.1, hk.2.2.1⟩ : wT.heap.size ≤ k_ ∧ k_ < wX.heap.size))); have X4 := Aside0.mk (Kd.R_mono (Kd.R_bound r4') (fun k_ hk => (⟨hk.2.1, hk.2.2.1⟩ : wT.heap.size ≤ k_ ∧ k_ < wX.heap.size))); clear r2' r4'; have n_HB := Aside0.mk (Below.trans HB.out (hb.mono HB.out.size)); have n_B1 := Aside0.mk (blk_below B1.out hb); have n_SW := Aside0.mk (Kd.S_below SW.out hb); have n_HT := Aside0.mk (Below.trans HT.out (hb.mono HT.out.size)); clear hb HB B1 SW HT; have HB := n_HB; have B1 := n_B1; have SW := n_SW; have HT := n_HT; clear n_HB n_B1 n_SW n_HT; (try clear a0 a1 a2 a3 a4); have a0 := (blk_cell B1.out 0).trans rfl; have a1 := (blk_cell B1.out 1).trans rfl; have a2 := (blk_cell B1.out 2).trans rfl; have a3 := (blk_cell B1.out 3).trans rfl; have a4 := (blk_cell B1.out 4).trans rfl))
   obtain ⟨wY, hwY⟩ : ∃ wY : World, wY = wX.alloc (.cells #[.string q1, .int .i64 q2, .slice AT2 q3.length cT2, .int .i64 q4, .slice AT4 q5.length cT4] 30) := ⟨_, rfl⟩
   have hb : Below wX.heap.size wX wY := by rw [hwY]; exact below_alloc (Below.refl _ _) _
   have B5 := Aside0.mk (show wY.heap[wX.heap.size]? = some (.cells #[.string q1, .int .i64 q2, .slice AT2 q3.length cT2, .int .i64 q4, .slice AT4 q5.length cT4] 30 (0, 0)) from by rw [hwY]; exact blk_new _ _)
   have HSY := Aside0.mk (show wX.heap.size < wY.heap.size from blk_lt B5.out)
   rw [← hwY]
   clear hwY
   have n_HB := Aside0.mk (Below.trans HB.out (hb.mono HB.out.size))
   have n_B1 := Aside0.mk (blk_below B1.out hb)
   have n_SW := Aside0.mk (Kd.S_below SW.out hb)
   have n_HT := Aside0.mk (Below.trans HT.out (hb.mono HT.out.size))
   have n_X2 := Aside0.mk (Kd.R_below X2.out hb)
   have n_X4 := Aside0.mk (Kd.R_below X4.out hb)
   clear hb HB B1 SW HT X2 X4
   have HB := n_HB
   have B1 := n_B1
   have SW := n_SW
   have HT := n_HT
   have X2 := n_X2
   have X4 := n_X4
   clear n_HB n_B1 n_SW n_HT n_X2 n_X4
   (try clear a0 a1 a2 a3 a4)
   have a0 := (blk_cell B1.out 0).trans rfl
   have a1 := (blk_cell B1.out 1).trans rfl
   have a2 := (blk_cell B1.out 2).trans rfl
   have a3 := (blk_cell B1.out 3).trans rfl
   have a4 := (blk_cell B1.out 4).trans rfl
   have x0 := (blk_cell B5.out 0).trans rfl
   have x1 := (blk_cell B5.out 1).trans rfl
   have x2 := (blk_cell B5.out 2).trans rfl
   have x3 := (blk_cell B5.out 3).trans rfl
   have x4 := (blk_cell B5.out 4).trans rfl
   go_upto_region 10 with (first | (go_at_call 37; refine (impl_Loops.calls k q1 q2 AT2 cT2 q3 q4 AT4 cT4 q5 r2 _ (Kd.R_reads' X2.out).2.2 (Kd.R_reads' X2.out).2.1 (Kd.R_reads' X4.out).2.2 (Kd.R_reads' X4.out).2.1 HIM.out).mono ?_; rintro e wG ⟨v, rfl, s1, hb⟩; obtain ⟨AG, cG, hv⟩ := Kd.S_slice s1; subst hv; have SG := Aside0.mk (Kd.S_lower (Kd.S_mono (Kd.S_bound s1) (fun k_ hk => (hk.2.1 : wY.heap.size ≤ k_))) HT.out.size); clear s1; have n_HB := Aside0.mk (Below.trans HB.out (hb.mono HB.out.size)); have n_B1 := Aside0.mk (blk_below B1.out hb); have n_SW := Aside0.mk (Kd.S_below SW.out hb); have n_HT := Aside0.mk (Below.trans HT.out (hb.mono HT.out.size)); have n_X2 := Aside0.mk (Kd.R_below X2.out hb); have n_X4 := Aside0.mk (Kd.R_below X4.out hb); have n_B5 := Aside0.mk (blk_below B5.out hb); clear hb HB B1 SW HT X2 X4 B5; have HB := n_HB; have B1 := n_B1; have SW := n_SW; have HT := n_HT; have X2 := n_X2; have X4 := n_X4; have B5 := n_B5; clear n_HB n_B1 n_SW n_HT n_X2 n_X4 n_B5; (try clear a0 a1 a2 a3 a4); have a0 := (blk_cell B1.out 0).trans rfl; have a1 := (blk_cell B1.out 1).trans rfl; have a2 := (blk_cell B1.out 2).trans rfl; have a3 := (blk_cell B1.out 3).trans rfl; have a4 := (blk_cell B1.out 4).trans rfl; (try clear x0 x1 x2 x3 x4); have x0 := (blk_cell B5.out 0).trans rfl; have x1 := (blk_cell B5.out 1).trans rfl; have x2 := (blk_cell B5.out 2).trans rfl; have x3 := (blk_cell B5.out 3).trans rfl; have x4 := (blk_cell B5.out 4).trans rfl) | (go_at_call 38; refine (laws_eqLoopS.calls k AG cG r2 AW cW r1 true _ (Kd.S_reads' SG.out).2.2 (Kd.S_reads' SG.out).2.1 (Kd.S_reads' SW.out).2.2 (Kd.S_reads' SW.out).2.1 HEQ.out).mono ?_; rintro e wE ⟨rfl, hb⟩; have n_HB := Aside0.mk (Below.trans HB.out (hb.mono HB.out.size)); have n_B1 := Aside0.mk (blk_below B1.out hb); have n_SW := Aside0.mk (Kd.S_below SW.out hb); have n_HT := Aside0.mk (Below.trans HT.out (hb.mono HT.out.size)); have n_X2 := Aside0.mk (Kd.R_below X2.out hb); have n_X4 := Aside0.mk (Kd.R_below X4.out hb); have n_B5 := Aside0.mk (blk_below B5.out hb); have n_SG := Aside0.mk (Kd.S_below SG.out hb); clear hb HB B1 SW HT X2 X4 B5 SG; have HB := n_HB; have B1 := n_B1; have SW := n_SW; have HT := n_HT; have X2 := n_X2; have X4 := n_X4; have B5 := n_B5; have SG := n_SG; clear n_HB n_B1 n_SW n_HT n_X2 n_X4 n_B5 n_SG; (try clear a0 a1 a2 a3 a4); have a0 := (blk_cell B1.out 0).trans rfl; have a1 := (blk_cell B1.out 1).trans rfl; have a2 := (blk_cell B1.out 2).trans rfl; have a3 := (blk_cell B1.out 3).trans rfl; have a4 := (blk_cell B1.out 4).trans rfl; (try clear x0 x1 x2 x3 x4); have x0 := (blk_cell B5.out 0).trans rfl; have x1 := (blk_cell B5.out 1).trans rfl; have x2 := (blk_cell B5.out 2).trans rfl; have x3 := (blk_cell B5.out 3).trans rfl; have x4 := (blk_cell B5.out 4).trans rfl))
   go_cut [31] (fun v31 wc => v31 = .bool false ∧ Aside0 (Below wE.heap.size wE wc))
   case first =>
    rename_i J1 K1 hJ hK
    go_region_with (first | (go_at_call 14; refine (laws_toFunc.calls k a0_0 a0_1 A0_2 c0_2 l0_2 a0_3 A0_4 c0_4 l0_4 q1 q2 q3 q4 q5 _ (Kd.C_below HR2.out (by repeat (first | exact HB.out | apply below_drew1 | apply pw_below_drewN))) hc0_2 (Kd.C_below HR4.out (by repeat (first | exact HB.out | apply below_drew1 | apply pw_below_drewN))) hc0_4 HTO.out).mono ?_; rintro e wF ⟨v2, v4, rfl, r2', r4', hb⟩; obtain ⟨AU2, cU2, hv2⟩ := Kd.R_slice r2'; obtain ⟨AU4, cU4, hv4⟩ := Kd.R_slice r4'; subst hv2; subst hv4; have T2 := Aside0.mk r2'; have T4 := Aside0.mk r4'; have hbE := below_step (w := wE) (by repeat (first | exact Below.refl _ _ | apply below_drew1 | apply pw_below_drewN)) hb; clear hb; have hb := hbE; clear hbE; have HE := Aside0.mk hb; clear r2' r4'; have n_HB := Aside0.mk (Below.trans HB.out (hb.mono HB.out.size)); have n_B1 := Aside0.mk (blk_below B1.out hb); have n_SW := Aside0.mk (Kd.S_below SW.out hb); have n_HT := Aside0.mk (Below.trans HT.out (hb.mono HT.out.size)); have n_X2 := Aside0.mk (Kd.R_below X2.out hb); have n_X4 := Aside0.mk (Kd.R_below X4.out hb); have n_B5 := Aside0.mk (blk_below B5.out hb); have n_SG := Aside0.mk (Kd.S_below SG.out hb); clear hb HB B1 SW HT X2 X4 B5 SG; have HB := n_HB; have B1 := n_B1; have SW := n_SW; have HT := n_HT; have X2 := n_X2; have X4 := n_X4; have B5 := n_B5; have SG := n_SG; clear n_HB n_B1 n_SW n_HT n_X2 n_X4 n_B5 n_SG; (try clear a0 a1 a2 a3 a4); have a0 := (blk_cell B1.out 0).trans rfl; have a1 := (blk_cell B1.out 1).trans rfl; have a2 := (blk_cell B1.out 2).trans rfl; have a3 := (blk_cell B1.out 3).trans rfl; have a4 := (blk_cell B1.out 4).trans rfl; (try clear x0 x1 x2 x3 x4); have x0 := (blk_cell B5.out 0).trans rfl; have x1 := (blk_cell B5.out 1).trans rfl; have x2 := (blk_cell B5.out 2).trans rfl; have x3 := (blk_cell B5.out 3).trans rfl; have x4 := (blk_cell B5.out 4).trans rfl) | (go_at_call 16; refine (laws_eqFunc.calls k q1 q2 AT2 cT2 q3 q4 AT4 cT4 q5 q1 q2 AU2 cU2 q3 q4 AU4 cU4 q5 true _ (Kd.C_below (Kd.R_reads' X2.out).2.2 (by repeat (first | exact Below.refl _ _ | apply below_drew1 | apply pw_below_drewN))) (Kd.R_reads' X2.out).2.1 (Kd.C_below (Kd.R_reads' X4.out).2.2 (by repeat (first | exact Below.refl _ _ | apply below_drew1 | apply pw_below_drewN))) (Kd.R_reads' X4.out).2.1 (Kd.C_below (Kd.R_reads' T2.out).2.2 (by repeat (first | exact Below.refl _ _ | apply below_drew1 | apply pw_below_drewN))) (Kd.R_reads' T2.out).2.1 (Kd.C_below (Kd.R_reads' T4.out).2.2 (by repeat (first | exact Below.refl _ _ | apply below_drew1 | apply pw_below_drewN))) (Kd.R_reads' T4.out).2.1 HEF.out).mono ?_; rintro e wG2 ⟨rfl, hb⟩; have HE2 := Aside0.mk (below_step (by repeat (first | exact HE.out | apply below_drew1 | apply pw_below_drewN)) hb); clear hb))
    all_goals refine hK _ _ ?_
    all_goals refine hJ _ _ ?_
    all_goals ((repeat apply Exists.intro); exact ⟨⟨rfl, ⟨by repeat (first | exact HE2.out | apply below_drew1 | apply pw_below_drewN)⟩⟩, rfl⟩)
   case rest =>
    obtain ⟨rfl, HE⟩ := hcut
    have hb := HE.out
    clear HE
    have n_HB := Aside0.mk (Below.trans HB.out (hb.mono HB.out.size))
    have n_B1 := Aside0.mk (blk_below B1.out hb)
    have n_SW := Aside0.mk (Kd.S_below SW.out hb)
    have n_HT := Aside0.mk (Below.trans HT.out (hb.mono HT.out.size))
    have n_X2 := Aside0.mk (Kd.R_below X2.out hb)
    have n_X4 := Aside0.mk (Kd.R_below X4.out hb)
    have n_B5 := Aside0.mk (blk_below B5.out hb)
    have n_SG := Aside0.mk (Kd.S_below SG.out hb)
    clear hb HB B1 SW HT X2 X4 B5 SG
    have HB := n_HB
    have B1 := n_B1
    have SW := n_SW
    have HT := n_HT
    have X2 := n_X2
    have X4 := n_X4
    have B5 := n_B5
    have SG := n_SG
    clear n_HB n_B1 n_SW n_HT n_X2 n_X4 n_B5 n_SG
    (try clear a0 a1 a2 a3 a4)
    have a0 := (blk_cell B1.out 0).trans rfl
    have a1 := (blk_cell B1.out 1).trans rfl
    have a2 := (blk_cell B1.out 2).trans rfl
    have a3 := (blk_cell B1.out 3).trans rfl
    have a4 := (blk_cell B1.out 4).trans rfl
    (try clear x0 x1 x2 x3 x4)
    have x0 := (blk_cell B5.out 0).trans rfl
    have x1 := (blk_cell B5.out 1).trans rfl
    have x2 := (blk_cell B5.out 2).trans rfl
    have x3 := (blk_cell B5.out 3).trans rfl
    have x4 := (blk_cell B5.out 4).trans rfl
    have hc3 : decide (t3 < 0) = false := decide_eq_false (by omega)
    have hc4 : decide (m1 < 0) = false := decide_eq_false (by omega)
    go_upto_region 18 with (first | (go_at_call 20; refine (laws_markFunc.calls q1 q2 _ _ q3 q4 _ _ q5 1 t3 wT _ HT.out X2.out X4.out HMF.out).mono ?_; rintro e wM ⟨rfl, hb, hk⟩; have n_SG := Aside0.mk (Kd.S_kept SG.out hk (fun k_ h1 h2 => Or.elim h2 (fun h3 => absurd h3.2 (Nat.not_lt.2 (Nat.le_trans (Nat.le_of_lt HSY.out) h1))) (fun h3 => absurd h3.2 (Nat.not_lt.2 (Nat.le_trans (Nat.le_of_lt HSY.out) h1))))); clear SG hk X2 X4 B5 x0 x1 x2 x3 x4; have SG := n_SG; clear n_SG; have n_HB := Aside0.mk (Below.trans HBT.out (hb.mono HBT.out.size)); have n_B1 := Aside0.mk (blk_below B1T.out hb); have n_SW := Aside0.mk (Kd.S_below SWT.out hb); have n_HT := Aside0.mk hb; clear HB B1 SW HT hb; have HB := n_HB; have B1 := n_B1; have SW := n_SW; have HT := n_HT; clear n_HB n_B1 n_SW n_HT; (try clear a0 a1 a2 a3 a4); have a0 := (blk_cell B1.out 0).trans rfl; have a1 := (blk_cell B1.out 1).trans rfl; have a2 := (blk_cell B1.out 2).trans rfl; have a3 := (blk_cell B1.out 3).trans rfl; have a4 := (blk_cell B1.out 4).trans rfl) | (go_at_call 38; refine (laws_eqLoopS.calls k AG cG r2 AW cW r1 true _ (Kd.S_reads' SG.out).2.2 (Kd.S_reads' SG.out).2.1 (Kd.S_reads' SW.out).2.2 (Kd.S_reads' SW.out).2.1 HEQ.out).mono ?_; rintro e wN ⟨rfl, hb⟩; have n_HB := Aside0.mk (Below.trans HB.out (hb.mono HB.out.size)); have n_B1 := Aside0.mk (blk_below B1.out hb); have n_SW := Aside0.mk (Kd.S_below SW.out hb); have n_HT := Aside0.mk (Below.trans HT.out (hb.mono HT.out.size)); have n_SG := Aside0.mk (Kd.S_below SG.out hb); clear hb HB B1 SW HT SG; have HB := n_HB; have B1 := n_B1; have SW := n_SW; have HT := n_HT; have SG := n_SG; clear n_HB n_B1 n_SW n_HT n_SG; (try clear a0 a1 a2 a3 a4); have a0 := (blk_cell B1.out 0).trans rfl; have a1 := (blk_cell B1.out 1).trans rfl; have a2 := (blk_cell B1.out 2).trans rfl; have a3 := (blk_cell B1.out 3).trans rfl; have a4 := (blk_cell B1.out 4).trans rfl) | (go_at_call 39; refine (laws_markLoopS.calls _ _ r2 1 m1 r3 wT _ HT.out SG.out HML.out).mono ?_; rintro e wL ⟨rfl, s1, hb, hk⟩; clear SG hk; have SG := Aside0.mk s1; clear s1; have n_HB := Aside0.mk (Below.trans HBT.out (hb.mono HBT.out.size)); have n_B1 := Aside0.mk (blk_below B1T.out hb); have n_SW := Aside0.mk (Kd.S_below SWT.out hb); have n_HT := Aside0.mk hb; clear HB B1 SW HT hb; have HB := n_HB; have B1 := n_B1; have SW := n_SW; have HT := n_HT; clear n_HB n_B1 n_SW n_HT; (try clear a0 a1 a2 a3 a4); have a0 := (blk_cell B1.out 0).trans rfl; have a1 := (blk_cell B1.out 1).trans rfl; have a2 := (blk_cell B1.out 2).trans rfl; have a3 := (blk_cell B1.out 3).trans rfl; have a4 := (blk_cell B1.out 4).trans rfl))
    have HELD : Aside0 (∀ w', Kd.C k86 w' AG r3.length r3 → Calls Try.prog 40 #[.slice AG r2.length cG, .int .i64 1] w' fun e w2 => e = .returned (.int .i64 m1) ∧ Below w'.heap.size w' w2) := by
     have hl := Kd.S_reads' SG.out
     refine ⟨fun w' hC => ?_⟩
     have h1 := (laws_heldLoopS.calls k AG cG r3 1 m1 w' hC (by rw [← hl.1]; exact hl.2.1) HHE.out).mono (fun e w2 h => (⟨h.1, h.2.below⟩ : e = .returned (.int .i64 m1) ∧ Below w'.heap.size w' w2))
     rwa [← hl.1] at h1
    go_upto_region 24 with (first | (go_at_call 40; refine (HELD.out _ (Kd.S_reads' SG.out).2.2).mono ?_; rintro e wn ⟨rfl, hb⟩; have n_HB := Aside0.mk (Below.trans HB.out (hb.mono HB.out.size)); have n_B1 := Aside0.mk (blk_below B1.out hb); have n_SW := Aside0.mk (Kd.S_below SW.out hb); have n_SG := Aside0.mk (Kd.S_below SG.out hb); clear hb HB B1 SW SG; have HB := n_HB; have B1 := n_B1; have SW := n_SW; have SG := n_SG; clear n_HB n_B1 n_SW n_SG; (try clear a0 a1 a2 a3 a4); have a0 := (blk_cell B1.out 0).trans rfl; have a1 := (blk_cell B1.out 1).trans rfl; have a2 := (blk_cell B1.out 2).trans rfl; have a3 := (blk_cell B1.out 3).trans rfl; have a4 := (blk_cell B1.out 4).trans rfl))
    go_upto_region 27 with (first | (go_at_call 14; refine (laws_toFunc.calls k a0_0 a0_1 A0_2 c0_2 l0_2 a0_3 A0_4 c0_4 l0_4 q1 q2 q3 q4 q5 _ (Kd.C_below HR2.out (HB.out)) hc0_2 (Kd.C_below HR4.out (HB.out)) hc0_4 HTO.out).mono ?_; rintro e wn ⟨v2, v4, rfl, r2', r4', hb⟩; obtain ⟨AV2, cV2, hv2⟩ := Kd.R_slice r2'; obtain ⟨AV4, cV4, hv4⟩ := Kd.R_slice r4'; subst hv2; subst hv4; have T2 := Aside0.mk r2'; have T4 := Aside0.mk r4'; clear r2' r4'; have n_HB := Aside0.mk (Below.trans HB.out (hb.mono HB.out.size)); have n_B1 := Aside0.mk (blk_below B1.out hb); have n_SW := Aside0.mk (Kd.S_below SW.out hb); have n_SG := Aside0.mk (Kd.S_below SG.out hb); clear hb HB B1 SW SG; have HB := n_HB; have B1 := n_B1; have SW := n_SW; have SG := n_SG; clear n_HB n_B1 n_SW n_SG; (try clear a0 a1 a2 a3 a4); have a0 := (blk_cell B1.out 0).trans rfl; have a1 := (blk_cell B1.out 1).trans rfl; have a2 := (blk_cell B1.out 2).trans rfl; have a3 := (blk_cell B1.out 3).trans rfl; have a4 := (blk_cell B1.out 4).trans rfl) | (go_at_call 37; refine (impl_Loops.calls k q1 q2 AV2 cV2 q3 q4 AV4 cV4 q5 r2 _ (Kd.R_reads' T2.out).2.2 (Kd.R_reads' T2.out).2.1 (Kd.R_reads' T4.out).2.2 (Kd.R_reads' T4.out).2.1 HIM.out).mono ?_; rintro e wH ⟨v, rfl, s1, hb⟩; obtain ⟨AH, cH, hv⟩ := Kd.S_slice s1; subst hv; have SH := Aside0.mk s1; clear T2 T4; clear s1; have n_HB := Aside0.mk (Below.trans HB.out (hb.mono HB.out.size)); have n_B1 := Aside0.mk (blk_below B1.out hb); have n_SW := Aside0.mk (Kd.S_below SW.out hb); have n_SG := Aside0.mk (Kd.S_below SG.out hb); clear hb HB B1 SW SG; have HB := n_HB; have B1 := n_B1; have SW := n_SW; have SG := n_SG; clear n_HB n_B1 n_SW n_SG; (try clear a0 a1 a2 a3 a4); have a0 := (blk_cell B1.out 0).trans rfl; have a1 := (blk_cell B1.out 1).trans rfl; have a2 := (blk_cell B1.out 2).trans rfl; have a3 := (blk_cell B1.out 3).trans rfl; have a4 := (blk_cell B1.out 4).trans rfl) | (go_at_call 38; refine (laws_eqLoopS.calls k AH cH r2 AW cW r1 true _ (Kd.S_reads' SH.out).2.2 (Kd.S_reads' SH.out).2.1 (Kd.S_reads' SW.out).2.2 (Kd.S_reads' SW.out).2.1 HEQ.out).mono ?_; rintro e wK ⟨rfl, hb⟩; have n_HB := Aside0.mk (Below.trans HB.out (hb.mono HB.out.size)); have n_B1 := Aside0.mk (blk_below B1.out hb); have n_SW := Aside0.mk (Kd.S_below SW.out hb); have n_SG := Aside0.mk (Kd.S_below SG.out hb); clear hb HB B1 SW SG; have HB := n_HB; have B1 := n_B1; have SW := n_SW; have SG := n_SG; clear n_HB n_B1 n_SW n_SG; (try clear a0 a1 a2 a3 a4); have a0 := (blk_cell B1.out 0).trans rfl; have a1 := (blk_cell B1.out 1).trans rfl; have a2 := (blk_cell B1.out 2).trans rfl; have a3 := (blk_cell B1.out 3).trans rfl; have a4 := (blk_cell B1.out 4).trans rfl))
    go_wp2_with (first | (go_at_call 40; refine (HELD.out _ (Kd.S_reads' SG.out).2.2).mono ?_; rintro e wn ⟨rfl, hb⟩; have n_HB := Aside0.mk (Below.trans HB.out (hb.mono HB.out.size)); have n_B1 := Aside0.mk (blk_below B1.out hb); have n_SW := Aside0.mk (Kd.S_below SW.out hb); have n_SG := Aside0.mk (Kd.S_below SG.out hb); clear hb HB B1 SW SG; have HB := n_HB; have B1 := n_B1; have SW := n_SW; have SG := n_SG; clear n_HB n_B1 n_SW n_SG; (try clear a0 a1 a2 a3 a4); have a0 := (blk_cell B1.out 0).trans rfl; have a1 := (blk_cell B1.out 1).trans rfl; have a2 := (blk_cell B1.out 2).trans rfl; have a3 := (blk_cell B1.out 3).trans rfl; have a4 := (blk_cell B1.out 4).trans rfl))
    go_ret
    exact ⟨rfl, HB.out⟩

end Go.Proofs.Ytoedcnhgobbnfaa.All

/- What reads as data of a type can be read as a value of its kind. -/
namespace Go.Proofs.Ytoedcnhgobbnfaa.All
open Go.RowKit Go.Proofs.YtoedcnhgobbnfaaW.PrintWords Go.Proofs.YtoedcnhgobbnfaaW.PrintLast Go.Proofs.YtoedcnhgobbnfaaW.PrintMore
set_option linter.unusedVariables false
set_option linter.unusedSimpArgs false
structure Rdb {α : Type} (d : Kd α) (P : Program) (t : TypeId) (ok : α → Prop) : Prop where
  sz : P.cellsOf t = d.sz
  rd : ∀ {H : Type} {enc : TypeId × Value → H} {w : World} {base : Nat} {sp : Nat → Bool} {held : Bool} {fuel : Nat} {cs : List Value} {x : DataW H × List MemPlace}, DataW.trod enc P w base sp held fuel t cs = some x → ∃ a, d.K w a cs ∧ ok a
theorem Rdb.int {P : Program} {t : TypeId} {k : IntKind} (ht : P.underlying t = some (.int k)) (hs : P.cellsOf t = 1) : Rdb (Kd.int k) P t (fun a => (Lit.int k a).wf = true) :=
  ⟨hs, fun h => by obtain ⟨n, rfl, _, hw⟩ := DataW.trod_int ht h; exact ⟨n, rfl, hw⟩⟩
theorem Rdb.bool {P : Program} {t : TypeId} (ht : P.underlying t = some .bool) (hs : P.cellsOf t = 1) : Rdb Kd.bool P t (fun _ => True) :=
  ⟨hs, fun h => by obtain ⟨b, rfl, _⟩ := DataW.trod_bool ht h; exact ⟨b, rfl, trivial⟩⟩
theorem Rdb.string {P : Program} {t : TypeId} (ht : P.underlying t = some .string) (hs : P.cellsOf t = 1) : Rdb Kd.string P t (fun s => s.size ≤ 9223372036854775807) :=
  ⟨hs, fun h => by obtain ⟨s, rfl, _, hm⟩ := DataW.trod_string ht h; exact ⟨s, rfl, hm⟩⟩
theorem rdb_list {α : Type} {P : Nat → α → Prop} : ∀ n : Nat, (∀ j, j < n → ∃ x, P j x) → ∃ l : List α, l.length = n ∧ ∀ (j : Nat) (x : α), l[j]? = some x → P j x
  | 0, _ => ⟨[], rfl, fun j x h => by simp at h⟩
  | n + 1, h => by
    obtain ⟨l, hl, hp⟩ := rdb_list n (fun j hj => h j (by omega))
    obtain ⟨x, hx⟩ := h n (by omega)
    refine ⟨l ++ [x], by simp [hl], fun j y hy => ?_⟩
    by_cases hj : j < n
    · rw [List.getElem?_append_left (by omega)] at hy
      exact hp j y hy
    · have hlt := (List.getElem?_eq_some_iff.1 hy).1
      simp [hl] at hlt
      have : j = n := by omega
      subst this
      rw [List.getElem?_append_right (by omega)] at hy
      simp [hl] at hy
      subst hy
      exact hx
theorem Rdb.slice {α : Type} {d : Kd α} {P : Program} {t e : TypeId} {ok : α → Prop} (ht : P.underlying t = some (.slice e)) (hs : P.cellsOf t = 1) (h : Rdb d P e ok) : Rdb (Kd.slice e d) P t (fun xs => xs.length ≤ 9223372036854775807 ∧ ∀ x ∈ xs, ok x) := by
  refine ⟨hs, fun {H enc w base sp held fuel cs x} hx => ?_⟩
  rcases Deep.open_slice ht hx with ⟨rfl, _⟩ | ⟨a, len, cap, m, n, D, Pl, rfl, hb, hl, hm, hmm, _, hel⟩
  · exact ⟨[], ⟨none, 0, rfl, Nat.le_refl _, rfl, by simp, fun h0 => by simp at h0⟩, by simp, fun x hx => by simp at hx⟩
  · have hmax : len ≤ 9223372036854775807 := Nat.le_trans hl hm
    have hlm : len ≤ m := by rw [hmm]; split <;> omega
    obtain ⟨xs, hlen, hxs⟩ := rdb_list (P := fun j (x : α) => ok x ∧ ∃ c, c.length = d.sz ∧ d.K w x c ∧ ∀ (i : Nat) (u : Value), c[i]? = some u → w.cell? (a.add (j * d.sz + i)) = some u) len (fun j hj => by
      obtain ⟨cs', hc, htr⟩ := hel j (by omega)
      obtain ⟨x, hK, hok⟩ := h.rd htr
      obtain ⟨_, hcl, hcc⟩ := World.cells?_some hc
      rw [h.sz] at hcl hcc
      refine ⟨x, hok, cs', hcl, hK, fun i u hu => ?_⟩
      have hi := (List.getElem?_eq_some_iff.1 hu).1
      have := hcc i (by omega)
      rw [Addr.add_add] at this
      exact this.trans hu)
    refine ⟨xs, ⟨some a, cap, by rw [hlen], by omega, rfl, by omega, fun _ => ⟨a, rfl, fun j p hj => (hxs j p hj).2⟩⟩, by omega, fun x hx => ?_⟩
    obtain ⟨j, hj⟩ := List.getElem?_of_mem hx
    exact (hxs j x hj).1
/-- The fields of a struct (types and places) from cell 'off' on. -/
structure RdbFs {α : Type} (d : Kd α) (P : Program) (fs : List (TypeId × Nat)) (off : Nat) (ok : α → Prop) : Prop where
  rd : ∀ {H : Type} {enc : TypeId × Value → H} {w : World} {base : Nat} {sp : Nat → Bool} {held : Bool} {n : Nat} {cs : List Value}, cs.length = off + d.sz →
    (∀ f ∈ fs, ∃ x, DataW.trod enc P w base sp held n f.1 ((cs.drop f.2).take (P.cellsOf f.1)) = some x) → ∃ a, d.K w a (cs.drop off) ∧ ok a
theorem RdbFs.one {α : Type} {d : Kd α} {P : Program} {t : TypeId} {off : Nat} {ok : α → Prop} (h : Rdb d P t ok) : RdbFs d P [(t, off)] off ok := by
  refine ⟨fun {H enc w base sp held n cs} hl hf => ?_⟩
  obtain ⟨x, hx⟩ := hf (t, off) (by simp)
  simp only at hx
  rw [h.sz, List.take_of_length_le (by rw [List.length_drop]; omega)] at hx
  exact h.rd hx
theorem RdbFs.cons {α β : Type} {a : Kd α} {b : Kd β} {P : Program} {t : TypeId} {fs : List (TypeId × Nat)} {off off' : Nat} {ok : α → Prop} {ok' : β → Prop} (ho : off + a.sz = off') (h : Rdb a P t ok) (hs : RdbFs b P fs off' ok') : RdbFs (Kd.pair a b) P ((t, off) :: fs) off (fun x => ok x.1 ∧ ok' x.2) := by
  subst ho
  refine ⟨fun {H enc w base sp held n cs} hl hf => ?_⟩
  have hl' : cs.length = off + a.sz + b.sz := by rw [hl]; show off + (a.sz + b.sz) = _; omega
  obtain ⟨x, hx⟩ := hf (t, off) (by simp)
  simp only at hx
  rw [h.sz] at hx
  obtain ⟨y, hy, oky⟩ := h.rd hx
  obtain ⟨z, hz, okz⟩ := hs.rd hl' (fun g hg => hf g (by simp [hg]))
  refine ⟨(y, z), ⟨(cs.drop off).take a.sz, cs.drop (off + a.sz), ?_, hy, hz⟩, oky, okz⟩
  rw [← List.drop_drop, List.take_append_drop]
theorem Rdb.struct {α : Type} {d : Kd α} {P : Program} {t : TypeId} {fs : Array Field} {ok : α → Prop} (ht : P.underlying t = some (.struct fs)) (hs : P.cellsOf t = d.sz) (tos : List (TypeId × Nat)) (htos : fs.toList.map (fun f => (f.type, f.offset)) = tos) (h : RdbFs d P tos 0 ok) : Rdb d P t ok := by
  subst htos
  refine ⟨hs, fun hx => ?_⟩
  obtain ⟨xs, n, rfl, rfl, hl, hxl, hf⟩ := DataW.trod_struct ht hx
  have := h.rd (n := n) (by rw [hl, hs, Nat.zero_add]) (fun f hfm => by
    obtain ⟨f', hf', rfl⟩ := List.mem_map.1 hfm
    obtain ⟨i, hi⟩ := List.getElem?_of_mem hf'
    rw [Array.getElem?_toList] at hi
    have h1 := hf i f' hi
    have hlt : i < xs.length := by rw [hxl]; exact (Array.getElem?_eq_some_iff.1 hi).1
    exact ⟨xs[i], by rw [h1, List.getElem?_eq_getElem hlt]⟩)
  simpa using this
theorem Rdb.iso {α β : Type} {d : Kd α} {P : Program} {t : TypeId} {ok : α → Prop} {f : β → α} (h : Rdb d P t ok) (g : α → β) (hg : ∀ y, f (g y) = y) : Rdb (Kd.iso d f) P t (fun x => ok (f x)) :=
  ⟨h.sz, fun hx => by
    obtain ⟨a, hK, hok⟩ := h.rd hx
    refine ⟨g a, ?_, by rw [hg]; exact hok⟩
    show d.K _ (f (g a)) _
    rw [hg]
    exact hK⟩
end Go.Proofs.Ytoedcnhgobbnfaa.All

/- How the laws' arguments read. Printed by gen_row.py. -/
namespace Go.Proofs.Ytoedcnhgobbnfaa.All
open Go.RowKit Go.Proofs.YtoedcnhgobbnfaaW.PrintWords
set_option linter.unusedVariables false
def ok158 (x : S158) : Prop := (Lit.int .i64 x.f0).wf = true ∧ (Lit.int .i64 x.f1).wf = true ∧ (Lit.int .i64 x.f2).wf = true ∧ (Lit.int .u64 x.f3).wf = true
set_option maxRecDepth 100000 in
theorem rdb158 : Rdb k158 Try.prog 158 ok158 := Rdb.iso (f := fun x : S158 => (x.f0, x.f1, x.f2, x.f3)) (Rdb.struct Try.underlying158 (by kernel_rfl) [(2, 0), (2, 1), (2, 2), (73, 3)] rfl (RdbFs.cons rfl (Rdb.int Try.underlying2 (by kernel_rfl)) (RdbFs.cons rfl (Rdb.int Try.underlying2 (by kernel_rfl)) (RdbFs.cons rfl (Rdb.int Try.underlying2 (by kernel_rfl)) (RdbFs.one (Rdb.int Try.underlying73 (by kernel_rfl))))))) (fun y => (⟨y.1, y.2.1, y.2.2.1, y.2.2.2⟩ : S158)) (fun _ => rfl)
def ok140 (x : S140) : Prop := (Lit.int .i64 x.f0).wf = true ∧ (Lit.int .i64 x.f1).wf = true ∧ (Lit.int .i64 x.f2).wf = true ∧ (Lit.int .i64 x.f3).wf = true ∧ (Lit.int .i64 x.f4).wf = true ∧ (Lit.int .i64 x.f5).wf = true ∧ (x.f6.length ≤ 9223372036854775807 ∧ ∀ y ∈ x.f6, ok158 y) ∧ (x.f7.length ≤ 9223372036854775807 ∧ ∀ y ∈ x.f7, (Lit.int .i64 y).wf = true) ∧ (x.f8.length ≤ 9223372036854775807 ∧ ∀ y ∈ x.f8, (Lit.int .u64 y).wf = true)
set_option maxRecDepth 100000 in
theorem rdb140 : Rdb k140 Try.prog 140 ok140 := Rdb.iso (f := fun x : S140 => (x.f0, x.f1, x.f2, x.f3, x.f4, x.f5, x.f6, x.f7, x.f8)) (Rdb.struct Try.underlying140 (by kernel_rfl) [(2, 0), (2, 1), (2, 2), (2, 3), (2, 4), (2, 5), (138, 6), (22, 7), (64, 8)] rfl (RdbFs.cons rfl (Rdb.int Try.underlying2 (by kernel_rfl)) (RdbFs.cons rfl (Rdb.int Try.underlying2 (by kernel_rfl)) (RdbFs.cons rfl (Rdb.int Try.underlying2 (by kernel_rfl)) (RdbFs.cons rfl (Rdb.int Try.underlying2 (by kernel_rfl)) (RdbFs.cons rfl (Rdb.int Try.underlying2 (by kernel_rfl)) (RdbFs.cons rfl (Rdb.int Try.underlying2 (by kernel_rfl)) (RdbFs.cons rfl (Rdb.slice Try.underlying138 (by kernel_rfl) rdb158) (RdbFs.cons rfl (Rdb.slice Try.underlying22 (by kernel_rfl) (Rdb.int Try.underlying2 (by kernel_rfl))) (RdbFs.one (Rdb.slice Try.underlying64 (by kernel_rfl) (Rdb.int Try.underlying73 (by kernel_rfl))))))))))))) (fun y => (⟨y.1, y.2.1, y.2.2.1, y.2.2.2.1, y.2.2.2.2.1, y.2.2.2.2.2.1, y.2.2.2.2.2.2.1, y.2.2.2.2.2.2.2.1, y.2.2.2.2.2.2.2.2⟩ : S140)) (fun _ => rfl)
def ok96 (x : S96) : Prop := (x.f0.length ≤ 9223372036854775807 ∧ ∀ y ∈ x.f0, ok140 y)
set_option maxRecDepth 100000 in
theorem rdb96 : Rdb k96 Try.prog 96 ok96 := Rdb.iso (f := fun x : S96 => x.f0) (Rdb.struct Try.underlying96 (by kernel_rfl) [(94, 0)] rfl (RdbFs.one (Rdb.slice Try.underlying94 (by kernel_rfl) rdb140))) (fun y => (⟨y⟩ : S96)) (fun _ => rfl)
set_option maxRecDepth 100000 in
theorem rdbTop25 : Rdb (Kd.pair Kd.string (Kd.pair (Kd.int .i64) (Kd.pair (Kd.slice 2 (Kd.int .i64)) (Kd.pair (Kd.int .i64) (Kd.slice 96 k96))))) Try.prog 25 (fun x => x.1.size ≤ 9223372036854775807 ∧ (Lit.int .i64 x.2.1).wf = true ∧ (x.2.2.1.length ≤ 9223372036854775807 ∧ ∀ y ∈ x.2.2.1, (Lit.int .i64 y).wf = true) ∧ (Lit.int .i64 x.2.2.2.1).wf = true ∧ (x.2.2.2.2.length ≤ 9223372036854775807 ∧ ∀ y ∈ x.2.2.2.2, ok96 y)) := Rdb.struct Try.underlying25 (by kernel_rfl) [(9, 0), (2, 1), (22, 2), (2, 3), (23, 4)] rfl (RdbFs.cons rfl (Rdb.string Try.underlying9 (by kernel_rfl)) (RdbFs.cons rfl (Rdb.int Try.underlying2 (by kernel_rfl)) (RdbFs.cons rfl (Rdb.slice Try.underlying22 (by kernel_rfl) (Rdb.int Try.underlying2 (by kernel_rfl))) (RdbFs.cons rfl (Rdb.int Try.underlying2 (by kernel_rfl)) (RdbFs.one (Rdb.slice Try.underlying23 (by kernel_rfl) rdb96))))))
end Go.Proofs.Ytoedcnhgobbnfaa.All

/- Plain laws of szFunc, toFunc, eqFunc over the laws' functions. -/
namespace Go.Proofs.Ytoedcnhgobbnfaa.All
open Go.RowKit Go.Proofs.YtoedcnhgobbnfaaW.PrintWords Go.Proofs.YtoedcnhgobbnfaaW.PrintLast Go.Proofs.YtoedcnhgobbnfaaW.PrintMore
set_option linter.unusedVariables false
set_option linter.unusedSimpArgs false
def iOperand (x : S158) : S75 := ⟨x.f0, x.f1, x.f2, x.f3⟩
def iInstr (x : S140) : S66 := ⟨x.f0, x.f1, x.f2, x.f3, x.f4, x.f5, x.f6.map iOperand, x.f7, x.f8⟩
def iBlock (x : S96) : S62 := ⟨x.f0.map iInstr⟩
def sInstr (x : S140) : Nat := x.f6.length + x.f7.length + x.f8.length
def sInstrS (xs : List S140) : Nat := xs.length + (xs.map sInstr).sum
def sBlock (x : S96) : Nat := sInstrS x.f0
def sBlockS (xs : List S96) : Nat := xs.length + (xs.map sBlock).sum
/-- What is known of lengths: each list's own is a machine number. -/
def lInstr (x : S140) : Prop := x.f6.length ≤ 9223372036854775807 ∧ x.f7.length ≤ 9223372036854775807 ∧ x.f8.length ≤ 9223372036854775807
def lInstrS (xs : List S140) : Prop := xs.length ≤ 9223372036854775807 ∧ ∀ x ∈ xs, lInstr x
def lBlockS (xs : List S96) : Prop := xs.length ≤ 9223372036854775807 ∧ ∀ x ∈ xs, lInstrS x.f0
theorem szInt64S_f (l : List Int) (a : Int) (h0 : 0 ≤ a) (h1 : a ≤ 1048576) (hl : l.length ≤ 9223372036854775807) : laws_szInt64S.f l a = some (if (l.length : Int) ≤ a then a - l.length else -1) := by
  unfold laws_szInt64S.f; rw [wrap64_id (by omega) (by omega)]
  by_cases h : (l.length : Int) ≤ a
  · rw [if_neg (by omega), if_pos h]
  · rw [if_pos (by omega), if_neg h]
theorem szUint64S_f (l : List Int) (a : Int) (h0 : 0 ≤ a) (h1 : a ≤ 1048576) (hl : l.length ≤ 9223372036854775807) : laws_szUint64S.f l a = some (if (l.length : Int) ≤ a then a - l.length else -1) := by
  unfold laws_szUint64S.f; rw [wrap64_id (by omega) (by omega)]
  by_cases h : (l.length : Int) ≤ a
  · rw [if_neg (by omega), if_pos h]
  · rw [if_pos (by omega), if_neg h]
theorem szOperandS_f (l : List S158) (a : Int) (h0 : 0 ≤ a) (h1 : a ≤ 1048576) (hl : l.length ≤ 9223372036854775807) : laws_szOperandS.f l a = some (if (l.length : Int) ≤ a then a - l.length else -1) := by
  unfold laws_szOperandS.f; rw [wrap64_id (by omega) (by omega)]
  by_cases h : (l.length : Int) ≤ a
  · rw [if_neg (by omega), if_pos h]
  · rw [if_pos (by omega), if_neg h]
theorem szInstr_f (x : S140) (a : Int) (h0 : 0 ≤ a) (h1 : a ≤ 1048576) (hx : lInstr x) : laws_szInstr.f x.f0 x.f1 x.f2 x.f3 x.f4 x.f5 x.f6 x.f7 x.f8 a = some (if (sInstr x : Int) ≤ a then a - sInstr x else -1) := by
  obtain ⟨l6, l7, l8⟩ := hx
  unfold laws_szInstr.f sInstr
  rw [szOperandS_f _ _ h0 h1 l6]; simp only [Option.bind_some]
  by_cases c6 : (x.f6.length : Int) ≤ a
  · rw [if_pos c6, if_neg (by omega), szInt64S_f _ _ (by omega) (by omega) l7]; simp only [Option.bind_some]
    by_cases c7 : (x.f7.length : Int) ≤ a - x.f6.length
    · rw [if_pos c7, if_neg (by omega), szUint64S_f _ _ (by omega) (by omega) l8]; simp only [Option.bind_some]
      by_cases c8 : (x.f8.length : Int) ≤ a - x.f6.length - x.f7.length
      · rw [if_pos c8, if_neg (by omega), if_pos (by omega)]; congr 1; omega
      · rw [if_neg c8, if_pos (by omega), if_neg (by omega)]
    · rw [if_neg c7, if_pos (by omega), if_neg (by omega)]
  · rw [if_neg c6, if_pos (by omega), if_neg (by omega)]
theorem szInstrS_f (xs : List S140) (a : Int) (h0 : 0 ≤ a) (h1 : a ≤ 1048576) (hx : lInstrS xs) : Ev (fun k => laws_szInstrS.f k xs a) (if (sInstrS xs : Int) ≤ a then a - sInstrS xs else -1) := by
  obtain ⟨hl, hx⟩ := hx
  unfold laws_szInstrS.f
  rw [wrap64_id (by omega) (by omega)]
  by_cases c : (xs.length : Int) ≤ a
  · refine Ev.neg (by omega) ?_
    have h := sz_gen sInstr z140 xs (fun k a i => laws_szInstrS.l0 k xs a i) (fun i a r hi h0 h1 h => by
      refine Ev.succ ?_
      simp only [laws_szInstrS.l0]
      refine Ev.pos (by omega) (Ev.pos (by omega) ?_)
      have hm : lInstr (rd_T140 xs i) := hx _ (by simp only [rd_T140, Int.toNat_natCast]; rw [getD_eq hi]; exact List.getElem_mem hi)
      refine Ev.eq_bind (szInstr_f _ a h0 h1 hm) ?_
      have e : rd_T140 xs i = xs.getD i z140 := by simp [rd_T140]
      rw [e]
      split at h
      · rename_i hc
        rw [if_pos hc, wrap64_nat (by omega)]
        exact Ev.neg (by omega) h
      · rename_i hc
        rw [if_neg hc]
        exact Ev.pos (by omega) (Ev.some h.symm)) (fun a => by
      refine Ev.succ ?_
      simp only [laws_szInstrS.l0]
      exact Ev.neg (by omega) (Ev.now _)) (a - xs.length) (by omega) (by omega)
    have e : (if ((xs.map sInstr).sum : Int) ≤ a - xs.length then a - xs.length - (xs.map sInstr).sum else -1) = (if (sInstrS xs : Int) ≤ a then a - sInstrS xs else -1) := by unfold sInstrS; split <;> split <;> omega
    rw [← e]
    exact h
  · rw [if_neg (by unfold sInstrS; omega)]
    exact Ev.pos (by omega) (Ev.now _)
theorem szBlockS_f (xs : List S96) (a : Int) (h0 : 0 ≤ a) (h1 : a ≤ 1048576) (hx : lBlockS xs) : Ev (fun k => laws_szBlockS.f k xs a) (if (sBlockS xs : Int) ≤ a then a - sBlockS xs else -1) := by
  obtain ⟨hl, hx⟩ := hx
  unfold laws_szBlockS.f
  rw [wrap64_id (by omega) (by omega)]
  by_cases c : (xs.length : Int) ≤ a
  · refine Ev.neg (by omega) ?_
    have h := sz_gen sBlock z96 xs (fun k a i => laws_szBlockS.l0 k xs a i) (fun i a r hi h0 h1 h => by
      refine Ev.succ ?_
      simp only [laws_szBlockS.l0]
      refine Ev.pos (by omega) (Ev.pos (by omega) ?_)
      have hm : lInstrS (rd_T96 xs i).f0 := hx _ (by simp only [rd_T96, Int.toNat_natCast]; rw [getD_eq hi]; exact List.getElem_mem hi)
      have e : rd_T96 xs i = xs.getD i z96 := by simp [rd_T96]
      rw [e] at hm ⊢
      have h2 := szInstrS_f _ a h0 h1 hm
      unfold laws_szBlock.f
      split at h
      · rename_i hc
        rw [if_pos (show (sInstrS (xs.getD i z96).f0 : Int) ≤ a from hc)] at h2
        refine Ev.bind (Ev.bind h2 (Ev.neg (by unfold sBlock at hc; omega) (Ev.now _))) ?_
        rw [wrap64_nat (by omega)]
        exact Ev.neg (by unfold sBlock at hc; omega) h
      · rename_i hc
        rw [if_neg (show ¬ (sInstrS (xs.getD i z96).f0 : Int) ≤ a from hc)] at h2
        refine Ev.bind (Ev.bind h2 (Ev.pos (by omega) (Ev.now _))) ?_
        exact Ev.pos (by omega) (Ev.some h.symm)) (fun a => by
      refine Ev.succ ?_
      simp only [laws_szBlockS.l0]
      exact Ev.neg (by omega) (Ev.now _)) (a - xs.length) (by omega) (by omega)
    have e : (if ((xs.map sBlock).sum : Int) ≤ a - xs.length then a - xs.length - (xs.map sBlock).sum else -1) = (if (sBlockS xs : Int) ≤ a then a - sBlockS xs else -1) := by unfold sBlockS; split <;> split <;> omega
    rw [← e]
    exact h
  · rw [if_neg (by unfold sBlockS; omega)]
    exact Ev.pos (by omega) (Ev.now _)
theorem szFunc_f (n : ByteArray) (b : Int) (ps : List Int) (c : Int) (bs : List S96) (hn : n.size ≤ 9223372036854775807) (hp : ps.length ≤ 9223372036854775807) (hb : lBlockS bs) :
    ∃ r, Ev (fun k => laws_szFunc.f k n b ps c bs 1048576) r ∧ (r < 0 ∨ n.size + ps.length + sBlockS bs ≤ 1048576) := by
  unfold laws_szFunc.f
  rw [wrap64_id (by omega) (by omega)]
  by_cases c1 : (n.size : Int) ≤ 1048576
  · by_cases c2 : (ps.length : Int) ≤ 1048576 - n.size
    · by_cases c3 : (sBlockS bs : Int) ≤ 1048576 - n.size - ps.length
      · refine ⟨1048576 - n.size - ps.length - sBlockS bs, Ev.neg (by omega) ?_, .inr (by omega)⟩
        refine Ev.eq_bind (szInt64S_f _ _ (by omega) (by omega) hp) ?_
        rw [if_pos c2]
        refine Ev.neg (by omega) ?_
        have h := szBlockS_f bs (1048576 - n.size - ps.length) (by omega) (by omega) hb
        rw [if_pos c3] at h
        exact Ev.bind h (Ev.neg (by omega) (Ev.now _))
      · refine ⟨-1, Ev.neg (by omega) ?_, .inl (by omega)⟩
        refine Ev.eq_bind (szInt64S_f _ _ (by omega) (by omega) hp) ?_
        rw [if_pos c2]
        refine Ev.neg (by omega) ?_
        have h := szBlockS_f bs (1048576 - n.size - ps.length) (by omega) (by omega) hb
        rw [if_neg c3] at h
        exact Ev.bind h (Ev.pos (by omega) (Ev.now _))
    · refine ⟨-1, Ev.neg (by omega) ?_, .inl (by omega)⟩
      refine Ev.eq_bind (szInt64S_f _ _ (by omega) (by omega) hp) ?_
      rw [if_neg c2]
      exact Ev.pos (by omega) (Ev.now _)
  · exact ⟨-1, Ev.pos (by omega) (Ev.now _), .inl (by omega)⟩

theorem toInt64S_f (l : List Int) (hl : l.length ≤ 1048576) : Ev (fun k => laws_toInt64S.f k l) l := by
  unfold laws_toInt64S.f
  refine Ev.pos (by omega) (Ev.pos (by omega) ?_)
  have h := to_gen (fun x : Int => x) 0 0 l (fun k out i => laws_toInt64S.l0 k l out i) (fun i out r hi ho h => by
    refine Ev.succ ?_
    simp only [laws_toInt64S.l0]
    refine Ev.pos (by omega) (Ev.pos (by omega) (Ev.pos (by omega) ?_))
    rw [wrap64_nat (by omega)]
    simpa [rd] using h) (fun out _ => by
    refine Ev.succ ?_
    simp only [laws_toInt64S.l0]
    exact Ev.neg (by omega) (Ev.now _))
  simpa using h
theorem toUint64S_f (l : List Int) (hl : l.length ≤ 1048576) : Ev (fun k => laws_toUint64S.f k l) l := by
  unfold laws_toUint64S.f
  refine Ev.pos (by omega) (Ev.pos (by omega) ?_)
  have h := to_gen (fun x : Int => x) 0 0 l (fun k out i => laws_toUint64S.l0 k l out i) (fun i out r hi ho h => by
    refine Ev.succ ?_
    simp only [laws_toUint64S.l0]
    refine Ev.pos (by omega) (Ev.pos (by omega) (Ev.pos (by omega) ?_))
    rw [wrap64_nat (by omega)]
    simpa [rd] using h) (fun out _ => by
    refine Ev.succ ?_
    simp only [laws_toUint64S.l0]
    exact Ev.neg (by omega) (Ev.now _))
  simpa using h
theorem toOperandS_f (l : List S158) (hl : l.length ≤ 1048576) : Ev (fun k => laws_toOperandS.f k l) (l.map iOperand) := by
  unfold laws_toOperandS.f
  refine Ev.pos (by omega) (Ev.pos (by omega) ?_)
  have h := to_gen iOperand z75 z158 l (fun k out i => laws_toOperandS.l0 k l out i) (fun i out r hi ho h => by
    refine Ev.succ ?_
    simp only [laws_toOperandS.l0]
    refine Ev.pos (by omega) (Ev.pos (by omega) (Ev.eq_bind (by unfold laws_toOperand.f; rfl) (Ev.pos (by omega) ?_)))
    rw [wrap64_nat (by omega)]
    simpa [rd_T158, iOperand] using h) (fun out _ => by
    refine Ev.succ ?_
    simp only [laws_toOperandS.l0]
    exact Ev.neg (by omega) (Ev.now _))
  simpa using h
theorem toInstrS_f (l : List S140) (hl : sInstrS l ≤ 1048576) : Ev (fun k => laws_toInstrS.f k l) (l.map iInstr) := by
  unfold laws_toInstrS.f
  have hl1 : l.length ≤ 1048576 := by unfold sInstrS at hl; omega
  refine Ev.pos (by omega) (Ev.pos (by omega) ?_)
  have h := to_gen iInstr z66 z140 l (fun k out i => laws_toInstrS.l0 k l out i) (fun i out r hi ho h => by
    refine Ev.succ ?_
    simp only [laws_toInstrS.l0]
    have hs := sum_getD_le sInstr z140 l i hi
    have e : rd_T140 l i = l.getD i z140 := by simp [rd_T140]
    rw [e]
    have hz : sInstr (l.getD i z140) = (l.getD i z140).f6.length + (l.getD i z140).f7.length + (l.getD i z140).f8.length := rfl
    unfold sInstrS at hl
    refine Ev.pos (by omega) (Ev.pos (by omega) (Ev.bind (a := ((l.getD i z140).f0, (l.getD i z140).f1, (l.getD i z140).f2, (l.getD i z140).f3, (l.getD i z140).f4, (l.getD i z140).f5, (l.getD i z140).f6.map iOperand, (l.getD i z140).f7, (l.getD i z140).f8)) ?_ (Ev.pos (by omega) ?_)))
    · unfold laws_toInstr.f
      exact Ev.bind (toOperandS_f _ (by omega)) (Ev.bind (toInt64S_f _ (by omega)) (Ev.bind (toUint64S_f _ (by omega)) (Ev.now _)))
    · rw [wrap64_nat (by omega)]
      exact h) (fun out _ => by
    refine Ev.succ ?_
    simp only [laws_toInstrS.l0]
    exact Ev.neg (by omega) (Ev.now _))
  simpa using h
theorem toBlockS_f (l : List S96) (hl : sBlockS l ≤ 1048576) : Ev (fun k => laws_toBlockS.f k l) (l.map iBlock) := by
  unfold laws_toBlockS.f
  have hl1 : l.length ≤ 1048576 := by unfold sBlockS at hl; omega
  refine Ev.pos (by omega) (Ev.pos (by omega) ?_)
  have h := to_gen iBlock z62 z96 l (fun k out i => laws_toBlockS.l0 k l out i) (fun i out r hi ho h => by
    refine Ev.succ ?_
    simp only [laws_toBlockS.l0]
    have hs := sum_getD_le sBlock z96 l i hi
    have e : rd_T96 l i = l.getD i z96 := by simp [rd_T96]
    rw [e]
    have hz : sBlock (l.getD i z96) = sInstrS (l.getD i z96).f0 := rfl
    unfold sBlockS at hl
    refine Ev.pos (by omega) (Ev.pos (by omega) (Ev.bind (a := (l.getD i z96).f0.map iInstr) ?_ (Ev.pos (by omega) ?_)))
    · unfold laws_toBlock.f
      exact Ev.bind (toInstrS_f _ (by omega)) (Ev.now _)
    · rw [wrap64_nat (by omega)]
      exact h) (fun out _ => by
    refine Ev.succ ?_
    simp only [laws_toBlockS.l0]
    exact Ev.neg (by omega) (Ev.now _))
  simpa using h
theorem toFunc_f (n : ByteArray) (b : Int) (ps : List Int) (c : Int) (bs : List S96) (h : n.size + ps.length + sBlockS bs ≤ 1048576) : Ev (fun k => laws_toFunc.f k n b ps c bs) (n, b, ps, c, bs.map iBlock) := by
  unfold laws_toFunc.f
  exact Ev.bind (toInt64S_f _ (by omega)) (Ev.bind (toBlockS_f _ (by omega)) (Ev.now _))

theorem eqInt64S_f (l : List Int) (hl : l.length ≤ 9223372036854775806) : Ev (fun k => laws_eqInt64S.f k l l) true := by
  unfold laws_eqInt64S.f
  refine Ev.pos rfl (all_gen l.length (fun k i => laws_eqInt64S.l0 k l l i) (fun i hi h => ?_) ?_)
  · refine Ev.succ ?_
    simp only [laws_eqInt64S.l0]
    rw [wrap64_nat (by omega)]
    exact Ev.pos (by omega) (Ev.pos (by omega) (Ev.pos (by omega) (Ev.pos trivial h)))
  · refine Ev.succ ?_
    simp only [laws_eqInt64S.l0]
    exact Ev.neg (by omega) (Ev.now _)
theorem eqUint64S_f (l : List Int) (hl : l.length ≤ 9223372036854775806) : Ev (fun k => laws_eqUint64S.f k l l) true := by
  unfold laws_eqUint64S.f
  refine Ev.pos rfl (all_gen l.length (fun k i => laws_eqUint64S.l0 k l l i) (fun i hi h => ?_) ?_)
  · refine Ev.succ ?_
    simp only [laws_eqUint64S.l0]
    rw [wrap64_nat (by omega)]
    exact Ev.pos (by omega) (Ev.pos (by omega) (Ev.pos (by omega) (Ev.pos trivial h)))
  · refine Ev.succ ?_
    simp only [laws_eqUint64S.l0]
    exact Ev.neg (by omega) (Ev.now _)
theorem eqOperandS_f (l : List S75) (hl : l.length ≤ 9223372036854775806) : Ev (fun k => laws_eqOperandS.f k l l) true := by
  unfold laws_eqOperandS.f
  refine Ev.pos rfl (all_gen l.length (fun k i => laws_eqOperandS.l0 k l l i) (fun i hi h => ?_) ?_)
  · refine Ev.succ ?_
    simp only [laws_eqOperandS.l0]
    rw [wrap64_nat (by omega)]
    exact Ev.pos (by omega) (Ev.pos (by omega) (Ev.pos (by omega) (Ev.eq_bind (a := true) (by simp [laws_eqOperand.f]) (Ev.pos rfl h))))
  · refine Ev.succ ?_
    simp only [laws_eqOperandS.l0]
    exact Ev.neg (by omega) (Ev.now _)
def bInstr (x : S66) : Prop := x.f6.length ≤ 1048576 ∧ x.f7.length ≤ 1048576 ∧ x.f8.length ≤ 1048576
def bBlock (x : S62) : Prop := x.f0.length ≤ 1048576 ∧ ∀ y ∈ x.f0, bInstr y
theorem eqInstr_f (x : S66) (h : bInstr x) : Ev (fun k => laws_eqInstr.f k x.f0 x.f1 x.f2 x.f3 x.f4 x.f5 x.f6 x.f7 x.f8 x.f0 x.f1 x.f2 x.f3 x.f4 x.f5 x.f6 x.f7 x.f8) true := by
  obtain ⟨h6, h7, h8⟩ := h
  unfold laws_eqInstr.f
  exact Ev.pos rfl (Ev.pos rfl (Ev.pos rfl (Ev.pos rfl (Ev.pos rfl (Ev.pos rfl (Ev.bind (eqOperandS_f _ (by omega)) (Ev.pos rfl (Ev.bind (eqInt64S_f _ (by omega)) (Ev.pos rfl (Ev.bind (eqUint64S_f _ (by omega)) (Ev.pos rfl (Ev.now _))))))))))))
theorem eqInstrS_f (l : List S66) (hl : l.length ≤ 1048576) (hb : ∀ y ∈ l, bInstr y) : Ev (fun k => laws_eqInstrS.f k l l) true := by
  unfold laws_eqInstrS.f
  refine Ev.pos rfl (all_gen l.length (fun k i => laws_eqInstrS.l0 k l l i) (fun i hi h => ?_) ?_)
  · refine Ev.succ ?_
    simp only [laws_eqInstrS.l0]
    rw [wrap64_nat (by omega)]
    have hm : bInstr (rd_T66 l i) := hb _ (by simp only [rd_T66, Int.toNat_natCast]; rw [getD_eq hi]; exact List.getElem_mem hi)
    exact Ev.pos (by omega) (Ev.pos (by omega) (Ev.pos (by omega) (Ev.bind (eqInstr_f _ hm) (Ev.pos rfl h))))
  · refine Ev.succ ?_
    simp only [laws_eqInstrS.l0]
    exact Ev.neg (by omega) (Ev.now _)
theorem eqBlockS_f (l : List S62) (hl : l.length ≤ 1048576) (hb : ∀ y ∈ l, bBlock y) : Ev (fun k => laws_eqBlockS.f k l l) true := by
  unfold laws_eqBlockS.f
  refine Ev.pos rfl (all_gen l.length (fun k i => laws_eqBlockS.l0 k l l i) (fun i hi h => ?_) ?_)
  · refine Ev.succ ?_
    simp only [laws_eqBlockS.l0]
    rw [wrap64_nat (by omega)]
    have hm : bBlock (rd_T62 l i) := hb _ (by simp only [rd_T62, Int.toNat_natCast]; rw [getD_eq hi]; exact List.getElem_mem hi)
    refine Ev.pos (by omega) (Ev.pos (by omega) (Ev.pos (by omega) (Ev.bind (a := true) ?_ (Ev.pos rfl h))))
    unfold laws_eqBlock.f
    exact Ev.bind (eqInstrS_f _ hm.1 hm.2) (Ev.pos rfl (Ev.now _))
  · refine Ev.succ ?_
    simp only [laws_eqBlockS.l0]
    exact Ev.neg (by omega) (Ev.now _)
theorem eqFunc_f (n : ByteArray) (b : Int) (ps : List Int) (c : Int) (bs : List S62) (hp : ps.length ≤ 1048576) (hl : bs.length ≤ 1048576) (hb : ∀ y ∈ bs, bBlock y) : Ev (fun k => laws_eqFunc.f k n b ps c bs n b ps c bs) true := by
  unfold laws_eqFunc.f
  exact Ev.pos rfl (Ev.pos rfl (Ev.bind (eqInt64S_f _ (by omega)) (Ev.pos rfl (Ev.pos rfl (Ev.bind (eqBlockS_f _ hl hb) (Ev.pos rfl (Ev.now _)))))))
theorem bBlock_of (bs : List S96) (h : sBlockS bs ≤ 1048576) : ∀ y ∈ bs.map iBlock, bBlock y := by
  intro y hy
  obtain ⟨x, hx, rfl⟩ := List.mem_map.1 hy
  obtain ⟨i, hi, rfl⟩ := List.getElem_of_mem hx
  have h1 := sum_getD_le sBlock z96 bs i hi
  rw [getD_eq hi] at h1
  have hz : sBlock bs[i] = bs[i].f0.length + (bs[i].f0.map sInstr).sum := rfl
  unfold sBlockS at h
  refine ⟨by show (bs[i].f0.map iInstr).length ≤ _; rw [List.length_map]; omega, fun z hz2 => ?_⟩
  obtain ⟨u, hu, rfl⟩ := List.mem_map.1 (show z ∈ bs[i].f0.map iInstr from hz2)
  obtain ⟨j, hj, rfl⟩ := List.getElem_of_mem hu
  have h2 := sum_getD_le sInstr z140 bs[i].f0 j hj
  rw [getD_eq hj] at h2
  have hz3 : sInstr bs[i].f0[j] = bs[i].f0[j].f6.length + bs[i].f0[j].f7.length + bs[i].f0[j].f8.length := rfl
  refine ⟨?_, ?_, ?_⟩
  · show (bs[i].f0[j].f6.map iOperand).length ≤ _; rw [List.length_map]; omega
  · show bs[i].f0[j].f7.length ≤ _; omega
  · show bs[i].f0[j].f8.length ≤ _; omega
end Go.Proofs.Ytoedcnhgobbnfaa.All

/- What reads as data has machine lengths. -/
namespace Go.Proofs.Ytoedcnhgobbnfaa.All
open Go.RowKit Go.Proofs.YtoedcnhgobbnfaaW.PrintWords Go.Proofs.YtoedcnhgobbnfaaW.PrintLast Go.Proofs.YtoedcnhgobbnfaaW.PrintMore
set_option linter.unusedVariables false
set_option linter.unusedSimpArgs false
theorem lBlockS_ok {l : List S96} (h : l.length ≤ 9223372036854775807 ∧ ∀ y ∈ l, ok96 y) : lBlockS l := by
  refine ⟨h.1, fun b hb => ?_⟩
  have h1 := h.2 b hb
  unfold ok96 at h1
  refine ⟨h1.1, fun x hx => ?_⟩
  have h2 := h1.2 x hx
  unfold ok140 at h2
  obtain ⟨_, _, _, _, _, _, h6, h7, h8⟩ := h2
  exact ⟨h6.1, h7.1, h8.1⟩
end Go.Proofs.Ytoedcnhgobbnfaa.All

/- Plain laws: a result's own cells marked, and found marked. -/
namespace Go.Proofs.Ytoedcnhgobbnfaa.All
open Go.RowKit Go.Proofs.YtoedcnhgobbnfaaW.PrintWords Go.Proofs.YtoedcnhgobbnfaaW.PrintLast Go.Proofs.YtoedcnhgobbnfaaW.PrintMore
set_option linter.unusedVariables false
set_option linter.unusedSimpArgs false
end Go.Proofs.Ytoedcnhgobbnfaa.All

/- How many cells the laws mark. -/
namespace Go.Proofs.Ytoedcnhgobbnfaa.All
open Go.RowKit Go.Proofs.YtoedcnhgobbnfaaW.PrintWords Go.Proofs.YtoedcnhgobbnfaaW.PrintLast Go.Proofs.YtoedcnhgobbnfaaW.PrintMore
set_option linter.unusedVariables false
set_option linter.unusedSimpArgs false
def nB (bs : List S62) : Nat := (bs.map fun b => b.f0.length).sum
theorem cnt_of_s (bs : List S96) : nB (bs.map iBlock) ≤ sBlockS bs ∧ cntL_Block (bs.map iBlock) ≤ 10 * sBlockS bs := by
  have hI : ∀ xs : List S140, cntL_Instr (xs.map iInstr) ≤ 10 * sInstrS xs := by
    intro xs
    unfold cntL_Instr sInstrS
    induction xs with
    | nil => simp
    | cons x xs ih =>
      have h1 : cnt_Instr (iInstr x) = 6 + 4 * x.f6.length + x.f7.length + x.f8.length := by
        unfold cnt_Instr iInstr cntL_int64 cntL_uint64 cntL_Operand
        have h2 : ∀ l : List S158, ((l.map iOperand).map cnt_Operand).sum = 4 * l.length := by
          intro l
          induction l with
          | nil => rfl
          | cons a l ih => simp only [List.map_cons, List.sum_cons, ih, List.length_cons]; have : cnt_Operand (iOperand a) = 4 := rfl; omega
        simp only [h2]
      have h3 : sInstr x = x.f6.length + x.f7.length + x.f8.length := rfl
      simp only [List.map_cons, List.sum_cons, List.length_cons] at ih ⊢
      omega
  unfold nB cntL_Block sBlockS
  induction bs with
  | nil => simp
  | cons x xs ih =>
    have h1 := hI x.f0
    have h2 : cnt_Block (iBlock x) = cntL_Instr (x.f0.map iInstr) := rfl
    have h3 : sBlock x = sInstrS x.f0 := rfl
    have h4 : (iBlock x).f0.length = x.f0.length := by simp [iBlock]
    have h5 : x.f0.length ≤ sInstrS x.f0 := by unfold sInstrS; omega
    simp only [List.map_cons, List.sum_cons, List.length_cons] at ih ⊢
    omega
end Go.Proofs.Ytoedcnhgobbnfaa.All

namespace Go.Proofs.Ytoedcnhgobbnfaa.All
open Go.RowKit Go.Proofs.YtoedcnhgobbnfaaW.PrintWords Go.Proofs.YtoedcnhgobbnfaaW.PrintLast Go.Proofs.YtoedcnhgobbnfaaW.PrintMore
attribute [local go_sem] max2_int min2_int max_two min_two max_three min_three max_four min_four   -- for this text's walks alone
set_option linter.unusedVariables false
set_option linter.unusedSimpArgs false

set_option linter.unusedVariables false
set_option linter.unusedSimpArgs false

set_option linter.unusedVariables false
set_option linter.unusedSimpArgs false

set_option linter.unusedVariables false
set_option linter.unusedSimpArgs false

set_option linter.unusedVariables false
set_option linter.unusedSimpArgs false

set_option linter.unusedVariables false
set_option linter.unusedSimpArgs false

set_option linter.unusedVariables false
set_option linter.unusedSimpArgs false

end Go.Proofs.Ytoedcnhgobbnfaa.All

/- Next and previous blocks: the reference's and the program's lists are one. -/
namespace Go.Proofs.Ytoedcnhgobbnfaa.All
open Go.RowKit Go.Proofs.YtoedcnhgobbnfaaW.PrintWords Go.Proofs.YtoedcnhgobbnfaaW.PrintLast Go.Proofs.YtoedcnhgobbnfaaW.PrintMore
set_option linter.unusedVariables false
set_option linter.unusedSimpArgs false
def gOk (bs : List S62) : Prop := bs.length ≤ 1048576 ∧ ∀ b ∈ bs, bBlock b
def nextOf (bs : List S62) (a : Int) : List Int :=
  if a < 0 then [] else if (bs.length : Int) ≤ a then [] else if (rd_T62 bs a).f0.length = 0 then [] else nextL bs.length (rd_T66 (rd_T62 bs a).f0 (((rd_T62 bs a).f0.length : Int) - 1)).f7
theorem getD_mem {α : Type} {xs : List α} {i : Nat} (h : i < xs.length) (z : α) : xs.getD i z ∈ xs := by rw [getD_eq h]; exact List.getElem_mem h
theorem gOk_at {bs : List S62} (h : gOk bs) {a : Int} (h0 : 0 ≤ a) (h1 : a < (bs.length : Int)) : bBlock (rd_T62 bs a) := h.2 _ (getD_mem (by omega) _)
theorem gOk_last {bs : List S62} (h : gOk bs) {a : Int} (h0 : 0 ≤ a) (h1 : a < (bs.length : Int)) (h2 : (rd_T62 bs a).f0.length ≠ 0) : bInstr (rd_T66 (rd_T62 bs a).f0 (((rd_T62 bs a).f0.length : Int) - 1)) := (gOk_at h h0 h1).2 _ (getD_mem (by omega) _)
theorem nextOf_len {bs : List S62} (h : gOk bs) (a : Int) : (nextOf bs a).length ≤ 1048576 := by
  unfold nextOf
  split
  · simp
  · split
    · simp
    · split
      · simp
      · have h1 := gOk_last h (a := a) (by omega) (by omega) (by assumption)
        have h2 := nextL_len bs.length (rd_T66 (rd_T62 bs a).f0 (((rd_T62 bs a).f0.length : Int) - 1)).f7
        have := h1.2.1
        omega
theorem nextOf_range (bs : List S62) (a : Int) : ∀ x ∈ nextOf bs a, 0 ≤ x ∧ x < (bs.length : Int) := by
  unfold nextOf
  split
  · simp
  · split
    · simp
    · split
      · simp
      · exact nextL_range _ _
theorem nextOf_nodup (bs : List S62) (a : Int) : (nextOf bs a).Nodup := by
  unfold nextOf
  split
  · simp
  · split
    · simp
    · split
      · simp
      · exact nextL_nodup _ _
theorem implNext_f (n : ByteArray) (y : Int) (ps : List Int) (c : Int) (bs : List S62) (a : Int) (h : gOk bs) : impl_NextBlocks.f n y ps c bs a = some (nextOf bs a) := by
  unfold impl_NextBlocks.f nextOf
  by_cases h1 : a < 0
  · rw [if_pos h1, if_pos h1]
  rw [if_neg h1, if_neg h1]
  by_cases h2 : (bs.length : Int) ≤ a
  · rw [if_pos h2, if_pos h2]
  rw [if_neg h2, if_neg h2]
  by_cases h3 : (rd_T62 bs a).f0.length = 0
  · rw [if_pos h3, if_pos h3]
  rw [if_neg h3, if_neg h3]
  have h4 := gOk_last h (a := a) (by omega) (by omega) h3
  have h5 := gOk_at h (a := a) (by omega) (by omega)
  have := h.1
  have := h5.1
  have := h4.2.1
  rw [if_pos ⟨by omega, by omega, by omega⟩]
theorem l4Has_f (l : List Int) (v : Int) (hl : l.length ≤ 9223372036854775806) : Ev (fun k => spec_l4Has.f k l v) (l.contains v) := by
  unfold spec_l4Has.f
  have key : ∀ d i : Nat, i + d = l.length → Ev (fun k => spec_l4Has.l0 k l v (i : Int)) ((l.drop i).contains v) := by
    intro d
    induction d with
    | zero =>
      intro i hi
      obtain rfl : i = l.length := by omega
      refine Ev.succ ?_
      simp only [spec_l4Has.l0]
      rw [List.drop_length]
      exact Ev.neg (by omega) (Ev.some (by simp))
    | succ d ih =>
      intro i hi
      have hlt : i < l.length := by omega
      refine Ev.succ ?_
      simp only [spec_l4Has.l0]
      have e : rd l i = l[i] := by simp [rd, List.getElem?_eq_getElem hlt]
      rw [e, wrap64_nat (by omega), List.drop_eq_getElem_cons hlt, List.contains_cons]
      refine Ev.pos (by omega) (Ev.pos (by omega) ?_)
      by_cases c : l[i] = v
      · exact Ev.pos c (Ev.some (by simp [c]))
      · refine Ev.neg c ?_
        rw [beq_eq_false_iff_ne.2 (Ne.symm c), Bool.false_or]
        exact ih (i + 1) (by omega)
  exact key l.length 0 (by omega)
theorem specNext_f (n : ByteArray) (y : Int) (ps : List Int) (c : Int) (bs : List S62) (a : Int) (h : gOk bs) : Ev (fun k => spec_NextBlocks.f k n y ps c bs a) (nextOf bs a) := by
  unfold spec_NextBlocks.f nextOf
  refine Ev.some_bind ?_
  have done : Ev (fun k => spec_NextBlocks.j0 k a [] true n y ps c bs) [] := by
    refine Ev.succ ?_
    simp only [spec_NextBlocks.j0]
    exact Ev.pos trivial (Ev.now _)
  by_cases h1 : a < 0
  · rw [if_pos h1]
    exact Ev.pos h1 done
  rw [if_neg h1]
  refine Ev.neg h1 ?_
  by_cases h2 : (bs.length : Int) ≤ a
  · rw [if_pos h2]
    exact Ev.pos h2 done
  rw [if_neg h2]
  refine Ev.neg (by omega) (Ev.pos (by omega) (Ev.pos (by omega) ?_))
  by_cases h3 : (rd_T62 bs a).f0.length = 0
  · rw [if_pos h3]
    have e : (((rd_T62 bs a).f0.length : Int) == 0) = true := by rw [h3]; rfl
    rw [e]
    exact done
  rw [if_neg h3]
  have e : (((rd_T62 bs a).f0.length : Int) == 0) = false := by rw [beq_eq_false_iff_ne]; omega
  rw [e]
  have h4 := gOk_last h (a := a) (by omega) (by omega) h3
  have h5 := gOk_at h (a := a) (by omega) (by omega)
  have h6 := h5.1
  have h7 := h4.2.1
  have hb := h.1
  refine Ev.succ ?_
  simp only [spec_NextBlocks.j0]
  rw [wrap64_id (x := ((rd_T62 bs a).f0.length : Int) - 1) (by omega) (by omega)]
  refine Ev.neg (by simp) (Ev.pos (by omega) (Ev.pos (by omega) (Ev.pos (by omega) (Ev.pos (by omega) ?_))))
  generalize rd_T66 (rd_T62 bs a).f0 (((rd_T62 bs a).f0.length : Int) - 1) = x at h4 h7
  have key : ∀ d i : Nat, i + d = x.f7.length → Ev (fun k => spec_NextBlocks.l0 k (nextL bs.length (x.f7.take i)) (i : Int) n y ps c bs x.f0 x.f1 x.f2 x.f3 x.f4 x.f5 x.f6 x.f7 x.f8) (nextL bs.length x.f7) := by
    intro d
    induction d with
    | zero =>
      intro i hi
      obtain rfl : i = x.f7.length := by omega
      refine Ev.succ ?_
      simp only [spec_NextBlocks.l0]
      rw [List.take_length]
      exact Ev.neg (by omega) (Ev.now _)
    | succ d ih =>
      intro i hi
      have hlt : i < x.f7.length := by omega
      have h8 := ih (i + 1) (by omega)
      rw [nextL_take bs.length x.f7 i hlt] at h8
      refine Ev.succ ?_
      simp only [spec_NextBlocks.l0]
      have e1 : rd x.f7 i = x.f7[i] := by simp [rd, List.getElem?_eq_getElem hlt]
      have hlen := nextL_len bs.length (x.f7.take i)
      rw [List.length_take] at hlen
      rw [e1, wrap64_nat (by omega)]
      refine Ev.pos (by omega) (Ev.pos (by omega) ?_)
      unfold stepN at h8
      by_cases c0 : 0 ≤ x.f7[i]
      · by_cases c1 : x.f7[i] < (bs.length : Int)
        · refine Ev.pos c0 (Ev.pos c1 (Ev.bind (l4Has_f _ _ (by omega)) ?_))
          by_cases c2 : (nextL bs.length (x.f7.take i)).contains x.f7[i] = true
          · rw [if_neg (by rw [c2]; simp)] at h8
            exact Ev.pos c2 h8
          · rw [if_pos ⟨c0, c1, by simpa using c2⟩] at h8
            exact Ev.neg c2 (Ev.pos (by omega) h8)
        · rw [if_neg (fun h => c1 h.2.1)] at h8
          exact Ev.pos c0 (Ev.neg c1 h8)
      · rw [if_neg (fun h => c0 h.1)] at h8
        exact Ev.neg c0 h8
  exact key x.f7.length 0 (by omega)
/-- The blocks that go to a block, rising. -/
def prevOf (bs : List S62) (a : Int) : List Int := ((List.range bs.length).filter fun (b : Nat) => (nextOf bs (b : Int)).contains a).map fun (b : Nat) => (b : Int)
def prevTo (bs : List S62) (a : Int) (i : Nat) : List Int := ((List.range i).filter fun (b : Nat) => (nextOf bs (b : Int)).contains a).map fun (b : Nat) => (b : Int)
theorem prevTo_succ (bs : List S62) (a : Int) (i : Nat) : prevTo bs a (i + 1) = prevTo bs a i ++ (if (nextOf bs (i : Int)).contains a = true then [(i : Int)] else []) := by
  unfold prevTo
  rw [List.range_succ, List.filter_append, List.map_append]
  congr 1
  by_cases h : (nextOf bs (i : Int)).contains a = true
  · rw [if_pos h]; simp only [List.filter_cons, h, if_true, List.filter_nil, List.map_cons, List.map_nil]
  · rw [if_neg h]; simp only [List.filter_cons, h, List.filter_nil]; rfl
theorem prevTo_len (bs : List S62) (a : Int) (i : Nat) : (prevTo bs a i).length ≤ i := by
  unfold prevTo
  rw [List.length_map]
  have := List.length_filter_le (fun b : Nat => (nextOf bs (b : Int)).contains a) (List.range i)
  rw [List.length_range] at this
  exact this
theorem implPrev_f (n : ByteArray) (y : Int) (ps : List Int) (c : Int) (bs : List S62) (a : Int) (h : gOk bs) : Ev (fun k => impl_PrevBlocks.f k n y ps c bs a) (prevOf bs a) := by
  unfold impl_PrevBlocks.f
  have hb := h.1
  have inner : ∀ (i : Nat) (l : List Int), l.Nodup → l.length ≤ 1048576 → ∀ (r : List Int) (d j : Nat) (acc : List Int), j + d = l.length → acc.length + d ≤ 4194304 → Ev (fun k => impl_PrevBlocks.l0 k a (acc ++ (if (l.drop j).contains a = true then [(i : Int)] else [])) (bs.length : Int) (wrap64 ((i : Int) + 1)) n y ps c bs) r → Ev (fun k => impl_PrevBlocks.l1 k a acc (i : Int) (bs.length : Int) (i : Int) l (l.length : Int) (j : Int) n y ps c bs) r := by
    intro i l hnd hll r d
    induction d with
    | zero =>
      intro j acc hj ha h8
      obtain rfl : j = l.length := by omega
      refine Ev.succ ?_
      simp only [impl_PrevBlocks.l1]
      rw [List.drop_length] at h8
      exact Ev.neg (by omega) (by simpa using h8)
    | succ d ih =>
      intro j acc hj ha h8
      have hlt : j < l.length := by omega
      refine Ev.succ ?_
      simp only [impl_PrevBlocks.l1]
      have e1 : rd l j = l[j] := by simp [rd, List.getElem?_eq_getElem hlt]
      rw [e1, wrap64_nat (show j < 9223372036854775807 by omega)]
      rw [List.drop_eq_getElem_cons hlt, List.contains_cons] at h8
      refine Ev.pos (by omega) (Ev.pos (by omega) (Ev.pos (by omega) ?_))
      by_cases e : l[j] = a
      · refine Ev.pos e (Ev.pos (by omega) (ih (j + 1) _ (by omega) (by simp; omega) ?_))
        have hno : (l.drop (j + 1)).contains a = false := by
          have h9 : (l.drop j).Nodup := hnd.sublist (List.drop_sublist _ _)
          rw [List.drop_eq_getElem_cons hlt, List.nodup_cons, e] at h9
          simpa using h9.1
        rw [hno]
        simpa [e] using h8
      · refine Ev.neg e (ih (j + 1) _ (by omega) (by omega) ?_)
        rw [beq_eq_false_iff_ne.2 (Ne.symm e), Bool.false_or] at h8
        exact h8
  have key : ∀ d i : Nat, i + d = bs.length → Ev (fun k => impl_PrevBlocks.l0 k a (prevTo bs a i) (bs.length : Int) (i : Int) n y ps c bs) (prevOf bs a) := by
    intro d
    induction d with
    | zero =>
      intro i hi
      obtain rfl : i = bs.length := by omega
      refine Ev.succ ?_
      simp only [impl_PrevBlocks.l0]
      exact Ev.neg (by omega) (Ev.now _)
    | succ d ih =>
      intro i hi
      have h8 := ih (i + 1) (by omega)
      rw [prevTo_succ] at h8
      have hl := prevTo_len bs a i
      have hn := nextOf_len h (i : Int)
      refine Ev.succ ?_
      simp only [impl_PrevBlocks.l0]
      refine Ev.pos (by omega) (Ev.eq_bind (implNext_f n y ps c bs i h) (inner i _ (nextOf_nodup bs i) hn _ (nextOf bs i).length 0 _ (by omega) (by omega) ?_))
      rw [wrap64_nat (by omega), List.drop_zero]
      exact h8
  exact key bs.length 0 (by omega)
theorem prevOf_len (bs : List S62) (a : Int) : (prevOf bs a).length ≤ bs.length := prevTo_len bs a bs.length
end Go.Proofs.Ytoedcnhgobbnfaa.All

/- Which blocks can be come to: the reference's walk and the program's are one. -/
namespace Go.Proofs.Ytoedcnhgobbnfaa.All
open Go.RowKit Go.Proofs.YtoedcnhgobbnfaaW.PrintWords Go.Proofs.YtoedcnhgobbnfaaW.PrintLast Go.Proofs.YtoedcnhgobbnfaaW.PrintMore
set_option linter.unusedVariables false
set_option linter.unusedSimpArgs false
def rsOf (bs : List S62) : List (List Int) := (List.range bs.length).map fun (b : Nat) => nextOf bs (b : Int)
theorem rsOf_len (bs : List S62) : (rsOf bs).length = bs.length := by simp [rsOf]
theorem rsOf_getD (bs : List S62) (i : Nat) (h : i < bs.length) : (rsOf bs).getD i [] = nextOf bs (i : Int) := by
  unfold rsOf
  rw [List.getD_eq_getElem?_getD, List.getElem?_map, List.getElem?_eq_getElem (by simpa using h)]
  simp
theorem rsOf_ok {bs : List S62} (h : gOk bs) : okRows bs.length (rsOf bs) = true := by
  unfold okRows rsOf
  rw [List.all_eq_true]
  intro r hr
  obtain ⟨b, _, rfl⟩ := List.mem_map.1 hr
  rw [Bool.and_eq_true, decide_eq_true_eq, List.all_eq_true]
  have := nextOf_len h (b : Int)
  exact ⟨by omega, fun t ht => by simpa using nextOf_range bs (b : Int) t ht⟩
theorem l4Build_f (n : ByteArray) (y : Int) (ps : List Int) (c : Int) (bs : List S62) (h : gOk bs) : Ev (fun k => spec_l4Build.f k n y ps c bs) (rsOf bs, prevUp (rsOf bs) bs.length) := by
  unfold spec_l4Build.f
  have hb := h.1
  refine Ev.pos (by omega) ?_
  have key : ∀ m : Nat, Ev (fun k => rowsOf (fun b => spec_NextBlocks.f k n y ps c bs b) m) ((List.range m).map fun (b : Nat) => nextOf bs (b : Int)) := by
    intro m
    induction m with
    | zero => exact Ev.now _
    | succ m ih =>
      simp only [rowsOf]
      refine Ev.bind ih (Ev.bind (specNext_f n y ps c bs (m : Int) h) ?_)
      rw [List.range_succ, List.map_append]
      exact Ev.now _
  exact Ev.bind (key bs.length) (Ev.pos (rsOf_ok h) (Ev.now _))
/-- How many are not come to yet. -/
def fc : List Bool → Nat
  | [] => 0
  | b :: bs => (if b = true then 0 else 1) + fc bs
theorem fc_set : ∀ (s : List Bool) (i : Nat), i < s.length → s.getD i false = false → fc (s.set i true) + 1 = fc s
  | [], i, h, _ => absurd h (by simp)
  | b :: s, 0, _, h => by
    have hb : b = false := by simpa using h
    subst hb
    simp only [List.set_cons_zero, fc]
    simp
    omega
  | b :: s, i + 1, h, h2 => by
    have := fc_set s i (by simpa using h) (by simpa using h2)
    simp only [List.set_cons_succ, fc]
    omega
theorem fc_le : ∀ s : List Bool, fc s ≤ s.length
  | [] => by simp [fc]
  | b :: s => by have := fc_le s; simp only [fc, List.length_cons]; split <;> omega
def reIn (wo : Int) : List Int → List Bool → List Int → List Bool × List Int
  | [], s, t => (s, t)
  | x :: xs, s, t => if x = wo ∨ s.getD x.toNat false = true then reIn wo xs s t else reIn wo xs (s.set x.toNat true) (t ++ [x])
theorem reIn_inv (wo : Int) (n : Nat) : ∀ (l : List Int) (s : List Bool) (t : List Int), s.length = n → (∀ x ∈ l, 0 ≤ x ∧ x < (n : Int)) → (∀ x ∈ t, 0 ≤ x ∧ x < (n : Int)) →
    (reIn wo l s t).1.length = n ∧ (∀ x ∈ (reIn wo l s t).2, 0 ≤ x ∧ x < (n : Int)) ∧ fc (reIn wo l s t).1 + (reIn wo l s t).2.length = fc s + t.length
  | [], s, t, hs, _, ht => ⟨hs, ht, rfl⟩
  | x :: xs, s, t, hs, hl, ht => by
    have hx := hl x (List.mem_cons_self ..)
    simp only [reIn]
    by_cases c : x = wo ∨ s.getD x.toNat false = true
    · rw [if_pos c]
      exact reIn_inv wo n xs s t hs (fun z hz => hl z (List.mem_cons_of_mem _ hz)) ht
    · rw [if_neg c]
      obtain ⟨h1, h2, h3⟩ := reIn_inv wo n xs (s.set x.toNat true) (t ++ [x]) (by rw [List.length_set]; exact hs) (fun z hz => hl z (List.mem_cons_of_mem _ hz)) (by
        intro z hz
        rcases List.mem_append.1 hz with hz | hz
        · exact ht z hz
        · rw [List.mem_singleton.1 hz]; exact hx)
      have h4 := fc_set s x.toNat (by omega) (by
        cases hg : s.getD x.toNat false with
        | false => rfl
        | true => exact absurd (Or.inr hg) c)
      refine ⟨h1, h2, ?_⟩
      rw [h3, List.length_append, List.length_singleton]
      omega
def reOut (N : Int → List Int) (wo : Int) : Nat → List Bool → List Int → List Bool
  | 0, s, _ => s
  | f + 1, s, t => match t.getLast? with
    | none => s
    | some b => reOut N wo f (reIn wo (N b) s t.dropLast).1 (reIn wo (N b) s t.dropLast).2
theorem reOut_len (bs : List S62) (wo : Int) : ∀ (f : Nat) (s : List Bool) (t : List Int), s.length = bs.length → (∀ x ∈ t, 0 ≤ x ∧ x < (bs.length : Int)) → (reOut (nextOf bs) wo f s t).length = bs.length
  | 0, s, t, hs, _ => hs
  | f + 1, s, t, hs, ht => by
    rcases List.eq_nil_or_concat t with rfl | ⟨i, b, rfl⟩
    · simpa [reOut] using hs
    · simp only [List.concat_eq_append] at ht ⊢
      simp only [reOut, List.getLast?_append, List.getLast?_singleton, Option.some_or, List.dropLast_concat]
      have h := reIn_inv wo bs.length (nextOf bs b) s i hs (nextOf_range bs b) (fun x hx => ht x (List.mem_append_left _ hx))
      exact reOut_len bs wo f _ _ h.1 h.2.1
def reachOf (bs : List S62) (wo : Int) : List Bool :=
  if bs.length = 0 ∨ wo = 0 then List.replicate bs.length false else reOut (nextOf bs) wo (bs.length + 1) ((List.replicate bs.length false).set 0 true) [0]
theorem reachOf_len (bs : List S62) (wo : Int) : (reachOf bs wo).length = bs.length := by
  unfold reachOf
  split
  · simp
  · exact reOut_len bs wo _ _ _ (by simp) (by intro x hx; rw [List.mem_singleton.1 hx]; omega)
theorem rdOf_eq (s : List Bool) (x : Int) : rdOf false s x = s.getD x.toNat false := rfl
theorem specRe_f (ps : List (List Int)) (wo : Int) (bs : List S62) (h : gOk bs) : ∀ (f : Nat) (s : List Bool) (t : List Int), fc s + t.length ≤ f → f ≤ 4194304 → s.length = bs.length → (∀ x ∈ t, 0 ≤ x ∧ x < (bs.length : Int)) → Ev (fun k => spec_l4Reach.l0 k wo s t (rsOf bs) ps) (reOut (nextOf bs) wo f s t) := by
  have hb := h.1
  have inner : ∀ (b : Int), 0 ≤ b → b < (bs.length : Int) → ∀ (r : List Bool) (d j : Nat) (s : List Bool) (t : List Int), j + d = (nextOf bs b).length → s.length = bs.length → fc s + t.length ≤ 4194304 →
      Ev (fun k => spec_l4Reach.l0 k wo (reIn wo ((nextOf bs b).drop j) s t).1 (reIn wo ((nextOf bs b).drop j) s t).2 (rsOf bs) ps) r → Ev (fun k => spec_l4Reach.l1 k wo s t b (j : Int) (rsOf bs) ps) r := by
    intro b h0 h1 r d
    have hrow : rd_L4 (rsOf bs) b = nextOf bs b := by
      have := rsOf_getD bs b.toNat (by omega)
      rw [Int.toNat_of_nonneg h0] at this
      exact this
    have hlen := nextOf_len h b
    have hrg := nextOf_range bs b
    induction d with
    | zero =>
      intro j s t hj hs hf h8
      obtain rfl : j = (nextOf bs b).length := by omega
      rw [List.drop_length] at h8
      refine Ev.succ ?_
      simp only [spec_l4Reach.l1]
      rw [hrow, rsOf_len]
      exact Ev.pos h0 (Ev.pos h1 (Ev.neg (by omega) h8))
    | succ d ih =>
      intro j s t hj hs hf h8
      have hlt : j < (nextOf bs b).length := by omega
      have e1 : rd (nextOf bs b) j = (nextOf bs b)[j] := by simp [rd, List.getElem?_eq_getElem hlt]
      have hx := hrg _ (List.getElem_mem hlt)
      rw [List.drop_eq_getElem_cons hlt] at h8
      generalize (nextOf bs b)[j] = x at e1 hx h8
      simp only [reIn] at h8
      refine Ev.succ ?_
      simp only [spec_l4Reach.l1]
      rw [hrow, rsOf_len, e1, wrap64_nat (by omega), hs, rdOf_eq]
      refine Ev.pos h0 (Ev.pos h1 (Ev.pos (by omega) (Ev.pos (by omega) ?_)))
      by_cases c1 : x = wo
      · rw [if_pos (Or.inl c1)] at h8
        exact Ev.pos c1 (ih (j + 1) s t (by omega) hs hf h8)
      · refine Ev.neg c1 (Ev.pos hx.1 (Ev.pos hx.2 ?_))
        by_cases c2 : s.getD x.toNat false = true
        · rw [if_pos (Or.inr c2)] at h8
          exact Ev.pos c2 (ih (j + 1) s t (by omega) hs hf h8)
        · rw [if_neg (fun hh => hh.elim c1 c2)] at h8
          have h4 := fc_set s x.toNat (by omega) (by simpa using c2)
          exact Ev.neg c2 (Ev.pos (by omega) (ih (j + 1) _ _ (by omega) (by rw [List.length_set]; exact hs) (by rw [List.length_append, List.length_singleton]; omega) h8))
  intro f
  induction f with
  | zero =>
    intro s t hm hf hs ht
    have : t = [] := List.length_eq_zero_iff.1 (by omega)
    subst this
    refine Ev.succ ?_
    simp only [spec_l4Reach.l0]
    exact Ev.neg (by simp) (Ev.now _)
  | succ f ih =>
    intro s t hm hf hs ht
    rcases List.eq_nil_or_concat t with rfl | ⟨i, b, rfl⟩
    · refine Ev.succ ?_
      simp only [spec_l4Reach.l0, reOut, List.getLast?_nil]
      exact Ev.neg (by simp) (Ev.now _)
    · simp only [List.concat_eq_append] at hm ht ⊢
      have hbb := ht b (by simp)
      have hinv := reIn_inv wo bs.length (nextOf bs b) s i hs (nextOf_range bs b) (fun x hx => ht x (List.mem_append_left _ hx))
      rw [List.length_append, List.length_singleton] at hm
      refine Ev.succ ?_
      simp only [spec_l4Reach.l0, reOut, List.getLast?_append, List.getLast?_singleton, Option.some_or, List.dropLast_concat, List.length_append, List.length_singleton]
      rw [wrap64_id (x := ((i.length + 1 : Nat) : Int) - 1) (by omega) (by omega)]
      have e2 : (((i.length + 1 : Nat) : Int) - 1) = (i.length : Int) := by omega
      rw [e2]
      have e3 : rd (i ++ [b]) (i.length : Int) = b := by simp [rd]
      rw [e3, Int.toNat_natCast, List.take_left]
      refine Ev.pos (by omega) (Ev.pos (by omega) (Ev.pos (by omega) (Ev.pos (by omega) ?_)))
      refine inner b hbb.1 hbb.2 _ (nextOf bs b).length 0 s i (by omega) hs (by omega) ?_
      rw [List.drop_zero]
      exact ih _ _ (by omega) (by omega) hinv.1 hinv.2.1
theorem fc_rep (n : Nat) : fc (List.replicate n false) = n := by
  induction n with
  | zero => rfl
  | succ n ih => rw [List.replicate_succ, fc, ih]; simp; omega
theorem specReach_f (ps : List (List Int)) (wo : Int) (bs : List S62) (h : gOk bs) : Ev (fun k => spec_l4Reach.f k (rsOf bs) ps 0 wo) (reachOf bs wo) := by
  have hb := h.1
  unfold spec_l4Reach.f reachOf
  rw [rsOf_len, Int.toNat_natCast]
  refine Ev.pos (by omega) (Ev.pos (by omega) (Ev.some_bind ?_))
  have done : Ev (fun k => spec_l4Reach.j0 k 0 wo (List.replicate bs.length false) true (rsOf bs) ps) (List.replicate bs.length false) := by
    refine Ev.succ ?_
    simp only [spec_l4Reach.j0]
    exact Ev.pos trivial (Ev.now _)
  by_cases c1 : 0 = wo
  · rw [if_pos (Or.inr c1.symm)]
    exact Ev.pos c1 done
  refine Ev.neg c1 (Ev.neg (by omega) ?_)
  by_cases c2 : bs.length = 0
  · rw [if_pos (Or.inl c2), decide_eq_true (by omega)]
    exact done
  rw [if_neg (fun hh => hh.elim c2 (fun e => c1 e.symm)), decide_eq_false (by omega)]
  refine Ev.succ ?_
  simp only [spec_l4Reach.j0, List.length_replicate]
  refine Ev.neg (by simp) (Ev.pos (by omega) (Ev.pos (by omega) ?_))
  have h4 := fc_set (List.replicate bs.length false) 0 (by simp; omega) (by rw [List.getD_eq_getElem?_getD, List.getElem?_replicate, if_pos (by omega)]; rfl)
  rw [fc_rep] at h4
  refine specRe_f ps wo bs h (bs.length + 1) _ _ (by simp; omega) (by omega) (by simp) (by intro x hx; rw [List.mem_singleton.1 hx]; omega)
theorem implRe_f (n : ByteArray) (y : Int) (ps : List Int) (c : Int) (wo : Int) (bs : List S62) (h : gOk bs) : ∀ (f : Nat) (s : List Bool) (t : List Int), fc s + t.length ≤ f → f ≤ 4194304 → s.length = bs.length → (∀ x ∈ t, 0 ≤ x ∧ x < (bs.length : Int)) → Ev (fun k => impl_reached.l0 k wo s t n y ps c bs) (reOut (nextOf bs) wo f s t) := by
  have hb := h.1
  have inner : ∀ (b : Int), 0 ≤ b → b < (bs.length : Int) → ∀ (r : List Bool) (d j : Nat) (s : List Bool) (t : List Int), j + d = (nextOf bs b).length → s.length = bs.length → fc s + t.length ≤ 4194304 →
      Ev (fun k => impl_reached.l0 k wo (reIn wo ((nextOf bs b).drop j) s t).1 (reIn wo ((nextOf bs b).drop j) s t).2 n y ps c bs) r → Ev (fun k => impl_reached.l1 k wo s t (nextOf bs b) ((nextOf bs b).length : Int) (j : Int) n y ps c bs) r := by
    intro b h0 h1 r d
    have hlen := nextOf_len h b
    have hrg := nextOf_range bs b
    induction d with
    | zero =>
      intro j s t hj hs hf h8
      obtain rfl : j = (nextOf bs b).length := by omega
      rw [List.drop_length] at h8
      refine Ev.succ ?_
      simp only [impl_reached.l1]
      exact Ev.neg (by omega) h8
    | succ d ih =>
      intro j s t hj hs hf h8
      have hlt : j < (nextOf bs b).length := by omega
      have e1 : rd (nextOf bs b) j = (nextOf bs b)[j] := by simp [rd, List.getElem?_eq_getElem hlt]
      have hx := hrg _ (List.getElem_mem hlt)
      rw [List.drop_eq_getElem_cons hlt] at h8
      generalize (nextOf bs b)[j] = x at e1 hx h8
      simp only [reIn] at h8
      refine Ev.succ ?_
      simp only [impl_reached.l1]
      rw [e1, wrap64_nat (by omega), hs, rdOf_eq]
      refine Ev.pos (by omega) (Ev.pos (by omega) (Ev.pos (by omega) (Ev.pos hx.1 (Ev.pos hx.2 ?_))))
      by_cases c2 : s.getD x.toNat false = true
      · rw [if_pos (Or.inr c2)] at h8
        exact Ev.pos c2 (ih (j + 1) s t (by omega) hs hf h8)
      · refine Ev.neg c2 ?_
        by_cases c1 : x = wo
        · rw [if_pos (Or.inl c1)] at h8
          exact Ev.pos c1 (ih (j + 1) s t (by omega) hs hf h8)
        · rw [if_neg (fun hh => hh.elim c1 c2)] at h8
          have h4 := fc_set s x.toNat (by omega) (by simpa using c2)
          exact Ev.neg c1 (Ev.pos (by omega) (ih (j + 1) _ _ (by omega) (by rw [List.length_set]; exact hs) (by rw [List.length_append, List.length_singleton]; omega) h8))
  intro f
  induction f with
  | zero =>
    intro s t hm hf hs ht
    have : t = [] := List.length_eq_zero_iff.1 (by omega)
    subst this
    refine Ev.succ ?_
    simp only [impl_reached.l0]
    exact Ev.neg (by simp) (Ev.now _)
  | succ f ih =>
    intro s t hm hf hs ht
    rcases List.eq_nil_or_concat t with rfl | ⟨i, b, rfl⟩
    · refine Ev.succ ?_
      simp only [impl_reached.l0, reOut, List.getLast?_nil]
      exact Ev.neg (by simp) (Ev.now _)
    · simp only [List.concat_eq_append] at hm ht ⊢
      have hbb := ht b (by simp)
      have hinv := reIn_inv wo bs.length (nextOf bs b) s i hs (nextOf_range bs b) (fun x hx => ht x (List.mem_append_left _ hx))
      rw [List.length_append, List.length_singleton] at hm
      refine Ev.succ ?_
      simp only [impl_reached.l0, reOut, List.getLast?_append, List.getLast?_singleton, Option.some_or, List.dropLast_concat, List.length_append, List.length_singleton]
      rw [wrap64_id (x := ((i.length + 1 : Nat) : Int) - 1) (by omega) (by omega)]
      have e2 : (((i.length + 1 : Nat) : Int) - 1) = (i.length : Int) := by omega
      rw [e2]
      have e3 : rd (i ++ [b]) (i.length : Int) = b := by simp [rd]
      rw [e3, Int.toNat_natCast, List.take_left]
      refine Ev.pos (by omega) (Ev.pos (by omega) (Ev.pos (by omega) (Ev.pos (by omega) (Ev.eq_bind (implNext_f n y ps c bs b h) ?_))))
      refine inner b hbb.1 hbb.2 _ (nextOf bs b).length 0 s i (by omega) hs (by omega) ?_
      rw [List.drop_zero]
      exact ih _ _ (by omega) (by omega) hinv.1 hinv.2.1
theorem implReach_f (n : ByteArray) (y : Int) (ps : List Int) (c : Int) (wo : Int) (bs : List S62) (h : gOk bs) : Ev (fun k => impl_reached.f k n y ps c bs wo) (reachOf bs wo) := by
  have hb := h.1
  unfold impl_reached.f reachOf
  rw [Int.toNat_natCast]
  refine Ev.pos (by omega) (Ev.pos (by omega) (Ev.some_bind ?_))
  have done : Ev (fun k => impl_reached.j0 k wo (List.replicate bs.length false) true n y ps c bs) (List.replicate bs.length false) := by
    refine Ev.succ ?_
    simp only [impl_reached.j0]
    exact Ev.pos trivial (Ev.now _)
  by_cases c2 : bs.length = 0
  · rw [if_pos (Or.inl c2)]
    exact Ev.pos (by omega) done
  refine Ev.neg (by omega) ?_
  by_cases c1 : wo = 0
  · rw [if_pos (Or.inr c1), show (wo == 0) = true from by rw [c1]; rfl]
    exact done
  rw [if_neg (fun hh => hh.elim c2 c1), show (wo == 0) = false from by rw [beq_eq_false_iff_ne]; exact c1]
  refine Ev.succ ?_
  simp only [impl_reached.j0, List.length_replicate]
  refine Ev.neg (by simp) (Ev.pos (by omega) ?_)
  have h4 := fc_set (List.replicate bs.length false) 0 (by simp; omega) (by rw [List.getD_eq_getElem?_getD, List.getElem?_replicate, if_pos (by omega)]; rfl)
  rw [fc_rep] at h4
  refine implRe_f n y ps c wo bs h (bs.length + 1) _ _ (by simp; omega) (by omega) (by simp) (by intro x hx; rw [List.mem_singleton.1 hx]; omega)
end Go.Proofs.Ytoedcnhgobbnfaa.All

/- Who dominates whom, as a table; the nearest one of each. -/
namespace Go.Proofs.Ytoedcnhgobbnfaa.All
open Go.RowKit Go.Proofs.YtoedcnhgobbnfaaW.PrintWords Go.Proofs.YtoedcnhgobbnfaaW.PrintLast Go.Proofs.YtoedcnhgobbnfaaW.PrintMore
set_option linter.unusedVariables false
set_option linter.unusedSimpArgs false
theorem fill_gen {β ρ : Type} (f : Nat → β) (xs : List β) (r : ρ) (g : Nat → List β → Int → Option ρ)
    (hstep : ∀ (i : Nat) (out : List β), i < xs.length → out.length = xs.length → Ev (fun k => g k (out.set i (f i)) ((i + 1 : Nat) : Int)) r → Ev (fun k => g k out (i : Int)) r)
    (hend : Ev (fun k => g k ((List.range xs.length).map f) (xs.length : Int)) r) : Ev (fun k => g k xs 0) r := by
  have key : ∀ d i : Nat, i + d = xs.length → Ev (fun k => g k ((List.range i).map f ++ xs.drop i) (i : Int)) r := by
    intro d
    induction d with
    | zero =>
      intro i hi
      obtain rfl : i = xs.length := by omega
      rw [List.drop_length, List.append_nil]
      exact hend
    | succ d ih =>
      intro i hi
      have h1 := ih (i + 1) (by omega)
      refine hstep i _ (by omega) (by simp; omega) ?_
      have e : ((List.range i).map f ++ xs.drop i).set i (f i) = (List.range (i + 1)).map f ++ xs.drop (i + 1) := by
        have hl : ((List.range i).map f).length = i := by simp
        rw [List.set_append_right _ _ (by omega), hl, Nat.sub_self, List.drop_eq_getElem_cons (show i < xs.length by omega), List.set_cons_zero, List.range_succ, List.map_append, List.append_assoc]
        rfl
      rw [e]
      exact h1
  have h0 := key xs.length 0 (by omega)
  simpa using h0
/-! What is seen stays seen; what is never come to hinders nobody. -/
theorem reIn_seen (wo : Int) (i : Nat) : ∀ (l : List Int) (s : List Bool) (t : List Int), s.getD i false = true → (reIn wo l s t).1.getD i false = true
  | [], _, _, h => h
  | x :: xs, s, t, h => by
    simp only [reIn]
    split
    · exact reIn_seen wo i xs s t h
    · refine reIn_seen wo i xs _ _ ?_
      rw [List.getD_eq_getElem?_getD, List.getElem?_set]
      rw [List.getD_eq_getElem?_getD] at h
      split
      · split
        · rfl
        · rename_i e1 e2
          rw [List.getElem?_eq_none (by omega)] at h
          exact h
      · exact h
theorem reOut_seen (N : Int → List Int) (wo : Int) (i : Nat) : ∀ (f : Nat) (s : List Bool) (t : List Int), s.getD i false = true → (reOut N wo f s t).getD i false = true
  | 0, _, _, h => h
  | f + 1, s, t, h => by
    simp only [reOut]
    split
    · exact h
    · exact reOut_seen N wo i f _ _ (reIn_seen wo i _ _ _ h)
theorem reIn_skip (a n : Nat) (han : a < n) : ∀ (l : List Int) (s : List Bool) (t : List Int), s.length = n → (∀ x ∈ l, 0 ≤ x ∧ x < (n : Int)) → (reIn (-1) l s t).1.getD a false = false → reIn (a : Int) l s t = reIn (-1) l s t
  | [], _, _, _, _, _ => rfl
  | x :: xs, s, t, hs, hl, h => by
    have hx := hl x (List.mem_cons_self ..)
    have hxs : ∀ z ∈ xs, 0 ≤ z ∧ z < (n : Int) := fun z hz => hl z (List.mem_cons_of_mem _ hz)
    simp only [reIn] at h ⊢
    have hm : ¬ x = -1 := by omega
    have hxa : ¬ x = (a : Int) := by
      intro e
      subst e
      rw [Int.toNat_natCast] at h
      by_cases c : s.getD a false = true
      · rw [if_pos (Or.inr c)] at h
        rw [reIn_seen (-1) a xs s t c] at h
        cases h
      · rw [if_neg (fun hh => hh.elim hm c)] at h
        rw [reIn_seen (-1) a xs _ _ (by rw [List.getD_eq_getElem?_getD, List.getElem?_set_self (by omega)]; rfl)] at h
        cases h
    by_cases c : s.getD x.toNat false = true
    · rw [if_pos (Or.inr c)] at h ⊢
      rw [if_pos (Or.inr c)]
      exact reIn_skip a n han xs s t hs hxs h
    · rw [if_neg (fun hh => hh.elim hm c)] at h
      rw [if_neg (fun hh => hh.elim hxa c), if_neg (fun hh => hh.elim hm c)]
      exact reIn_skip a n han xs _ _ (by rw [List.length_set]; exact hs) hxs h
theorem reOut_skip (bs : List S62) (a : Nat) (han : a < bs.length) : ∀ (f : Nat) (s : List Bool) (t : List Int), s.length = bs.length → (∀ x ∈ t, 0 ≤ x ∧ x < (bs.length : Int)) → (reOut (nextOf bs) (-1) f s t).getD a false = false → reOut (nextOf bs) (a : Int) f s t = reOut (nextOf bs) (-1) f s t
  | 0, _, _, _, _, _ => rfl
  | f + 1, s, t, hs, ht, h => by
    rcases List.eq_nil_or_concat t with rfl | ⟨i, b, rfl⟩
    · simp [reOut]
    · simp only [List.concat_eq_append] at ht h ⊢
      simp only [reOut, List.getLast?_append, List.getLast?_singleton, Option.some_or, List.dropLast_concat] at h ⊢
      have hinv := reIn_inv (-1) bs.length (nextOf bs b) s i hs (nextOf_range bs b) (fun x hx => ht x (List.mem_append_left _ hx))
      have h1 : (reIn (-1) (nextOf bs b) s i).1.getD a false = false := by
        cases hc : (reIn (-1) (nextOf bs b) s i).1.getD a false with
        | false => rfl
        | true => rw [reOut_seen _ _ _ _ _ _ hc] at h; cases h
      rw [reIn_skip a bs.length han (nextOf bs b) s i hs (nextOf_range bs b) h1]
      exact reOut_skip bs a han f _ _ hinv.1 hinv.2.1 h
theorem reachOf_skip (bs : List S62) (a : Nat) (han : a < bs.length) (h : (reachOf bs (-1)).getD a false = false) : reachOf bs (a : Int) = reachOf bs (-1) := by
  unfold reachOf at h ⊢
  rw [if_neg (by omega)] at h
  rw [if_neg (show ¬ (bs.length = 0 ∨ (-1 : Int) = 0) by omega)]
  by_cases c : (a : Int) = 0
  · obtain rfl : a = 0 := by omega
    rw [reOut_seen _ _ _ _ _ _ (by rw [List.getD_eq_getElem?_getD, List.getElem?_set_self (by simpa using han)]; rfl)] at h
    cases h
  · rw [if_neg (by omega)]
    exact reOut_skip bs a han _ _ _ (by simp) (by intro x hx; rw [List.mem_singleton.1 hx]; omega) h
def domB (bs : List S62) (a b : Nat) : Bool := (reachOf bs (-1)).getD b false && !(reachOf bs (a : Int)).getD b false
def domRow (bs : List S62) (a : Nat) : List Bool := (List.range bs.length).map (domB bs a)
def domsTo (bs : List S62) (i : Nat) : List (List Bool) := (List.range i).map (domRow bs)
theorem domsTo_succ (bs : List S62) (i : Nat) : domsTo bs (i + 1) = domsTo bs i ++ [domRow bs i] := by unfold domsTo; rw [List.range_succ, List.map_append]; rfl
theorem domsTo_len (bs : List S62) (i : Nat) : (domsTo bs i).length = i := by simp [domsTo]
theorem domRow_len (bs : List S62) (i : Nat) : (domRow bs i).length = bs.length := by simp [domRow]
theorem domRow_at (bs : List S62) (a b : Nat) (h : b < bs.length) : (domRow bs a).getD b false = domB bs a b := by
  unfold domRow
  rw [List.getD_eq_getElem?_getD, List.getElem?_map, List.getElem?_range h]
  rfl
theorem domRow_none (bs : List S62) (a : Nat) (han : a < bs.length) (h : (reachOf bs (-1)).getD a false = false) : List.replicate bs.length false = domRow bs a := by
  apply List.ext_getElem
  · rw [domRow_len]; simp
  · intro i h1 h2
    simp only [domRow, List.getElem_replicate, List.getElem_map, List.getElem_range, domB]
    rw [reachOf_skip bs a han h]
    simp
theorem specDoms_f (ps : List (List Int)) (bs : List S62) (h : gOk bs) : Ev (fun k => spec_l4Doms.f k (rsOf bs) ps) (domsTo bs bs.length) := by
  unfold spec_l4Doms.f
  have hb := h.1
  refine Ev.bind (specReach_f ps (-1) bs h) ?_
  rw [rsOf_len]
  have l1 := reachOf_len bs (-1)
  have key : ∀ d i : Nat, i + d = bs.length → Ev (fun k => spec_l4Doms.l0 k (bs.length : Int) (reachOf bs (-1)) (domsTo bs i) (i : Int) (rsOf bs) ps) (domsTo bs bs.length) := by
    intro d
    induction d with
    | zero =>
      intro i hi
      obtain rfl : i = bs.length := by omega
      refine Ev.succ ?_
      simp only [spec_l4Doms.l0]
      exact Ev.neg (by omega) (Ev.now _)
    | succ d ih =>
      intro i hi
      have h8 := ih (i + 1) (by omega)
      have l2 := reachOf_len bs (i : Int)
      have l3 := domsTo_len bs i
      rw [domsTo_succ] at h8
      refine Ev.succ ?_
      simp only [spec_l4Doms.l0]
      refine Ev.pos (by omega) (Ev.bind (specReach_f ps (i : Int) bs h) (Ev.pos (by omega) (Ev.pos (by omega) ?_)))
      rw [Int.toNat_natCast]
      refine fill_gen (domB bs i) (List.replicate bs.length false) _ (fun k out j => spec_l4Doms.l1 k (bs.length : Int) (reachOf bs (-1)) (domsTo bs i) (i : Int) (reachOf bs (i : Int)) out j (rsOf bs) ps) ?_ ?_
      · intro j out hj ho h9
        rw [List.length_replicate] at hj ho
        refine Ev.succ ?_
        simp only [spec_l4Doms.l1]
        rw [wrap64_nat (by omega), rdOf_eq, rdOf_eq, Int.toNat_natCast]
        refine Ev.pos (by omega) (Ev.pos (by omega) (Ev.pos (by omega) ?_))
        unfold domB at h9
        by_cases c : (reachOf bs (-1)).getD j false = true
        · rw [c, Bool.true_and] at h9
          exact Ev.pos c (Ev.pos (by omega) (Ev.pos (by omega) h9))
        · rw [Bool.eq_false_iff.2 c, Bool.false_and] at h9
          exact Ev.neg c (Ev.pos (by omega) h9)
      · rw [List.length_replicate]
        refine Ev.succ ?_
        simp only [spec_l4Doms.l1]
        rw [wrap64_nat (i := i) (by omega)]
        exact Ev.neg (by omega) (Ev.pos (by omega) h8)
  exact key bs.length 0 (by omega)
theorem implDoms_f (n : ByteArray) (y : Int) (ps : List Int) (c : Int) (bs : List S62) (h : gOk bs) : Ev (fun k => impl_dominance.f k n y ps c bs) (domsTo bs bs.length) := by
  unfold impl_dominance.f
  have hb := h.1
  refine Ev.bind (implReach_f n y ps c (-1) bs h) ?_
  have l1 := reachOf_len bs (-1)
  have key : ∀ d i : Nat, i + d = bs.length → Ev (fun k => impl_dominance.l0 k (reachOf bs (-1)) (domsTo bs i) (bs.length : Int) (i : Int) n y ps c bs) (domsTo bs bs.length) := by
    intro d
    induction d with
    | zero =>
      intro i hi
      obtain rfl : i = bs.length := by omega
      refine Ev.succ ?_
      simp only [impl_dominance.l0]
      exact Ev.neg (by omega) (Ev.now _)
    | succ d ih =>
      intro i hi
      have h8 := ih (i + 1) (by omega)
      have l2 := reachOf_len bs (i : Int)
      have l3 := domsTo_len bs i
      rw [domsTo_succ] at h8
      refine Ev.succ ?_
      simp only [impl_dominance.l0]
      rw [Int.toNat_natCast, wrap64_nat (by omega), rdOf_eq, Int.toNat_natCast]
      refine Ev.pos (by omega) (Ev.pos (by omega) (Ev.pos (by omega) (Ev.some_bind (Ev.pos (by omega) (Ev.pos (by omega) ?_)))))
      by_cases ca : (reachOf bs (-1)).getD i false = true
      · refine Ev.pos ca (Ev.bind (implReach_f n y ps c (i : Int) bs h) ?_)
        refine fill_gen (domB bs i) (List.replicate bs.length false) _ (fun k out j => impl_dominance.l1 k (reachOf bs (-1)) (domsTo bs i) out (reachOf bs (i : Int)) (bs.length : Int) (i : Int) (bs.length : Int) j n y ps c bs) ?_ ?_
        · intro j out hj ho h9
          rw [List.length_replicate] at hj ho
          refine Ev.succ ?_
          simp only [impl_dominance.l1]
          rw [wrap64_nat (by omega), rdOf_eq, rdOf_eq, Int.toNat_natCast]
          refine Ev.pos (by omega) (Ev.pos (by omega) (Ev.pos (by omega) ?_))
          unfold domB at h9
          by_cases c : (reachOf bs (-1)).getD j false = true
          · rw [c, Bool.true_and] at h9
            exact Ev.pos c (Ev.pos (by omega) (Ev.pos (by omega) h9))
          · rw [Bool.eq_false_iff.2 c, Bool.false_and] at h9
            exact Ev.neg c (Ev.pos (by omega) h9)
        · rw [List.length_replicate]
          refine Ev.succ ?_
          simp only [impl_dominance.l1]
          rw [wrap64_nat (i := i) (by omega)]
          exact Ev.neg (by omega) (Ev.pos (by omega) h8)
      · refine Ev.neg ca (Ev.pos (by omega) ?_)
        rw [domRow_none bs i (by omega) (Bool.eq_false_iff.2 ca)]
        exact h8
  exact key bs.length 0 (by omega)
theorem rdRow (bs : List S62) (a : Nat) (h : a < bs.length) : rd_L19 (domsTo bs bs.length) (a : Int) = domRow bs a := by
  show (domsTo bs bs.length).getD (a : Int).toNat [] = _
  rw [Int.toNat_natCast]
  unfold domsTo
  rw [List.getD_eq_getElem?_getD, List.getElem?_map, List.getElem?_range h]
  rfl
theorem rdRow2 (bs : List S62) (a b : Nat) (h : b < bs.length) : rdOf false (domRow bs a) (b : Int) = domB bs a b := by rw [rdOf_eq, Int.toNat_natCast]; exact domRow_at bs a b h
end Go.Proofs.Ytoedcnhgobbnfaa.All

/- Where a block's dominating ends. -/
namespace Go.Proofs.Ytoedcnhgobbnfaa.All
open Go.RowKit Go.Proofs.YtoedcnhgobbnfaaW.PrintWords Go.Proofs.YtoedcnhgobbnfaaW.PrintLast Go.Proofs.YtoedcnhgobbnfaaW.PrintMore
set_option linter.unusedVariables false
set_option linter.unusedSimpArgs false
theorem getD_set {α : Type} (xs : List α) (i j : Nat) (v z : α) (h : i < xs.length) : (xs.set i v).getD j z = if i = j then v else xs.getD j z := by
  rw [List.getD_eq_getElem?_getD, List.getD_eq_getElem?_getD, List.getElem?_set]
  split
  · first | rfl | (rename_i e; subst e; rw [if_pos h]; rfl) | simp [h]
  · rfl
theorem pushB_at (b : Int) (t : Nat) : ∀ (ts : List Int) (prev : List (List Int)), ts.Nodup → (∀ x ∈ ts, 0 ≤ x ∧ x < (prev.length : Int)) → (pushB prev b ts).getD t [] = prev.getD t [] ++ (if ts.contains (t : Int) = true then [b] else [])
  | [], prev, _, _ => by simp [pushB]
  | x :: xs, prev, hn, hr => by
    have hx := hr x (List.mem_cons_self ..)
    rw [List.nodup_cons] at hn
    have h := pushB_at b t xs (prev.set x.toNat (prev.getD x.toNat [] ++ [b])) hn.2 (by rw [List.length_set]; exact fun z hz => hr z (List.mem_cons_of_mem _ hz))
    have h3 : pushB prev b (x :: xs) = pushB (prev.set x.toNat (prev.getD x.toNat [] ++ [b])) b xs := rfl
    rw [h3, h, getD_set _ _ _ _ _ (by omega)]
    by_cases e : x.toNat = t
    · have e2 : x = (t : Int) := by omega
      have e3 : xs.contains (t : Int) = false := by rw [← e2]; simpa using hn.1
      rw [if_pos e, e3, List.contains_cons, e2, Int.toNat_natCast]
      simp
    · have e2 : ¬ ((t : Int) = x) := by omega
      rw [if_neg e, List.contains_cons, beq_eq_false_iff_ne.2 e2, Bool.false_or]
theorem prevUp_at {bs : List S62} (t : Nat) : ∀ m, m ≤ bs.length → (prevUp (rsOf bs) m).getD t [] = prevTo bs (t : Int) m
  | 0, _ => by
    simp only [prevUp, prevTo, List.range_zero, List.filter_nil, List.map_nil, List.getD_eq_getElem?_getD, List.getElem?_replicate]
    split <;> rfl
  | m + 1, hm => by
    rw [prevUp, rsOf_getD bs m (by omega), pushB_at _ _ _ _ (nextOf_nodup bs (m : Int)) (by rw [prevUp_len, rsOf_len]; exact nextOf_range bs (m : Int)), prevUp_at t m (by omega), prevTo_succ]
theorem rdPrev {bs : List S62} (t : Nat) : rd_L4 (prevUp (rsOf bs) bs.length) (t : Int) = prevOf bs (t : Int) := by
  show (prevUp (rsOf bs) bs.length).getD (t : Int).toNat [] = _
  rw [Int.toNat_natCast]
  exact prevUp_at t bs.length (Nat.le_refl _)
theorem prevOf_range (bs : List S62) (a : Int) : ∀ x ∈ prevOf bs a, 0 ≤ x ∧ x < (bs.length : Int) := by
  intro x hx
  unfold prevOf at hx
  obtain ⟨b, hb, rfl⟩ := List.mem_map.1 hx
  have := List.mem_range.1 (List.mem_filter.1 hb).1
  omega
end Go.Proofs.Ytoedcnhgobbnfaa.All

/- Plain laws: spec.Loops and impl.Loops answer alike. -/
namespace Go.Proofs.Ytoedcnhgobbnfaa.All
open Go.RowKit Go.Proofs.YtoedcnhgobbnfaaW.PrintWords Go.Proofs.YtoedcnhgobbnfaaW.PrintLast Go.Proofs.YtoedcnhgobbnfaaW.PrintMore
set_option linter.unusedVariables false
set_option linter.unusedSimpArgs false
def alB (bs : List S62) (x : Int) : Bool := (reachOf bs (-1)).getD x.toNat false
def tailsOf (bs : List S62) (h : Int) : List Int := (prevOf bs h).filter fun p => domB bs h.toNat p.toNat
/-- The blocks of a head's loop: from which a tail is come to without the head, among those that are come to. -/
inductive Cl (bs : List S62) (h : Int) : Int → Prop
  | head : Cl bs h h
  | tail {t : Int} : t ∈ tailsOf bs h → alB bs t = true → Cl bs h t
  | step {b p : Int} : Cl bs h b → b ≠ h → p ∈ prevOf bs b → alB bs p = true → Cl bs h p
noncomputable def clB (bs : List S62) (h : Int) (b : Nat) : Bool := @decide (Cl bs h (b : Int)) (Classical.propDecidable _)
noncomputable def clSet (bs : List S62) (h : Int) : List Bool := (List.range bs.length).map (clB bs h)
theorem clB_iff {bs : List S62} {h : Int} {b : Nat} : clB bs h b = true ↔ Cl bs h (b : Int) := @decide_eq_true_iff _ (Classical.propDecidable _)
theorem clSet_len (bs : List S62) (h : Int) : (clSet bs h).length = bs.length := by simp [clSet]
theorem clSet_at (bs : List S62) (h : Int) (b : Nat) (hb : b < bs.length) : (clSet bs h).getD b false = clB bs h b := by
  rw [List.getD_eq_getElem?_getD]
  unfold clSet
  rw [List.getElem?_map, List.getElem?_range hb]
  rfl
/-- What holds of the set and of the work list. -/
structure LInv (bs : List S62) (h : Int) (s : List Bool) (t : List Int) : Prop where
  len : s.length = bs.length
  rng : ∀ x ∈ t, 0 ≤ x ∧ x < (bs.length : Int)
  head : s.getD h.toNat false = true
  sound : ∀ b : Nat, s.getD b false = true → Cl bs h (b : Int)
  snd2 : ∀ x ∈ t, alB bs x = true → Cl bs h x
  tails : ∀ x ∈ tailsOf bs h, alB bs x = true → s.getD x.toNat false = true ∨ x ∈ t
  clos : ∀ b : Nat, (b : Int) ≠ h → s.getD b false = true → ∀ p ∈ prevOf bs (b : Int), alB bs p = true → s.getD p.toNat false = true ∨ p ∈ t
section
variable {bs : List S62} {h : Int} {s : List Bool} {t t' : List Int} {x : Int}
theorem getD_set_b (s : List Bool) (i j : Nat) (hi : i < s.length) : (s.set i true).getD j false = if i = j then true else s.getD j false := by
  rw [List.getD_eq_getElem?_getD, List.getElem?_set, List.getD_eq_getElem?_getD]
  split
  · first | rfl | (rw [if_pos (by omega)]; rfl)
  · rfl
theorem LInv.skip (hI : LInv bs h s t) (hsub : ∀ y ∈ t', y ∈ t) (hcov : ∀ y ∈ t, y = x ∨ y ∈ t') (hx : s.getD x.toNat false = true ∨ alB bs x = false) : LInv bs h s t' := by
  have key : ∀ y, alB bs y = true → (s.getD y.toNat false = true ∨ y ∈ t) → (s.getD y.toNat false = true ∨ y ∈ t') := by
    intro y ha hy
    rcases hy with hy | hy
    · exact .inl hy
    · rcases hcov y hy with rfl | hy
      · rcases hx with hx | hx
        · exact .inl hx
        · rw [hx] at ha; cases ha
      · exact .inr hy
  exact ⟨hI.len, fun y hy => hI.rng y (hsub y hy), hI.head, hI.sound, fun y hy => hI.snd2 y (hsub y hy), fun y hy ha => key y ha (hI.tails y hy ha), fun b hb hs p hp ha => key p ha (hI.clos b hb hs p hp ha)⟩
theorem LInv.grow (hI : LInv bs h s t) (hs : s.getD x.toNat false = false) (ha : alB bs x = true) (hxt : x ∈ t) (hsub : ∀ y ∈ t', y ∈ t ∨ y ∈ prevOf bs x) (hcov : ∀ y ∈ t, y = x ∨ y ∈ t') (hpr : ∀ y ∈ prevOf bs x, y ∈ t') : LInv bs h (s.set x.toNat true) t' := by
  obtain ⟨x0, x1⟩ := hI.rng x hxt
  have hxl : x.toNat < s.length := by rw [hI.len]; omega
  have hxn : ((x.toNat : Nat) : Int) = x := by omega
  have hcx := hI.snd2 x hxt ha
  have hxh : x ≠ h := fun e => by rw [e, hI.head] at hs; cases hs
  have up : ∀ j : Nat, s.getD j false = true → (s.set x.toNat true).getD j false = true := fun j hj => by rw [getD_set_b _ _ _ hxl]; split <;> first | rfl | exact hj
  have key : ∀ y, (s.getD y.toNat false = true ∨ y ∈ t) → ((s.set x.toNat true).getD y.toNat false = true ∨ y ∈ t') := by
    intro y hy
    rcases hy with hy | hy
    · exact .inl (up _ hy)
    · rcases hcov y hy with rfl | hy
      · exact .inl (by rw [getD_set_b _ _ _ hxl, if_pos rfl])
      · exact .inr hy
  refine ⟨by rw [List.length_set]; exact hI.len, fun y hy => ?_, up _ hI.head, fun b hb => ?_, fun y hy hay => ?_, fun y hy hay => key y (hI.tails y hy hay), fun b hb hsb p hp hap => ?_⟩
  · rcases hsub y hy with hy | hy
    · exact hI.rng y hy
    · exact prevOf_range bs x y hy
  · rw [getD_set_b _ _ _ hxl] at hb
    split at hb
    · rename_i e
      rw [← e, hxn]; exact hcx
    · exact hI.sound b hb
  · rcases hsub y hy with hy | hy
    · exact hI.snd2 y hy hay
    · exact Cl.step hcx hxh hy hay
  · rw [getD_set_b _ _ _ hxl] at hsb
    split at hsb
    · rename_i e
      rw [← e, hxn] at hp
      exact .inr (hpr p hp)
    · exact key p (hI.clos b hb hsb p hp hap)
theorem LInv.done (hI : LInv bs h s []) (h0 : 0 ≤ h) (h1 : h < (bs.length : Int)) : s = clSet bs h := by
  have hcl : ∀ y, Cl bs h y → 0 ≤ y ∧ y < (bs.length : Int) ∧ s.getD y.toNat false = true := by
    intro y hy
    induction hy with
    | head => exact ⟨h0, h1, hI.head⟩
    | tail ht ha =>
      have hr := prevOf_range bs h _ (List.mem_filter.1 ht).1
      rcases hI.tails _ ht ha with e | e
      · exact ⟨hr.1, hr.2, e⟩
      · cases e
    | step hc hb hp ha ih =>
      rename_i b p
      have hr := prevOf_range bs b _ hp
      have e := ih
      have hbn : ((b.toNat : Nat) : Int) = b := by omega
      rcases hI.clos b.toNat (by rw [hbn]; exact hb) e.2.2 p (by rw [hbn]; exact hp) ha with e | e
      · exact ⟨hr.1, hr.2, e⟩
      · cases e
  refine List.ext_getElem (by rw [hI.len, clSet_len]) (fun j hj1 hj2 => ?_)
  have hjn : j < bs.length := by rw [← hI.len]; exact hj1
  have e1 : s.getD j false = s[j] := by rw [List.getD_eq_getElem?_getD, List.getElem?_eq_getElem hj1]; rfl
  have e2 : (clSet bs h).getD j false = (clSet bs h)[j] := by rw [List.getD_eq_getElem?_getD, List.getElem?_eq_getElem hj2]; rfl
  rw [← e1, ← e2, clSet_at bs h j hjn, Bool.eq_iff_iff, clB_iff]
  constructor
  · exact hI.sound j
  · intro hc
    have := (hcl _ hc).2.2
    rwa [Int.toNat_natCast] at this
theorem LInv.start (h0 : 0 ≤ h) (h1 : h < (bs.length : Int)) : LInv bs h ((List.replicate bs.length false).set h.toNat true) (tailsOf bs h) := by
  have hl : h.toNat < (List.replicate bs.length false).length := by simp; omega
  have hz : ∀ j : Nat, ((List.replicate bs.length false).set h.toNat true).getD j false = true → h.toNat = j := by
    intro j hj
    rw [getD_set_b _ _ _ hl] at hj
    split at hj
    · assumption
    · rw [List.getD_eq_getElem?_getD, List.getElem?_replicate] at hj
      split at hj <;> cases hj
  refine ⟨by simp, fun x hx => prevOf_range bs h x (List.mem_filter.1 hx).1, by rw [getD_set_b _ _ _ hl, if_pos rfl], fun b hb => ?_, fun x hx ha => Cl.tail hx ha, fun x hx _ => .inr hx, fun b hb hs => ?_⟩
  · have e := hz b hb
    have : (b : Int) = h := by omega
    rw [this]; exact Cl.head
  · have e := hz b hs
    exact absurd (by omega) hb
theorem domB_zero (bs : List S62) (b : Nat) : domB bs 0 b = (reachOf bs (-1)).getD b false := by
  unfold domB
  have : (reachOf bs ((0 : Nat) : Int)).getD b false = false := by
    unfold reachOf
    rw [if_pos (.inr rfl), List.getD_eq_getElem?_getD, List.getElem?_replicate]
    split <;> rfl
  rw [this]
  simp
/-- The blocks of a set, rising. -/
def idxL (s : List Bool) (i : Nat) : List Int := (((List.range s.length).drop i).filter fun b => s.getD b false).map fun (b : Nat) => (b : Int)
theorem idxL_end (s : List Bool) : idxL s s.length = [] := by unfold idxL; rw [List.drop_eq_nil_of_le (by simp)]; rfl
theorem idxL_succ (s : List Bool) {i : Nat} (hi : i < s.length) : idxL s i = if s.getD i false = true then (i : Int) :: idxL s (i + 1) else idxL s (i + 1) := by
  unfold idxL
  rw [List.drop_eq_getElem_cons (by simpa using hi), List.getElem_range, List.filter_cons]
  split
  · rfl
  · rfl
theorem idxL_len (s : List Bool) (i : Nat) : (idxL s i).length ≤ s.length := by
  unfold idxL
  rw [List.length_map]
  refine Nat.le_trans (List.length_filter_le _ _) ?_
  rw [List.length_drop, List.length_range]
  omega
noncomputable def loopAt (bs : List S62) (h : Nat) : List S86 := if tailsOf bs (h : Int) = [] then [] else [⟨(h : Int), idxL (clSet bs (h : Int)) 0⟩]
noncomputable def loopsTo (bs : List S62) (i : Nat) : List S86 := ((List.range bs.length).drop i).flatMap (loopAt bs)
theorem loopsTo_end (bs : List S62) : loopsTo bs bs.length = [] := by unfold loopsTo; rw [List.drop_eq_nil_of_le (by simp)]; rfl
theorem loopsTo_succ (bs : List S62) {i : Nat} (hi : i < bs.length) : loopsTo bs i = loopAt bs i ++ loopsTo bs (i + 1) := by
  unfold loopsTo
  rw [List.drop_eq_getElem_cons (by simpa using hi), List.getElem_range, List.flatMap_cons]
theorem loopAt_len (bs : List S62) (h : Nat) : (loopAt bs h).length ≤ 1 := by unfold loopAt; split <;> simp
end
section
variable {R : List S86} (n : ByteArray) (y : Int) (ps : List Int) (c : Int) (bs : List S62) (hg : gOk bs)
include hg
theorem impl3_f (h : Nat) (hh : h < bs.length) (out : List S86) (ho : out.length ≤ 1048576) (s : List Bool) (hs : s.length = bs.length) : ∀ (d i : Nat) (acc : List Int), i + d = s.length → acc.length + d ≤ 1048576 →
    Ev (fun k => impl_Loops.l0 k (domsTo bs bs.length) (reachOf bs (-1)) (out ++ [⟨(h : Int), acc ++ idxL s i⟩]) (bs.length : Int) ((h + 1 : Nat) : Int) n y ps c bs) R →
    Ev (fun k => impl_Loops.l3 k (domsTo bs bs.length) (reachOf bs (-1)) out s (bs.length : Int) (h : Int) (s.length : Int) (i : Int) n y ps c bs (h : Int) acc) R
  | 0, i, acc, hi, ha, hR => by
    have hb := hg.1
    obtain rfl : i = s.length := by omega
    rw [idxL_end, List.append_nil] at hR
    refine Ev.succ ?_
    simp only [impl_Loops.l3]
    rw [wrap64_nat (i := h) (by omega)]
    exact Ev.neg (by omega) (Ev.pos (by omega) hR)
  | d + 1, i, acc, hi, ha, hR => by
    have hb := hg.1
    have hlt : i < s.length := by omega
    rw [idxL_succ s hlt] at hR
    refine Ev.succ ?_
    simp only [impl_Loops.l3]
    rw [rdOf_eq, Int.toNat_natCast, wrap64_nat (i := i) (by omega)]
    refine Ev.pos (by omega) (Ev.pos (by omega) (Ev.pos (by omega) ?_))
    by_cases hc : s.getD i false = true
    · rw [if_pos hc] at hR
      refine Ev.pos hc (Ev.pos (by omega) (impl3_f h hh out ho s hs d (i + 1) _ (by omega) (by simp; omega) ?_))
      rw [List.append_assoc]
      exact hR
    · rw [if_neg hc] at hR
      exact Ev.neg hc (impl3_f h hh out ho s hs d (i + 1) _ (by omega) (by omega) hR)
theorem spec3_f (gs : List (List Int)) (h : Nat) (hh : h < bs.length) (out : List S86) (ho : out.length ≤ 1048576) (s : List Bool) (hs : s.length = bs.length) : ∀ (d i : Nat) (acc : List Int), i + d = s.length → acc.length + d ≤ 1048576 →
    Ev (fun k => spec_l4Loops.l0 k (domsTo bs bs.length) (out ++ [⟨(h : Int), acc ++ idxL s i⟩]) (bs.length : Int) ((h + 1 : Nat) : Int) gs (prevUp (rsOf bs) bs.length)) R →
    Ev (fun k => spec_l4Loops.l3 k (domsTo bs bs.length) out (bs.length : Int) (h : Int) s (i : Int) gs (prevUp (rsOf bs) bs.length) (h : Int) acc) R
  | 0, i, acc, hi, ha, hR => by
    have hb := hg.1
    obtain rfl : i = s.length := by omega
    rw [idxL_end, List.append_nil] at hR
    refine Ev.succ ?_
    simp only [spec_l4Loops.l3]
    rw [wrap64_nat (i := h) (by omega)]
    exact Ev.neg (by omega) (Ev.pos (by omega) hR)
  | d + 1, i, acc, hi, ha, hR => by
    have hb := hg.1
    have hlt : i < s.length := by omega
    rw [idxL_succ s hlt] at hR
    refine Ev.succ ?_
    simp only [spec_l4Loops.l3]
    rw [rdOf_eq, Int.toNat_natCast, wrap64_nat (i := i) (by omega)]
    refine Ev.pos (by omega) (Ev.pos (by omega) (Ev.pos (by omega) ?_))
    by_cases hc : s.getD i false = true
    · rw [if_pos hc] at hR
      refine Ev.pos hc (Ev.pos (by omega) (spec3_f gs h hh out ho s hs d (i + 1) _ (by omega) (by simp; omega) ?_))
      rw [List.append_assoc]
      exact hR
    · rw [if_neg hc] at hR
      exact Ev.neg hc (spec3_f gs h hh out ho s hs d (i + 1) _ (by omega) (by omega) hR)
theorem impl2_f (h : Nat) (hh : h < bs.length) (out : List S86) (ho : out.length ≤ 1048576) (hR : Ev (fun k => impl_Loops.l0 k (domsTo bs bs.length) (reachOf bs (-1)) (out ++ [⟨(h : Int), idxL (clSet bs (h : Int)) 0⟩]) (bs.length : Int) ((h + 1 : Nat) : Int) n y ps c bs) R) :
    ∀ (m : Nat) (s : List Bool) (t : List Int), fc s * (bs.length + 1) + t.length ≤ m → m ≤ 4000000000000 → LInv bs (h : Int) s t → Ev (fun k => impl_Loops.l2 k (domsTo bs bs.length) (reachOf bs (-1)) out (h : Int) s t (bs.length : Int) (h : Int) n y ps c bs) R := by
  have hb := hg.1
  have hrl := reachOf_len bs (-1)
  intro m
  induction m with
  | zero =>
    intro s t hm _ hI
    obtain rfl : t = [] := List.eq_nil_of_length_eq_zero (by omega)
    have hs := hI.done (by omega) (by omega)
    refine Ev.succ ?_
    simp only [impl_Loops.l2]
    refine Ev.neg (by simp) ?_
    have := impl3_f n y ps c bs hg h hh out ho s hI.len s.length 0 [] (by omega) (by have := hI.len; simp; omega) (by rw [List.nil_append, hs]; exact hR)
    exact this
  | succ m ih =>
    intro s t hm h9 hI
    by_cases ht : t = []
    · subst ht
      have hs := hI.done (by omega) (by omega)
      refine Ev.succ ?_
      simp only [impl_Loops.l2]
      refine Ev.neg (by simp) ?_
      have := impl3_f n y ps c bs hg h hh out ho s hI.len s.length 0 [] (by omega) (by have := hI.len; simp; omega) (by rw [List.nil_append, hs]; exact hR)
      exact this
    · obtain ⟨u, x, rfl⟩ : ∃ u x, t = u ++ [x] := ⟨t.dropLast, t.getLast ht, (List.dropLast_concat_getLast ht).symm⟩
      rw [List.length_append, List.length_singleton] at hm
      have hx := hI.rng x (by simp)
      have e1 : wrap64 (((u ++ [x]).length : Int) - 1) = (u.length : Int) := by rw [wrap64_id (by rw [List.length_append, List.length_singleton]; omega) (by rw [List.length_append, List.length_singleton]; omega), List.length_append, List.length_singleton]; omega
      have e2 : rd (u ++ [x]) (u.length : Int) = x := by simp [rd]
      have e3 : (u ++ [x]).take (u.length : Int).toNat = u := by simp
      have hsub : ∀ z ∈ u, z ∈ u ++ [x] := fun z hz => List.mem_append_left _ hz
      have hcov : ∀ z ∈ u ++ [x], z = x ∨ z ∈ u := fun z hz => by rcases List.mem_append.1 hz with hz | hz; exact .inr hz; exact .inl (List.mem_singleton.1 hz)
      refine Ev.succ ?_
      simp only [impl_Loops.l2]
      rw [e1, e2, e3, rdOf_eq, rdOf_eq]
      refine Ev.pos (by rw [List.length_append, List.length_singleton]; omega) (Ev.pos (by omega) (Ev.pos (by rw [List.length_append, List.length_singleton]; omega) (Ev.pos (by rw [List.length_append, List.length_singleton]; omega) (Ev.some_bind (Ev.pos hx.1 (Ev.pos (by rw [hI.len]; omega) ?_))))))
      by_cases hc : s.getD x.toNat false = true
      · exact Ev.pos hc (ih s u (by omega) (by omega) (hI.skip hsub hcov (.inl hc)))
      · refine Ev.neg hc (Ev.pos (by rw [hrl]; omega) ?_)
        by_cases ha : (reachOf bs (-1)).getD x.toNat false = true
        · have hpl := prevOf_len bs x
          have hfc := fc_set s x.toNat (by rw [hI.len]; omega) (by simpa using hc)
          have hmul : fc s * (bs.length + 1) = fc (s.set x.toNat true) * (bs.length + 1) + (bs.length + 1) := by rw [← hfc, Nat.add_mul, Nat.one_mul]
          refine Ev.pos ha (Ev.bind (implPrev_f n y ps c bs x hg) (Ev.pos (by omega) (ih (s.set x.toNat true) (u ++ prevOf bs x) (by rw [List.length_append]; omega) (by omega) ?_)))
          exact hI.grow (by simpa using hc) ha (by simp) (fun z hz => by rcases List.mem_append.1 hz with hz | hz; exact .inl (hsub z hz); exact .inr hz) (fun z hz => by rcases hcov z hz with hz | hz; exact .inl hz; exact .inr (List.mem_append_left _ hz)) (fun z hz => List.mem_append_right _ hz)
        · exact Ev.neg ha (ih s u (by omega) (by omega) (hI.skip hsub hcov (.inr (by unfold alB; simpa using ha))))
theorem spec2_f (gs : List (List Int)) (h : Nat) (hh : h < bs.length) (out : List S86) (ho : out.length ≤ 1048576) (hR : Ev (fun k => spec_l4Loops.l0 k (domsTo bs bs.length) (out ++ [⟨(h : Int), idxL (clSet bs (h : Int)) 0⟩]) (bs.length : Int) ((h + 1 : Nat) : Int) gs (prevUp (rsOf bs) bs.length)) R) :
    ∀ (m : Nat) (s : List Bool) (t : List Int), fc s * (bs.length + 1) + t.length ≤ m → m ≤ 4000000000000 → LInv bs (h : Int) s t → Ev (fun k => spec_l4Loops.l2 k (domsTo bs bs.length) out (bs.length : Int) (h : Int) s t gs (prevUp (rsOf bs) bs.length)) R := by
  have hb := hg.1
  have hdl : (domsTo bs bs.length).length = bs.length := by simp [domsTo]
  have hpu : (prevUp (rsOf bs) bs.length).length = bs.length := by rw [prevUp_len, rsOf_len]
  intro m
  induction m with
  | zero =>
    intro s t hm _ hI
    obtain rfl : t = [] := List.eq_nil_of_length_eq_zero (by omega)
    have hs := hI.done (by omega) (by omega)
    refine Ev.succ ?_
    simp only [spec_l4Loops.l2]
    refine Ev.neg (by simp) ?_
    exact spec3_f bs hg gs h hh out ho s hI.len s.length 0 [] (by omega) (by have := hI.len; simp; omega) (by rw [List.nil_append, hs]; exact hR)
  | succ m ih =>
    intro s t hm h9 hI
    cases t with
    | nil =>
      have hs := hI.done (by omega) (by omega)
      refine Ev.succ ?_
      simp only [spec_l4Loops.l2]
      refine Ev.neg (by simp) ?_
      exact spec3_f bs hg gs h hh out ho s hI.len s.length 0 [] (by omega) (by have := hI.len; simp; omega) (by rw [List.nil_append, hs]; exact hR)
    | cons x u =>
      rw [List.length_cons] at hm
      have hx := hI.rng x (by simp)
      have e2 : rd (x :: u) 0 = x := rfl
      have e3 : (x :: u).drop (1 : Int).toNat = u := rfl
      have hsub : ∀ z ∈ u, z ∈ x :: u := fun z hz => List.mem_cons_of_mem _ hz
      have hcov : ∀ z ∈ x :: u, z = x ∨ z ∈ u := fun z hz => List.mem_cons.1 hz
      obtain ⟨xn, rfl⟩ : ∃ xn : Nat, x = (xn : Int) := ⟨x.toNat, by omega⟩
      have hrow := rdRow bs 0 (by omega)
      refine Ev.succ ?_
      simp only [spec_l4Loops.l2]
      rw [e2, e3, show ((0 : Nat) : Int) = 0 from rfl] at *
      rw [hrow, rdPrev, rdRow2 bs 0 xn (by omega), domB_zero, domRow_len, hdl, hpu, rdOf_eq, Int.toNat_natCast]
      refine Ev.pos (by rw [List.length_cons]; omega) (Ev.pos (by rw [List.length_cons]; omega) (Ev.pos (by rw [List.length_cons]; omega) (Ev.some_bind (Ev.pos hx.1 (Ev.pos (by rw [hI.len]; omega) ?_)))))
      by_cases hc : s.getD xn false = true
      · exact Ev.pos hc (ih s u (by omega) (by omega) (hI.skip hsub hcov (.inl (by rw [Int.toNat_natCast]; exact hc))))
      · refine Ev.neg hc (Ev.pos (by omega) (Ev.pos (by omega) ?_))
        by_cases ha : (reachOf bs (-1)).getD xn false = true
        · have hpl := prevOf_len bs (xn : Int)
          have hfc := fc_set s xn (by rw [hI.len]; omega) (by simpa using hc)
          have hmul : fc s * (bs.length + 1) = fc (s.set xn true) * (bs.length + 1) + (bs.length + 1) := by rw [← hfc, Nat.add_mul, Nat.one_mul]
          refine Ev.pos ha (Ev.some_bind (Ev.pos (by simp; omega) (Ev.some_bind (Ev.pos (by omega) (Ev.pos (by simp; omega) ?_)))))
          rw [List.nil_append]
          refine ih (s.set xn true) (u ++ prevOf bs (xn : Int)) (by rw [List.length_append]; omega) (by omega) ?_
          have := hI.grow (x := (xn : Int)) (t' := u ++ prevOf bs (xn : Int)) (by rw [Int.toNat_natCast]; simpa using hc) (by unfold alB; rw [Int.toNat_natCast]; exact ha) (by simp) (fun z hz => by rcases List.mem_append.1 hz with hz | hz; exact .inl (hsub z hz); exact .inr hz) (fun z hz => by rcases hcov z hz with hz | hz; exact .inl hz; exact .inr (List.mem_append_left _ hz)) (fun z hz => List.mem_append_right _ hz)
          rwa [Int.toNat_natCast] at this
        · exact Ev.neg ha (ih s u (by omega) (by omega) (hI.skip hsub hcov (.inr (by unfold alB; rw [Int.toNat_natCast]; simpa using ha))))
end
section
variable {R : List S86} (n : ByteArray) (y : Int) (ps : List Int) (c : Int) (bs : List S62) (hg : gOk bs)
include hg
theorem meas_le (s : List Bool) (hs : s.length = bs.length) (t : List Int) (ht : t.length ≤ bs.length) : fc s * (bs.length + 1) + t.length ≤ 4000000000000 := by
  have hb := hg.1
  have h1 := fc_le s
  have h2 : fc s * (bs.length + 1) ≤ 1048576 * 1048577 := Nat.mul_le_mul (by omega) (by omega)
  omega
omit hg in
theorem tails_len (h : Int) : (tailsOf bs h).length ≤ bs.length := Nat.le_trans (List.length_filter_le _ _) (prevOf_len bs h)
theorem impl1_f (h : Nat) (hh : h < bs.length) (out : List S86) (ho : out.length ≤ 1048576) (hR : Ev (fun k => impl_Loops.l0 k (domsTo bs bs.length) (reachOf bs (-1)) (out ++ loopAt bs h) (bs.length : Int) ((h + 1 : Nat) : Int) n y ps c bs) R) :
    ∀ (d i : Nat) (acc : List Int), i + d = (prevOf bs (h : Int)).length → acc.length + d ≤ 1048576 → acc ++ ((prevOf bs (h : Int)).drop i).filter (fun p => domB bs h p.toNat) = tailsOf bs (h : Int) →
      Ev (fun k => impl_Loops.l1 k (domsTo bs bs.length) (reachOf bs (-1)) out (h : Int) (List.replicate bs.length false) acc (bs.length : Int) (h : Int) (prevOf bs (h : Int)) ((prevOf bs (h : Int)).length : Int) (i : Int) n y ps c bs) R
  | 0, i, acc, hi, ha, he => by
    have hb := hg.1
    rw [List.drop_eq_nil_of_le (by omega), List.filter_nil, List.append_nil] at he
    subst he
    refine Ev.succ ?_
    simp only [impl_Loops.l1]
    rw [wrap64_nat (i := h) (by omega)]
    refine Ev.neg (by omega) ?_
    by_cases hz : tailsOf bs (h : Int) = []
    · have e : loopAt bs h = [] := by unfold loopAt; rw [if_pos hz]
      rw [e, List.append_nil] at hR
      exact Ev.pos (by rw [hz]; rfl) hR
    · have e : loopAt bs h = [⟨(h : Int), idxL (clSet bs (h : Int)) 0⟩] := by unfold loopAt; rw [if_neg hz]
      rw [e] at hR
      have hpos : 0 < (tailsOf bs (h : Int)).length := List.length_pos_iff.2 hz
      refine Ev.neg (by omega) (Ev.pos (by omega) (Ev.pos (by simp; omega) ?_))
      exact impl2_f n y ps c bs hg h hh out ho hR _ _ _ (Nat.le_refl _) (meas_le bs hg _ (by simp) _ (tails_len bs _)) (LInv.start (by omega) (by omega))
  | d + 1, i, acc, hi, ha, he => by
    have hb := hg.1
    have hlt : i < (prevOf bs (h : Int)).length := by omega
    have e1 : rd (prevOf bs (h : Int)) (i : Int) = (prevOf bs (h : Int))[i] := by simp [rd, List.getElem?_eq_getElem hlt]
    have hx := prevOf_range bs (h : Int) _ (List.getElem_mem hlt)
    have hdl : (domsTo bs bs.length).length = bs.length := by simp [domsTo]
    have hpl := prevOf_len bs (h : Int)
    rw [List.drop_eq_getElem_cons hlt, List.filter_cons] at he
    obtain ⟨xn, hxn⟩ : ∃ xn : Nat, (prevOf bs (h : Int))[i] = (xn : Int) := ⟨(prevOf bs (h : Int))[i].toNat, by omega⟩
    rw [hxn] at e1 hx he
    rw [Int.toNat_natCast] at he
    refine Ev.succ ?_
    simp only [impl_Loops.l1]
    rw [e1, rdRow bs h hh, rdRow2 bs h xn (by omega), domRow_len, hdl, wrap64_nat (i := i) (by omega)]
    refine Ev.pos (by omega) (Ev.pos (by omega) (Ev.pos (by omega) (Ev.pos (by omega) (Ev.pos (by omega) (Ev.pos (by omega) (Ev.pos (by omega) ?_))))))
    by_cases hc : domB bs h xn = true
    · rw [if_pos hc] at he
      exact Ev.pos hc (Ev.pos (by omega) (impl1_f h hh out ho hR d (i + 1) _ (by omega) (by simp; omega) (by rw [List.append_assoc]; exact he)))
    · rw [if_neg hc] at he
      exact Ev.neg hc (impl1_f h hh out ho hR d (i + 1) _ (by omega) (by omega) he)
theorem spec1_f (gs : List (List Int)) (h : Nat) (hh : h < bs.length) (out : List S86) (ho : out.length ≤ 1048576) (hR : Ev (fun k => spec_l4Loops.l0 k (domsTo bs bs.length) (out ++ loopAt bs h) (bs.length : Int) ((h + 1 : Nat) : Int) gs (prevUp (rsOf bs) bs.length)) R) :
    ∀ (d i : Nat) (acc : List Int), i + d = (prevOf bs (h : Int)).length → acc.length + d ≤ 1048576 → acc ++ ((prevOf bs (h : Int)).drop i).filter (fun p => domB bs h p.toNat) = tailsOf bs (h : Int) →
      Ev (fun k => spec_l4Loops.l1 k (domsTo bs bs.length) out (bs.length : Int) (h : Int) acc (i : Int) gs (prevUp (rsOf bs) bs.length)) R
  | 0, i, acc, hi, ha, he => by
    have hb := hg.1
    have hpu : (prevUp (rsOf bs) bs.length).length = bs.length := by rw [prevUp_len, rsOf_len]
    rw [List.drop_eq_nil_of_le (by omega), List.filter_nil, List.append_nil] at he
    subst he
    refine Ev.succ ?_
    simp only [spec_l4Loops.l1]
    rw [rdPrev, hpu, wrap64_nat (i := h) (by omega), Int.toNat_natCast]
    refine Ev.pos (by omega) (Ev.pos (by omega) (Ev.neg (by omega) ?_))
    by_cases hz : tailsOf bs (h : Int) = []
    · have e : loopAt bs h = [] := by unfold loopAt; rw [if_pos hz]
      rw [e, List.append_nil] at hR
      exact Ev.pos (by rw [hz]; rfl) hR
    · have e : loopAt bs h = [⟨(h : Int), idxL (clSet bs (h : Int)) 0⟩] := by unfold loopAt; rw [if_neg hz]
      rw [e] at hR
      have hpos : 0 < (tailsOf bs (h : Int)).length := List.length_pos_iff.2 hz
      refine Ev.neg (by omega) (Ev.pos (by omega) (Ev.pos (by omega) (Ev.some_bind (Ev.pos (by simp; omega) ?_))))
      exact spec2_f bs hg gs h hh out ho hR _ _ _ (Nat.le_refl _) (meas_le bs hg _ (by simp) _ (tails_len bs _)) (LInv.start (by omega) (by omega))
  | d + 1, i, acc, hi, ha, he => by
    have hb := hg.1
    have hpu : (prevUp (rsOf bs) bs.length).length = bs.length := by rw [prevUp_len, rsOf_len]
    have hlt : i < (prevOf bs (h : Int)).length := by omega
    have e1 : rd (prevOf bs (h : Int)) (i : Int) = (prevOf bs (h : Int))[i] := by simp [rd, List.getElem?_eq_getElem hlt]
    have hx := prevOf_range bs (h : Int) _ (List.getElem_mem hlt)
    have hdl : (domsTo bs bs.length).length = bs.length := by simp [domsTo]
    have hpl := prevOf_len bs (h : Int)
    rw [List.drop_eq_getElem_cons hlt, List.filter_cons] at he
    obtain ⟨xn, hxn⟩ : ∃ xn : Nat, (prevOf bs (h : Int))[i] = (xn : Int) := ⟨(prevOf bs (h : Int))[i].toNat, by omega⟩
    rw [hxn] at e1 hx he
    rw [Int.toNat_natCast] at he
    refine Ev.succ ?_
    simp only [spec_l4Loops.l1]
    rw [rdPrev, hpu, e1, rdRow bs h hh, rdRow2 bs h xn (by omega), domRow_len, hdl, wrap64_nat (i := i) (by omega)]
    refine Ev.pos (by omega) (Ev.pos (by omega) (Ev.pos (by omega) (Ev.pos (by omega) (Ev.pos (by omega) (Ev.pos (by omega) (Ev.pos (by omega) ?_))))))
    by_cases hc : domB bs h xn = true
    · rw [if_pos hc] at he
      exact Ev.pos hc (Ev.pos (by omega) (spec1_f gs h hh out ho hR d (i + 1) _ (by omega) (by simp; omega) (by rw [List.append_assoc]; exact he)))
    · rw [if_neg hc] at he
      exact Ev.neg hc (spec1_f gs h hh out ho hR d (i + 1) _ (by omega) (by omega) he)
theorem impl0_f : ∀ (d i : Nat) (out : List S86), i + d = bs.length → out.length ≤ i → Ev (fun k => impl_Loops.l0 k (domsTo bs bs.length) (reachOf bs (-1)) out (bs.length : Int) (i : Int) n y ps c bs) (out ++ loopsTo bs i)
  | 0, i, out, hi, ho => by
    obtain rfl : i = bs.length := by omega
    rw [loopsTo_end, List.append_nil]
    refine Ev.succ ?_
    simp only [impl_Loops.l0]
    exact Ev.neg (by omega) (Ev.now _)
  | d + 1, i, out, hi, ho => by
    have hb := hg.1
    have hlt : i < bs.length := by omega
    have hla := loopAt_len bs i
    have ih := impl0_f (d) (i + 1) (out ++ loopAt bs i) (by omega) (by rw [List.length_append]; omega)
    rw [loopsTo_succ bs hlt, ← List.append_assoc]
    have hpl := prevOf_len bs (i : Int)
    refine Ev.succ ?_
    simp only [impl_Loops.l0]
    rw [Int.toNat_natCast]
    exact Ev.pos (by omega) (Ev.pos (by omega) (Ev.pos (by omega) (Ev.bind (implPrev_f n y ps c bs (i : Int) hg) (impl1_f n y ps c bs hg i hlt out (by omega) ih (prevOf bs (i : Int)).length 0 [] (by omega) (by simp; omega) rfl))))
theorem spec0_f (gs : List (List Int)) : ∀ (d i : Nat) (out : List S86), i + d = bs.length → out.length ≤ i → Ev (fun k => spec_l4Loops.l0 k (domsTo bs bs.length) out (bs.length : Int) (i : Int) gs (prevUp (rsOf bs) bs.length)) (out ++ loopsTo bs i)
  | 0, i, out, hi, ho => by
    obtain rfl : i = bs.length := by omega
    rw [loopsTo_end, List.append_nil]
    refine Ev.succ ?_
    simp only [spec_l4Loops.l0]
    exact Ev.neg (by omega) (Ev.now _)
  | d + 1, i, out, hi, ho => by
    have hb := hg.1
    have hlt : i < bs.length := by omega
    have hla := loopAt_len bs i
    have ih := spec0_f gs d (i + 1) (out ++ loopAt bs i) (by omega) (by rw [List.length_append]; omega)
    rw [loopsTo_succ bs hlt, ← List.append_assoc]
    have hpl := prevOf_len bs (i : Int)
    refine Ev.succ ?_
    simp only [spec_l4Loops.l0]
    exact Ev.pos (by omega) (spec1_f bs hg gs i hlt out (by omega) ih (prevOf bs (i : Int)).length 0 [] (by omega) (by simp; omega) rfl)
theorem implLoops_f : Ev (fun k => impl_Loops.f k n y ps c bs) (loopsTo bs 0) := by
  unfold impl_Loops.f
  have := impl0_f n y ps c bs hg bs.length 0 [] (by omega) (by simp)
  rw [List.nil_append] at this
  exact Ev.bind (implDoms_f n y ps c bs hg) (Ev.bind (implReach_f n y ps c (-1) bs hg) this)
theorem specLoops_f : Ev (fun k => spec_Loops.f k n y ps c bs) (loopsTo bs 0) := by
  unfold spec_Loops.f
  by_cases hz : (bs.length : Int) = 0
  · have e : loopsTo bs 0 = [] := by
      have := loopsTo_end bs
      rw [show bs.length = 0 by omega] at this
      exact this
    rw [e]
    exact Ev.pos hz (Ev.some_bind (Ev.now _))
  · refine Ev.neg hz (Ev.bind (l4Build_f n y ps c bs hg) (Ev.bind (specDoms_f _ bs hg) (Ev.bind ?_ (Ev.now _))))
    unfold spec_l4Loops.f
    rw [rsOf_len]
    have := spec0_f bs hg (rsOf bs) bs.length 0 [] (by omega) (by simp)
    rw [List.nil_append] at this
    exact Ev.some_bind this
end
end Go.Proofs.Ytoedcnhgobbnfaa.All

/- Plain laws: rows of loops compared with themselves, marked, and found marked. -/
namespace Go.Proofs.Ytoedcnhgobbnfaa.All
open Go.RowKit Go.Proofs.YtoedcnhgobbnfaaW.PrintWords Go.Proofs.YtoedcnhgobbnfaaW.PrintLast Go.Proofs.YtoedcnhgobbnfaaW.PrintMore
set_option linter.unusedVariables false
set_option linter.unusedSimpArgs false
theorem eqLoopS_f (l : List S86) (hl : l.length ≤ 1048576) (hb : ∀ y ∈ l, y.f1.length ≤ 1048576) : Ev (fun k => laws_eqLoopS.f k l l) true := by
  unfold laws_eqLoopS.f
  refine Ev.pos rfl (all_gen l.length (fun k i => laws_eqLoopS.l0 k l l i) (fun i hi h => ?_) ?_)
  · refine Ev.succ ?_
    simp only [laws_eqLoopS.l0]
    rw [wrap64_nat (by omega)]
    have hm : (rd_T86 l i).f1.length ≤ 1048576 := hb _ (by simp only [rd_T86, Int.toNat_natCast]; rw [getD_eq hi]; exact List.getElem_mem hi)
    refine Ev.pos (by omega) (Ev.pos (by omega) (Ev.pos (by omega) (Ev.bind (a := true) ?_ (Ev.pos rfl h))))
    unfold laws_eqLoop.f
    exact Ev.pos rfl (Ev.bind (eqInt64S_f _ (by omega)) (Ev.pos rfl (Ev.now _)))
  · refine Ev.succ ?_
    simp only [laws_eqLoopS.l0]
    exact Ev.neg (by omega) (Ev.now _)
theorem heldI_f (a : Int) (n : Nat) (h0 : 0 ≤ a) (hl : a + n ≤ 5000000000000) : Ev (fun k => laws_heldInt64S.f k (mkI a n) a) (a + (n : Nat)) := by
  unfold laws_heldInt64S.f
  have key := for_gen (a + (n : Nat)) n (fun k i => laws_heldInt64S.l0 k (mkI a n) (a + i) i) (fun i hi h => ?_) ?_
  · simpa using key
  · refine Ev.succ ?_
    simp only [laws_heldInt64S.l0]
    rw [mkI_at a n i hi]
    refine Ev.pos (by rw [mkI_length]; omega) (Ev.pos (by omega) (Ev.pos rfl ?_))
    rw [wrap64_nat (by omega), wrap64_id (by omega) (by omega)]
    have e : a + ((i + 1 : Nat) : Int) = a + (i : Int) + 1 := by omega
    rw [e] at h
    exact h
  · refine Ev.succ ?_
    simp only [laws_heldInt64S.l0]
    exact Ev.neg (by rw [mkI_length]; omega) (Ev.now _)
theorem mkL_rd : ∀ (a : Int) (xs : List S86) (j : Nat), j < xs.length → (mkL a xs).getD j z86 = ⟨a + (cntLp (xs.take j) : Nat), mkI (a + (cntLp (xs.take j) : Nat) + 1) (xs.getD j z86).f1.length⟩
  | a, [], j, h => by simp at h
  | a, x :: xs, 0, _ => by simp [mkL, cntLp]
  | a, x :: xs, j + 1, h => by
    have ih := mkL_rd (a + (1 + x.f1.length : Nat)) xs j (by simpa using h)
    have e : a + (1 + x.f1.length : Nat) + (cntLp (xs.take j) : Nat) = a + (cntLp ((x :: xs).take (j + 1)) : Nat) := by
      rw [List.take_succ_cons]; unfold cntLp; rw [List.map_cons, List.sum_cons]; omega
    rw [mkL, List.getD_cons_succ, ih, e, List.getD_cons_succ]
theorem heldLoopS_f (xs : List S86) (a : Int) (h0 : 0 ≤ a) (hl : a + (cntLp xs : Nat) ≤ 4000000000000) : Ev (fun k => laws_heldLoopS.f k (mkL a xs) a) (a + (cntLp xs : Nat)) := by
  unfold laws_heldLoopS.f
  have hlen := cntLp_len xs
  have key := for_gen (a + (cntLp xs : Nat)) xs.length (fun k i => laws_heldLoopS.l0 k (mkL a xs) (a + (cntLp (xs.take i.toNat) : Nat)) i) (fun i hi h => ?_) ?_
  · simpa [cntLp] using key
  · have htk := cntLp_take xs i hi
    have hle := cntLp_le xs (i + 1)
    have hrd : rd_T86 (mkL a xs) (i : Int) = ⟨a + (cntLp (xs.take i) : Nat), mkI (a + (cntLp (xs.take i) : Nat) + 1) (xs.getD i z86).f1.length⟩ := by
      simp only [rd_T86, Int.toNat_natCast]; exact mkL_rd a xs i hi
    obtain ⟨m, hm⟩ : ∃ m, m = (xs.getD i z86).f1.length := ⟨_, rfl⟩
    rw [← hm] at hrd htk
    refine Ev.succ ?_
    simp only [laws_heldLoopS.l0]
    rw [hrd, Int.toNat_natCast, wrap64_nat (by omega), wrap64_id (x := a + (cntLp (xs.take i) : Nat) + 1) (by omega) (by omega)]
    refine Ev.pos (by rw [mkL_length]; omega) (Ev.pos (by omega) (Ev.pos rfl (Ev.bind (heldI_f _ m (by omega) (by omega)) (Ev.neg (by omega) ?_))))
    have e : a + (cntLp (xs.take (((i + 1 : Nat) : Int)).toNat) : Nat) = a + (cntLp (xs.take i) : Nat) + 1 + (m : Nat) := by rw [Int.toNat_natCast, htk]; omega
    rw [e] at h
    exact h
  · refine Ev.succ ?_
    simp only [laws_heldLoopS.l0]
    refine Ev.neg (by rw [mkL_length]; omega) ?_
    rw [Int.toNat_natCast, List.take_length]
    exact Ev.now _
theorem cntLp_bound (B : Nat) : ∀ (xs : List S86), (∀ y ∈ xs, y.f1.length ≤ B) → cntLp xs ≤ xs.length * (1 + B)
  | [], _ => by simp [cntLp]
  | x :: xs, h => by
    have ih := cntLp_bound B xs (fun y hy => h y (List.mem_cons_of_mem _ hy))
    have hx := h x (List.mem_cons_self ..)
    have e : cntLp (x :: xs) = 1 + x.f1.length + cntLp xs := by unfold cntLp; rw [List.map_cons, List.sum_cons]
    rw [e, List.length_cons, Nat.add_mul]
    omega
theorem loopsTo_len (bs : List S62) : ∀ (d i : Nat), i + d = bs.length → (loopsTo bs i).length ≤ d
  | 0, i, h => by
    obtain rfl : i = bs.length := by omega
    rw [loopsTo_end]
    exact Nat.le_refl _
  | d + 1, i, h => by
    rw [loopsTo_succ bs (by omega), List.length_append]
    have h1 := loopAt_len bs i
    have h2 := loopsTo_len bs d (i + 1) (by omega)
    omega
theorem loopsTo_mem (bs : List S62) (i : Nat) : ∀ y ∈ loopsTo bs i, y.f1.length ≤ bs.length := by
  intro y hy
  unfold loopsTo at hy
  obtain ⟨h, _, hy⟩ := List.mem_flatMap.1 hy
  unfold loopAt at hy
  split at hy
  · cases hy
  · rw [List.mem_singleton.1 hy]
    have h1 := idxL_len (clSet bs (h : Int)) 0
    rwa [clSet_len] at h1
end Go.Proofs.Ytoedcnhgobbnfaa.All

/- FnExactLoops: the law walked by hand is true of all arguments. -/
namespace Go.Proofs.Ytoedcnhgobbnfaa.Pure
open Go.Proofs.Ytoedcnhgobbnfaa.All
open Go.RowKit Go.Proofs.YtoedcnhgobbnfaaW.PrintWords Go.Proofs.YtoedcnhgobbnfaaW.PrintLast Go.Proofs.YtoedcnhgobbnfaaW.PrintMore
set_option linter.unusedVariables false
set_option linter.unusedSimpArgs false
theorem FnExactLoops (a0_0 : ByteArray) (a0_1 : Int) (l0_2 : List Int) (a0_3 : Int) (l0_4 : List S96) (h0 : a0_0.size ≤ 9223372036854775807) (_ : (Lit.int .i64 a0_1).wf = true) (h2 : l0_2.length ≤ 9223372036854775807 ∧ ∀ y ∈ l0_2, (Lit.int .i64 y).wf = true) (_ : (Lit.int .i64 a0_3).wf = true) (h4 : l0_4.length ≤ 9223372036854775807 ∧ ∀ y ∈ l0_4, ok96 y) :
    ∃ k, laws_FnExactLoops.f k a0_0 a0_1 l0_2 a0_3 l0_4 = some true := by
  refine Ev.rounds ?_
  obtain ⟨r, hr, hc⟩ := szFunc_f a0_0 a0_1 l0_2 a0_3 l0_4 h0 h2.1 (lBlockS_ok h4)
  unfold laws_FnExactLoops.f
  refine Ev.bind hr ?_
  by_cases hneg : r < 0
  · exact Ev.pos hneg (Ev.now _)
  refine Ev.neg hneg ?_
  have hs : a0_0.size + l0_2.length + sBlockS l0_4 ≤ 1048576 := by omega
  have ht := toFunc_f a0_0 a0_1 l0_2 a0_3 l0_4 hs
  have hb := bBlock_of l0_4 (by omega)
  have hc := cnt_of_s l0_4
  have hl : (l0_4.map iBlock).length ≤ 1048576 := by rw [List.length_map]; unfold sBlockS at hs; omega
  have hg : gOk (l0_4.map iBlock) := ⟨hl, hb⟩
  have hS := specLoops_f a0_0 a0_1 l0_2 a0_3 (l0_4.map iBlock) hg
  have hI := implLoops_f a0_0 a0_1 l0_2 a0_3 (l0_4.map iBlock) hg
  have hyl := loopsTo_len (l0_4.map iBlock) (l0_4.map iBlock).length 0 (by omega)
  have hym := loopsTo_mem (l0_4.map iBlock) 0
  obtain ⟨y, hy⟩ : ∃ y, y = loopsTo (l0_4.map iBlock) 0 := ⟨_, rfl⟩
  rw [← hy] at hS hI hyl hym
  have hcb := cntLp_bound 1048576 y (fun z hz => Nat.le_trans (hym z hz) hl)
  have hcm : y.length * (1 + 1048576) ≤ 1048576 * 1048577 := Nat.mul_le_mul (by omega) (by omega)
  have hE := eqLoopS_f y (by omega) (fun z hz => Nat.le_trans (hym z hz) hl)
  have hM : laws_markLoopS.f y 1 = some ((1 : Int) + (cntLp y : Nat), mkL 1 y) := by
    unfold laws_markLoopS.f
    rw [if_pos (by omega), if_pos (by omega)]
  have hH := heldLoopS_f y 1 (by omega) (by omega)
  have hF := eqFunc_f a0_0 a0_1 l0_2 a0_3 (l0_4.map iBlock) (by omega) hl hb
  have hK : laws_markFunc.f a0_0 a0_1 l0_2 a0_3 (l0_4.map iBlock) 1 = some ((1 : Int) + (cntL_int64 l0_2 : Nat) + (cntL_Block (l0_4.map iBlock) : Nat)) := by
    have e : cntL_int64 l0_2 = l0_2.length := rfl
    unfold laws_markFunc.f
    rw [if_pos (by omega), if_pos (by omega)]
  exact Ev.bind ht (Ev.bind hS (Ev.bind hI (Ev.bind hE (Ev.pos rfl (Ev.bind hF (Ev.pos rfl (Ev.eq_bind hK (Ev.neg (by omega) (Ev.eq_bind hM (Ev.bind hH (Ev.neg (by omega) (Ev.pos rfl (Ev.now _)))))))))))))
end Go.Proofs.Ytoedcnhgobbnfaa.Pure

