/- Part 2 of the proof of FnExactOrder: functions of the translation with what they return, and plain laws of these. Written by programs of this session over the kit's print, and by hand. -/
import Derived.Test.YtoedcnhgobbnfaaProg
import Derived.Test.YtoedcnhgobbnfaaCFnExactOrderWApart
import Derived.Test.YtoedcnhgobbnfaaCFnExactOrderWArr
import Derived.Test.YtoedcnhgobbnfaaCFnExactOrderWAt
import Derived.Test.YtoedcnhgobbnfaaCFnExactOrderWFoot
import Derived.Test.YtoedcnhgobbnfaaCFnExactOrderWFootNe
import Derived.Test.YtoedcnhgobbnfaaCFnExactOrderWGuard
import Derived.Test.YtoedcnhgobbnfaaCFnExactOrderWKept
import Derived.Test.YtoedcnhgobbnfaaCFnExactOrderWLast
import Derived.Test.YtoedcnhgobbnfaaCFnExactOrderWMore
import Derived.Test.YtoedcnhgobbnfaaCFnExactOrderWN
import Derived.Test.YtoedcnhgobbnfaaCFnExactOrderWNEv
import Derived.Test.YtoedcnhgobbnfaaCFnExactOrderWQPut
import Derived.Test.YtoedcnhgobbnfaaCFnExactOrderWRepsOne
import Derived.Test.YtoedcnhgobbnfaaCFnExactOrderWShare
import Derived.Test.YtoedcnhgobbnfaaCFnExactOrderWTab
import Derived.Test.YtoedcnhgobbnfaaCFnExactOrderWWords
import Derived.Test.YtoedcnhgobbnfaaCFnExactOrderWZeros
import Derived.Below
import Derived.Deep.Draws
import Derived.Deep.AppendLies
import Derived.Maps.AppendAt
import Derived.OwnWalk
import Derived.Laws.BytesArg
import Derived.Laws.MakeOwn
import Derived.Laws.OwnMore
import Derived.Deep.OwnRows
import Derived.Tactics
import Derived.Lib.ConvBytes
import Derived.Laws.Slices
import Derived.WalkKit
import Derived.KernelRfl
import Derived.RowKit3
import Derived.Deep.LoopGhost
import Derived.Deep.QuietTactic
import Derived.BigQuiet
import Derived.WideLaws
import Derived.Deep.DeepCutAuto
import Derived.Deep.CutBlock
import Derived.Deep.RegionHeld3
import Derived.Laws.Rows
import Derived.Lib.AppendStr
import Derived.ArgAppend
import Derived.Laws.IdiomCopy
import Derived.OrdersHeld
import Derived.Laws.BitsLemmas
import Derived.RowKit
import Derived.Maps.OwnSet
import Derived.Maps.OwnOps
import Derived.OneCell
import Derived.BigRegion
import Derived.Deep.Slices
import Derived.ChangeArms
import Derived.ProofKit
import Derived.OpenShut
import Derived.ShutString
import Derived.ChangeOld
import Derived.SizedLaws
import Derived.Test.YtoedcnhgobbnfaaCFnExactOrder1
/- What a mark leaves: the same blocks, cell by cell of the same make; only numbers, strings and bools of the blocks of S have changed. Shapes are kept by it, whatever is shared. -/
namespace Go.Proofs.Ytoedcnhgobbnfaa.All
open Go.RowKit Go.Proofs.YtoedcnhgobbnfaaW.PrintWords Go.Proofs.YtoedcnhgobbnfaaW.PrintLast Go.Proofs.YtoedcnhgobbnfaaW.PrintMore
set_option linter.unusedVariables false
set_option linter.unusedSimpArgs false
def simV (u v : Value) : Prop := v = u ∨ (∃ k a b, u = .int k a ∧ v = .int k b) ∨ (∃ a b, u = .string a ∧ v = .string b) ∨ (∃ a b, u = .bool a ∧ v = .bool b)
theorem simV.refl (u : Value) : simV u u := .inl rfl
theorem simV.int (k : IntKind) (a b : Int) : simV (.int k a) (.int k b) := .inr (.inl ⟨k, a, b, rfl, rfl⟩)
theorem simV.string (a b : ByteArray) : simV (.string a) (.string b) := .inr (.inr (.inl ⟨a, b, rfl, rfl⟩))
theorem simV.bool (a b : Bool) : simV (.bool a) (.bool b) := .inr (.inr (.inr ⟨a, b, rfl, rfl⟩))
theorem simV.trans {u v x : Value} (h : simV u v) (h' : simV v x) : simV u x := by
  rcases h with rfl | ⟨k, a, b, rfl, rfl⟩ | ⟨a, b, rfl, rfl⟩ | ⟨a, b, rfl, rfl⟩
  · exact h'
  · rcases h' with rfl | ⟨k', a', b', e, rfl⟩ | ⟨a', b', e, rfl⟩ | ⟨a', b', e, rfl⟩
    · exact simV.int _ _ _
    · injection e with e1 e2; subst e1; exact simV.int _ _ _
    · cases e
    · cases e
  · rcases h' with rfl | ⟨k', a', b', e, rfl⟩ | ⟨a', b', e, rfl⟩ | ⟨a', b', e, rfl⟩
    · exact simV.string _ _
    · cases e
    · exact simV.string _ _
    · cases e
  · rcases h' with rfl | ⟨k', a', b', e, rfl⟩ | ⟨a', b', e, rfl⟩ | ⟨a', b', e, rfl⟩
    · exact simV.bool _ _
    · cases e
    · cases e
    · exact simV.bool _ _
structure Sim (w W : World) (S : Nat → Prop) : Prop where
  os : W.os = w.os
  tape : W.tape = w.tape
  output : W.output = w.output
  size : w.heap.size ≤ W.heap.size
  out : ∀ b, b < w.heap.size → ¬ S b → W.heap[b]? = w.heap[b]?
  cells : ∀ (b : Nat) (cs : Array Value) (t : TypeId) (fr : Nat × Nat), w.heap[b]? = some (.cells cs t fr) → ∃ cs' : Array Value, W.heap[b]? = some (.cells cs' t fr) ∧ cs'.size = cs.size ∧ ∀ (j : Nat) (u : Value), cs[j]? = some u → ∃ v, cs'[j]? = some v ∧ simV u v
theorem Sim.refl (w : World) (S : Nat → Prop) : Sim w w S := ⟨rfl, rfl, rfl, Nat.le_refl _, fun _ _ _ => rfl, fun _ cs _ _ h => ⟨cs, h, rfl, fun _ u hu => ⟨u, hu, simV.refl u⟩⟩⟩
theorem Sim.trans {w W X : World} {S : Nat → Prop} (h : Sim w W S) (h' : Sim W X S) : Sim w X S := by
  refine ⟨h'.os.trans h.os, h'.tape.trans h.tape, h'.output.trans h.output, Nat.le_trans h.size h'.size, fun b hb hS => (h'.out b (Nat.lt_of_lt_of_le hb h.size) hS).trans (h.out b hb hS), fun b cs t fr hc => ?_⟩
  obtain ⟨c1, h1, s1, e1⟩ := h.cells b cs t fr hc
  obtain ⟨c2, h2, s2, e2⟩ := h'.cells b c1 t fr h1
  refine ⟨c2, h2, s2.trans s1, fun j u hu => ?_⟩
  obtain ⟨v, hv, x1⟩ := e1 j u hu
  obtain ⟨x, hx, x2⟩ := e2 j v hv
  exact ⟨x, hx, x1.trans x2⟩
theorem Sim.mono {w W : World} {S S' : Nat → Prop} (h : Sim w W S) (hs : ∀ k, S k → S' k) : Sim w W S' := ⟨h.os, h.tape, h.output, h.size, fun b hb hn => h.out b hb (fun k => hn (hs b k)), h.cells⟩
theorem Sim.of_below {w W : World} (h : Below w.heap.size w W) (S : Nat → Prop) : Sim w W S :=
  ⟨h.os, h.tape, h.output, h.size, fun b hb _ => h.block b hb, fun b cs _ _ hc => ⟨cs, (h.block b (blk_lt hc)).trans hc, rfl, fun _ u hu => ⟨u, hu, simV.refl u⟩⟩⟩
theorem Sim.drewN {w W : World} {S : Nat → Prop} (h : Sim w W S) (n : Nat) : Sim w (W.drewN n) S := ⟨h.os, h.tape, h.output, h.size, h.out, h.cells⟩
theorem Sim.drew {w W : World} {S : Nat → Prop} (h : Sim w W S) : Sim w W.drew S := ⟨h.os, h.tape, h.output, h.size, h.out, h.cells⟩
theorem Sim.set {W : World} {S : Nat → Prop} {g j : Nat} {cs : Array Value} {t : TypeId} (hb : W.heap[g]? = some (.cells cs t (0, 0))) {u v : Value} (hu : cs[j]? = some u) (hs : simV u v) (hS : S g) : Sim W (W.setCell ⟨g, j, none⟩ v) S := by
  refine ⟨rfl, rfl, rfl, by simp, fun b _ hn => Below.heap_setCell W ⟨g, j, none⟩ v b (fun e => hn (e ▸ hS)), fun b c t' fr hc => ?_⟩
  by_cases e : b = g
  · subst e
    rw [hb] at hc
    injection hc with hc
    injection hc with h1 h2 h3
    subst h1 h2 h3
    refine ⟨_, blk_set hb j v, by simp, fun i x hx => ?_⟩
    by_cases hi : i = j
    · subst hi
      rw [hu] at hx
      injection hx with hx
      subst hx
      have hl : i < cs.size := (Array.getElem?_eq_some_iff.1 hu).1
      exact ⟨v, by simp [Array.getElem?_setIfInBounds, hl], hs⟩
    · exact ⟨x, by rw [Array.getElem?_setIfInBounds_ne (Ne.symm hi)]; exact hx, simV.refl x⟩
  · exact ⟨c, (Below.heap_setCell W ⟨g, j, none⟩ v b e).trans hc, rfl, fun _ x hx => ⟨x, hx, simV.refl x⟩⟩
theorem Sim.setc {w W : World} {S : Nat → Prop} (h : Sim w W S) {g j : Nat} {t : TypeId} (hb : ∃ cs : Array Value, W.heap[g]? = some (.cells cs t (0, 0))) {u v : Value} (hu : W.cell? ⟨g, j, none⟩ = some u) (hs : simV u v) (hS : S g) : Sim w (W.setCell ⟨g, j, none⟩ v) S := by
  obtain ⟨cs, hb⟩ := hb
  rw [blk_cell hb j] at hu
  exact h.trans (Sim.set hb hu hs hS)
/-- A row's block under a change of this kind. -/
theorem Sim.blk {w W : World} {S : Nat → Prop} (h : Sim w W S) {g : Nat} {t : TypeId} (hb : ∃ cs : Array Value, w.heap[g]? = some (.cells cs t (0, 0))) : ∃ cs : Array Value, W.heap[g]? = some (.cells cs t (0, 0)) := by
  obtain ⟨cs, hb⟩ := hb
  obtain ⟨cs', h1, _⟩ := h.cells g cs t _ hb
  exact ⟨cs', h1⟩
theorem Sim.cell {w W : World} {S : Nat → Prop} (h : Sim w W S) {g j : Nat} {t : TypeId} (hb : ∃ cs : Array Value, w.heap[g]? = some (.cells cs t (0, 0))) {u : Value} (hu : w.cell? ⟨g, j, none⟩ = some u) : ∃ v, W.cell? ⟨g, j, none⟩ = some v ∧ simV u v := by
  obtain ⟨cs, hb⟩ := hb
  obtain ⟨cs', h1, _, h3⟩ := h.cells g cs t _ hb
  rw [blk_cell hb] at hu
  obtain ⟨v, hv, hs⟩ := h3 j u hu
  exact ⟨v, by rw [blk_cell h1]; exact hv, hs⟩
theorem Sim.frozen {w W : World} {S : Nat → Prop} (h : Sim w W S) {g j : Nat} {t : TypeId} (hb : ∃ cs : Array Value, w.heap[g]? = some (.cells cs t (0, 0))) : W.frozen? ⟨g, j, none⟩ = false := by
  obtain ⟨cs, h1⟩ := h.blk hb
  exact blk_frozen h1 j
theorem Sim.kept {w W : World} {S : Nat → Prop} (h : Sim w W S) : Kept w W S := ⟨h.size, h.out⟩
theorem Sim.below0 {w0 w W : World} {S : Nat → Prop} (h : Sim w W S) (hB : Below w0.heap.size w0 w) (hS : ∀ k, S k → w0.heap.size ≤ k) : Below w0.heap.size w0 W :=
  ⟨h.os.trans hB.os, h.tape.trans hB.tape, h.output.trans hB.output, Nat.le_trans hB.size h.size, fun k hk => (h.out k (Nat.lt_of_lt_of_le hk hB.size) (fun hs => by have := hS k hs; omega)).trans (hB.block k hk)⟩
/-! A kind whose values stay of one shape. -/
structure Shp {α : Type} (d : Kd α) where
  same : α → α → Prop
  refl : ∀ x, same x x
  sim : ∀ {w W : World} {S : Nat → Prop} {base : Nat} {ok : Nat → Prop} {x : α} {cs cs' : List Value}, Sim w W S → d.M w base ok x cs → cs'.length = cs.length → (∀ (j : Nat) (u : Value), cs[j]? = some u → ∃ v, cs'[j]? = some v ∧ simV u v) → ∃ x', d.M W base ok x' cs' ∧ same x x'
theorem list_of_all {α : Type} {P : Nat → α → Prop} : ∀ n : Nat, (∀ j, j < n → ∃ x, P j x) → ∃ l : List α, l.length = n ∧ ∀ (j : Nat) (x : α), l[j]? = some x → P j x
  | 0, _ => ⟨[], rfl, fun j x h => by simp at h⟩
  | n + 1, h => by
    obtain ⟨l, hl, hp⟩ := list_of_all n (fun j hj => h j (by omega))
    obtain ⟨x, hx⟩ := h n (by omega)
    refine ⟨l ++ [x], by simp [hl], fun j y hy => ?_⟩
    by_cases hj : j < n
    · rw [List.getElem?_append_left (by omega)] at hy
      exact hp j y hy
    · have hlt := (List.getElem?_eq_some_iff.1 hy).1
      simp [hl] at hlt
      have : j = n := by omega
      subst this
      rw [List.getElem?_append_right (by omega)] at hy
      simp [hl] at hy
      subst hy
      exact hx
def sameL {α : Type} (s : α → α → Prop) (xs ys : List α) : Prop := ys.length = xs.length ∧ ∀ (j : Nat) (x y : α), xs[j]? = some x → ys[j]? = some y → s x y
theorem sameL.refl {α : Type} {s : α → α → Prop} (h : ∀ x, s x x) (xs : List α) : sameL s xs xs := ⟨rfl, fun j x y hx hy => by rw [hx] at hy; injection hy with hy; subst hy; exact h x⟩
theorem Shp.R {α : Type} {d : Kd α} (sd : Shp d) {e : Nat} {w W : World} {S : Nat → Prop} {base : Nat} {ok : Nat → Prop} {v : Value} {xs : List α} (hs : Sim w W S) (h : d.R e w base ok v xs) : ∃ xs', d.R e W base ok v xs' ∧ sameL sd.same xs xs' := by
  obtain ⟨h0, inner, ⟨hil, ho⟩, hr⟩ := h
  rcases ho with ⟨rfl, hn⟩ | ⟨g, cap, cur, rfl, hb, hg, hnc, hcm, hcs, hin⟩
  · obtain rfl : xs = [] := List.eq_nil_of_length_eq_zero hn
    exact ⟨[], Kd.R_mono (Kd.R_nil d e W base _) (fun k hk => hk), ⟨rfl, fun j x y hx => by simp at hx⟩⟩
  · obtain ⟨cur', hg', hsz', hc'⟩ := hs.cells g cur e _ hg
    have hlen : cur.toList.length = cap * d.sz := by rw [Array.length_toList]; exact hcs
    have hmul : xs.length * d.sz ≤ cap * d.sz := Nat.mul_le_mul_right _ hnc
    have hel : ∀ j, j < xs.length → ∃ x', d.M W base (fun k => ok k ∧ some k ≠ (Value.slice (some ⟨g, 0, none⟩) xs.length cap).ownBlock) x' (((cur'.toList.take (xs.length * d.sz)).drop (j * d.sz)).take d.sz) ∧ ∀ x, xs[j]? = some x → sd.same x x' := by
      intro j hj
      have hx : xs[j]? = some xs[j] := List.getElem?_eq_getElem hj
      have hM := hr.2 j _ hx
      have hseg : j * d.sz + d.sz ≤ xs.length * d.sz := by rw [← Nat.succ_mul]; exact Nat.mul_le_mul_right _ hj
      obtain ⟨x', hM', hs'⟩ := sd.sim hs hM (cs' := ((cur'.toList.take (xs.length * d.sz)).drop (j * d.sz)).take d.sz) (by
        simp only [List.length_take, List.length_drop, Array.length_toList, ← hin, hsz']) (by
        intro i u hu
        rw [← hin] at hu
        rw [List.getElem?_take] at hu ⊢
        split at hu
        · rename_i hi
          rw [if_pos hi]
          rw [List.getElem?_drop, List.getElem?_take] at hu ⊢
          split at hu
          · rename_i h2
            rw [if_pos h2]
            rw [Array.getElem?_toList] at hu
            obtain ⟨v, hv, hsv⟩ := hc' _ u hu
            exact ⟨v, by rw [Array.getElem?_toList]; exact hv, hsv⟩
          · cases hu
        · cases hu)
      exact ⟨x', hM', fun x he => by rw [hx] at he; injection he with he; subst he; exact hs'⟩
    obtain ⟨xs', hl', hp'⟩ := list_of_all xs.length hel
    refine ⟨xs', ⟨h0, cur'.toList.take (xs.length * d.sz), ⟨?_, .inr ⟨g, cap, cur', by rw [hl'], hb, hg', by rw [hl']; exact hnc, hcm, hsz'.trans hcs, by rw [hl']⟩⟩, ?_, fun j p hj => (hp' j p hj).1⟩, hl', fun j x y hx hy => (hp' j y hy).2 x hx⟩
    · have e1 : cur'.toList.length = cap * d.sz := by rw [Array.length_toList, hsz', hcs]
      rw [List.length_take, e1, hl']; omega
    · have e1 : cur'.toList.length = cap * d.sz := by rw [Array.length_toList, hsz', hcs]
      rw [List.length_take, e1, hl']; omega
def Shp.int (k : IntKind) : Shp (Kd.int k) where
  same := fun _ _ => True
  refl := fun _ => trivial
  sim := by
    rintro w W S base ok x cs cs' _ rfl hl hc
    obtain ⟨v, hv, hs⟩ := hc 0 _ rfl
    obtain ⟨y, rfl⟩ : ∃ y, v = .int k y := by
      rcases hs with rfl | ⟨k', a, b, e, rfl⟩ | ⟨a, b, e, rfl⟩ | ⟨a, b, e, rfl⟩
      · exact ⟨x, rfl⟩
      · injection e with e1 _; subst e1; exact ⟨b, rfl⟩
      · cases e
      · cases e
    refine ⟨y, ?_, trivial⟩
    match cs', hl, hv with
    | [c], _, hv => simp at hv; subst hv; rfl
def Shp.string : Shp Kd.string where
  same := fun _ _ => True
  refl := fun _ => trivial
  sim := by
    rintro w W S base ok x cs cs' _ rfl hl hc
    obtain ⟨v, hv, hs⟩ := hc 0 _ rfl
    obtain ⟨y, rfl⟩ : ∃ y, v = .string y := by
      rcases hs with rfl | ⟨k', a, b, e, rfl⟩ | ⟨a, b, e, rfl⟩ | ⟨a, b, e, rfl⟩
      · exact ⟨x, rfl⟩
      · cases e
      · exact ⟨b, rfl⟩
      · cases e
    refine ⟨y, ?_, trivial⟩
    match cs', hl, hv with
    | [c], _, hv => simp at hv; subst hv; rfl
def Shp.bool : Shp Kd.bool where
  same := fun _ _ => True
  refl := fun _ => trivial
  sim := by
    rintro w W S base ok x cs cs' _ rfl hl hc
    obtain ⟨v, hv, hs⟩ := hc 0 _ rfl
    obtain ⟨y, rfl⟩ : ∃ y, v = .bool y := by
      rcases hs with rfl | ⟨k', a, b, e, rfl⟩ | ⟨a, b, e, rfl⟩ | ⟨a, b, e, rfl⟩
      · exact ⟨x, rfl⟩
      · cases e
      · cases e
      · exact ⟨b, rfl⟩
    refine ⟨y, ?_, trivial⟩
    match cs', hl, hv with
    | [c], _, hv => simp at hv; subst hv; rfl
def Shp.slice {α : Type} {d : Kd α} (e : Nat) (sd : Shp d) : Shp (Kd.slice e d) where
  same := sameL sd.same
  refl := sameL.refl sd.refl
  sim := by
    rintro w W S base ok x cs cs' hs ⟨v, rfl, hR⟩ hl hc
    obtain ⟨v', hv, hsv⟩ := hc 0 _ rfl
    obtain ⟨A, c, rfl⟩ := Kd.R_slice hR
    obtain rfl : v' = .slice A x.length c := by
      rcases hsv with h | ⟨k', a, b, e, _⟩ | ⟨a, b, e, _⟩ | ⟨a, b, e, _⟩
      · exact h
      · cases e
      · cases e
      · cases e
    obtain ⟨xs', h1, h2⟩ := sd.R hs hR
    refine ⟨xs', ⟨_, ?_, h1⟩, h2⟩
    match cs', hl, hv with
    | [c], _, hv => simp at hv; subst hv; rfl
def Shp.pair {α β : Type} {a : Kd α} {b : Kd β} (sa : Shp a) (sb : Shp b) : Shp (Kd.pair a b) where
  same := fun x y => sa.same x.1 y.1 ∧ sb.same x.2 y.2
  refl := fun x => ⟨sa.refl _, sb.refl _⟩
  sim := by
    rintro w W S base ok x cs cs' hs ⟨c0, c1, rfl, h0, h1⟩ hl hc
    have l0 := a.K_len (a.K_of_M h0)
    have l1 := b.K_len (b.K_of_M h1)
    rw [List.length_append] at hl
    obtain ⟨y0, m0, s0⟩ := sa.sim (cs' := cs'.take c0.length) hs h0 (by rw [List.length_take]; omega) (by
      intro j u hu
      have hj := (List.getElem?_eq_some_iff.1 hu).1
      obtain ⟨v, hv, hsv⟩ := hc j u (by rw [List.getElem?_append_left hj]; exact hu)
      exact ⟨v, by rw [List.getElem?_take, if_pos hj]; exact hv, hsv⟩)
    obtain ⟨y1, m1, s1⟩ := sb.sim (cs' := cs'.drop c0.length) hs h1 (by rw [List.length_drop]; omega) (by
      intro j u hu
      obtain ⟨v, hv, hsv⟩ := hc (c0.length + j) u (by rw [List.getElem?_append_right (by omega), Nat.add_sub_cancel_left]; exact hu)
      exact ⟨v, by rw [List.getElem?_drop]; exact hv, hsv⟩)
    exact ⟨(y0, y1), ⟨cs'.take c0.length, cs'.drop c0.length, (List.take_append_drop _ _).symm, m0, m1⟩, s0, s1⟩
def Shp.iso {α β : Type} {d : Kd α} (sd : Shp d) (f : β → α) (g : α → β) (h : ∀ y, f (g y) = y) : Shp (Kd.iso d f) where
  same := fun x y => sd.same (f x) (f y)
  refl := fun x => sd.refl _
  sim := by
    intro w W S base ok x cs cs' hs hM hl hc
    obtain ⟨y, m, s⟩ := sd.sim hs (show d.M w base ok (f x) cs from hM) hl hc
    refine ⟨g y, ?_, by rw [h]; exact s⟩
    show d.M W base ok (f (g y)) cs'
    rw [h]
    exact m
/-- What is made is bounded below by its base. -/
theorem Kd.R_based {α : Type} {d : Kd α} {e base : Nat} {w : World} {ok : Nat → Prop} {v : Value} {xs : List α} (h : d.R e w base ok v xs) : d.R e w base (fun k => ok k ∧ base ≤ k) v xs := Kd.R_mono (Kd.R_bound h) (fun _ hk => ⟨hk.1, hk.2.1⟩)
theorem sameL_sum {α : Type} {s : α → α → Prop} {c : α → Nat} : ∀ {xs ys : List α}, sameL s xs ys → (∀ x y, s x y → c y = c x) → (ys.map c).sum = (xs.map c).sum
  | [], [], _, _ => rfl
  | [], _ :: _, h, _ => by have := h.1; simp at this
  | _ :: _, [], h, _ => by have := h.1; simp at this
  | x :: xs, y :: ys, h, hc => by
    have h1 := hc x y (h.2 0 x y rfl rfl)
    have h2 := sameL_sum (xs := xs) (ys := ys) ⟨by have := h.1; simpa using this, fun j a b ha hb => h.2 (j + 1) a b (by simpa using ha) (by simpa using hb)⟩ hc
    simp [h1, h2]
theorem sum_take_succ {α : Type} (c : α → Nat) (z : α) : ∀ (xs : List α) (m : Nat), m < xs.length → ((xs.take (m + 1)).map c).sum = ((xs.take m).map c).sum + c (xs.getD m z)
  | x :: xs, 0, _ => by simp
  | x :: xs, m + 1, h => by
    have := sum_take_succ c z xs m (by simpa using h)
    simp only [List.take_succ_cons, List.map_cons, List.sum_cons, List.getD_cons_succ] at this ⊢
    omega
theorem sum_take_le {α : Type} (c : α → Nat) : ∀ (xs : List α) (m : Nat), ((xs.take m).map c).sum ≤ (xs.map c).sum
  | [], m => by simp
  | x :: xs, 0 => by simp
  | x :: xs, m + 1 => by
    have := sum_take_le c xs m
    simp only [List.take_succ_cons, List.map_cons, List.sum_cons]
    omega
theorem Sim.scal_int {w W : World} {S : Nat → Prop} (h : Sim w W S) {g j : Nat} {t : TypeId} (hb : ∃ cs : Array Value, w.heap[g]? = some (.cells cs t (0, 0))) {k : IntKind} {a : Int} (hu : w.cell? ⟨g, j, none⟩ = some (.int k a)) : ∃ b, W.cell? ⟨g, j, none⟩ = some (.int k b) := by
  obtain ⟨v, hv, hs⟩ := h.cell hb hu
  rcases hs with rfl | ⟨k', a', b', e, rfl⟩ | ⟨a', b', e, rfl⟩ | ⟨a', b', e, rfl⟩
  · exact ⟨_, hv⟩
  · injection e with e1 _; subst e1; exact ⟨_, hv⟩
  · cases e
  · cases e
theorem Sim.slc {w W : World} {S : Nat → Prop} (h : Sim w W S) {g j : Nat} {t : TypeId} (hb : ∃ cs : Array Value, w.heap[g]? = some (.cells cs t (0, 0))) {A : Option Addr} {n c : Nat} (hu : w.cell? ⟨g, j, none⟩ = some (.slice A n c)) : W.cell? ⟨g, j, none⟩ = some (.slice A n c) := by
  obtain ⟨v, hv, hs⟩ := h.cell hb hu
  rcases hs with rfl | ⟨k', a', b', e, rfl⟩ | ⟨a', b', e, rfl⟩ | ⟨a', b', e, rfl⟩
  · exact hv
  · cases e
  · cases e
  · cases e
theorem Sim.putw {w W : World} {S : Nat → Prop} {g j : Nat} {t : TypeId} {k : IntKind} {a b : Int} (h : Sim w W S) (hb : ∃ cs : Array Value, w.heap[g]? = some (.cells cs t (0, 0))) (hu : w.cell? ⟨g, j, none⟩ = some (.int k a)) (hS : S g) : Sim w (W.setCell ⟨g, j, none⟩ (.int k b)) S := by
  obtain ⟨b', hv⟩ := h.scal_int hb hu
  exact h.setc (h.blk hb) hv (simV.int _ _ _) hS
theorem Kd.R_slice' {α : Type} {d : Kd α} {e base : Nat} {w : World} {ok : Nat → Prop} {v : Value} {xs : List α} (h : d.R e w base ok v xs) : ∃ (A : Option Addr) (n c : Nat), v = .slice A n c := by
  obtain ⟨A, c, e⟩ := Kd.R_slice h
  exact ⟨A, _, c, e⟩
/-- A call's world, under a name. -/
theorem calls_at {P : Program} {f : FuncId} {args : Array Value} {w : World} {Q : Ending → World → Prop} (I : World → Prop) (hw : I w) (h : ∀ W, I W → Calls P f args W Q) : Calls P f args w Q := h w hw
theorem len_le_sum {α : Type} {c : α → Nat} : ∀ (xs : List α), (∀ x, 1 ≤ c x) → xs.length ≤ (xs.map c).sum
  | [], _ => Nat.le_refl _
  | x :: xs, h => by
    have h1 := h x
    have h2 := len_le_sum xs h
    simp only [List.length_cons, List.map_cons, List.sum_cons]
    omega
theorem Kd.R_old2 {α : Type} {d : Kd α} {e base : Nat} {w : World} {ok : Nat → Prop} {v : Value} {xs : List α} (h : d.R e w base ok v xs) : d.R e w base (fun k => ok k ∧ k < w.heap.size) v xs := Kd.R_mono (Kd.R_bound h) (fun _ hk => ⟨hk.1, hk.2.2.1⟩)
theorem alloc2_0 (w : World) (o o' : Obj) : ((w.alloc o).alloc o').heap[w.heap.size]? = some o := ((below_alloc (Below.refl (w.alloc o).heap.size (w.alloc o)) o').block w.heap.size (by simp)).trans (heap_alloc_new w o)
theorem alloc2_1 (w : World) (o o' : Obj) : ((w.alloc o).alloc o').heap[w.heap.size + 1]? = some o' := by
  have h := heap_alloc_new (w.alloc o) o'
  rw [World.size_alloc] at h
  exact h
end Go.Proofs.Ytoedcnhgobbnfaa.All


namespace Go.Proofs.Ytoedcnhgobbnfaa.All
open Go.RowKit Go.Proofs.YtoedcnhgobbnfaaW.PrintWords Go.Proofs.YtoedcnhgobbnfaaW.PrintLast Go.Proofs.YtoedcnhgobbnfaaW.PrintMore
attribute [local go_sem] max2_int min2_int max_two min_two max_three min_three max_four min_four   -- for this text's walks alone
set_option linter.unusedVariables false
set_option linter.unusedSimpArgs false

/-! ### laws_eqOperand: function 124 -/
def laws_eqOperand.f (a0_0 : Int) (a0_1 : Int) (a0_2 : Int) (a0_3 : Int) (a1_0 : Int) (a1_1 : Int) (a1_2 : Int) (a1_3 : Int) : Option Bool := if a0_0 = a1_0 then (if a0_1 = a1_1 then (if a0_2 = a1_2 then (if a0_3 = a1_3 then (some true) else none) else none) else none) else none
set_option maxHeartbeats 4000000 in
set_option maxRecDepth 100000 in
theorem laws_eqOperand.calls (a0_0 : Int) (a0_1 : Int) (a0_2 : Int) (a0_3 : Int) (a1_0 : Int) (a1_1 : Int) (a1_2 : Int) (a1_3 : Int) (r : Bool) (w : World)  (h : laws_eqOperand.f a0_0 a0_1 a0_2 a0_3 a1_0 a1_1 a1_2 a1_3 = some r) :
 Calls Try.prog 124 #[.agg #[.int .i64 a0_0, .int .i64 a0_1, .int .i64 a0_2, .int .u64 a0_3], .agg #[.int .i64 a1_0, .int .i64 a1_1, .int .i64 a1_2, .int .u64 a1_3]] w fun e w' => e = .returned (.bool r) ∧ Below w.heap.size w w' := by
 unfold laws_eqOperand.f at h
 by_cases e0 : a0_0 = a1_0
 rotate_left
 · rw [if_neg e0] at h; cases h
 rw [if_pos e0] at h
 subst e0
 by_cases e1 : a0_1 = a1_1
 rotate_left
 · rw [if_neg e1] at h; cases h
 rw [if_pos e1] at h
 subst e1
 by_cases e2 : a0_2 = a1_2
 rotate_left
 · rw [if_neg e2] at h; cases h
 rw [if_pos e2] at h
 subst e2
 by_cases e3 : a0_3 = a1_3
 rotate_left
 · rw [if_neg e3] at h; cases h
 rw [if_pos e3] at h
 subst e3
 obtain rfl := Option.some.inj h
 clear h
 have hu := Try.underlying75
 go_enter Try.func124, Try.ntmps124
 go_wp2
 go_ret
 exact ⟨rfl, below_alloc (below_alloc (Below.refl _ _) _) _⟩

end Go.Proofs.Ytoedcnhgobbnfaa.All


namespace Go.Proofs.Ytoedcnhgobbnfaa.All
open Go.RowKit Go.Proofs.YtoedcnhgobbnfaaW.PrintWords Go.Proofs.YtoedcnhgobbnfaaW.PrintLast Go.Proofs.YtoedcnhgobbnfaaW.PrintMore
attribute [local go_sem] max2_int min2_int max_two min_two max_three min_three max_four min_four   -- for this text's walks alone
set_option linter.unusedVariables false
set_option linter.unusedSimpArgs false

/-! ### laws_eqOperandS: function 120 -/
def laws_eqOperandS.l0 : Nat → List (S75) → List (S75) → Int → Option (Bool)
 | 0, _, _, _ => none
 | k + 1, x0, x1, x5 => if x5 < (x0.length : Int) then (if 0 ≤ x5 then (if x5 < (x1.length : Int) then ((laws_eqOperand.f ((rd_T75 x0 x5).f0) ((rd_T75 x0 x5).f1) ((rd_T75 x0 x5).f2) ((rd_T75 x0 x5).f3) ((rd_T75 x1 x5).f0) ((rd_T75 x1 x5).f1) ((rd_T75 x1 x5).f2) ((rd_T75 x1 x5).f3)).bind fun t275 => (if t275 = true then (laws_eqOperandS.l0 k x0 x1 (wrap64 (x5 + 1))) else (some false))) else (none)) else (none)) else (some true)
def laws_eqOperandS.f (k : Nat) (l0 : List (S75)) (l1 : List (S75)) : Option (Bool) := if (l0.length : Int) = (l1.length : Int) then (laws_eqOperandS.l0 k l0 l1 0) else (some false)
def laws_eqOperandS.T6 : Bool × List (List Nat × List Nat) := (true, [([], []), ([], []), ([0, 1], [0, 1]), ([2], [2]), ([], []), ([], []), ([4, 5], [4, 5]), ([6], [6]), ([3, 7], [3, 7]), ([8], [8])])
def laws_eqOperandS.B6 : List Nat := [0, 0, 3, 7, 0, 0, 48, 112, 255, 511]
theorem laws_eqOperandS.tab6 : rtab .any (opsOf Try.f120 6) = laws_eqOperandS.T6 := by kernel_rfl
theorem laws_eqOperandS.bits6 : waitsOk laws_eqOperandS.T6.2 laws_eqOperandS.B6 = true := by kernel_rfl
set_option maxHeartbeats 8000000 in
set_option maxRecDepth 100000 in
theorem laws_eqOperandS.calls (k : Nat) (A0 : Option Addr) (c0 : Nat) (l0 : List (S75)) (A1 : Option Addr) (c1 : Nat) (l1 : List (S75)) (r : Bool) (w : World) (hr0 : Kd.C k75 w A0 l0.length l0) (hc0 : l0.length ≤ c0) (hr1 : Kd.C k75 w A1 l1.length l1) (hc1 : l1.length ≤ c1) (h : laws_eqOperandS.f k l0 l1 = some r) :
 Calls Try.prog 120 #[.slice A0 l0.length c0, .slice A1 l1.length c1] w fun e w' => e = .returned (.bool r) ∧ Below w.heap.size w w' := by
 have hu75 := Try.underlying75
 have HR0 := Aside0.mk hr0
 have HC0 := Aside0.mk hc0
 clear hr0 hc0
 have HR1 := Aside0.mk hr1
 have HC1 := Aside0.mk hc1
 clear hr1 hc1
 have HB := Aside0.mk (Below.refl w.heap.size w)
 have H : (if (l0.length : Int) = (l1.length : Int) then (laws_eqOperandS.l0 k l0 l1 0) else (some false)) = some r := h
 clear h
 by_cases c3 : (l0.length : Int) = (l1.length : Int)
 · rw [if_pos c3] at H
   have c3b0 : ((l0.length : Int) == (l1.length : Int)) = true := beq_iff_eq.mpr c3
   have c3b1 : ((l0.length : Int) != (l1.length : Int)) = false := bne_eq_false_iff_eq.mpr c3
   have c3b2 : (l0.length == l1.length) = true := by first | simpa using c3 | (simp at c3 ⊢; omega)
   clear c3
   have H' := Aside0.mk H
   clear H
   go_enter Try.func120, Try.ntmps120
   go_wp2
   go_loopg [5] k (fun kq v5 w' => ∃ (x5_1 : Int), v5 = .int .i64 x5_1 ∧ Aside0 (laws_eqOperandS.l0 kq l0 l1 x5_1 = some r) ∧ Aside0 (kq ≤ k) ∧ Aside0 (Below w.heap.size w w'))
   case atStart => exact ⟨(0), (by first | rfl | (simp; done) | (simp [*]; done)), H', ⟨Nat.le_refl _⟩, ⟨by repeat (first | (with_reducible first | exact HB.out | apply below_alloc | apply pw_below_drewN | apply below_drew1) | exact HB.out)⟩⟩
   case round =>
    clear H'
    try clear c1
    try clear p2
    try clear c3
    try clear c3b0
    try clear c3b1
    try clear c3b2
    obtain ⟨x5_1, rfl, HA, HK1, HB⟩ := hrel
    cases gk with
    | zero => exact absurd HA.out (by simp [laws_eqOperandS.l0])
    | succ k1 =>
     have H := HA.out
     clear HA
     simp only [laws_eqOperandS.l0] at H
     by_cases c4 : x5_1 < (l0.length : Int)
     · rw [if_pos c4] at H
       have c4b0 : decide (x5_1 < (l0.length : Int)) = true := decide_eq_true c4
       clear c4
       by_cases c5 : 0 ≤ x5_1
       · rw [if_pos c5] at H
         have c5b0 : decide (0 ≤ x5_1) = true := decide_eq_true c5
         clear c5
         by_cases c6 : x5_1 < (l1.length : Int)
         · rw [if_pos c6] at H
           have c6b0 : decide (x5_1 < (l1.length : Int)) = true := decide_eq_true c6
           clear c6
           replace H := Option.bind_eq_some_iff.mp H
           obtain ⟨t275, A70, H⟩ := H
           replace H : (if t275 = true then (laws_eqOperandS.l0 k1 l0 l1 (wrap64 (x5_1 + 1))) else (some false)) = some r := H
           have A7 := Aside0.mk A70
           clear A70
           by_cases c8 : t275 = true
           · subst c8
             have H1 : (laws_eqOperandS.l0 k1 l0 l1 (wrap64 (x5_1 + 1))) = some r := by rw [if_pos rfl] at H; exact H
             clear H
             have H := H1
             clear H1
             have H' := Aside0.mk H
             clear H
             try go_wp2
             have n0_ := Aside0.mk (below_drew1 HB.out)
             clear HB
             have HB := n0_
             clear n0_
             have p273 : 0 ≤ (x5_1 : Int) := of_decide_eq_true (by first | (with_reducible assumption) | assumption)
             have q273 : x5_1 < (l0.length : Int) := of_decide_eq_true (by first | (with_reducible assumption) | assumption)
             obtain ⟨ad273, e273, hx273_0, hx273_1, hx273_2, hx273_3⟩ := at_T75 HR0.out x5_1 p273 q273
             have hw273_3 := hx273_3
             have hw273_2 := hx273_2
             have hw273_1 := hx273_1
             have hw273_0 := hx273_0
             cases e273
             replace hx273_0 := (HB.out.cell (World.block_lt_of_cell? w _ hx273_0)).trans hx273_0
             replace hx273_1 := (HB.out.cell (World.block_lt_of_cell? w _ hx273_1)).trans hx273_1
             replace hx273_2 := (HB.out.cell (World.block_lt_of_cell? w _ hx273_2)).trans hx273_2
             replace hx273_3 := (HB.out.cell (World.block_lt_of_cell? w _ hx273_3)).trans hx273_3
             replace p273 := eq_true p273
             replace q273 := eq_true q273
             have p274 : 0 ≤ (x5_1 : Int) := of_decide_eq_true (by first | (with_reducible assumption) | assumption)
             have q274 : x5_1 < (l1.length : Int) := of_decide_eq_true (by first | (with_reducible assumption) | assumption)
             obtain ⟨ad274, e274, hx274_0, hx274_1, hx274_2, hx274_3⟩ := at_T75 HR1.out x5_1 p274 q274
             have hw274_3 := hx274_3
             have hw274_2 := hx274_2
             have hw274_1 := hx274_1
             have hw274_0 := hx274_0
             cases e274
             replace hx274_0 := (HB.out.cell (World.block_lt_of_cell? w _ hx274_0)).trans hx274_0
             replace hx274_1 := (HB.out.cell (World.block_lt_of_cell? w _ hx274_1)).trans hx274_1
             replace hx274_2 := (HB.out.cell (World.block_lt_of_cell? w _ hx274_2)).trans hx274_2
             replace hx274_3 := (HB.out.cell (World.block_lt_of_cell? w _ hx274_3)).trans hx274_3
             replace p274 := eq_true p274
             replace q274 := eq_true q274
             refine start_ (n := 10) (S := fun w' => w'.cell? (ad273.add ((x5_1).toNat * 4)) = some (.int .i64 ((rd_T75 l0 x5_1).f0)) ∧ w'.cell? ⟨(ad273.add ((x5_1).toNat * 4)).block, (ad273.add ((x5_1).toNat * 4)).off + 1, none⟩ = some (.int .i64 ((rd_T75 l0 x5_1).f1)) ∧ w'.cell? ⟨(ad273.add ((x5_1).toNat * 4)).block, (ad273.add ((x5_1).toNat * 4)).off + 2, none⟩ = some (.int .i64 ((rd_T75 l0 x5_1).f2)) ∧ w'.cell? ⟨(ad273.add ((x5_1).toNat * 4)).block, (ad273.add ((x5_1).toNat * 4)).off + 3, none⟩ = some (.int .u64 ((rd_T75 l0 x5_1).f3)) ∧ w'.cell? (ad274.add ((x5_1).toNat * 4)) = some (.int .i64 ((rd_T75 l1 x5_1).f0)) ∧ w'.cell? ⟨(ad274.add ((x5_1).toNat * 4)).block, (ad274.add ((x5_1).toNat * 4)).off + 1, none⟩ = some (.int .i64 ((rd_T75 l1 x5_1).f1)) ∧ w'.cell? ⟨(ad274.add ((x5_1).toNat * 4)).block, (ad274.add ((x5_1).toNat * 4)).off + 2, none⟩ = some (.int .i64 ((rd_T75 l1 x5_1).f2)) ∧ w'.cell? ⟨(ad274.add ((x5_1).toNat * 4)).block, (ad274.add ((x5_1).toNat * 4)).off + 3, none⟩ = some (.int .u64 ((rd_T75 l1 x5_1).f3))) (ds := []) #[false, false, false, false, false, false, false, false, false, false] (by kernel_rfl) rfl rfl ⟨((HB.out.cell (World.block_lt_of_cell? w _ hw273_0)).trans hw273_0), ((HB.out.cell (World.block_lt_of_cell? w _ hw273_1)).trans hw273_1), ((HB.out.cell (World.block_lt_of_cell? w _ hw273_2)).trans hw273_2), ((HB.out.cell (World.block_lt_of_cell? w _ hw273_3)).trans hw273_3), ((HB.out.cell (World.block_lt_of_cell? w _ hw274_0)).trans hw274_0), ((HB.out.cell (World.block_lt_of_cell? w _ hw274_1)).trans hw274_1), ((HB.out.cell (World.block_lt_of_cell? w _ hw274_2)).trans hw274_2), ((HB.out.cell (World.block_lt_of_cell? w _ hw274_3)).trans hw274_3)⟩ (fun hHeld => ?_); refine with_tabW laws_eqOperandS.tab6 laws_eqOperandS.bits6 (fun HT_ HW_ => ?_)
             generalize wr.drew = w9 at HB hx273_0 hx273_1 hx273_2 hx273_3 hx274_0 hx274_1 hx274_2 hx274_3 hHeld ⊢
             refine pure_ (i := 0) (N := some 17) (v := ?_) (a' := ?_) #[true, false, false, false, false, false, false, false, false, false] rfl rfl (any_of HT_.out (by kernel_rfl)) (fun _ _ _ h => h) (Or.inl ⟨by rfl, ?_⟩) ?_ ?_
             rotate_left
             · intro w'
               go_simp
               with_reducible rfl
             rotate_left
             · simp only [Act.put, List.setIfInBounds_toArray, List.set_cons_zero, List.set_cons_succ, i64_w, i32_w]
               rfl
             refine pure_ (i := 1) (N := some 18) (v := ?_) (a' := ?_) #[true, true, false, false, false, false, false, false, false, false] rfl rfl (any_of HT_.out (by kernel_rfl)) (fun _ _ _ h => h) (Or.inl ⟨by rfl, ?_⟩) ?_ ?_
             rotate_left
             · intro w'
               go_simp
               with_reducible rfl
             rotate_left
             · simp only [Act.put, List.setIfInBounds_toArray, List.set_cons_zero, List.set_cons_succ, i64_w, i32_w]
               rfl
             refine pure_ (i := 2) (N := some 19) (v := ?_) (a' := ?_) #[true, true, true, false, false, false, false, false, false, false] rfl rfl (any_of HT_.out (by kernel_rfl)) (fun _ _ _ h => h) (Or.inl ⟨by rfl, ?_⟩) ?_ ?_
             rotate_left
             · intro w'
               go_simp
               with_reducible rfl
             rotate_left
             · simp only [Act.put, List.setIfInBounds_toArray, List.set_cons_zero, List.set_cons_succ, i64_w, i32_w]
               rfl
             refine pure_ (i := 4) (N := some 21) (v := ?_) (a' := ?_) #[true, true, true, false, true, false, false, false, false, false] rfl rfl (any_of HT_.out (by kernel_rfl)) (fun _ _ _ h => h) (Or.inl ⟨by rfl, ?_⟩) ?_ ?_
             rotate_left
             · intro w'
               go_simp
               with_reducible rfl
             rotate_left
             · simp only [Act.put, List.setIfInBounds_toArray, List.set_cons_zero, List.set_cons_succ, i64_w, i32_w]
               rfl
             refine pure_ (i := 5) (N := some 22) (v := ?_) (a' := ?_) #[true, true, true, false, true, true, false, false, false, false] rfl rfl (any_of HT_.out (by kernel_rfl)) (fun _ _ _ h => h) (Or.inl ⟨by rfl, ?_⟩) ?_ ?_
             rotate_left
             · intro w'
               go_simp
               with_reducible rfl
             rotate_left
             · simp only [Act.put, List.setIfInBounds_toArray, List.set_cons_zero, List.set_cons_succ, i64_w, i32_w]
               rfl
             refine pure_ (i := 6) (N := some 23) (v := ?_) (a' := ?_) #[true, true, true, false, true, true, true, false, false, false] rfl rfl (any_of HT_.out (by kernel_rfl)) (fun _ _ _ h => h) (Or.inl ⟨by rfl, ?_⟩) ?_ ?_
             rotate_left
             · intro w'
               go_simp
               with_reducible rfl
             rotate_left
             · simp only [Act.put, List.setIfInBounds_toArray, List.set_cons_zero, List.set_cons_succ, i64_w, i32_w]
               rfl
             refine take_ (i := 3) (N := some 20) (v := ?_) (a' := ?_) #[true, true, true, true, true, true, true, false, false, false] rfl rfl (take_ofW HT_.out HW_.out (by kernel_rfl)) (fun _ _ _ h => h) (Or.inl ⟨by rfl, ?_⟩) hHeld ?_ ?_
             rotate_left
             · rintro w' ⟨s0, s1, s2, s3, s4, s5, s6, s7⟩
               go_simp
               with_reducible rfl
             rotate_left
             · simp only [Act.put, List.setIfInBounds_toArray, List.set_cons_zero, List.set_cons_succ, i64_w, i32_w]
               rfl
             refine take_ (i := 7) (N := some 24) (v := ?_) (a' := ?_) #[true, true, true, true, true, true, true, true, false, false] rfl rfl (take_ofW HT_.out HW_.out (by kernel_rfl)) (fun _ _ _ h => h) (Or.inl ⟨by rfl, ?_⟩) hHeld ?_ ?_
             rotate_left
             · rintro w' ⟨s0, s1, s2, s3, s4, s5, s6, s7⟩
               go_simp
               with_reducible rfl
             rotate_left
             · simp only [Act.put, List.setIfInBounds_toArray, List.set_cons_zero, List.set_cons_succ, i64_w, i32_w]
               rfl
             refine one_ (i := 8) (N := some 25) #[true, true, true, true, true, true, true, true, true, false] rfl rfl (one_of HT_.out (by kernel_rfl)) (by decide) (fun K hK => ?_)
             refine goes_ Try.func124 (by kernel_rfl) rfl #[.agg #[.int .i64 ((rd_T75 l0 x5_1).f0), .int .i64 ((rd_T75 l0 x5_1).f1), .int .i64 ((rd_T75 l0 x5_1).f2), .int .u64 ((rd_T75 l0 x5_1).f3)], .agg #[.int .i64 ((rd_T75 l1 x5_1).f0), .int .i64 ((rd_T75 l1 x5_1).f1), .int .i64 ((rd_T75 l1 x5_1).f2), .int .u64 ((rd_T75 l1 x5_1).f3)]] (by rfl) rfl rfl (by (try simp only [List.map_toArray, List.map_cons, List.map_nil]); first | done | rfl | (simp only [List.length_drop, List.length_take]; rfl)) ?_
             with_reducible refine (laws_eqOperand.calls ((rd_T75 l0 x5_1).f0) ((rd_T75 l0 x5_1).f1) ((rd_T75 l0 x5_1).f2) ((rd_T75 l0 x5_1).f3) ((rd_T75 l1 x5_1).f0) ((rd_T75 l1 x5_1).f1) ((rd_T75 l1 x5_1).f2) ((rd_T75 l1 x5_1).f3) true _ A7.out).mono ?_
             rintro e w10 ⟨rfl, hb⟩
             refine ⟨_, rfl, ?_⟩
             have n0_ := Aside0.mk (below_step (by repeat (first | (with_reducible first | exact HB.out | apply below_alloc | apply pw_below_drewN | apply below_drew1) | exact HB.out)) hb)
             clear HB
             have HB := n0_
             clear n0_
             (try clear hb)
             (try clear hb2)
             (try clear hk)
             (try clear hi)
             refine hK.out _ _ ⟨((HB.out.cell (World.block_lt_of_cell? w _ hw273_0)).trans hw273_0), ((HB.out.cell (World.block_lt_of_cell? w _ hw273_1)).trans hw273_1), ((HB.out.cell (World.block_lt_of_cell? w _ hw273_2)).trans hw273_2), ((HB.out.cell (World.block_lt_of_cell? w _ hw273_3)).trans hw273_3), ((HB.out.cell (World.block_lt_of_cell? w _ hw274_0)).trans hw274_0), ((HB.out.cell (World.block_lt_of_cell? w _ hw274_1)).trans hw274_1), ((HB.out.cell (World.block_lt_of_cell? w _ hw274_2)).trans hw274_2), ((HB.out.cell (World.block_lt_of_cell? w _ hw274_3)).trans hw274_3)⟩ (fun hHeld => ?_)
             clear hK K
             refine norm_ (a' := ?_) ?_ ?_
             rotate_left
             · show Act.put _ (some 25) _ = _
               simp only [Act.put, List.setIfInBounds_toArray, List.set_cons_zero, List.set_cons_succ, i64_w, i32_w]
               rfl
             refine pure_ (i := 9) (N := some 26) (v := ?_) (a' := ?_) #[true, true, true, true, true, true, true, true, true, true] rfl rfl (any_of HT_.out (by kernel_rfl)) (fun _ _ _ h => h) (Or.inl ⟨by rfl, ?_⟩) ?_ ?_
             rotate_left
             · intro w'
               go_simp
               with_reducible rfl
             rotate_left
             · simp only [Act.put, List.setIfInBounds_toArray, List.set_cons_zero, List.set_cons_succ, i64_w, i32_w]
               rfl
             refine done_ (done_of HT_.out (by kernel_rfl)) ?_
             try go_wp2
             go_roundg k1
             case measure => have := HK1.out; omega
             case rel => exact ⟨(wrap64 (x5_1 + 1)), (by first | rfl | (simp; done) | (simp [*]; done)), H', ⟨by have := HK1.out; omega⟩, ⟨by repeat (first | (with_reducible first | exact HB.out | apply below_alloc | apply pw_below_drewN | apply below_drew1) | exact HB.out)⟩⟩
           · replace c8 := Bool.eq_false_iff.mpr c8
             subst c8
             have H1 : (some false) = some r := by rw [if_neg (show ¬ (false = true) by decide)] at H; exact H
             clear H
             have H := H1
             clear H1
             obtain rfl := Option.some.inj H
             try go_wp2
             have n0_ := Aside0.mk (below_drew1 HB.out)
             clear HB
             have HB := n0_
             clear n0_
             have p273 : 0 ≤ (x5_1 : Int) := of_decide_eq_true (by first | (with_reducible assumption) | assumption)
             have q273 : x5_1 < (l0.length : Int) := of_decide_eq_true (by first | (with_reducible assumption) | assumption)
             obtain ⟨ad273, e273, hx273_0, hx273_1, hx273_2, hx273_3⟩ := at_T75 HR0.out x5_1 p273 q273
             have hw273_3 := hx273_3
             have hw273_2 := hx273_2
             have hw273_1 := hx273_1
             have hw273_0 := hx273_0
             cases e273
             replace hx273_0 := (HB.out.cell (World.block_lt_of_cell? w _ hx273_0)).trans hx273_0
             replace hx273_1 := (HB.out.cell (World.block_lt_of_cell? w _ hx273_1)).trans hx273_1
             replace hx273_2 := (HB.out.cell (World.block_lt_of_cell? w _ hx273_2)).trans hx273_2
             replace hx273_3 := (HB.out.cell (World.block_lt_of_cell? w _ hx273_3)).trans hx273_3
             replace p273 := eq_true p273
             replace q273 := eq_true q273
             have p274 : 0 ≤ (x5_1 : Int) := of_decide_eq_true (by first | (with_reducible assumption) | assumption)
             have q274 : x5_1 < (l1.length : Int) := of_decide_eq_true (by first | (with_reducible assumption) | assumption)
             obtain ⟨ad274, e274, hx274_0, hx274_1, hx274_2, hx274_3⟩ := at_T75 HR1.out x5_1 p274 q274
             have hw274_3 := hx274_3
             have hw274_2 := hx274_2
             have hw274_1 := hx274_1
             have hw274_0 := hx274_0
             cases e274
             replace hx274_0 := (HB.out.cell (World.block_lt_of_cell? w _ hx274_0)).trans hx274_0
             replace hx274_1 := (HB.out.cell (World.block_lt_of_cell? w _ hx274_1)).trans hx274_1
             replace hx274_2 := (HB.out.cell (World.block_lt_of_cell? w _ hx274_2)).trans hx274_2
             replace hx274_3 := (HB.out.cell (World.block_lt_of_cell? w _ hx274_3)).trans hx274_3
             replace p274 := eq_true p274
             replace q274 := eq_true q274
             refine start_ (n := 10) (S := fun w' => w'.cell? (ad273.add ((x5_1).toNat * 4)) = some (.int .i64 ((rd_T75 l0 x5_1).f0)) ∧ w'.cell? ⟨(ad273.add ((x5_1).toNat * 4)).block, (ad273.add ((x5_1).toNat * 4)).off + 1, none⟩ = some (.int .i64 ((rd_T75 l0 x5_1).f1)) ∧ w'.cell? ⟨(ad273.add ((x5_1).toNat * 4)).block, (ad273.add ((x5_1).toNat * 4)).off + 2, none⟩ = some (.int .i64 ((rd_T75 l0 x5_1).f2)) ∧ w'.cell? ⟨(ad273.add ((x5_1).toNat * 4)).block, (ad273.add ((x5_1).toNat * 4)).off + 3, none⟩ = some (.int .u64 ((rd_T75 l0 x5_1).f3)) ∧ w'.cell? (ad274.add ((x5_1).toNat * 4)) = some (.int .i64 ((rd_T75 l1 x5_1).f0)) ∧ w'.cell? ⟨(ad274.add ((x5_1).toNat * 4)).block, (ad274.add ((x5_1).toNat * 4)).off + 1, none⟩ = some (.int .i64 ((rd_T75 l1 x5_1).f1)) ∧ w'.cell? ⟨(ad274.add ((x5_1).toNat * 4)).block, (ad274.add ((x5_1).toNat * 4)).off + 2, none⟩ = some (.int .i64 ((rd_T75 l1 x5_1).f2)) ∧ w'.cell? ⟨(ad274.add ((x5_1).toNat * 4)).block, (ad274.add ((x5_1).toNat * 4)).off + 3, none⟩ = some (.int .u64 ((rd_T75 l1 x5_1).f3))) (ds := []) #[false, false, false, false, false, false, false, false, false, false] (by kernel_rfl) rfl rfl ⟨((HB.out.cell (World.block_lt_of_cell? w _ hw273_0)).trans hw273_0), ((HB.out.cell (World.block_lt_of_cell? w _ hw273_1)).trans hw273_1), ((HB.out.cell (World.block_lt_of_cell? w _ hw273_2)).trans hw273_2), ((HB.out.cell (World.block_lt_of_cell? w _ hw273_3)).trans hw273_3), ((HB.out.cell (World.block_lt_of_cell? w _ hw274_0)).trans hw274_0), ((HB.out.cell (World.block_lt_of_cell? w _ hw274_1)).trans hw274_1), ((HB.out.cell (World.block_lt_of_cell? w _ hw274_2)).trans hw274_2), ((HB.out.cell (World.block_lt_of_cell? w _ hw274_3)).trans hw274_3)⟩ (fun hHeld => ?_); refine with_tabW laws_eqOperandS.tab6 laws_eqOperandS.bits6 (fun HT_ HW_ => ?_)
             generalize wr.drew = w11 at HB hx273_0 hx273_1 hx273_2 hx273_3 hx274_0 hx274_1 hx274_2 hx274_3 hHeld ⊢
             refine pure_ (i := 0) (N := some 17) (v := ?_) (a' := ?_) #[true, false, false, false, false, false, false, false, false, false] rfl rfl (any_of HT_.out (by kernel_rfl)) (fun _ _ _ h => h) (Or.inl ⟨by rfl, ?_⟩) ?_ ?_
             rotate_left
             · intro w'
               go_simp
               with_reducible rfl
             rotate_left
             · simp only [Act.put, List.setIfInBounds_toArray, List.set_cons_zero, List.set_cons_succ, i64_w, i32_w]
               rfl
             refine pure_ (i := 1) (N := some 18) (v := ?_) (a' := ?_) #[true, true, false, false, false, false, false, false, false, false] rfl rfl (any_of HT_.out (by kernel_rfl)) (fun _ _ _ h => h) (Or.inl ⟨by rfl, ?_⟩) ?_ ?_
             rotate_left
             · intro w'
               go_simp
               with_reducible rfl
             rotate_left
             · simp only [Act.put, List.setIfInBounds_toArray, List.set_cons_zero, List.set_cons_succ, i64_w, i32_w]
               rfl
             refine pure_ (i := 2) (N := some 19) (v := ?_) (a' := ?_) #[true, true, true, false, false, false, false, false, false, false] rfl rfl (any_of HT_.out (by kernel_rfl)) (fun _ _ _ h => h) (Or.inl ⟨by rfl, ?_⟩) ?_ ?_
             rotate_left
             · intro w'
               go_simp
               with_reducible rfl
             rotate_left
             · simp only [Act.put, List.setIfInBounds_toArray, List.set_cons_zero, List.set_cons_succ, i64_w, i32_w]
               rfl
             refine pure_ (i := 4) (N := some 21) (v := ?_) (a' := ?_) #[true, true, true, false, true, false, false, false, false, false] rfl rfl (any_of HT_.out (by kernel_rfl)) (fun _ _ _ h => h) (Or.inl ⟨by rfl, ?_⟩) ?_ ?_
             rotate_left
             · intro w'
               go_simp
               with_reducible rfl
             rotate_left
             · simp only [Act.put, List.setIfInBounds_toArray, List.set_cons_zero, List.set_cons_succ, i64_w, i32_w]
               rfl
             refine pure_ (i := 5) (N := some 22) (v := ?_) (a' := ?_) #[true, true, true, false, true, true, false, false, false, false] rfl rfl (any_of HT_.out (by kernel_rfl)) (fun _ _ _ h => h) (Or.inl ⟨by rfl, ?_⟩) ?_ ?_
             rotate_left
             · intro w'
               go_simp
               with_reducible rfl
             rotate_left
             · simp only [Act.put, List.setIfInBounds_toArray, List.set_cons_zero, List.set_cons_succ, i64_w, i32_w]
               rfl
             refine pure_ (i := 6) (N := some 23) (v := ?_) (a' := ?_) #[true, true, true, false, true, true, true, false, false, false] rfl rfl (any_of HT_.out (by kernel_rfl)) (fun _ _ _ h => h) (Or.inl ⟨by rfl, ?_⟩) ?_ ?_
             rotate_left
             · intro w'
               go_simp
               with_reducible rfl
             rotate_left
             · simp only [Act.put, List.setIfInBounds_toArray, List.set_cons_zero, List.set_cons_succ, i64_w, i32_w]
               rfl
             refine take_ (i := 3) (N := some 20) (v := ?_) (a' := ?_) #[true, true, true, true, true, true, true, false, false, false] rfl rfl (take_ofW HT_.out HW_.out (by kernel_rfl)) (fun _ _ _ h => h) (Or.inl ⟨by rfl, ?_⟩) hHeld ?_ ?_
             rotate_left
             · rintro w' ⟨s0, s1, s2, s3, s4, s5, s6, s7⟩
               go_simp
               with_reducible rfl
             rotate_left
             · simp only [Act.put, List.setIfInBounds_toArray, List.set_cons_zero, List.set_cons_succ, i64_w, i32_w]
               rfl
             refine take_ (i := 7) (N := some 24) (v := ?_) (a' := ?_) #[true, true, true, true, true, true, true, true, false, false] rfl rfl (take_ofW HT_.out HW_.out (by kernel_rfl)) (fun _ _ _ h => h) (Or.inl ⟨by rfl, ?_⟩) hHeld ?_ ?_
             rotate_left
             · rintro w' ⟨s0, s1, s2, s3, s4, s5, s6, s7⟩
               go_simp
               with_reducible rfl
             rotate_left
             · simp only [Act.put, List.setIfInBounds_toArray, List.set_cons_zero, List.set_cons_succ, i64_w, i32_w]
               rfl
             refine one_ (i := 8) (N := some 25) #[true, true, true, true, true, true, true, true, true, false] rfl rfl (one_of HT_.out (by kernel_rfl)) (by decide) (fun K hK => ?_)
             refine goes_ Try.func124 (by kernel_rfl) rfl #[.agg #[.int .i64 ((rd_T75 l0 x5_1).f0), .int .i64 ((rd_T75 l0 x5_1).f1), .int .i64 ((rd_T75 l0 x5_1).f2), .int .u64 ((rd_T75 l0 x5_1).f3)], .agg #[.int .i64 ((rd_T75 l1 x5_1).f0), .int .i64 ((rd_T75 l1 x5_1).f1), .int .i64 ((rd_T75 l1 x5_1).f2), .int .u64 ((rd_T75 l1 x5_1).f3)]] (by rfl) rfl rfl (by (try simp only [List.map_toArray, List.map_cons, List.map_nil]); first | done | rfl | (simp only [List.length_drop, List.length_take]; rfl)) ?_
             with_reducible refine (laws_eqOperand.calls ((rd_T75 l0 x5_1).f0) ((rd_T75 l0 x5_1).f1) ((rd_T75 l0 x5_1).f2) ((rd_T75 l0 x5_1).f3) ((rd_T75 l1 x5_1).f0) ((rd_T75 l1 x5_1).f1) ((rd_T75 l1 x5_1).f2) ((rd_T75 l1 x5_1).f3) false _ A7.out).mono ?_
             rintro e w12 ⟨rfl, hb⟩
             refine ⟨_, rfl, ?_⟩
             have n0_ := Aside0.mk (below_step (by repeat (first | (with_reducible first | exact HB.out | apply below_alloc | apply pw_below_drewN | apply below_drew1) | exact HB.out)) hb)
             clear HB
             have HB := n0_
             clear n0_
             (try clear hb)
             (try clear hb2)
             (try clear hk)
             (try clear hi)
             refine hK.out _ _ ⟨((HB.out.cell (World.block_lt_of_cell? w _ hw273_0)).trans hw273_0), ((HB.out.cell (World.block_lt_of_cell? w _ hw273_1)).trans hw273_1), ((HB.out.cell (World.block_lt_of_cell? w _ hw273_2)).trans hw273_2), ((HB.out.cell (World.block_lt_of_cell? w _ hw273_3)).trans hw273_3), ((HB.out.cell (World.block_lt_of_cell? w _ hw274_0)).trans hw274_0), ((HB.out.cell (World.block_lt_of_cell? w _ hw274_1)).trans hw274_1), ((HB.out.cell (World.block_lt_of_cell? w _ hw274_2)).trans hw274_2), ((HB.out.cell (World.block_lt_of_cell? w _ hw274_3)).trans hw274_3)⟩ (fun hHeld => ?_)
             clear hK K
             refine norm_ (a' := ?_) ?_ ?_
             rotate_left
             · show Act.put _ (some 25) _ = _
               simp only [Act.put, List.setIfInBounds_toArray, List.set_cons_zero, List.set_cons_succ, i64_w, i32_w]
               rfl
             refine pure_ (i := 9) (N := some 26) (v := ?_) (a' := ?_) #[true, true, true, true, true, true, true, true, true, true] rfl rfl (any_of HT_.out (by kernel_rfl)) (fun _ _ _ h => h) (Or.inl ⟨by rfl, ?_⟩) ?_ ?_
             rotate_left
             · intro w'
               go_simp
               with_reducible rfl
             rotate_left
             · simp only [Act.put, List.setIfInBounds_toArray, List.set_cons_zero, List.set_cons_succ, i64_w, i32_w]
               rfl
             refine done_ (done_of HT_.out (by kernel_rfl)) ?_
             try go_wp2
             go_ret
             exact ⟨by first | rfl | (simp [errW_none, errW_some] <;> rfl) | (simp [*, errW_none, errW_some] <;> rfl), by repeat (first | (with_reducible first | exact HB.out | apply below_alloc | apply pw_below_drewN | apply below_drew1) | exact HB.out)⟩
         · rw [if_neg c6] at H
           exact absurd H (by simp)
       · rw [if_neg c5] at H
         exact absurd H (by simp)
     · rw [if_neg c4] at H
       have c4b0 : decide (x5_1 < (l0.length : Int)) = false := decide_eq_false c4
       clear c4
       obtain rfl := Option.some.inj H
       go_wp2
       go_ret
       exact ⟨by first | rfl | (simp [errW_none, errW_some] <;> rfl) | (simp [*, errW_none, errW_some] <;> rfl), by repeat (first | (with_reducible first | exact HB.out | apply below_alloc | apply pw_below_drewN | apply below_drew1) | exact HB.out)⟩
 · rw [if_neg c3] at H
   have c3b0 : ((l0.length : Int) == (l1.length : Int)) = false := beq_eq_false_iff_ne.mpr c3
   have c3b1 : ((l0.length : Int) != (l1.length : Int)) = true := bne_iff_ne.mpr c3
   have c3b2 : (l0.length == l1.length) = false := by first | simpa using c3 | (simp at c3 ⊢; omega)
   obtain rfl := Option.some.inj H
   go_enter Try.func120, Try.ntmps120
   go_wp2
   go_ret
   exact ⟨by first | rfl | (simp [errW_none, errW_some] <;> rfl) | (simp [*, errW_none, errW_some] <;> rfl), by repeat (first | (with_reducible first | exact HB.out | apply below_alloc | apply pw_below_drewN | apply below_drew1) | exact HB.out)⟩

end Go.Proofs.Ytoedcnhgobbnfaa.All


namespace Go.Proofs.Ytoedcnhgobbnfaa.All
open Go.RowKit Go.Proofs.YtoedcnhgobbnfaaW.PrintWords Go.Proofs.YtoedcnhgobbnfaaW.PrintLast Go.Proofs.YtoedcnhgobbnfaaW.PrintMore
attribute [local go_sem] max2_int min2_int max_two min_two max_three min_three max_four min_four   -- for this text's walks alone
set_option linter.unusedVariables false
set_option linter.unusedSimpArgs false

/-! ### laws_eqUint64S: function 121 -/
def laws_eqUint64S.l0 : Nat → List Int → List Int → Int → Option (Bool)
 | 0, _, _, _ => none
 | k + 1, x0, x1, x5 => if x5 < (x0.length : Int) then (if 0 ≤ x5 then (if x5 < (x1.length : Int) then (if (rd x0 x5) = (rd x1 x5) then (laws_eqUint64S.l0 k x0 x1 (wrap64 (x5 + 1))) else (some false)) else (none)) else (none)) else (some true)
def laws_eqUint64S.f (k : Nat) (l0 : List Int) (l1 : List Int) : Option (Bool) := if (l0.length : Int) = (l1.length : Int) then (laws_eqUint64S.l0 k l0 l1 0) else (some false)
set_option maxHeartbeats 8000000 in
set_option maxRecDepth 100000 in
theorem laws_eqUint64S.calls (k : Nat) (A0 : Option Addr) (c0 : Nat) (l0 : List Int) (A1 : Option Addr) (c1 : Nat) (l1 : List Int) (r : Bool) (w : World) (hr0 : Kd.C (Kd.int .u64) w A0 l0.length l0) (hc0 : l0.length ≤ c0) (hr1 : Kd.C (Kd.int .u64) w A1 l1.length l1) (hc1 : l1.length ≤ c1) (h : laws_eqUint64S.f k l0 l1 = some r) :
 Calls Try.prog 121 #[.slice A0 l0.length c0, .slice A1 l1.length c1] w fun e w' => e = .returned (.bool r) ∧ Drawn0 w w' := by
 have HR0 := Aside0.mk hr0
 have HC0 := Aside0.mk hc0
 clear hr0 hc0
 have HR1 := Aside0.mk hr1
 have HC1 := Aside0.mk hc1
 clear hr1 hc1
 have H : (if (l0.length : Int) = (l1.length : Int) then (laws_eqUint64S.l0 k l0 l1 0) else (some false)) = some r := h
 clear h
 by_cases c3 : (l0.length : Int) = (l1.length : Int)
 · rw [if_pos c3] at H
   have c3b0 : ((l0.length : Int) == (l1.length : Int)) = true := beq_iff_eq.mpr c3
   have c3b1 : ((l0.length : Int) != (l1.length : Int)) = false := bne_eq_false_iff_eq.mpr c3
   have c3b2 : (l0.length == l1.length) = true := by first | simpa using c3 | (simp at c3 ⊢; omega)
   clear c3
   have H' := Aside0.mk H
   clear H
   go_enter Try.func121, Try.ntmps121
   go_wp2
   repeat (go_quiet (fail); try go_wp2)
   go_loopg [5] k (fun kq v5 w' => ∃ (x5_1 : Int), v5 = .int .i64 x5_1 ∧ Aside0 (laws_eqUint64S.l0 kq l0 l1 x5_1 = some r) ∧ Aside0 (kq ≤ k) ∧ Drawn0 w w')
   case atStart => exact ⟨(0), (by first | rfl | (simp; done) | (simp [*]; done)), H', ⟨Nat.le_refl _⟩, by repeat (first | exact Drawn0.refl _ | apply Drawn0.step)⟩
   case round =>
    clear H'
    try clear c1
    try clear p2
    try clear c3
    try clear c3b0
    try clear c3b1
    try clear c3b2
    obtain ⟨x5_1, rfl, HA, HK1, ⟨m1, rfl⟩⟩ := hrel
    cases gk with
    | zero => exact absurd HA.out (by simp [laws_eqUint64S.l0])
    | succ k1 =>
     have H := HA.out
     clear HA
     simp only [laws_eqUint64S.l0] at H
     by_cases c4 : x5_1 < (l0.length : Int)
     · rw [if_pos c4] at H
       have c4b0 : decide (x5_1 < (l0.length : Int)) = true := decide_eq_true c4
       clear c4
       by_cases c5 : 0 ≤ x5_1
       · rw [if_pos c5] at H
         have c5b0 : decide (0 ≤ x5_1) = true := decide_eq_true c5
         clear c5
         by_cases c6 : x5_1 < (l1.length : Int)
         · rw [if_pos c6] at H
           have c6b0 : decide (x5_1 < (l1.length : Int)) = true := decide_eq_true c6
           clear c6
           by_cases c7 : (rd l0 x5_1) = (rd l1 x5_1)
           · rw [if_pos c7] at H
             have c7b0 : ((rd l0 x5_1) == (rd l1 x5_1)) = true := beq_iff_eq.mpr c7
             have c7b1 : ((rd l0 x5_1) != (rd l1 x5_1)) = false := bne_eq_false_iff_eq.mpr c7
             clear c7
             have H' := Aside0.mk H
             clear H
             have p276 : 0 ≤ (x5_1 : Int) := of_decide_eq_true (by first | (with_reducible assumption) | assumption)
             have q276 : x5_1 < (l0.length : Int) := of_decide_eq_true (by first | (with_reducible assumption) | assumption)
             obtain ⟨ad276, e276, hx276_0⟩ := Kd.at_int HR0.out x5_1 p276 q276
             cases e276
             replace p276 := eq_true p276
             replace q276 := eq_true q276
             have p277 : 0 ≤ (x5_1 : Int) := of_decide_eq_true (by first | (with_reducible assumption) | assumption)
             have q277 : x5_1 < (l1.length : Int) := of_decide_eq_true (by first | (with_reducible assumption) | assumption)
             obtain ⟨ad277, e277, hx277_0⟩ := Kd.at_int HR1.out x5_1 p277 q277
             cases e277
             replace p277 := eq_true p277
             replace q277 := eq_true q277
             go_wp2
             repeat (go_quiet (fail); try go_wp2)
             go_roundg k1
             case measure => have := HK1.out; omega
             case rel => exact ⟨(wrap64 (x5_1 + 1)), (by first | rfl | (simp; done) | (simp [*]; done)), H', ⟨by have := HK1.out; omega⟩, by repeat (first | exact Drawn0.refl _ | apply Drawn0.step)⟩
           · rw [if_neg c7] at H
             have c7b0 : ((rd l0 x5_1) == (rd l1 x5_1)) = false := beq_eq_false_iff_ne.mpr c7
             have c7b1 : ((rd l0 x5_1) != (rd l1 x5_1)) = true := bne_iff_ne.mpr c7
             obtain rfl := Option.some.inj H
             have p276 : 0 ≤ (x5_1 : Int) := of_decide_eq_true (by first | (with_reducible assumption) | assumption)
             have q276 : x5_1 < (l0.length : Int) := of_decide_eq_true (by first | (with_reducible assumption) | assumption)
             obtain ⟨ad276, e276, hx276_0⟩ := Kd.at_int HR0.out x5_1 p276 q276
             cases e276
             replace p276 := eq_true p276
             replace q276 := eq_true q276
             have p277 : 0 ≤ (x5_1 : Int) := of_decide_eq_true (by first | (with_reducible assumption) | assumption)
             have q277 : x5_1 < (l1.length : Int) := of_decide_eq_true (by first | (with_reducible assumption) | assumption)
             obtain ⟨ad277, e277, hx277_0⟩ := Kd.at_int HR1.out x5_1 p277 q277
             cases e277
             replace p277 := eq_true p277
             replace q277 := eq_true q277
             go_wp2
             repeat (go_quiet (fail); try go_wp2)
             go_ret
             exact ⟨by first | rfl | (simp; done) | (simp [*]; done), by repeat (first | exact Drawn0.refl _ | apply Drawn0.step)⟩
         · rw [if_neg c6] at H
           exact absurd H (by simp)
       · rw [if_neg c5] at H
         exact absurd H (by simp)
     · rw [if_neg c4] at H
       have c4b0 : decide (x5_1 < (l0.length : Int)) = false := decide_eq_false c4
       clear c4
       obtain rfl := Option.some.inj H
       go_wp2
       repeat (go_quiet (fail); try go_wp2)
       go_ret
       exact ⟨by first | rfl | (simp; done) | (simp [*]; done), by repeat (first | exact Drawn0.refl _ | apply Drawn0.step)⟩
 · rw [if_neg c3] at H
   have c3b0 : ((l0.length : Int) == (l1.length : Int)) = false := beq_eq_false_iff_ne.mpr c3
   have c3b1 : ((l0.length : Int) != (l1.length : Int)) = true := bne_iff_ne.mpr c3
   have c3b2 : (l0.length == l1.length) = false := by first | simpa using c3 | (simp at c3 ⊢; omega)
   obtain rfl := Option.some.inj H
   go_enter Try.func121, Try.ntmps121
   go_wp2
   repeat (go_quiet (fail); try go_wp2)
   go_ret
   exact ⟨by first | rfl | (simp; done) | (simp [*]; done), by repeat (first | exact Drawn0.refl _ | apply Drawn0.step)⟩

end Go.Proofs.Ytoedcnhgobbnfaa.All


namespace Go.Proofs.Ytoedcnhgobbnfaa.All
open Go.RowKit Go.Proofs.YtoedcnhgobbnfaaW.PrintWords Go.Proofs.YtoedcnhgobbnfaaW.PrintLast Go.Proofs.YtoedcnhgobbnfaaW.PrintMore
attribute [local go_sem] max2_int min2_int max_two min_two max_three min_three max_four min_four   -- for this text's walks alone
set_option linter.unusedVariables false
set_option linter.unusedSimpArgs false

/-! ### laws_eqInstr: function 109 -/
def laws_eqInstr.f (k : Nat) (a0_0 : Int) (a0_1 : Int) (a0_2 : Int) (a0_3 : Int) (a0_4 : Int) (a0_5 : Int) (l0_6 : List (S75)) (l0_7 : List Int) (l0_8 : List Int) (a1_0 : Int) (a1_1 : Int) (a1_2 : Int) (a1_3 : Int) (a1_4 : Int) (a1_5 : Int) (l1_6 : List (S75)) (l1_7 : List Int) (l1_8 : List Int) : Option Bool := if a0_0 = a1_0 then (if a0_1 = a1_1 then (if a0_2 = a1_2 then (if a0_3 = a1_3 then (if a0_4 = a1_4 then (if a0_5 = a1_5 then (((laws_eqOperandS.f k l0_6 l1_6).bind fun t6 => (if t6 = true then (((laws_eqInt64S.f k l0_7 l1_7).bind fun t7 => (if t7 = true then (((laws_eqUint64S.f k l0_8 l1_8).bind fun t8 => (if t8 = true then (some true) else none))) else none))) else none))) else none) else none) else none) else none) else none) else none
set_option maxHeartbeats 4000000 in
set_option maxRecDepth 100000 in
theorem laws_eqInstr.calls (k : Nat) (a0_0 : Int) (a0_1 : Int) (a0_2 : Int) (a0_3 : Int) (a0_4 : Int) (a0_5 : Int) (A0_6 : Option Addr) (c0_6 : Nat) (l0_6 : List (S75)) (A0_7 : Option Addr) (c0_7 : Nat) (l0_7 : List Int) (A0_8 : Option Addr) (c0_8 : Nat) (l0_8 : List Int) (a1_0 : Int) (a1_1 : Int) (a1_2 : Int) (a1_3 : Int) (a1_4 : Int) (a1_5 : Int) (A1_6 : Option Addr) (c1_6 : Nat) (l1_6 : List (S75)) (A1_7 : Option Addr) (c1_7 : Nat) (l1_7 : List Int) (A1_8 : Option Addr) (c1_8 : Nat) (l1_8 : List Int) (r : Bool) (w : World) (hr0_6 : Kd.C k75 w A0_6 l0_6.length l0_6) (hc0_6 : l0_6.length ≤ c0_6) (hr0_7 : Kd.C (Kd.int .i64) w A0_7 l0_7.length l0_7) (hc0_7 : l0_7.length ≤ c0_7) (hr0_8 : Kd.C (Kd.int .u64) w A0_8 l0_8.length l0_8) (hc0_8 : l0_8.length ≤ c0_8) (hr1_6 : Kd.C k75 w A1_6 l1_6.length l1_6) (hc1_6 : l1_6.length ≤ c1_6) (hr1_7 : Kd.C (Kd.int .i64) w A1_7 l1_7.length l1_7) (hc1_7 : l1_7.length ≤ c1_7) (hr1_8 : Kd.C (Kd.int .u64) w A1_8 l1_8.length l1_8) (hc1_8 : l1_8.length ≤ c1_8) (h : laws_eqInstr.f k a0_0 a0_1 a0_2 a0_3 a0_4 a0_5 l0_6 l0_7 l0_8 a1_0 a1_1 a1_2 a1_3 a1_4 a1_5 l1_6 l1_7 l1_8 = some r) :
 Calls Try.prog 109 #[.agg #[.int .i64 a0_0, .int .i64 a0_1, .int .i64 a0_2, .int .i64 a0_3, .int .i64 a0_4, .int .i64 a0_5, .slice A0_6 l0_6.length c0_6, .slice A0_7 l0_7.length c0_7, .slice A0_8 l0_8.length c0_8], .agg #[.int .i64 a1_0, .int .i64 a1_1, .int .i64 a1_2, .int .i64 a1_3, .int .i64 a1_4, .int .i64 a1_5, .slice A1_6 l1_6.length c1_6, .slice A1_7 l1_7.length c1_7, .slice A1_8 l1_8.length c1_8]] w fun e w' => e = .returned (.bool r) ∧ Below w.heap.size w w' := by
 unfold laws_eqInstr.f at h
 by_cases e0 : a0_0 = a1_0
 rotate_left
 · rw [if_neg e0] at h; cases h
 rw [if_pos e0] at h
 subst e0
 by_cases e1 : a0_1 = a1_1
 rotate_left
 · rw [if_neg e1] at h; cases h
 rw [if_pos e1] at h
 subst e1
 by_cases e2 : a0_2 = a1_2
 rotate_left
 · rw [if_neg e2] at h; cases h
 rw [if_pos e2] at h
 subst e2
 by_cases e3 : a0_3 = a1_3
 rotate_left
 · rw [if_neg e3] at h; cases h
 rw [if_pos e3] at h
 subst e3
 by_cases e4 : a0_4 = a1_4
 rotate_left
 · rw [if_neg e4] at h; cases h
 rw [if_pos e4] at h
 subst e4
 by_cases e5 : a0_5 = a1_5
 rotate_left
 · rw [if_neg e5] at h; cases h
 rw [if_pos e5] at h
 subst e5
 obtain ⟨t6, b6, h6⟩ := Option.bind_eq_some_iff.mp h
 clear h
 by_cases e6 : t6 = true
 rotate_left
 · rw [if_neg e6] at h6; cases h6
 rw [if_pos e6] at h6
 subst e6
 have B6 := Aside0.mk b6
 clear b6
 obtain ⟨t7, b7, h7⟩ := Option.bind_eq_some_iff.mp h6
 clear h6
 by_cases e7 : t7 = true
 rotate_left
 · rw [if_neg e7] at h7; cases h7
 rw [if_pos e7] at h7
 subst e7
 have B7 := Aside0.mk b7
 clear b7
 obtain ⟨t8, b8, h8⟩ := Option.bind_eq_some_iff.mp h7
 clear h7
 by_cases e8 : t8 = true
 rotate_left
 · rw [if_neg e8] at h8; cases h8
 rw [if_pos e8] at h8
 subst e8
 have B8 := Aside0.mk b8
 clear b8
 obtain rfl := Option.some.inj h8
 clear h8
 have R0_6 := Aside0.mk hr0_6; have C0_6 := Aside0.mk hc0_6; clear hr0_6 hc0_6
 have R0_7 := Aside0.mk hr0_7; have C0_7 := Aside0.mk hc0_7; clear hr0_7 hc0_7
 have R0_8 := Aside0.mk hr0_8; have C0_8 := Aside0.mk hc0_8; clear hr0_8 hc0_8
 have R1_6 := Aside0.mk hr1_6; have C1_6 := Aside0.mk hc1_6; clear hr1_6 hc1_6
 have R1_7 := Aside0.mk hr1_7; have C1_7 := Aside0.mk hc1_7; clear hr1_7 hc1_7
 have R1_8 := Aside0.mk hr1_8; have C1_8 := Aside0.mk hc1_8; clear hr1_8 hc1_8
 have hu := Try.underlying66
 go_enter Try.func109, Try.ntmps109
 go_wp2_with (first | (go_at_call 120; refine calls_at (fun W => Below w.heap.size w W ∧ W.heap[w.heap.size]? = some (.cells #[.int .i64 a0_0, .int .i64 a0_1, .int .i64 a0_2, .int .i64 a0_3, .int .i64 a0_4, .int .i64 a0_5, .slice A0_6 l0_6.length c0_6, .slice A0_7 l0_7.length c0_7, .slice A0_8 l0_8.length c0_8] 66 (0, 0)) ∧ W.heap[w.heap.size + 1]? = some (.cells #[.int .i64 a0_0, .int .i64 a0_1, .int .i64 a0_2, .int .i64 a0_3, .int .i64 a0_4, .int .i64 a0_5, .slice A1_6 l1_6.length c1_6, .slice A1_7 l1_7.length c1_7, .slice A1_8 l1_8.length c1_8] 66 (0, 0))) ?h_6 ?_; (case h_6 => exact ⟨below_alloc (below_alloc (Below.refl _ _) _) _, alloc2_0 _ _ _, alloc2_1 _ _ _⟩); rintro W6 ⟨b6, p6, q6⟩; refine (laws_eqOperandS.calls k A0_6 c0_6 l0_6 A1_6 c1_6 l1_6 true W6 (Kd.C_below R0_6.out b6) C0_6.out (Kd.C_below R1_6.out b6) C1_6.out B6.out).mono ?_; rintro e w6 ⟨rfl, d6⟩; have BW6 := Aside0.mk (below_step b6 d6); have P6 := Aside0.mk ((d6.block _ (blk_lt p6)).trans p6); have Q6 := Aside0.mk ((d6.block _ (blk_lt q6)).trans q6); clear b6 p6 q6 d6; have x6_7 : w6.cell? ⟨w.heap.size, 7, none⟩ = some (.slice A0_7 l0_7.length c0_7) := (blk_cell P6.out 7).trans rfl; have y6_7 : w6.cell? ⟨w.heap.size + 1, 7, none⟩ = some (.slice A1_7 l1_7.length c1_7) := (blk_cell Q6.out 7).trans rfl; have x6_8 : w6.cell? ⟨w.heap.size, 8, none⟩ = some (.slice A0_8 l0_8.length c0_8) := (blk_cell P6.out 8).trans rfl; have y6_8 : w6.cell? ⟨w.heap.size + 1, 8, none⟩ = some (.slice A1_8 l1_8.length c1_8) := (blk_cell Q6.out 8).trans rfl) | (go_at_call 19; refine calls_at (fun W => Below w.heap.size w W ∧ W.heap[w.heap.size]? = some (.cells #[.int .i64 a0_0, .int .i64 a0_1, .int .i64 a0_2, .int .i64 a0_3, .int .i64 a0_4, .int .i64 a0_5, .slice A0_6 l0_6.length c0_6, .slice A0_7 l0_7.length c0_7, .slice A0_8 l0_8.length c0_8] 66 (0, 0)) ∧ W.heap[w.heap.size + 1]? = some (.cells #[.int .i64 a0_0, .int .i64 a0_1, .int .i64 a0_2, .int .i64 a0_3, .int .i64 a0_4, .int .i64 a0_5, .slice A1_6 l1_6.length c1_6, .slice A1_7 l1_7.length c1_7, .slice A1_8 l1_8.length c1_8] 66 (0, 0))) ?h_7 ?_; (case h_7 => exact ⟨BW6.out, P6.out, Q6.out⟩); rintro W7 ⟨b7, p7, q7⟩; refine (laws_eqInt64S.calls k A0_7 c0_7 l0_7 A1_7 c1_7 l1_7 true W7 (Kd.C_below R0_7.out b7) C0_7.out (Kd.C_below R1_7.out b7) C1_7.out B7.out).mono ?_; rintro e w7 ⟨rfl, d7⟩; have d7 := d7.below; have BW7 := Aside0.mk (below_step b7 d7); have P7 := Aside0.mk ((d7.block _ (blk_lt p7)).trans p7); have Q7 := Aside0.mk ((d7.block _ (blk_lt q7)).trans q7); clear b7 p7 q7 d7; have x7_8 : w7.cell? ⟨w.heap.size, 8, none⟩ = some (.slice A0_8 l0_8.length c0_8) := (blk_cell P7.out 8).trans rfl; have y7_8 : w7.cell? ⟨w.heap.size + 1, 8, none⟩ = some (.slice A1_8 l1_8.length c1_8) := (blk_cell Q7.out 8).trans rfl) | (go_at_call 121; refine calls_at (fun W => Below w.heap.size w W ∧ W.heap[w.heap.size]? = some (.cells #[.int .i64 a0_0, .int .i64 a0_1, .int .i64 a0_2, .int .i64 a0_3, .int .i64 a0_4, .int .i64 a0_5, .slice A0_6 l0_6.length c0_6, .slice A0_7 l0_7.length c0_7, .slice A0_8 l0_8.length c0_8] 66 (0, 0)) ∧ W.heap[w.heap.size + 1]? = some (.cells #[.int .i64 a0_0, .int .i64 a0_1, .int .i64 a0_2, .int .i64 a0_3, .int .i64 a0_4, .int .i64 a0_5, .slice A1_6 l1_6.length c1_6, .slice A1_7 l1_7.length c1_7, .slice A1_8 l1_8.length c1_8] 66 (0, 0))) ?h_8 ?_; (case h_8 => exact ⟨BW7.out, P7.out, Q7.out⟩); rintro W8 ⟨b8, p8, q8⟩; refine (laws_eqUint64S.calls k A0_8 c0_8 l0_8 A1_8 c1_8 l1_8 true W8 (Kd.C_below R0_8.out b8) C0_8.out (Kd.C_below R1_8.out b8) C1_8.out B8.out).mono ?_; rintro e w8 ⟨rfl, d8⟩; have d8 := d8.below; have BW8 := Aside0.mk (below_step b8 d8); have P8 := Aside0.mk ((d8.block _ (blk_lt p8)).trans p8); have Q8 := Aside0.mk ((d8.block _ (blk_lt q8)).trans q8); clear b8 p8 q8 d8))
 go_ret
 exact ⟨rfl, BW8.out⟩

end Go.Proofs.Ytoedcnhgobbnfaa.All


namespace Go.Proofs.Ytoedcnhgobbnfaa.All
open Go.RowKit Go.Proofs.YtoedcnhgobbnfaaW.PrintWords Go.Proofs.YtoedcnhgobbnfaaW.PrintLast Go.Proofs.YtoedcnhgobbnfaaW.PrintMore
attribute [local go_sem] max2_int min2_int max_two min_two max_three min_three max_four min_four   -- for this text's walks alone
set_option linter.unusedVariables false
set_option linter.unusedSimpArgs false

/-! ### laws_eqInstrS: function 83 -/
def laws_eqInstrS.l0 : Nat → List (S66) → List (S66) → Int → Option (Bool)
 | 0, _, _, _ => none
 | k + 1, x0, x1, x5 => if x5 < (x0.length : Int) then (if 0 ≤ x5 then (if x5 < (x1.length : Int) then ((laws_eqInstr.f k ((rd_T66 x0 x5).f0) ((rd_T66 x0 x5).f1) ((rd_T66 x0 x5).f2) ((rd_T66 x0 x5).f3) ((rd_T66 x0 x5).f4) ((rd_T66 x0 x5).f5) ((rd_T66 x0 x5).f6) ((rd_T66 x0 x5).f7) ((rd_T66 x0 x5).f8) ((rd_T66 x1 x5).f0) ((rd_T66 x1 x5).f1) ((rd_T66 x1 x5).f2) ((rd_T66 x1 x5).f3) ((rd_T66 x1 x5).f4) ((rd_T66 x1 x5).f5) ((rd_T66 x1 x5).f6) ((rd_T66 x1 x5).f7) ((rd_T66 x1 x5).f8)).bind fun t280 => (if t280 = true then (laws_eqInstrS.l0 k x0 x1 (wrap64 (x5 + 1))) else (some false))) else (none)) else (none)) else (some true)
def laws_eqInstrS.f (k : Nat) (l0 : List (S66)) (l1 : List (S66)) : Option (Bool) := if (l0.length : Int) = (l1.length : Int) then (laws_eqInstrS.l0 k l0 l1 0) else (some false)
def laws_eqInstrS.T6 : Bool × List (List Nat × List Nat) := (true, [([], []), ([], []), ([0, 1], [0, 1]), ([2], [2]), ([], []), ([], []), ([4, 5], [4, 5]), ([6], [6]), ([3, 7], [3, 7]), ([8], [8])])
def laws_eqInstrS.B6 : List Nat := [0, 0, 3, 7, 0, 0, 48, 112, 255, 511]
theorem laws_eqInstrS.tab6 : rtab .any (opsOf Try.f83 6) = laws_eqInstrS.T6 := by kernel_rfl
theorem laws_eqInstrS.bits6 : waitsOk laws_eqInstrS.T6.2 laws_eqInstrS.B6 = true := by kernel_rfl
set_option maxHeartbeats 8000000 in
set_option maxRecDepth 100000 in
theorem laws_eqInstrS.calls (k : Nat) (A0 : Option Addr) (c0 : Nat) (l0 : List (S66)) (A1 : Option Addr) (c1 : Nat) (l1 : List (S66)) (r : Bool) (w : World) (hr0 : Kd.C k66 w A0 l0.length l0) (hc0 : l0.length ≤ c0) (hr1 : Kd.C k66 w A1 l1.length l1) (hc1 : l1.length ≤ c1) (h : laws_eqInstrS.f k l0 l1 = some r) :
 Calls Try.prog 83 #[.slice A0 l0.length c0, .slice A1 l1.length c1] w fun e w' => e = .returned (.bool r) ∧ Below w.heap.size w w' := by
 have hu66 := Try.underlying66
 have HR0 := Aside0.mk hr0
 have HC0 := Aside0.mk hc0
 clear hr0 hc0
 have HR1 := Aside0.mk hr1
 have HC1 := Aside0.mk hc1
 clear hr1 hc1
 have HB := Aside0.mk (Below.refl w.heap.size w)
 have H : (if (l0.length : Int) = (l1.length : Int) then (laws_eqInstrS.l0 k l0 l1 0) else (some false)) = some r := h
 clear h
 by_cases c3 : (l0.length : Int) = (l1.length : Int)
 · rw [if_pos c3] at H
   have c3b0 : ((l0.length : Int) == (l1.length : Int)) = true := beq_iff_eq.mpr c3
   have c3b1 : ((l0.length : Int) != (l1.length : Int)) = false := bne_eq_false_iff_eq.mpr c3
   have c3b2 : (l0.length == l1.length) = true := by first | simpa using c3 | (simp at c3 ⊢; omega)
   clear c3
   have H' := Aside0.mk H
   clear H
   go_enter Try.func83, Try.ntmps83
   go_wp2
   go_loopg [5] k (fun kq v5 w' => ∃ (x5_1 : Int), v5 = .int .i64 x5_1 ∧ Aside0 (laws_eqInstrS.l0 kq l0 l1 x5_1 = some r) ∧ Aside0 (kq ≤ k) ∧ Aside0 (Below w.heap.size w w'))
   case atStart => exact ⟨(0), (by first | rfl | (simp; done) | (simp [*]; done)), H', ⟨Nat.le_refl _⟩, ⟨by repeat (first | (with_reducible first | exact HB.out | apply below_alloc | apply pw_below_drewN | apply below_drew1) | exact HB.out)⟩⟩
   case round =>
    clear H'
    try clear c1
    try clear p2
    try clear c3
    try clear c3b0
    try clear c3b1
    try clear c3b2
    obtain ⟨x5_1, rfl, HA, HK1, HB⟩ := hrel
    cases gk with
    | zero => exact absurd HA.out (by simp [laws_eqInstrS.l0])
    | succ k1 =>
     have H := HA.out
     clear HA
     simp only [laws_eqInstrS.l0] at H
     by_cases c4 : x5_1 < (l0.length : Int)
     · rw [if_pos c4] at H
       have c4b0 : decide (x5_1 < (l0.length : Int)) = true := decide_eq_true c4
       clear c4
       by_cases c5 : 0 ≤ x5_1
       · rw [if_pos c5] at H
         have c5b0 : decide (0 ≤ x5_1) = true := decide_eq_true c5
         clear c5
         by_cases c6 : x5_1 < (l1.length : Int)
         · rw [if_pos c6] at H
           have c6b0 : decide (x5_1 < (l1.length : Int)) = true := decide_eq_true c6
           clear c6
           replace H := Option.bind_eq_some_iff.mp H
           obtain ⟨t280, A70, H⟩ := H
           replace H : (if t280 = true then (laws_eqInstrS.l0 k1 l0 l1 (wrap64 (x5_1 + 1))) else (some false)) = some r := H
           have A7 := Aside0.mk A70
           clear A70
           by_cases c8 : t280 = true
           · subst c8
             have H1 : (laws_eqInstrS.l0 k1 l0 l1 (wrap64 (x5_1 + 1))) = some r := by rw [if_pos rfl] at H; exact H
             clear H
             have H := H1
             clear H1
             have H' := Aside0.mk H
             clear H
             try go_wp2
             have n0_ := Aside0.mk (below_drew1 HB.out)
             clear HB
             have HB := n0_
             clear n0_
             have p278 : 0 ≤ (x5_1 : Int) := of_decide_eq_true (by first | (with_reducible assumption) | assumption)
             have q278 : x5_1 < (l0.length : Int) := of_decide_eq_true (by first | (with_reducible assumption) | assumption)
             obtain ⟨ad278, A278_6, c278_6, A278_7, c278_7, A278_8, c278_8, e278, hx278_0, hx278_1, hx278_2, hx278_3, hx278_4, hx278_5, hx278_6, hx278_7, hx278_8, hl278_6, hi278_6, hl278_7, hi278_7, hl278_8, hi278_8⟩ := at_T66 HR0.out x5_1 p278 q278
             have hw278_8 := hx278_8
             have hw278_7 := hx278_7
             have hw278_6 := hx278_6
             have hw278_5 := hx278_5
             have hw278_4 := hx278_4
             have hw278_3 := hx278_3
             have hw278_2 := hx278_2
             have hw278_1 := hx278_1
             have hw278_0 := hx278_0
             cases e278
             replace hx278_0 := (HB.out.cell (World.block_lt_of_cell? w _ hx278_0)).trans hx278_0
             replace hx278_1 := (HB.out.cell (World.block_lt_of_cell? w _ hx278_1)).trans hx278_1
             replace hx278_2 := (HB.out.cell (World.block_lt_of_cell? w _ hx278_2)).trans hx278_2
             replace hx278_3 := (HB.out.cell (World.block_lt_of_cell? w _ hx278_3)).trans hx278_3
             replace hx278_4 := (HB.out.cell (World.block_lt_of_cell? w _ hx278_4)).trans hx278_4
             replace hx278_5 := (HB.out.cell (World.block_lt_of_cell? w _ hx278_5)).trans hx278_5
             replace hx278_6 := (HB.out.cell (World.block_lt_of_cell? w _ hx278_6)).trans hx278_6
             replace hx278_7 := (HB.out.cell (World.block_lt_of_cell? w _ hx278_7)).trans hx278_7
             replace hx278_8 := (HB.out.cell (World.block_lt_of_cell? w _ hx278_8)).trans hx278_8
             have HR278_6 := Aside0.mk hi278_6
             have HC278_6 := Aside0.mk hl278_6
             clear hi278_6 hl278_6
             have HR278_7 := Aside0.mk hi278_7
             have HC278_7 := Aside0.mk hl278_7
             clear hi278_7 hl278_7
             have HR278_8 := Aside0.mk hi278_8
             have HC278_8 := Aside0.mk hl278_8
             clear hi278_8 hl278_8
             replace p278 := eq_true p278
             replace q278 := eq_true q278
             have p279 : 0 ≤ (x5_1 : Int) := of_decide_eq_true (by first | (with_reducible assumption) | assumption)
             have q279 : x5_1 < (l1.length : Int) := of_decide_eq_true (by first | (with_reducible assumption) | assumption)
             obtain ⟨ad279, A279_6, c279_6, A279_7, c279_7, A279_8, c279_8, e279, hx279_0, hx279_1, hx279_2, hx279_3, hx279_4, hx279_5, hx279_6, hx279_7, hx279_8, hl279_6, hi279_6, hl279_7, hi279_7, hl279_8, hi279_8⟩ := at_T66 HR1.out x5_1 p279 q279
             have hw279_8 := hx279_8
             have hw279_7 := hx279_7
             have hw279_6 := hx279_6
             have hw279_5 := hx279_5
             have hw279_4 := hx279_4
             have hw279_3 := hx279_3
             have hw279_2 := hx279_2
             have hw279_1 := hx279_1
             have hw279_0 := hx279_0
             cases e279
             replace hx279_0 := (HB.out.cell (World.block_lt_of_cell? w _ hx279_0)).trans hx279_0
             replace hx279_1 := (HB.out.cell (World.block_lt_of_cell? w _ hx279_1)).trans hx279_1
             replace hx279_2 := (HB.out.cell (World.block_lt_of_cell? w _ hx279_2)).trans hx279_2
             replace hx279_3 := (HB.out.cell (World.block_lt_of_cell? w _ hx279_3)).trans hx279_3
             replace hx279_4 := (HB.out.cell (World.block_lt_of_cell? w _ hx279_4)).trans hx279_4
             replace hx279_5 := (HB.out.cell (World.block_lt_of_cell? w _ hx279_5)).trans hx279_5
             replace hx279_6 := (HB.out.cell (World.block_lt_of_cell? w _ hx279_6)).trans hx279_6
             replace hx279_7 := (HB.out.cell (World.block_lt_of_cell? w _ hx279_7)).trans hx279_7
             replace hx279_8 := (HB.out.cell (World.block_lt_of_cell? w _ hx279_8)).trans hx279_8
             have HR279_6 := Aside0.mk hi279_6
             have HC279_6 := Aside0.mk hl279_6
             clear hi279_6 hl279_6
             have HR279_7 := Aside0.mk hi279_7
             have HC279_7 := Aside0.mk hl279_7
             clear hi279_7 hl279_7
             have HR279_8 := Aside0.mk hi279_8
             have HC279_8 := Aside0.mk hl279_8
             clear hi279_8 hl279_8
             replace p279 := eq_true p279
             replace q279 := eq_true q279
             refine start_ (n := 10) (S := fun w' => w'.cell? (ad278.add ((x5_1).toNat * 9)) = some (.int .i64 ((rd_T66 l0 x5_1).f0)) ∧ w'.cell? ⟨(ad278.add ((x5_1).toNat * 9)).block, (ad278.add ((x5_1).toNat * 9)).off + 1, none⟩ = some (.int .i64 ((rd_T66 l0 x5_1).f1)) ∧ w'.cell? ⟨(ad278.add ((x5_1).toNat * 9)).block, (ad278.add ((x5_1).toNat * 9)).off + 2, none⟩ = some (.int .i64 ((rd_T66 l0 x5_1).f2)) ∧ w'.cell? ⟨(ad278.add ((x5_1).toNat * 9)).block, (ad278.add ((x5_1).toNat * 9)).off + 3, none⟩ = some (.int .i64 ((rd_T66 l0 x5_1).f3)) ∧ w'.cell? ⟨(ad278.add ((x5_1).toNat * 9)).block, (ad278.add ((x5_1).toNat * 9)).off + 4, none⟩ = some (.int .i64 ((rd_T66 l0 x5_1).f4)) ∧ w'.cell? ⟨(ad278.add ((x5_1).toNat * 9)).block, (ad278.add ((x5_1).toNat * 9)).off + 5, none⟩ = some (.int .i64 ((rd_T66 l0 x5_1).f5)) ∧ w'.cell? ⟨(ad278.add ((x5_1).toNat * 9)).block, (ad278.add ((x5_1).toNat * 9)).off + 6, none⟩ = some (.slice A278_6 ((rd_T66 l0 x5_1).f6).length c278_6) ∧ w'.cell? ⟨(ad278.add ((x5_1).toNat * 9)).block, (ad278.add ((x5_1).toNat * 9)).off + 7, none⟩ = some (.slice A278_7 ((rd_T66 l0 x5_1).f7).length c278_7) ∧ w'.cell? ⟨(ad278.add ((x5_1).toNat * 9)).block, (ad278.add ((x5_1).toNat * 9)).off + 8, none⟩ = some (.slice A278_8 ((rd_T66 l0 x5_1).f8).length c278_8) ∧ w'.cell? (ad279.add ((x5_1).toNat * 9)) = some (.int .i64 ((rd_T66 l1 x5_1).f0)) ∧ w'.cell? ⟨(ad279.add ((x5_1).toNat * 9)).block, (ad279.add ((x5_1).toNat * 9)).off + 1, none⟩ = some (.int .i64 ((rd_T66 l1 x5_1).f1)) ∧ w'.cell? ⟨(ad279.add ((x5_1).toNat * 9)).block, (ad279.add ((x5_1).toNat * 9)).off + 2, none⟩ = some (.int .i64 ((rd_T66 l1 x5_1).f2)) ∧ w'.cell? ⟨(ad279.add ((x5_1).toNat * 9)).block, (ad279.add ((x5_1).toNat * 9)).off + 3, none⟩ = some (.int .i64 ((rd_T66 l1 x5_1).f3)) ∧ w'.cell? ⟨(ad279.add ((x5_1).toNat * 9)).block, (ad279.add ((x5_1).toNat * 9)).off + 4, none⟩ = some (.int .i64 ((rd_T66 l1 x5_1).f4)) ∧ w'.cell? ⟨(ad279.add ((x5_1).toNat * 9)).block, (ad279.add ((x5_1).toNat * 9)).off + 5, none⟩ = some (.int .i64 ((rd_T66 l1 x5_1).f5)) ∧ w'.cell? ⟨(ad279.add ((x5_1).toNat * 9)).block, (ad279.add ((x5_1).toNat * 9)).off + 6, none⟩ = some (.slice A279_6 ((rd_T66 l1 x5_1).f6).length c279_6) ∧ w'.cell? ⟨(ad279.add ((x5_1).toNat * 9)).block, (ad279.add ((x5_1).toNat * 9)).off + 7, none⟩ = some (.slice A279_7 ((rd_T66 l1 x5_1).f7).length c279_7) ∧ w'.cell? ⟨(ad279.add ((x5_1).toNat * 9)).block, (ad279.add ((x5_1).toNat * 9)).off + 8, none⟩ = some (.slice A279_8 ((rd_T66 l1 x5_1).f8).length c279_8)) (ds := []) #[false, false, false, false, false, false, false, false, false, false] (by kernel_rfl) rfl rfl ⟨((HB.out.cell (World.block_lt_of_cell? w _ hw278_0)).trans hw278_0), ((HB.out.cell (World.block_lt_of_cell? w _ hw278_1)).trans hw278_1), ((HB.out.cell (World.block_lt_of_cell? w _ hw278_2)).trans hw278_2), ((HB.out.cell (World.block_lt_of_cell? w _ hw278_3)).trans hw278_3), ((HB.out.cell (World.block_lt_of_cell? w _ hw278_4)).trans hw278_4), ((HB.out.cell (World.block_lt_of_cell? w _ hw278_5)).trans hw278_5), ((HB.out.cell (World.block_lt_of_cell? w _ hw278_6)).trans hw278_6), ((HB.out.cell (World.block_lt_of_cell? w _ hw278_7)).trans hw278_7), ((HB.out.cell (World.block_lt_of_cell? w _ hw278_8)).trans hw278_8), ((HB.out.cell (World.block_lt_of_cell? w _ hw279_0)).trans hw279_0), ((HB.out.cell (World.block_lt_of_cell? w _ hw279_1)).trans hw279_1), ((HB.out.cell (World.block_lt_of_cell? w _ hw279_2)).trans hw279_2), ((HB.out.cell (World.block_lt_of_cell? w _ hw279_3)).trans hw279_3), ((HB.out.cell (World.block_lt_of_cell? w _ hw279_4)).trans hw279_4), ((HB.out.cell (World.block_lt_of_cell? w _ hw279_5)).trans hw279_5), ((HB.out.cell (World.block_lt_of_cell? w _ hw279_6)).trans hw279_6), ((HB.out.cell (World.block_lt_of_cell? w _ hw279_7)).trans hw279_7), ((HB.out.cell (World.block_lt_of_cell? w _ hw279_8)).trans hw279_8)⟩ (fun hHeld => ?_); refine with_tabW laws_eqInstrS.tab6 laws_eqInstrS.bits6 (fun HT_ HW_ => ?_)
             generalize wr.drew = w9 at HB HR278_6 HR278_7 HR278_8 HR279_6 HR279_7 HR279_8 hx278_0 hx278_1 hx278_2 hx278_3 hx278_4 hx278_5 hx278_6 hx278_7 hx278_8 hx279_0 hx279_1 hx279_2 hx279_3 hx279_4 hx279_5 hx279_6 hx279_7 hx279_8 hHeld ⊢
             refine pure_ (i := 0) (N := some 17) (v := ?_) (a' := ?_) #[true, false, false, false, false, false, false, false, false, false] rfl rfl (any_of HT_.out (by kernel_rfl)) (fun _ _ _ h => h) (Or.inl ⟨by rfl, ?_⟩) ?_ ?_
             rotate_left
             · intro w'
               go_simp
               with_reducible rfl
             rotate_left
             · simp only [Act.put, List.setIfInBounds_toArray, List.set_cons_zero, List.set_cons_succ, i64_w, i32_w]
               rfl
             refine pure_ (i := 1) (N := some 18) (v := ?_) (a' := ?_) #[true, true, false, false, false, false, false, false, false, false] rfl rfl (any_of HT_.out (by kernel_rfl)) (fun _ _ _ h => h) (Or.inl ⟨by rfl, ?_⟩) ?_ ?_
             rotate_left
             · intro w'
               go_simp
               with_reducible rfl
             rotate_left
             · simp only [Act.put, List.setIfInBounds_toArray, List.set_cons_zero, List.set_cons_succ, i64_w, i32_w]
               rfl
             refine pure_ (i := 2) (N := some 19) (v := ?_) (a' := ?_) #[true, true, true, false, false, false, false, false, false, false] rfl rfl (any_of HT_.out (by kernel_rfl)) (fun _ _ _ h => h) (Or.inl ⟨by rfl, ?_⟩) ?_ ?_
             rotate_left
             · intro w'
               go_simp
               with_reducible rfl
             rotate_left
             · simp only [Act.put, List.setIfInBounds_toArray, List.set_cons_zero, List.set_cons_succ, i64_w, i32_w]
               rfl
             refine pure_ (i := 4) (N := some 21) (v := ?_) (a' := ?_) #[true, true, true, false, true, false, false, false, false, false] rfl rfl (any_of HT_.out (by kernel_rfl)) (fun _ _ _ h => h) (Or.inl ⟨by rfl, ?_⟩) ?_ ?_
             rotate_left
             · intro w'
               go_simp
               with_reducible rfl
             rotate_left
             · simp only [Act.put, List.setIfInBounds_toArray, List.set_cons_zero, List.set_cons_succ, i64_w, i32_w]
               rfl
             refine pure_ (i := 5) (N := some 22) (v := ?_) (a' := ?_) #[true, true, true, false, true, true, false, false, false, false] rfl rfl (any_of HT_.out (by kernel_rfl)) (fun _ _ _ h => h) (Or.inl ⟨by rfl, ?_⟩) ?_ ?_
             rotate_left
             · intro w'
               go_simp
               with_reducible rfl
             rotate_left
             · simp only [Act.put, List.setIfInBounds_toArray, List.set_cons_zero, List.set_cons_succ, i64_w, i32_w]
               rfl
             refine pure_ (i := 6) (N := some 23) (v := ?_) (a' := ?_) #[true, true, true, false, true, true, true, false, false, false] rfl rfl (any_of HT_.out (by kernel_rfl)) (fun _ _ _ h => h) (Or.inl ⟨by rfl, ?_⟩) ?_ ?_
             rotate_left
             · intro w'
               go_simp
               with_reducible rfl
             rotate_left
             · simp only [Act.put, List.setIfInBounds_toArray, List.set_cons_zero, List.set_cons_succ, i64_w, i32_w]
               rfl
             refine take_ (i := 3) (N := some 20) (v := ?_) (a' := ?_) #[true, true, true, true, true, true, true, false, false, false] rfl rfl (take_ofW HT_.out HW_.out (by kernel_rfl)) (fun _ _ _ h => h) (Or.inl ⟨by rfl, ?_⟩) hHeld ?_ ?_
             rotate_left
             · rintro w' ⟨s0, s1, s2, s3, s4, s5, s6, s7, s8, s9, s10, s11, s12, s13, s14, s15, s16, s17⟩
               go_simp
               with_reducible rfl
             rotate_left
             · simp only [Act.put, List.setIfInBounds_toArray, List.set_cons_zero, List.set_cons_succ, i64_w, i32_w]
               rfl
             refine take_ (i := 7) (N := some 24) (v := ?_) (a' := ?_) #[true, true, true, true, true, true, true, true, false, false] rfl rfl (take_ofW HT_.out HW_.out (by kernel_rfl)) (fun _ _ _ h => h) (Or.inl ⟨by rfl, ?_⟩) hHeld ?_ ?_
             rotate_left
             · rintro w' ⟨s0, s1, s2, s3, s4, s5, s6, s7, s8, s9, s10, s11, s12, s13, s14, s15, s16, s17⟩
               go_simp
               with_reducible rfl
             rotate_left
             · simp only [Act.put, List.setIfInBounds_toArray, List.set_cons_zero, List.set_cons_succ, i64_w, i32_w]
               rfl
             refine one_ (i := 8) (N := some 25) #[true, true, true, true, true, true, true, true, true, false] rfl rfl (one_of HT_.out (by kernel_rfl)) (by decide) (fun K hK => ?_)
             refine goes_ Try.func109 (by kernel_rfl) rfl #[.agg #[.int .i64 ((rd_T66 l0 x5_1).f0), .int .i64 ((rd_T66 l0 x5_1).f1), .int .i64 ((rd_T66 l0 x5_1).f2), .int .i64 ((rd_T66 l0 x5_1).f3), .int .i64 ((rd_T66 l0 x5_1).f4), .int .i64 ((rd_T66 l0 x5_1).f5), .slice A278_6 ((rd_T66 l0 x5_1).f6).length c278_6, .slice A278_7 ((rd_T66 l0 x5_1).f7).length c278_7, .slice A278_8 ((rd_T66 l0 x5_1).f8).length c278_8], .agg #[.int .i64 ((rd_T66 l1 x5_1).f0), .int .i64 ((rd_T66 l1 x5_1).f1), .int .i64 ((rd_T66 l1 x5_1).f2), .int .i64 ((rd_T66 l1 x5_1).f3), .int .i64 ((rd_T66 l1 x5_1).f4), .int .i64 ((rd_T66 l1 x5_1).f5), .slice A279_6 ((rd_T66 l1 x5_1).f6).length c279_6, .slice A279_7 ((rd_T66 l1 x5_1).f7).length c279_7, .slice A279_8 ((rd_T66 l1 x5_1).f8).length c279_8]] (by rfl) rfl rfl (by (try simp only [List.map_toArray, List.map_cons, List.map_nil]); first | done | rfl | (simp only [List.length_drop, List.length_take]; rfl)) ?_
             with_reducible refine (laws_eqInstr.calls k1 ((rd_T66 l0 x5_1).f0) ((rd_T66 l0 x5_1).f1) ((rd_T66 l0 x5_1).f2) ((rd_T66 l0 x5_1).f3) ((rd_T66 l0 x5_1).f4) ((rd_T66 l0 x5_1).f5) _ _ ((rd_T66 l0 x5_1).f6) _ _ ((rd_T66 l0 x5_1).f7) _ _ ((rd_T66 l0 x5_1).f8) ((rd_T66 l1 x5_1).f0) ((rd_T66 l1 x5_1).f1) ((rd_T66 l1 x5_1).f2) ((rd_T66 l1 x5_1).f3) ((rd_T66 l1 x5_1).f4) ((rd_T66 l1 x5_1).f5) _ _ ((rd_T66 l1 x5_1).f6) _ _ ((rd_T66 l1 x5_1).f7) _ _ ((rd_T66 l1 x5_1).f8) true _ ?side1 ?side2 ?side3 ?side4 ?side5 ?side6 ?side7 ?side8 ?side9 ?side10 ?side11 ?side12 A7.out).mono ?_
             (case side1 => repeat (first | exact (Kd.C_below HR278_6.out HB.out) | (with_reducible refine Kd.C_alloc ?_ _) | (with_reducible refine Kd.C_drewN ?_ _) | (with_reducible refine Kd.C_drew ?_)))
             (case side2 => exact HC278_6.out)
             (case side3 => repeat (first | exact (Kd.C_below HR278_7.out HB.out) | (with_reducible refine Kd.C_alloc ?_ _) | (with_reducible refine Kd.C_drewN ?_ _) | (with_reducible refine Kd.C_drew ?_)))
             (case side4 => exact HC278_7.out)
             (case side5 => repeat (first | exact (Kd.C_below HR278_8.out HB.out) | (with_reducible refine Kd.C_alloc ?_ _) | (with_reducible refine Kd.C_drewN ?_ _) | (with_reducible refine Kd.C_drew ?_)))
             (case side6 => exact HC278_8.out)
             (case side7 => repeat (first | exact (Kd.C_below HR279_6.out HB.out) | (with_reducible refine Kd.C_alloc ?_ _) | (with_reducible refine Kd.C_drewN ?_ _) | (with_reducible refine Kd.C_drew ?_)))
             (case side8 => exact HC279_6.out)
             (case side9 => repeat (first | exact (Kd.C_below HR279_7.out HB.out) | (with_reducible refine Kd.C_alloc ?_ _) | (with_reducible refine Kd.C_drewN ?_ _) | (with_reducible refine Kd.C_drew ?_)))
             (case side10 => exact HC279_7.out)
             (case side11 => repeat (first | exact (Kd.C_below HR279_8.out HB.out) | (with_reducible refine Kd.C_alloc ?_ _) | (with_reducible refine Kd.C_drewN ?_ _) | (with_reducible refine Kd.C_drew ?_)))
             (case side12 => exact HC279_8.out)
             rintro e w10 ⟨rfl, hb⟩
             refine ⟨_, rfl, ?_⟩
             have n0_ := Aside0.mk (below_step (by repeat (first | (with_reducible first | exact HB.out | apply below_alloc | apply pw_below_drewN | apply below_drew1) | exact HB.out)) hb)
             clear HB
             have HB := n0_
             clear n0_
             (try clear hb)
             (try clear hb2)
             (try clear hk)
             (try clear hi)
             refine hK.out _ _ ⟨((HB.out.cell (World.block_lt_of_cell? w _ hw278_0)).trans hw278_0), ((HB.out.cell (World.block_lt_of_cell? w _ hw278_1)).trans hw278_1), ((HB.out.cell (World.block_lt_of_cell? w _ hw278_2)).trans hw278_2), ((HB.out.cell (World.block_lt_of_cell? w _ hw278_3)).trans hw278_3), ((HB.out.cell (World.block_lt_of_cell? w _ hw278_4)).trans hw278_4), ((HB.out.cell (World.block_lt_of_cell? w _ hw278_5)).trans hw278_5), ((HB.out.cell (World.block_lt_of_cell? w _ hw278_6)).trans hw278_6), ((HB.out.cell (World.block_lt_of_cell? w _ hw278_7)).trans hw278_7), ((HB.out.cell (World.block_lt_of_cell? w _ hw278_8)).trans hw278_8), ((HB.out.cell (World.block_lt_of_cell? w _ hw279_0)).trans hw279_0), ((HB.out.cell (World.block_lt_of_cell? w _ hw279_1)).trans hw279_1), ((HB.out.cell (World.block_lt_of_cell? w _ hw279_2)).trans hw279_2), ((HB.out.cell (World.block_lt_of_cell? w _ hw279_3)).trans hw279_3), ((HB.out.cell (World.block_lt_of_cell? w _ hw279_4)).trans hw279_4), ((HB.out.cell (World.block_lt_of_cell? w _ hw279_5)).trans hw279_5), ((HB.out.cell (World.block_lt_of_cell? w _ hw279_6)).trans hw279_6), ((HB.out.cell (World.block_lt_of_cell? w _ hw279_7)).trans hw279_7), ((HB.out.cell (World.block_lt_of_cell? w _ hw279_8)).trans hw279_8)⟩ (fun hHeld => ?_)
             clear hK K
             refine norm_ (a' := ?_) ?_ ?_
             rotate_left
             · show Act.put _ (some 25) _ = _
               simp only [Act.put, List.setIfInBounds_toArray, List.set_cons_zero, List.set_cons_succ, i64_w, i32_w]
               rfl
             refine pure_ (i := 9) (N := some 26) (v := ?_) (a' := ?_) #[true, true, true, true, true, true, true, true, true, true] rfl rfl (any_of HT_.out (by kernel_rfl)) (fun _ _ _ h => h) (Or.inl ⟨by rfl, ?_⟩) ?_ ?_
             rotate_left
             · intro w'
               go_simp
               with_reducible rfl
             rotate_left
             · simp only [Act.put, List.setIfInBounds_toArray, List.set_cons_zero, List.set_cons_succ, i64_w, i32_w]
               rfl
             refine done_ (done_of HT_.out (by kernel_rfl)) ?_
             try go_wp2
             go_roundg k1
             case measure => have := HK1.out; omega
             case rel => exact ⟨(wrap64 (x5_1 + 1)), (by first | rfl | (simp; done) | (simp [*]; done)), H', ⟨by have := HK1.out; omega⟩, ⟨by repeat (first | (with_reducible first | exact HB.out | apply below_alloc | apply pw_below_drewN | apply below_drew1) | exact HB.out)⟩⟩
           · replace c8 := Bool.eq_false_iff.mpr c8
             subst c8
             have H1 : (some false) = some r := by rw [if_neg (show ¬ (false = true) by decide)] at H; exact H
             clear H
             have H := H1
             clear H1
             obtain rfl := Option.some.inj H
             try go_wp2
             have n0_ := Aside0.mk (below_drew1 HB.out)
             clear HB
             have HB := n0_
             clear n0_
             have p278 : 0 ≤ (x5_1 : Int) := of_decide_eq_true (by first | (with_reducible assumption) | assumption)
             have q278 : x5_1 < (l0.length : Int) := of_decide_eq_true (by first | (with_reducible assumption) | assumption)
             obtain ⟨ad278, A278_6, c278_6, A278_7, c278_7, A278_8, c278_8, e278, hx278_0, hx278_1, hx278_2, hx278_3, hx278_4, hx278_5, hx278_6, hx278_7, hx278_8, hl278_6, hi278_6, hl278_7, hi278_7, hl278_8, hi278_8⟩ := at_T66 HR0.out x5_1 p278 q278
             have hw278_8 := hx278_8
             have hw278_7 := hx278_7
             have hw278_6 := hx278_6
             have hw278_5 := hx278_5
             have hw278_4 := hx278_4
             have hw278_3 := hx278_3
             have hw278_2 := hx278_2
             have hw278_1 := hx278_1
             have hw278_0 := hx278_0
             cases e278
             replace hx278_0 := (HB.out.cell (World.block_lt_of_cell? w _ hx278_0)).trans hx278_0
             replace hx278_1 := (HB.out.cell (World.block_lt_of_cell? w _ hx278_1)).trans hx278_1
             replace hx278_2 := (HB.out.cell (World.block_lt_of_cell? w _ hx278_2)).trans hx278_2
             replace hx278_3 := (HB.out.cell (World.block_lt_of_cell? w _ hx278_3)).trans hx278_3
             replace hx278_4 := (HB.out.cell (World.block_lt_of_cell? w _ hx278_4)).trans hx278_4
             replace hx278_5 := (HB.out.cell (World.block_lt_of_cell? w _ hx278_5)).trans hx278_5
             replace hx278_6 := (HB.out.cell (World.block_lt_of_cell? w _ hx278_6)).trans hx278_6
             replace hx278_7 := (HB.out.cell (World.block_lt_of_cell? w _ hx278_7)).trans hx278_7
             replace hx278_8 := (HB.out.cell (World.block_lt_of_cell? w _ hx278_8)).trans hx278_8
             have HR278_6 := Aside0.mk hi278_6
             have HC278_6 := Aside0.mk hl278_6
             clear hi278_6 hl278_6
             have HR278_7 := Aside0.mk hi278_7
             have HC278_7 := Aside0.mk hl278_7
             clear hi278_7 hl278_7
             have HR278_8 := Aside0.mk hi278_8
             have HC278_8 := Aside0.mk hl278_8
             clear hi278_8 hl278_8
             replace p278 := eq_true p278
             replace q278 := eq_true q278
             have p279 : 0 ≤ (x5_1 : Int) := of_decide_eq_true (by first | (with_reducible assumption) | assumption)
             have q279 : x5_1 < (l1.length : Int) := of_decide_eq_true (by first | (with_reducible assumption) | assumption)
             obtain ⟨ad279, A279_6, c279_6, A279_7, c279_7, A279_8, c279_8, e279, hx279_0, hx279_1, hx279_2, hx279_3, hx279_4, hx279_5, hx279_6, hx279_7, hx279_8, hl279_6, hi279_6, hl279_7, hi279_7, hl279_8, hi279_8⟩ := at_T66 HR1.out x5_1 p279 q279
             have hw279_8 := hx279_8
             have hw279_7 := hx279_7
             have hw279_6 := hx279_6
             have hw279_5 := hx279_5
             have hw279_4 := hx279_4
             have hw279_3 := hx279_3
             have hw279_2 := hx279_2
             have hw279_1 := hx279_1
             have hw279_0 := hx279_0
             cases e279
             replace hx279_0 := (HB.out.cell (World.block_lt_of_cell? w _ hx279_0)).trans hx279_0
             replace hx279_1 := (HB.out.cell (World.block_lt_of_cell? w _ hx279_1)).trans hx279_1
             replace hx279_2 := (HB.out.cell (World.block_lt_of_cell? w _ hx279_2)).trans hx279_2
             replace hx279_3 := (HB.out.cell (World.block_lt_of_cell? w _ hx279_3)).trans hx279_3
             replace hx279_4 := (HB.out.cell (World.block_lt_of_cell? w _ hx279_4)).trans hx279_4
             replace hx279_5 := (HB.out.cell (World.block_lt_of_cell? w _ hx279_5)).trans hx279_5
             replace hx279_6 := (HB.out.cell (World.block_lt_of_cell? w _ hx279_6)).trans hx279_6
             replace hx279_7 := (HB.out.cell (World.block_lt_of_cell? w _ hx279_7)).trans hx279_7
             replace hx279_8 := (HB.out.cell (World.block_lt_of_cell? w _ hx279_8)).trans hx279_8
             have HR279_6 := Aside0.mk hi279_6
             have HC279_6 := Aside0.mk hl279_6
             clear hi279_6 hl279_6
             have HR279_7 := Aside0.mk hi279_7
             have HC279_7 := Aside0.mk hl279_7
             clear hi279_7 hl279_7
             have HR279_8 := Aside0.mk hi279_8
             have HC279_8 := Aside0.mk hl279_8
             clear hi279_8 hl279_8
             replace p279 := eq_true p279
             replace q279 := eq_true q279
             refine start_ (n := 10) (S := fun w' => w'.cell? (ad278.add ((x5_1).toNat * 9)) = some (.int .i64 ((rd_T66 l0 x5_1).f0)) ∧ w'.cell? ⟨(ad278.add ((x5_1).toNat * 9)).block, (ad278.add ((x5_1).toNat * 9)).off + 1, none⟩ = some (.int .i64 ((rd_T66 l0 x5_1).f1)) ∧ w'.cell? ⟨(ad278.add ((x5_1).toNat * 9)).block, (ad278.add ((x5_1).toNat * 9)).off + 2, none⟩ = some (.int .i64 ((rd_T66 l0 x5_1).f2)) ∧ w'.cell? ⟨(ad278.add ((x5_1).toNat * 9)).block, (ad278.add ((x5_1).toNat * 9)).off + 3, none⟩ = some (.int .i64 ((rd_T66 l0 x5_1).f3)) ∧ w'.cell? ⟨(ad278.add ((x5_1).toNat * 9)).block, (ad278.add ((x5_1).toNat * 9)).off + 4, none⟩ = some (.int .i64 ((rd_T66 l0 x5_1).f4)) ∧ w'.cell? ⟨(ad278.add ((x5_1).toNat * 9)).block, (ad278.add ((x5_1).toNat * 9)).off + 5, none⟩ = some (.int .i64 ((rd_T66 l0 x5_1).f5)) ∧ w'.cell? ⟨(ad278.add ((x5_1).toNat * 9)).block, (ad278.add ((x5_1).toNat * 9)).off + 6, none⟩ = some (.slice A278_6 ((rd_T66 l0 x5_1).f6).length c278_6) ∧ w'.cell? ⟨(ad278.add ((x5_1).toNat * 9)).block, (ad278.add ((x5_1).toNat * 9)).off + 7, none⟩ = some (.slice A278_7 ((rd_T66 l0 x5_1).f7).length c278_7) ∧ w'.cell? ⟨(ad278.add ((x5_1).toNat * 9)).block, (ad278.add ((x5_1).toNat * 9)).off + 8, none⟩ = some (.slice A278_8 ((rd_T66 l0 x5_1).f8).length c278_8) ∧ w'.cell? (ad279.add ((x5_1).toNat * 9)) = some (.int .i64 ((rd_T66 l1 x5_1).f0)) ∧ w'.cell? ⟨(ad279.add ((x5_1).toNat * 9)).block, (ad279.add ((x5_1).toNat * 9)).off + 1, none⟩ = some (.int .i64 ((rd_T66 l1 x5_1).f1)) ∧ w'.cell? ⟨(ad279.add ((x5_1).toNat * 9)).block, (ad279.add ((x5_1).toNat * 9)).off + 2, none⟩ = some (.int .i64 ((rd_T66 l1 x5_1).f2)) ∧ w'.cell? ⟨(ad279.add ((x5_1).toNat * 9)).block, (ad279.add ((x5_1).toNat * 9)).off + 3, none⟩ = some (.int .i64 ((rd_T66 l1 x5_1).f3)) ∧ w'.cell? ⟨(ad279.add ((x5_1).toNat * 9)).block, (ad279.add ((x5_1).toNat * 9)).off + 4, none⟩ = some (.int .i64 ((rd_T66 l1 x5_1).f4)) ∧ w'.cell? ⟨(ad279.add ((x5_1).toNat * 9)).block, (ad279.add ((x5_1).toNat * 9)).off + 5, none⟩ = some (.int .i64 ((rd_T66 l1 x5_1).f5)) ∧ w'.cell? ⟨(ad279.add ((x5_1).toNat * 9)).block, (ad279.add ((x5_1).toNat * 9)).off + 6, none⟩ = some (.slice A279_6 ((rd_T66 l1 x5_1).f6).length c279_6) ∧ w'.cell? ⟨(ad279.add ((x5_1).toNat * 9)).block, (ad279.add ((x5_1).toNat * 9)).off + 7, none⟩ = some (.slice A279_7 ((rd_T66 l1 x5_1).f7).length c279_7) ∧ w'.cell? ⟨(ad279.add ((x5_1).toNat * 9)).block, (ad279.add ((x5_1).toNat * 9)).off + 8, none⟩ = some (.slice A279_8 ((rd_T66 l1 x5_1).f8).length c279_8)) (ds := []) #[false, false, false, false, false, false, false, false, false, false] (by kernel_rfl) rfl rfl ⟨((HB.out.cell (World.block_lt_of_cell? w _ hw278_0)).trans hw278_0), ((HB.out.cell (World.block_lt_of_cell? w _ hw278_1)).trans hw278_1), ((HB.out.cell (World.block_lt_of_cell? w _ hw278_2)).trans hw278_2), ((HB.out.cell (World.block_lt_of_cell? w _ hw278_3)).trans hw278_3), ((HB.out.cell (World.block_lt_of_cell? w _ hw278_4)).trans hw278_4), ((HB.out.cell (World.block_lt_of_cell? w _ hw278_5)).trans hw278_5), ((HB.out.cell (World.block_lt_of_cell? w _ hw278_6)).trans hw278_6), ((HB.out.cell (World.block_lt_of_cell? w _ hw278_7)).trans hw278_7), ((HB.out.cell (World.block_lt_of_cell? w _ hw278_8)).trans hw278_8), ((HB.out.cell (World.block_lt_of_cell? w _ hw279_0)).trans hw279_0), ((HB.out.cell (World.block_lt_of_cell? w _ hw279_1)).trans hw279_1), ((HB.out.cell (World.block_lt_of_cell? w _ hw279_2)).trans hw279_2), ((HB.out.cell (World.block_lt_of_cell? w _ hw279_3)).trans hw279_3), ((HB.out.cell (World.block_lt_of_cell? w _ hw279_4)).trans hw279_4), ((HB.out.cell (World.block_lt_of_cell? w _ hw279_5)).trans hw279_5), ((HB.out.cell (World.block_lt_of_cell? w _ hw279_6)).trans hw279_6), ((HB.out.cell (World.block_lt_of_cell? w _ hw279_7)).trans hw279_7), ((HB.out.cell (World.block_lt_of_cell? w _ hw279_8)).trans hw279_8)⟩ (fun hHeld => ?_); refine with_tabW laws_eqInstrS.tab6 laws_eqInstrS.bits6 (fun HT_ HW_ => ?_)
             generalize wr.drew = w11 at HB HR278_6 HR278_7 HR278_8 HR279_6 HR279_7 HR279_8 hx278_0 hx278_1 hx278_2 hx278_3 hx278_4 hx278_5 hx278_6 hx278_7 hx278_8 hx279_0 hx279_1 hx279_2 hx279_3 hx279_4 hx279_5 hx279_6 hx279_7 hx279_8 hHeld ⊢
             refine pure_ (i := 0) (N := some 17) (v := ?_) (a' := ?_) #[true, false, false, false, false, false, false, false, false, false] rfl rfl (any_of HT_.out (by kernel_rfl)) (fun _ _ _ h => h) (Or.inl ⟨by rfl, ?_⟩) ?_ ?_
             rotate_left
             · intro w'
               go_simp
               with_reducible rfl
             rotate_left
             · simp only [Act.put, List.setIfInBounds_toArray, List.set_cons_zero, List.set_cons_succ, i64_w, i32_w]
               rfl
             refine pure_ (i := 1) (N := some 18) (v := ?_) (a' := ?_) #[true, true, false, false, false, false, false, false, false, false] rfl rfl (any_of HT_.out (by kernel_rfl)) (fun _ _ _ h => h) (Or.inl ⟨by rfl, ?_⟩) ?_ ?_
             rotate_left
             · intro w'
               go_simp
               with_reducible rfl
             rotate_left
             · simp only [Act.put, List.setIfInBounds_toArray, List.set_cons_zero, List.set_cons_succ, i64_w, i32_w]
               rfl
             refine pure_ (i := 2) (N := some 19) (v := ?_) (a' := ?_) #[true, true, true, false, false, false, false, false, false, false] rfl rfl (any_of HT_.out (by kernel_rfl)) (fun _ _ _ h => h) (Or.inl ⟨by rfl, ?_⟩) ?_ ?_
             rotate_left
             · intro w'
               go_simp
               with_reducible rfl
             rotate_left
             · simp only [Act.put, List.setIfInBounds_toArray, List.set_cons_zero, List.set_cons_succ, i64_w, i32_w]
               rfl
             refine pure_ (i := 4) (N := some 21) (v := ?_) (a' := ?_) #[true, true, true, false, true, false, false, false, false, false] rfl rfl (any_of HT_.out (by kernel_rfl)) (fun _ _ _ h => h) (Or.inl ⟨by rfl, ?_⟩) ?_ ?_
             rotate_left
             · intro w'
               go_simp
               with_reducible rfl
             rotate_left
             · simp only [Act.put, List.setIfInBounds_toArray, List.set_cons_zero, List.set_cons_succ, i64_w, i32_w]
               rfl
             refine pure_ (i := 5) (N := some 22) (v := ?_) (a' := ?_) #[true, true, true, false, true, true, false, false, false, false] rfl rfl (any_of HT_.out (by kernel_rfl)) (fun _ _ _ h => h) (Or.inl ⟨by rfl, ?_⟩) ?_ ?_
             rotate_left
             · intro w'
               go_simp
               with_reducible rfl
             rotate_left
             · simp only [Act.put, List.setIfInBounds_toArray, List.set_cons_zero, List.set_cons_succ, i64_w, i32_w]
               rfl
             refine pure_ (i := 6) (N := some 23) (v := ?_) (a' := ?_) #[true, true, true, false, true, true, true, false, false, false] rfl rfl (any_of HT_.out (by kernel_rfl)) (fun _ _ _ h => h) (Or.inl ⟨by rfl, ?_⟩) ?_ ?_
             rotate_left
             · intro w'
               go_simp
               with_reducible rfl
             rotate_left
             · simp only [Act.put, List.setIfInBounds_toArray, List.set_cons_zero, List.set_cons_succ, i64_w, i32_w]
               rfl
             refine take_ (i := 3) (N := some 20) (v := ?_) (a' := ?_) #[true, true, true, true, true, true, true, false, false, false] rfl rfl (take_ofW HT_.out HW_.out (by kernel_rfl)) (fun _ _ _ h => h) (Or.inl ⟨by rfl, ?_⟩) hHeld ?_ ?_
             rotate_left
             · rintro w' ⟨s0, s1, s2, s3, s4, s5, s6, s7, s8, s9, s10, s11, s12, s13, s14, s15, s16, s17⟩
               go_simp
               with_reducible rfl
             rotate_left
             · simp only [Act.put, List.setIfInBounds_toArray, List.set_cons_zero, List.set_cons_succ, i64_w, i32_w]
               rfl
             refine take_ (i := 7) (N := some 24) (v := ?_) (a' := ?_) #[true, true, true, true, true, true, true, true, false, false] rfl rfl (take_ofW HT_.out HW_.out (by kernel_rfl)) (fun _ _ _ h => h) (Or.inl ⟨by rfl, ?_⟩) hHeld ?_ ?_
             rotate_left
             · rintro w' ⟨s0, s1, s2, s3, s4, s5, s6, s7, s8, s9, s10, s11, s12, s13, s14, s15, s16, s17⟩
               go_simp
               with_reducible rfl
             rotate_left
             · simp only [Act.put, List.setIfInBounds_toArray, List.set_cons_zero, List.set_cons_succ, i64_w, i32_w]
               rfl
             refine one_ (i := 8) (N := some 25) #[true, true, true, true, true, true, true, true, true, false] rfl rfl (one_of HT_.out (by kernel_rfl)) (by decide) (fun K hK => ?_)
             refine goes_ Try.func109 (by kernel_rfl) rfl #[.agg #[.int .i64 ((rd_T66 l0 x5_1).f0), .int .i64 ((rd_T66 l0 x5_1).f1), .int .i64 ((rd_T66 l0 x5_1).f2), .int .i64 ((rd_T66 l0 x5_1).f3), .int .i64 ((rd_T66 l0 x5_1).f4), .int .i64 ((rd_T66 l0 x5_1).f5), .slice A278_6 ((rd_T66 l0 x5_1).f6).length c278_6, .slice A278_7 ((rd_T66 l0 x5_1).f7).length c278_7, .slice A278_8 ((rd_T66 l0 x5_1).f8).length c278_8], .agg #[.int .i64 ((rd_T66 l1 x5_1).f0), .int .i64 ((rd_T66 l1 x5_1).f1), .int .i64 ((rd_T66 l1 x5_1).f2), .int .i64 ((rd_T66 l1 x5_1).f3), .int .i64 ((rd_T66 l1 x5_1).f4), .int .i64 ((rd_T66 l1 x5_1).f5), .slice A279_6 ((rd_T66 l1 x5_1).f6).length c279_6, .slice A279_7 ((rd_T66 l1 x5_1).f7).length c279_7, .slice A279_8 ((rd_T66 l1 x5_1).f8).length c279_8]] (by rfl) rfl rfl (by (try simp only [List.map_toArray, List.map_cons, List.map_nil]); first | done | rfl | (simp only [List.length_drop, List.length_take]; rfl)) ?_
             with_reducible refine (laws_eqInstr.calls k1 ((rd_T66 l0 x5_1).f0) ((rd_T66 l0 x5_1).f1) ((rd_T66 l0 x5_1).f2) ((rd_T66 l0 x5_1).f3) ((rd_T66 l0 x5_1).f4) ((rd_T66 l0 x5_1).f5) _ _ ((rd_T66 l0 x5_1).f6) _ _ ((rd_T66 l0 x5_1).f7) _ _ ((rd_T66 l0 x5_1).f8) ((rd_T66 l1 x5_1).f0) ((rd_T66 l1 x5_1).f1) ((rd_T66 l1 x5_1).f2) ((rd_T66 l1 x5_1).f3) ((rd_T66 l1 x5_1).f4) ((rd_T66 l1 x5_1).f5) _ _ ((rd_T66 l1 x5_1).f6) _ _ ((rd_T66 l1 x5_1).f7) _ _ ((rd_T66 l1 x5_1).f8) false _ ?side1 ?side2 ?side3 ?side4 ?side5 ?side6 ?side7 ?side8 ?side9 ?side10 ?side11 ?side12 A7.out).mono ?_
             (case side1 => repeat (first | exact (Kd.C_below HR278_6.out HB.out) | (with_reducible refine Kd.C_alloc ?_ _) | (with_reducible refine Kd.C_drewN ?_ _) | (with_reducible refine Kd.C_drew ?_)))
             (case side2 => exact HC278_6.out)
             (case side3 => repeat (first | exact (Kd.C_below HR278_7.out HB.out) | (with_reducible refine Kd.C_alloc ?_ _) | (with_reducible refine Kd.C_drewN ?_ _) | (with_reducible refine Kd.C_drew ?_)))
             (case side4 => exact HC278_7.out)
             (case side5 => repeat (first | exact (Kd.C_below HR278_8.out HB.out) | (with_reducible refine Kd.C_alloc ?_ _) | (with_reducible refine Kd.C_drewN ?_ _) | (with_reducible refine Kd.C_drew ?_)))
             (case side6 => exact HC278_8.out)
             (case side7 => repeat (first | exact (Kd.C_below HR279_6.out HB.out) | (with_reducible refine Kd.C_alloc ?_ _) | (with_reducible refine Kd.C_drewN ?_ _) | (with_reducible refine Kd.C_drew ?_)))
             (case side8 => exact HC279_6.out)
             (case side9 => repeat (first | exact (Kd.C_below HR279_7.out HB.out) | (with_reducible refine Kd.C_alloc ?_ _) | (with_reducible refine Kd.C_drewN ?_ _) | (with_reducible refine Kd.C_drew ?_)))
             (case side10 => exact HC279_7.out)
             (case side11 => repeat (first | exact (Kd.C_below HR279_8.out HB.out) | (with_reducible refine Kd.C_alloc ?_ _) | (with_reducible refine Kd.C_drewN ?_ _) | (with_reducible refine Kd.C_drew ?_)))
             (case side12 => exact HC279_8.out)
             rintro e w12 ⟨rfl, hb⟩
             refine ⟨_, rfl, ?_⟩
             have n0_ := Aside0.mk (below_step (by repeat (first | (with_reducible first | exact HB.out | apply below_alloc | apply pw_below_drewN | apply below_drew1) | exact HB.out)) hb)
             clear HB
             have HB := n0_
             clear n0_
             (try clear hb)
             (try clear hb2)
             (try clear hk)
             (try clear hi)
             refine hK.out _ _ ⟨((HB.out.cell (World.block_lt_of_cell? w _ hw278_0)).trans hw278_0), ((HB.out.cell (World.block_lt_of_cell? w _ hw278_1)).trans hw278_1), ((HB.out.cell (World.block_lt_of_cell? w _ hw278_2)).trans hw278_2), ((HB.out.cell (World.block_lt_of_cell? w _ hw278_3)).trans hw278_3), ((HB.out.cell (World.block_lt_of_cell? w _ hw278_4)).trans hw278_4), ((HB.out.cell (World.block_lt_of_cell? w _ hw278_5)).trans hw278_5), ((HB.out.cell (World.block_lt_of_cell? w _ hw278_6)).trans hw278_6), ((HB.out.cell (World.block_lt_of_cell? w _ hw278_7)).trans hw278_7), ((HB.out.cell (World.block_lt_of_cell? w _ hw278_8)).trans hw278_8), ((HB.out.cell (World.block_lt_of_cell? w _ hw279_0)).trans hw279_0), ((HB.out.cell (World.block_lt_of_cell? w _ hw279_1)).trans hw279_1), ((HB.out.cell (World.block_lt_of_cell? w _ hw279_2)).trans hw279_2), ((HB.out.cell (World.block_lt_of_cell? w _ hw279_3)).trans hw279_3), ((HB.out.cell (World.block_lt_of_cell? w _ hw279_4)).trans hw279_4), ((HB.out.cell (World.block_lt_of_cell? w _ hw279_5)).trans hw279_5), ((HB.out.cell (World.block_lt_of_cell? w _ hw279_6)).trans hw279_6), ((HB.out.cell (World.block_lt_of_cell? w _ hw279_7)).trans hw279_7), ((HB.out.cell (World.block_lt_of_cell? w _ hw279_8)).trans hw279_8)⟩ (fun hHeld => ?_)
             clear hK K
             refine norm_ (a' := ?_) ?_ ?_
             rotate_left
             · show Act.put _ (some 25) _ = _
               simp only [Act.put, List.setIfInBounds_toArray, List.set_cons_zero, List.set_cons_succ, i64_w, i32_w]
               rfl
             refine pure_ (i := 9) (N := some 26) (v := ?_) (a' := ?_) #[true, true, true, true, true, true, true, true, true, true] rfl rfl (any_of HT_.out (by kernel_rfl)) (fun _ _ _ h => h) (Or.inl ⟨by rfl, ?_⟩) ?_ ?_
             rotate_left
             · intro w'
               go_simp
               with_reducible rfl
             rotate_left
             · simp only [Act.put, List.setIfInBounds_toArray, List.set_cons_zero, List.set_cons_succ, i64_w, i32_w]
               rfl
             refine done_ (done_of HT_.out (by kernel_rfl)) ?_
             try go_wp2
             go_ret
             exact ⟨by first | rfl | (simp [errW_none, errW_some] <;> rfl) | (simp [*, errW_none, errW_some] <;> rfl), by repeat (first | (with_reducible first | exact HB.out | apply below_alloc | apply pw_below_drewN | apply below_drew1) | exact HB.out)⟩
         · rw [if_neg c6] at H
           exact absurd H (by simp)
       · rw [if_neg c5] at H
         exact absurd H (by simp)
     · rw [if_neg c4] at H
       have c4b0 : decide (x5_1 < (l0.length : Int)) = false := decide_eq_false c4
       clear c4
       obtain rfl := Option.some.inj H
       go_wp2
       go_ret
       exact ⟨by first | rfl | (simp [errW_none, errW_some] <;> rfl) | (simp [*, errW_none, errW_some] <;> rfl), by repeat (first | (with_reducible first | exact HB.out | apply below_alloc | apply pw_below_drewN | apply below_drew1) | exact HB.out)⟩
 · rw [if_neg c3] at H
   have c3b0 : ((l0.length : Int) == (l1.length : Int)) = false := beq_eq_false_iff_ne.mpr c3
   have c3b1 : ((l0.length : Int) != (l1.length : Int)) = true := bne_iff_ne.mpr c3
   have c3b2 : (l0.length == l1.length) = false := by first | simpa using c3 | (simp at c3 ⊢; omega)
   obtain rfl := Option.some.inj H
   go_enter Try.func83, Try.ntmps83
   go_wp2
   go_ret
   exact ⟨by first | rfl | (simp [errW_none, errW_some] <;> rfl) | (simp [*, errW_none, errW_some] <;> rfl), by repeat (first | (with_reducible first | exact HB.out | apply below_alloc | apply pw_below_drewN | apply below_drew1) | exact HB.out)⟩

end Go.Proofs.Ytoedcnhgobbnfaa.All


namespace Go.Proofs.Ytoedcnhgobbnfaa.All
open Go.RowKit Go.Proofs.YtoedcnhgobbnfaaW.PrintWords Go.Proofs.YtoedcnhgobbnfaaW.PrintLast Go.Proofs.YtoedcnhgobbnfaaW.PrintMore
attribute [local go_sem] max2_int min2_int max_two min_two max_three min_three max_four min_four   -- for this text's walks alone
set_option linter.unusedVariables false
set_option linter.unusedSimpArgs false

/-! ### laws_eqBlock: function 71 -/
def laws_eqBlock.f (k : Nat) (l0_0 : List (S66)) (l1_0 : List (S66)) : Option (Bool) := (laws_eqInstrS.f k l0_0 l1_0).bind fun t283 => (if t283 = true then (some true) else (some false))
set_option maxHeartbeats 8000000 in
set_option maxRecDepth 100000 in
theorem laws_eqBlock.calls (k : Nat) (A0_0 : Option Addr) (c0_0 : Nat) (l0_0 : List (S66)) (A1_0 : Option Addr) (c1_0 : Nat) (l1_0 : List (S66)) (r : Bool) (w : World) (hr0_0 : Kd.C k66 w A0_0 l0_0.length l0_0) (hc0_0 : l0_0.length ≤ c0_0) (hr1_0 : Kd.C k66 w A1_0 l1_0.length l1_0) (hc1_0 : l1_0.length ≤ c1_0) (h : laws_eqBlock.f k l0_0 l1_0 = some r) :
 Calls Try.prog 71 #[.agg #[.slice A0_0 l0_0.length c0_0], .agg #[.slice A1_0 l1_0.length c1_0]] w fun e w' => e = .returned (.bool r) ∧ Below w.heap.size w w' := by
 have hu62 := Try.underlying62
 have HR0_0 := Aside0.mk hr0_0
 have HC0_0 := Aside0.mk hc0_0
 clear hr0_0 hc0_0
 have HR1_0 := Aside0.mk hr1_0
 have HC1_0 := Aside0.mk hc1_0
 clear hr1_0 hc1_0
 have HB := Aside0.mk (Below.refl w.heap.size w)
 have H : ((laws_eqInstrS.f k l0_0 l1_0).bind fun t283 => (if t283 = true then (some true) else (some false))) = some r := h
 clear h
 replace H := Option.bind_eq_some_iff.mp H
 obtain ⟨t283, A30, H⟩ := H
 replace H : (if t283 = true then (some true) else (some false)) = some r := H
 have A3 := Aside0.mk A30
 clear A30
 by_cases c4 : t283 = true
 · subst c4
   have H1 : (some true) = some r := by rw [if_pos rfl] at H; exact H
   clear H
   have H := H1
   clear H1
   obtain rfl := Option.some.inj H
   go_enter Try.func71, Try.ntmps71
   go_wp2_with (first | ((with_reducible refine gate_dst (N := 2) rfl ?_); refine box_event ?hg (N := 2) ?hd (cs := #[.slice A0_0 l0_0.length c0_0]) (t := 62) ?hr ?_; (case hd => rfl); (case hg => rfl); (case hr => first | (go_simp; done) | (go_simp; rfl)); intro gb281 hg w5 hbox hb; have n0_ := Aside0.mk (below_step (by repeat (first | (with_reducible first | exact HB.out | apply below_alloc | apply pw_below_drewN | apply below_drew1) | exact HB.out)) hb); have n1_ := Aside0.mk (hbox); have n2_ := Aside0.mk ((by rw [hg]; exact (below_size (by repeat (first | (with_reducible first | exact HB.out | apply below_alloc | apply pw_below_drewN | apply below_drew1) | exact HB.out))) : w.heap.size ≤ gb281)); have n3_ := Aside0.mk ((by rw [hg]; exact (below_size (by repeat (first | (with_reducible first | exact HB.out | apply below_alloc | apply pw_below_drewN | apply below_drew1) | exact HB.out))) : w.heap.size ≤ gb281)); clear HB; have HB := n0_; have BK281 := n1_; have GW281 := n2_; have GE281 := n3_; clear n0_ n1_ n2_ n3_; clear hb hbox hg) | ((with_reducible refine gate_dst (N := 3) rfl ?_); refine box_event ?hg (N := 3) ?hd (cs := #[.slice A1_0 l1_0.length c1_0]) (t := 62) ?hr ?_; (case hd => rfl); (case hg => rfl); (case hr => first | (go_simp; done) | (go_simp; rfl)); intro gb282 hg w6 hbox hb; have n0_ := Aside0.mk (blk_below (g := gb281) (o := .cells #[.slice A0_0 l0_0.length c0_0] 62 (0, 0)) (by (with_reducible repeat (first | refine blk_drewN ?_ _ | refine blk_drew ?_ | refine blk_alloc ?_ _)); exact BK281.out) hb); have n1_ := Aside0.mk (below_step (by repeat (first | (with_reducible first | exact HB.out | apply below_alloc | apply pw_below_drewN | apply below_drew1 | refine below_set ?_ GE281.out) | exact HB.out)) hb); have n2_ := Aside0.mk (hbox); have n3_ := Aside0.mk ((by rw [hg]; exact (below_size (by repeat (first | (with_reducible first | exact HB.out | apply below_alloc | apply pw_below_drewN | apply below_drew1 | refine below_set ?_ GE281.out) | exact HB.out))) : w.heap.size ≤ gb282)); have n4_ := Aside0.mk ((by rw [hg]; exact (below_size (by repeat (first | (with_reducible first | exact HB.out | apply below_alloc | apply pw_below_drewN | apply below_drew1 | refine below_set ?_ GE281.out) | exact HB.out))) : w.heap.size ≤ gb282)); have n5_ := Aside0.mk ((by rw [hg]; exact Nat.ne_of_lt (blk_lt (g := gb281) (o := .cells #[.slice A0_0 l0_0.length c0_0] 62 (0, 0)) (by (with_reducible repeat (first | refine blk_drewN ?_ _ | refine blk_drew ?_ | refine blk_alloc ?_ _)); exact BK281.out)) : gb281 ≠ gb282)); have n6_ := Aside0.mk ((by rw [hg]; exact Nat.ne_of_gt (blk_lt (g := gb281) (o := .cells #[.slice A0_0 l0_0.length c0_0] 62 (0, 0)) (by (with_reducible repeat (first | refine blk_drewN ?_ _ | refine blk_drew ?_ | refine blk_alloc ?_ _)); exact BK281.out)) : gb282 ≠ gb281)); clear BK281; clear HB; have BK281 := n0_; have HB := n1_; have BK282 := n2_; have GW282 := n3_; have GE282 := n4_; have NB281_282 := n5_; have NB282_281 := n6_; clear n0_ n1_ n2_ n3_ n4_ n5_ n6_; clear hb hbox hg; have hnb7 := NB281_282.out; have hnc7 := NB282_281.out; have hcz8_0 : w6.cell? ⟨gb281, 0, none⟩ = some (.slice A0_0 l0_0.length c0_0) := (blk_cell BK281.out 0).trans rfl; have hfz8_0 := blk_frozen BK281.out 0; have hcz9_0 : w6.cell? ⟨gb282, 0, none⟩ = some (.slice A1_0 l1_0.length c1_0) := (blk_cell BK282.out 0).trans rfl; have hfz9_0 := blk_frozen BK282.out 0) | ((with_reducible refine gate_callee (f := 83) rfl ?_); refine goesL_ (some 9) rfl rfl Try.func83 (by kernel_rfl) rfl #[.slice A0_0 l0_0.length c0_0, .slice A1_0 l1_0.length c1_0] rfl (by (try simp only [List.map_toArray, List.map_cons, List.map_nil]); first | done | rfl | (simp only [List.length_drop, List.length_take]; rfl)) ?_; (with_reducible refine (laws_eqInstrS.calls k _ _ l0_0 _ _ l1_0 true _ ?side1 ?side2 ?side3 ?side4 A3.out).mono ?_); (case side1 => repeat (first | exact (Kd.C_below HR0_0.out HB.out) | (with_reducible refine Kd.C_alloc ?_ _) | (with_reducible refine Kd.C_drewN ?_ _) | (with_reducible refine Kd.C_drew ?_))); (case side2 => exact HC0_0.out); (case side3 => repeat (first | exact (Kd.C_below HR1_0.out HB.out) | (with_reducible refine Kd.C_alloc ?_ _) | (with_reducible refine Kd.C_drewN ?_ _) | (with_reducible refine Kd.C_drew ?_))); (case side4 => exact HC1_0.out); rintro e w10 ⟨rfl, hb⟩; refine ⟨_, rfl, ?_⟩; have n0_ := Aside0.mk (blk_below (g := gb281) (o := .cells #[.slice A0_0 l0_0.length c0_0] 62 (0, 0)) (by (with_reducible repeat (first | refine blk_drewN ?_ _ | refine blk_drew ?_ | refine blk_alloc ?_ _)); exact BK281.out) hb); have n1_ := Aside0.mk (blk_below (g := gb282) (o := .cells #[.slice A1_0 l1_0.length c1_0] 62 (0, 0)) (by (with_reducible repeat (first | refine blk_drewN ?_ _ | refine blk_drew ?_ | refine blk_alloc ?_ _)); exact BK282.out) hb); have n2_ := Aside0.mk (below_step (by repeat (first | (with_reducible first | exact HB.out | apply below_alloc | apply pw_below_drewN | apply below_drew1 | refine below_set ?_ GE281.out | refine below_set ?_ GE282.out) | exact HB.out)) hb); clear BK281; clear BK282; clear HB; have BK281 := n0_; have BK282 := n1_; have HB := n2_; clear n0_ n1_ n2_; (try clear hb); (try clear hb2); (try clear hk); (try clear hi)))
   go_ret
   exact ⟨by first | rfl | (simp [errW_none, errW_some] <;> rfl) | (simp [*, errW_none, errW_some] <;> rfl), by repeat (first | (with_reducible first | exact HB.out | apply below_alloc | apply pw_below_drewN | apply below_drew1 | refine below_set ?_ GE281.out | refine below_set ?_ GE282.out) | exact HB.out)⟩
 · replace c4 := Bool.eq_false_iff.mpr c4
   subst c4
   have H1 : (some false) = some r := by rw [if_neg (show ¬ (false = true) by decide)] at H; exact H
   clear H
   have H := H1
   clear H1
   obtain rfl := Option.some.inj H
   go_enter Try.func71, Try.ntmps71
   go_wp2_with (first | ((with_reducible refine gate_dst (N := 2) rfl ?_); refine box_event ?hg (N := 2) ?hd (cs := #[.slice A0_0 l0_0.length c0_0]) (t := 62) ?hr ?_; (case hd => rfl); (case hg => rfl); (case hr => first | (go_simp; done) | (go_simp; rfl)); intro gb281 hg w11 hbox hb; have n0_ := Aside0.mk (below_step (by repeat (first | (with_reducible first | exact HB.out | apply below_alloc | apply pw_below_drewN | apply below_drew1) | exact HB.out)) hb); have n1_ := Aside0.mk (hbox); have n2_ := Aside0.mk ((by rw [hg]; exact (below_size (by repeat (first | (with_reducible first | exact HB.out | apply below_alloc | apply pw_below_drewN | apply below_drew1) | exact HB.out))) : w.heap.size ≤ gb281)); have n3_ := Aside0.mk ((by rw [hg]; exact (below_size (by repeat (first | (with_reducible first | exact HB.out | apply below_alloc | apply pw_below_drewN | apply below_drew1) | exact HB.out))) : w.heap.size ≤ gb281)); clear HB; have HB := n0_; have BK281 := n1_; have GW281 := n2_; have GE281 := n3_; clear n0_ n1_ n2_ n3_; clear hb hbox hg) | ((with_reducible refine gate_dst (N := 3) rfl ?_); refine box_event ?hg (N := 3) ?hd (cs := #[.slice A1_0 l1_0.length c1_0]) (t := 62) ?hr ?_; (case hd => rfl); (case hg => rfl); (case hr => first | (go_simp; done) | (go_simp; rfl)); intro gb282 hg w12 hbox hb; have n0_ := Aside0.mk (blk_below (g := gb281) (o := .cells #[.slice A0_0 l0_0.length c0_0] 62 (0, 0)) (by (with_reducible repeat (first | refine blk_drewN ?_ _ | refine blk_drew ?_ | refine blk_alloc ?_ _)); exact BK281.out) hb); have n1_ := Aside0.mk (below_step (by repeat (first | (with_reducible first | exact HB.out | apply below_alloc | apply pw_below_drewN | apply below_drew1 | refine below_set ?_ GE281.out) | exact HB.out)) hb); have n2_ := Aside0.mk (hbox); have n3_ := Aside0.mk ((by rw [hg]; exact (below_size (by repeat (first | (with_reducible first | exact HB.out | apply below_alloc | apply pw_below_drewN | apply below_drew1 | refine below_set ?_ GE281.out) | exact HB.out))) : w.heap.size ≤ gb282)); have n4_ := Aside0.mk ((by rw [hg]; exact (below_size (by repeat (first | (with_reducible first | exact HB.out | apply below_alloc | apply pw_below_drewN | apply below_drew1 | refine below_set ?_ GE281.out) | exact HB.out))) : w.heap.size ≤ gb282)); have n5_ := Aside0.mk ((by rw [hg]; exact Nat.ne_of_lt (blk_lt (g := gb281) (o := .cells #[.slice A0_0 l0_0.length c0_0] 62 (0, 0)) (by (with_reducible repeat (first | refine blk_drewN ?_ _ | refine blk_drew ?_ | refine blk_alloc ?_ _)); exact BK281.out)) : gb281 ≠ gb282)); have n6_ := Aside0.mk ((by rw [hg]; exact Nat.ne_of_gt (blk_lt (g := gb281) (o := .cells #[.slice A0_0 l0_0.length c0_0] 62 (0, 0)) (by (with_reducible repeat (first | refine blk_drewN ?_ _ | refine blk_drew ?_ | refine blk_alloc ?_ _)); exact BK281.out)) : gb282 ≠ gb281)); clear BK281; clear HB; have BK281 := n0_; have HB := n1_; have BK282 := n2_; have GW282 := n3_; have GE282 := n4_; have NB281_282 := n5_; have NB282_281 := n6_; clear n0_ n1_ n2_ n3_ n4_ n5_ n6_; clear hb hbox hg; have hnb13 := NB281_282.out; have hnc13 := NB282_281.out; have hcz14_0 : w12.cell? ⟨gb281, 0, none⟩ = some (.slice A0_0 l0_0.length c0_0) := (blk_cell BK281.out 0).trans rfl; have hfz14_0 := blk_frozen BK281.out 0; have hcz15_0 : w12.cell? ⟨gb282, 0, none⟩ = some (.slice A1_0 l1_0.length c1_0) := (blk_cell BK282.out 0).trans rfl; have hfz15_0 := blk_frozen BK282.out 0) | ((with_reducible refine gate_callee (f := 83) rfl ?_); refine goesL_ (some 9) rfl rfl Try.func83 (by kernel_rfl) rfl #[.slice A0_0 l0_0.length c0_0, .slice A1_0 l1_0.length c1_0] rfl (by (try simp only [List.map_toArray, List.map_cons, List.map_nil]); first | done | rfl | (simp only [List.length_drop, List.length_take]; rfl)) ?_; (with_reducible refine (laws_eqInstrS.calls k _ _ l0_0 _ _ l1_0 false _ ?side1 ?side2 ?side3 ?side4 A3.out).mono ?_); (case side1 => repeat (first | exact (Kd.C_below HR0_0.out HB.out) | (with_reducible refine Kd.C_alloc ?_ _) | (with_reducible refine Kd.C_drewN ?_ _) | (with_reducible refine Kd.C_drew ?_))); (case side2 => exact HC0_0.out); (case side3 => repeat (first | exact (Kd.C_below HR1_0.out HB.out) | (with_reducible refine Kd.C_alloc ?_ _) | (with_reducible refine Kd.C_drewN ?_ _) | (with_reducible refine Kd.C_drew ?_))); (case side4 => exact HC1_0.out); rintro e w16 ⟨rfl, hb⟩; refine ⟨_, rfl, ?_⟩; have n0_ := Aside0.mk (blk_below (g := gb281) (o := .cells #[.slice A0_0 l0_0.length c0_0] 62 (0, 0)) (by (with_reducible repeat (first | refine blk_drewN ?_ _ | refine blk_drew ?_ | refine blk_alloc ?_ _)); exact BK281.out) hb); have n1_ := Aside0.mk (blk_below (g := gb282) (o := .cells #[.slice A1_0 l1_0.length c1_0] 62 (0, 0)) (by (with_reducible repeat (first | refine blk_drewN ?_ _ | refine blk_drew ?_ | refine blk_alloc ?_ _)); exact BK282.out) hb); have n2_ := Aside0.mk (below_step (by repeat (first | (with_reducible first | exact HB.out | apply below_alloc | apply pw_below_drewN | apply below_drew1 | refine below_set ?_ GE281.out | refine below_set ?_ GE282.out) | exact HB.out)) hb); clear BK281; clear BK282; clear HB; have BK281 := n0_; have BK282 := n1_; have HB := n2_; clear n0_ n1_ n2_; (try clear hb); (try clear hb2); (try clear hk); (try clear hi)))
   go_ret
   exact ⟨by first | rfl | (simp [errW_none, errW_some] <;> rfl) | (simp [*, errW_none, errW_some] <;> rfl), by repeat (first | (with_reducible first | exact HB.out | apply below_alloc | apply pw_below_drewN | apply below_drew1 | refine below_set ?_ GE281.out | refine below_set ?_ GE282.out) | exact HB.out)⟩

end Go.Proofs.Ytoedcnhgobbnfaa.All


namespace Go.Proofs.Ytoedcnhgobbnfaa.All
open Go.RowKit Go.Proofs.YtoedcnhgobbnfaaW.PrintWords Go.Proofs.YtoedcnhgobbnfaaW.PrintLast Go.Proofs.YtoedcnhgobbnfaaW.PrintMore
attribute [local go_sem] max2_int min2_int max_two min_two max_three min_three max_four min_four   -- for this text's walks alone
set_option linter.unusedVariables false
set_option linter.unusedSimpArgs false

/-! ### laws_eqBlockS: function 50 -/
def laws_eqBlockS.l0 : Nat → List (S62) → List (S62) → Int → Option (Bool)
 | 0, _, _, _ => none
 | k + 1, x0, x1, x5 => if x5 < (x0.length : Int) then (if 0 ≤ x5 then (if x5 < (x1.length : Int) then ((laws_eqBlock.f k ((rd_T62 x0 x5).f0) ((rd_T62 x1 x5).f0)).bind fun t286 => (if t286 = true then (laws_eqBlockS.l0 k x0 x1 (wrap64 (x5 + 1))) else (some false))) else (none)) else (none)) else (some true)
def laws_eqBlockS.f (k : Nat) (l0 : List (S62)) (l1 : List (S62)) : Option (Bool) := if (l0.length : Int) = (l1.length : Int) then (laws_eqBlockS.l0 k l0 l1 0) else (some false)
def laws_eqBlockS.T6 : Bool × List (List Nat × List Nat) := (true, [([], []), ([], []), ([0, 1], [0, 1]), ([2], [2]), ([], []), ([], []), ([4, 5], [4, 5]), ([6], [6]), ([3, 7], [3, 7]), ([8], [8])])
def laws_eqBlockS.B6 : List Nat := [0, 0, 3, 7, 0, 0, 48, 112, 255, 511]
theorem laws_eqBlockS.tab6 : rtab .any (opsOf Try.f50 6) = laws_eqBlockS.T6 := by kernel_rfl
theorem laws_eqBlockS.bits6 : waitsOk laws_eqBlockS.T6.2 laws_eqBlockS.B6 = true := by kernel_rfl
set_option maxHeartbeats 8000000 in
set_option maxRecDepth 100000 in
theorem laws_eqBlockS.calls (k : Nat) (A0 : Option Addr) (c0 : Nat) (l0 : List (S62)) (A1 : Option Addr) (c1 : Nat) (l1 : List (S62)) (r : Bool) (w : World) (hr0 : Kd.C k62 w A0 l0.length l0) (hc0 : l0.length ≤ c0) (hr1 : Kd.C k62 w A1 l1.length l1) (hc1 : l1.length ≤ c1) (h : laws_eqBlockS.f k l0 l1 = some r) :
 Calls Try.prog 50 #[.slice A0 l0.length c0, .slice A1 l1.length c1] w fun e w' => e = .returned (.bool r) ∧ Below w.heap.size w w' := by
 have hu62 := Try.underlying62
 have HR0 := Aside0.mk hr0
 have HC0 := Aside0.mk hc0
 clear hr0 hc0
 have HR1 := Aside0.mk hr1
 have HC1 := Aside0.mk hc1
 clear hr1 hc1
 have HB := Aside0.mk (Below.refl w.heap.size w)
 have H : (if (l0.length : Int) = (l1.length : Int) then (laws_eqBlockS.l0 k l0 l1 0) else (some false)) = some r := h
 clear h
 by_cases c3 : (l0.length : Int) = (l1.length : Int)
 · rw [if_pos c3] at H
   have c3b0 : ((l0.length : Int) == (l1.length : Int)) = true := beq_iff_eq.mpr c3
   have c3b1 : ((l0.length : Int) != (l1.length : Int)) = false := bne_eq_false_iff_eq.mpr c3
   have c3b2 : (l0.length == l1.length) = true := by first | simpa using c3 | (simp at c3 ⊢; omega)
   clear c3
   have H' := Aside0.mk H
   clear H
   go_enter Try.func50, Try.ntmps50
   go_wp2
   go_loopg [5] k (fun kq v5 w' => ∃ (x5_1 : Int), v5 = .int .i64 x5_1 ∧ Aside0 (laws_eqBlockS.l0 kq l0 l1 x5_1 = some r) ∧ Aside0 (kq ≤ k) ∧ Aside0 (Below w.heap.size w w'))
   case atStart => exact ⟨(0), (by first | rfl | (simp; done) | (simp [*]; done)), H', ⟨Nat.le_refl _⟩, ⟨by repeat (first | (with_reducible first | exact HB.out | apply below_alloc | apply pw_below_drewN | apply below_drew1) | exact HB.out)⟩⟩
   case round =>
    clear H'
    try clear c1
    try clear p2
    try clear c3
    try clear c3b0
    try clear c3b1
    try clear c3b2
    obtain ⟨x5_1, rfl, HA, HK1, HB⟩ := hrel
    cases gk with
    | zero => exact absurd HA.out (by simp [laws_eqBlockS.l0])
    | succ k1 =>
     have H := HA.out
     clear HA
     simp only [laws_eqBlockS.l0] at H
     by_cases c4 : x5_1 < (l0.length : Int)
     · rw [if_pos c4] at H
       have c4b0 : decide (x5_1 < (l0.length : Int)) = true := decide_eq_true c4
       clear c4
       by_cases c5 : 0 ≤ x5_1
       · rw [if_pos c5] at H
         have c5b0 : decide (0 ≤ x5_1) = true := decide_eq_true c5
         clear c5
         by_cases c6 : x5_1 < (l1.length : Int)
         · rw [if_pos c6] at H
           have c6b0 : decide (x5_1 < (l1.length : Int)) = true := decide_eq_true c6
           clear c6
           replace H := Option.bind_eq_some_iff.mp H
           obtain ⟨t286, A70, H⟩ := H
           replace H : (if t286 = true then (laws_eqBlockS.l0 k1 l0 l1 (wrap64 (x5_1 + 1))) else (some false)) = some r := H
           have A7 := Aside0.mk A70
           clear A70
           by_cases c8 : t286 = true
           · subst c8
             have H1 : (laws_eqBlockS.l0 k1 l0 l1 (wrap64 (x5_1 + 1))) = some r := by rw [if_pos rfl] at H; exact H
             clear H
             have H := H1
             clear H1
             have H' := Aside0.mk H
             clear H
             try go_wp2
             have n0_ := Aside0.mk (below_drew1 HB.out)
             clear HB
             have HB := n0_
             clear n0_
             have p284 : 0 ≤ (x5_1 : Int) := of_decide_eq_true (by first | (with_reducible assumption) | assumption)
             have q284 : x5_1 < (l0.length : Int) := of_decide_eq_true (by first | (with_reducible assumption) | assumption)
             obtain ⟨ad284, A284_0, c284_0, e284, hx284_0, hl284_0, hi284_0⟩ := at_T62 HR0.out x5_1 p284 q284
             have hw284_0 := hx284_0
             cases e284
             replace hx284_0 := (HB.out.cell (World.block_lt_of_cell? w _ hx284_0)).trans hx284_0
             have HR284_0 := Aside0.mk hi284_0
             have HC284_0 := Aside0.mk hl284_0
             clear hi284_0 hl284_0
             replace p284 := eq_true p284
             replace q284 := eq_true q284
             have p285 : 0 ≤ (x5_1 : Int) := of_decide_eq_true (by first | (with_reducible assumption) | assumption)
             have q285 : x5_1 < (l1.length : Int) := of_decide_eq_true (by first | (with_reducible assumption) | assumption)
             obtain ⟨ad285, A285_0, c285_0, e285, hx285_0, hl285_0, hi285_0⟩ := at_T62 HR1.out x5_1 p285 q285
             have hw285_0 := hx285_0
             cases e285
             replace hx285_0 := (HB.out.cell (World.block_lt_of_cell? w _ hx285_0)).trans hx285_0
             have HR285_0 := Aside0.mk hi285_0
             have HC285_0 := Aside0.mk hl285_0
             clear hi285_0 hl285_0
             replace p285 := eq_true p285
             replace q285 := eq_true q285
             refine start_ (n := 10) (S := fun w' => w'.cell? (ad284.add (x5_1).toNat) = some (.slice A284_0 ((rd_T62 l0 x5_1).f0).length c284_0) ∧ w'.cell? (ad285.add (x5_1).toNat) = some (.slice A285_0 ((rd_T62 l1 x5_1).f0).length c285_0)) (ds := []) #[false, false, false, false, false, false, false, false, false, false] (by kernel_rfl) rfl rfl ⟨((HB.out.cell (World.block_lt_of_cell? w _ hw284_0)).trans hw284_0), ((HB.out.cell (World.block_lt_of_cell? w _ hw285_0)).trans hw285_0)⟩ (fun hHeld => ?_); refine with_tabW laws_eqBlockS.tab6 laws_eqBlockS.bits6 (fun HT_ HW_ => ?_)
             generalize wr.drew = w9 at HB HR284_0 HR285_0 hx284_0 hx285_0 hHeld ⊢
             refine pure_ (i := 0) (N := some 17) (v := ?_) (a' := ?_) #[true, false, false, false, false, false, false, false, false, false] rfl rfl (any_of HT_.out (by kernel_rfl)) (fun _ _ _ h => h) (Or.inl ⟨by rfl, ?_⟩) ?_ ?_
             rotate_left
             · intro w'
               go_simp
               with_reducible rfl
             rotate_left
             · simp only [Act.put, List.setIfInBounds_toArray, List.set_cons_zero, List.set_cons_succ, i64_w, i32_w]
               rfl
             refine pure_ (i := 1) (N := some 18) (v := ?_) (a' := ?_) #[true, true, false, false, false, false, false, false, false, false] rfl rfl (any_of HT_.out (by kernel_rfl)) (fun _ _ _ h => h) (Or.inl ⟨by rfl, ?_⟩) ?_ ?_
             rotate_left
             · intro w'
               go_simp
               with_reducible rfl
             rotate_left
             · simp only [Act.put, List.setIfInBounds_toArray, List.set_cons_zero, List.set_cons_succ, i64_w, i32_w]
               rfl
             refine pure_ (i := 2) (N := some 19) (v := ?_) (a' := ?_) #[true, true, true, false, false, false, false, false, false, false] rfl rfl (any_of HT_.out (by kernel_rfl)) (fun _ _ _ h => h) (Or.inl ⟨by rfl, ?_⟩) ?_ ?_
             rotate_left
             · intro w'
               go_simp
               with_reducible rfl
             rotate_left
             · simp only [Act.put, List.setIfInBounds_toArray, List.set_cons_zero, List.set_cons_succ, i64_w, i32_w]
               rfl
             refine pure_ (i := 4) (N := some 21) (v := ?_) (a' := ?_) #[true, true, true, false, true, false, false, false, false, false] rfl rfl (any_of HT_.out (by kernel_rfl)) (fun _ _ _ h => h) (Or.inl ⟨by rfl, ?_⟩) ?_ ?_
             rotate_left
             · intro w'
               go_simp
               with_reducible rfl
             rotate_left
             · simp only [Act.put, List.setIfInBounds_toArray, List.set_cons_zero, List.set_cons_succ, i64_w, i32_w]
               rfl
             refine pure_ (i := 5) (N := some 22) (v := ?_) (a' := ?_) #[true, true, true, false, true, true, false, false, false, false] rfl rfl (any_of HT_.out (by kernel_rfl)) (fun _ _ _ h => h) (Or.inl ⟨by rfl, ?_⟩) ?_ ?_
             rotate_left
             · intro w'
               go_simp
               with_reducible rfl
             rotate_left
             · simp only [Act.put, List.setIfInBounds_toArray, List.set_cons_zero, List.set_cons_succ, i64_w, i32_w]
               rfl
             refine pure_ (i := 6) (N := some 23) (v := ?_) (a' := ?_) #[true, true, true, false, true, true, true, false, false, false] rfl rfl (any_of HT_.out (by kernel_rfl)) (fun _ _ _ h => h) (Or.inl ⟨by rfl, ?_⟩) ?_ ?_
             rotate_left
             · intro w'
               go_simp
               with_reducible rfl
             rotate_left
             · simp only [Act.put, List.setIfInBounds_toArray, List.set_cons_zero, List.set_cons_succ, i64_w, i32_w]
               rfl
             refine take_ (i := 3) (N := some 20) (v := ?_) (a' := ?_) #[true, true, true, true, true, true, true, false, false, false] rfl rfl (take_ofW HT_.out HW_.out (by kernel_rfl)) (fun _ _ _ h => h) (Or.inl ⟨by rfl, ?_⟩) hHeld ?_ ?_
             rotate_left
             · rintro w' ⟨s0, s1⟩
               go_simp
               with_reducible rfl
             rotate_left
             · simp only [Act.put, List.setIfInBounds_toArray, List.set_cons_zero, List.set_cons_succ, i64_w, i32_w]
               rfl
             refine take_ (i := 7) (N := some 24) (v := ?_) (a' := ?_) #[true, true, true, true, true, true, true, true, false, false] rfl rfl (take_ofW HT_.out HW_.out (by kernel_rfl)) (fun _ _ _ h => h) (Or.inl ⟨by rfl, ?_⟩) hHeld ?_ ?_
             rotate_left
             · rintro w' ⟨s0, s1⟩
               go_simp
               with_reducible rfl
             rotate_left
             · simp only [Act.put, List.setIfInBounds_toArray, List.set_cons_zero, List.set_cons_succ, i64_w, i32_w]
               rfl
             refine one_ (i := 8) (N := some 25) #[true, true, true, true, true, true, true, true, true, false] rfl rfl (one_of HT_.out (by kernel_rfl)) (by decide) (fun K hK => ?_)
             refine goes_ Try.func71 (by kernel_rfl) rfl #[.agg #[.slice A284_0 ((rd_T62 l0 x5_1).f0).length c284_0], .agg #[.slice A285_0 ((rd_T62 l1 x5_1).f0).length c285_0]] (by rfl) rfl rfl (by (try simp only [List.map_toArray, List.map_cons, List.map_nil]); first | done | rfl | (simp only [List.length_drop, List.length_take]; rfl)) ?_
             with_reducible refine (laws_eqBlock.calls k1 _ _ ((rd_T62 l0 x5_1).f0) _ _ ((rd_T62 l1 x5_1).f0) true _ ?side1 ?side2 ?side3 ?side4 A7.out).mono ?_
             (case side1 => repeat (first | exact (Kd.C_below HR284_0.out HB.out) | (with_reducible refine Kd.C_alloc ?_ _) | (with_reducible refine Kd.C_drewN ?_ _) | (with_reducible refine Kd.C_drew ?_)))
             (case side2 => exact HC284_0.out)
             (case side3 => repeat (first | exact (Kd.C_below HR285_0.out HB.out) | (with_reducible refine Kd.C_alloc ?_ _) | (with_reducible refine Kd.C_drewN ?_ _) | (with_reducible refine Kd.C_drew ?_)))
             (case side4 => exact HC285_0.out)
             rintro e w10 ⟨rfl, hb⟩
             refine ⟨_, rfl, ?_⟩
             have n0_ := Aside0.mk (below_step (by repeat (first | (with_reducible first | exact HB.out | apply below_alloc | apply pw_below_drewN | apply below_drew1) | exact HB.out)) hb)
             clear HB
             have HB := n0_
             clear n0_
             (try clear hb)
             (try clear hb2)
             (try clear hk)
             (try clear hi)
             refine hK.out _ _ ⟨((HB.out.cell (World.block_lt_of_cell? w _ hw284_0)).trans hw284_0), ((HB.out.cell (World.block_lt_of_cell? w _ hw285_0)).trans hw285_0)⟩ (fun hHeld => ?_)
             clear hK K
             refine norm_ (a' := ?_) ?_ ?_
             rotate_left
             · show Act.put _ (some 25) _ = _
               simp only [Act.put, List.setIfInBounds_toArray, List.set_cons_zero, List.set_cons_succ, i64_w, i32_w]
               rfl
             refine pure_ (i := 9) (N := some 26) (v := ?_) (a' := ?_) #[true, true, true, true, true, true, true, true, true, true] rfl rfl (any_of HT_.out (by kernel_rfl)) (fun _ _ _ h => h) (Or.inl ⟨by rfl, ?_⟩) ?_ ?_
             rotate_left
             · intro w'
               go_simp
               with_reducible rfl
             rotate_left
             · simp only [Act.put, List.setIfInBounds_toArray, List.set_cons_zero, List.set_cons_succ, i64_w, i32_w]
               rfl
             refine done_ (done_of HT_.out (by kernel_rfl)) ?_
             try go_wp2
             go_roundg k1
             case measure => have := HK1.out; omega
             case rel => exact ⟨(wrap64 (x5_1 + 1)), (by first | rfl | (simp; done) | (simp [*]; done)), H', ⟨by have := HK1.out; omega⟩, ⟨by repeat (first | (with_reducible first | exact HB.out | apply below_alloc | apply pw_below_drewN | apply below_drew1) | exact HB.out)⟩⟩
           · replace c8 := Bool.eq_false_iff.mpr c8
             subst c8
             have H1 : (some false) = some r := by rw [if_neg (show ¬ (false = true) by decide)] at H; exact H
             clear H
             have H := H1
             clear H1
             obtain rfl := Option.some.inj H
             try go_wp2
             have n0_ := Aside0.mk (below_drew1 HB.out)
             clear HB
             have HB := n0_
             clear n0_
             have p284 : 0 ≤ (x5_1 : Int) := of_decide_eq_true (by first | (with_reducible assumption) | assumption)
             have q284 : x5_1 < (l0.length : Int) := of_decide_eq_true (by first | (with_reducible assumption) | assumption)
             obtain ⟨ad284, A284_0, c284_0, e284, hx284_0, hl284_0, hi284_0⟩ := at_T62 HR0.out x5_1 p284 q284
             have hw284_0 := hx284_0
             cases e284
             replace hx284_0 := (HB.out.cell (World.block_lt_of_cell? w _ hx284_0)).trans hx284_0
             have HR284_0 := Aside0.mk hi284_0
             have HC284_0 := Aside0.mk hl284_0
             clear hi284_0 hl284_0
             replace p284 := eq_true p284
             replace q284 := eq_true q284
             have p285 : 0 ≤ (x5_1 : Int) := of_decide_eq_true (by first | (with_reducible assumption) | assumption)
             have q285 : x5_1 < (l1.length : Int) := of_decide_eq_true (by first | (with_reducible assumption) | assumption)
             obtain ⟨ad285, A285_0, c285_0, e285, hx285_0, hl285_0, hi285_0⟩ := at_T62 HR1.out x5_1 p285 q285
             have hw285_0 := hx285_0
             cases e285
             replace hx285_0 := (HB.out.cell (World.block_lt_of_cell? w _ hx285_0)).trans hx285_0
             have HR285_0 := Aside0.mk hi285_0
             have HC285_0 := Aside0.mk hl285_0
             clear hi285_0 hl285_0
             replace p285 := eq_true p285
             replace q285 := eq_true q285
             refine start_ (n := 10) (S := fun w' => w'.cell? (ad284.add (x5_1).toNat) = some (.slice A284_0 ((rd_T62 l0 x5_1).f0).length c284_0) ∧ w'.cell? (ad285.add (x5_1).toNat) = some (.slice A285_0 ((rd_T62 l1 x5_1).f0).length c285_0)) (ds := []) #[false, false, false, false, false, false, false, false, false, false] (by kernel_rfl) rfl rfl ⟨((HB.out.cell (World.block_lt_of_cell? w _ hw284_0)).trans hw284_0), ((HB.out.cell (World.block_lt_of_cell? w _ hw285_0)).trans hw285_0)⟩ (fun hHeld => ?_); refine with_tabW laws_eqBlockS.tab6 laws_eqBlockS.bits6 (fun HT_ HW_ => ?_)
             generalize wr.drew = w11 at HB HR284_0 HR285_0 hx284_0 hx285_0 hHeld ⊢
             refine pure_ (i := 0) (N := some 17) (v := ?_) (a' := ?_) #[true, false, false, false, false, false, false, false, false, false] rfl rfl (any_of HT_.out (by kernel_rfl)) (fun _ _ _ h => h) (Or.inl ⟨by rfl, ?_⟩) ?_ ?_
             rotate_left
             · intro w'
               go_simp
               with_reducible rfl
             rotate_left
             · simp only [Act.put, List.setIfInBounds_toArray, List.set_cons_zero, List.set_cons_succ, i64_w, i32_w]
               rfl
             refine pure_ (i := 1) (N := some 18) (v := ?_) (a' := ?_) #[true, true, false, false, false, false, false, false, false, false] rfl rfl (any_of HT_.out (by kernel_rfl)) (fun _ _ _ h => h) (Or.inl ⟨by rfl, ?_⟩) ?_ ?_
             rotate_left
             · intro w'
               go_simp
               with_reducible rfl
             rotate_left
             · simp only [Act.put, List.setIfInBounds_toArray, List.set_cons_zero, List.set_cons_succ, i64_w, i32_w]
               rfl
             refine pure_ (i := 2) (N := some 19) (v := ?_) (a' := ?_) #[true, true, true, false, false, false, false, false, false, false] rfl rfl (any_of HT_.out (by kernel_rfl)) (fun _ _ _ h => h) (Or.inl ⟨by rfl, ?_⟩) ?_ ?_
             rotate_left
             · intro w'
               go_simp
               with_reducible rfl
             rotate_left
             · simp only [Act.put, List.setIfInBounds_toArray, List.set_cons_zero, List.set_cons_succ, i64_w, i32_w]
               rfl
             refine pure_ (i := 4) (N := some 21) (v := ?_) (a' := ?_) #[true, true, true, false, true, false, false, false, false, false] rfl rfl (any_of HT_.out (by kernel_rfl)) (fun _ _ _ h => h) (Or.inl ⟨by rfl, ?_⟩) ?_ ?_
             rotate_left
             · intro w'
               go_simp
               with_reducible rfl
             rotate_left
             · simp only [Act.put, List.setIfInBounds_toArray, List.set_cons_zero, List.set_cons_succ, i64_w, i32_w]
               rfl
             refine pure_ (i := 5) (N := some 22) (v := ?_) (a' := ?_) #[true, true, true, false, true, true, false, false, false, false] rfl rfl (any_of HT_.out (by kernel_rfl)) (fun _ _ _ h => h) (Or.inl ⟨by rfl, ?_⟩) ?_ ?_
             rotate_left
             · intro w'
               go_simp
               with_reducible rfl
             rotate_left
             · simp only [Act.put, List.setIfInBounds_toArray, List.set_cons_zero, List.set_cons_succ, i64_w, i32_w]
               rfl
             refine pure_ (i := 6) (N := some 23) (v := ?_) (a' := ?_) #[true, true, true, false, true, true, true, false, false, false] rfl rfl (any_of HT_.out (by kernel_rfl)) (fun _ _ _ h => h) (Or.inl ⟨by rfl, ?_⟩) ?_ ?_
             rotate_left
             · intro w'
               go_simp
               with_reducible rfl
             rotate_left
             · simp only [Act.put, List.setIfInBounds_toArray, List.set_cons_zero, List.set_cons_succ, i64_w, i32_w]
               rfl
             refine take_ (i := 3) (N := some 20) (v := ?_) (a' := ?_) #[true, true, true, true, true, true, true, false, false, false] rfl rfl (take_ofW HT_.out HW_.out (by kernel_rfl)) (fun _ _ _ h => h) (Or.inl ⟨by rfl, ?_⟩) hHeld ?_ ?_
             rotate_left
             · rintro w' ⟨s0, s1⟩
               go_simp
               with_reducible rfl
             rotate_left
             · simp only [Act.put, List.setIfInBounds_toArray, List.set_cons_zero, List.set_cons_succ, i64_w, i32_w]
               rfl
             refine take_ (i := 7) (N := some 24) (v := ?_) (a' := ?_) #[true, true, true, true, true, true, true, true, false, false] rfl rfl (take_ofW HT_.out HW_.out (by kernel_rfl)) (fun _ _ _ h => h) (Or.inl ⟨by rfl, ?_⟩) hHeld ?_ ?_
             rotate_left
             · rintro w' ⟨s0, s1⟩
               go_simp
               with_reducible rfl
             rotate_left
             · simp only [Act.put, List.setIfInBounds_toArray, List.set_cons_zero, List.set_cons_succ, i64_w, i32_w]
               rfl
             refine one_ (i := 8) (N := some 25) #[true, true, true, true, true, true, true, true, true, false] rfl rfl (one_of HT_.out (by kernel_rfl)) (by decide) (fun K hK => ?_)
             refine goes_ Try.func71 (by kernel_rfl) rfl #[.agg #[.slice A284_0 ((rd_T62 l0 x5_1).f0).length c284_0], .agg #[.slice A285_0 ((rd_T62 l1 x5_1).f0).length c285_0]] (by rfl) rfl rfl (by (try simp only [List.map_toArray, List.map_cons, List.map_nil]); first | done | rfl | (simp only [List.length_drop, List.length_take]; rfl)) ?_
             with_reducible refine (laws_eqBlock.calls k1 _ _ ((rd_T62 l0 x5_1).f0) _ _ ((rd_T62 l1 x5_1).f0) false _ ?side1 ?side2 ?side3 ?side4 A7.out).mono ?_
             (case side1 => repeat (first | exact (Kd.C_below HR284_0.out HB.out) | (with_reducible refine Kd.C_alloc ?_ _) | (with_reducible refine Kd.C_drewN ?_ _) | (with_reducible refine Kd.C_drew ?_)))
             (case side2 => exact HC284_0.out)
             (case side3 => repeat (first | exact (Kd.C_below HR285_0.out HB.out) | (with_reducible refine Kd.C_alloc ?_ _) | (with_reducible refine Kd.C_drewN ?_ _) | (with_reducible refine Kd.C_drew ?_)))
             (case side4 => exact HC285_0.out)
             rintro e w12 ⟨rfl, hb⟩
             refine ⟨_, rfl, ?_⟩
             have n0_ := Aside0.mk (below_step (by repeat (first | (with_reducible first | exact HB.out | apply below_alloc | apply pw_below_drewN | apply below_drew1) | exact HB.out)) hb)
             clear HB
             have HB := n0_
             clear n0_
             (try clear hb)
             (try clear hb2)
             (try clear hk)
             (try clear hi)
             refine hK.out _ _ ⟨((HB.out.cell (World.block_lt_of_cell? w _ hw284_0)).trans hw284_0), ((HB.out.cell (World.block_lt_of_cell? w _ hw285_0)).trans hw285_0)⟩ (fun hHeld => ?_)
             clear hK K
             refine norm_ (a' := ?_) ?_ ?_
             rotate_left
             · show Act.put _ (some 25) _ = _
               simp only [Act.put, List.setIfInBounds_toArray, List.set_cons_zero, List.set_cons_succ, i64_w, i32_w]
               rfl
             refine pure_ (i := 9) (N := some 26) (v := ?_) (a' := ?_) #[true, true, true, true, true, true, true, true, true, true] rfl rfl (any_of HT_.out (by kernel_rfl)) (fun _ _ _ h => h) (Or.inl ⟨by rfl, ?_⟩) ?_ ?_
             rotate_left
             · intro w'
               go_simp
               with_reducible rfl
             rotate_left
             · simp only [Act.put, List.setIfInBounds_toArray, List.set_cons_zero, List.set_cons_succ, i64_w, i32_w]
               rfl
             refine done_ (done_of HT_.out (by kernel_rfl)) ?_
             try go_wp2
             go_ret
             exact ⟨by first | rfl | (simp [errW_none, errW_some] <;> rfl) | (simp [*, errW_none, errW_some] <;> rfl), by repeat (first | (with_reducible first | exact HB.out | apply below_alloc | apply pw_below_drewN | apply below_drew1) | exact HB.out)⟩
         · rw [if_neg c6] at H
           exact absurd H (by simp)
       · rw [if_neg c5] at H
         exact absurd H (by simp)
     · rw [if_neg c4] at H
       have c4b0 : decide (x5_1 < (l0.length : Int)) = false := decide_eq_false c4
       clear c4
       obtain rfl := Option.some.inj H
       go_wp2
       go_ret
       exact ⟨by first | rfl | (simp [errW_none, errW_some] <;> rfl) | (simp [*, errW_none, errW_some] <;> rfl), by repeat (first | (with_reducible first | exact HB.out | apply below_alloc | apply pw_below_drewN | apply below_drew1) | exact HB.out)⟩
 · rw [if_neg c3] at H
   have c3b0 : ((l0.length : Int) == (l1.length : Int)) = false := beq_eq_false_iff_ne.mpr c3
   have c3b1 : ((l0.length : Int) != (l1.length : Int)) = true := bne_iff_ne.mpr c3
   have c3b2 : (l0.length == l1.length) = false := by first | simpa using c3 | (simp at c3 ⊢; omega)
   obtain rfl := Option.some.inj H
   go_enter Try.func50, Try.ntmps50
   go_wp2
   go_ret
   exact ⟨by first | rfl | (simp [errW_none, errW_some] <;> rfl) | (simp [*, errW_none, errW_some] <;> rfl), by repeat (first | (with_reducible first | exact HB.out | apply below_alloc | apply pw_below_drewN | apply below_drew1) | exact HB.out)⟩

end Go.Proofs.Ytoedcnhgobbnfaa.All


namespace Go.Proofs.Ytoedcnhgobbnfaa.All
open Go.RowKit Go.Proofs.YtoedcnhgobbnfaaW.PrintWords Go.Proofs.YtoedcnhgobbnfaaW.PrintLast Go.Proofs.YtoedcnhgobbnfaaW.PrintMore
attribute [local go_sem] max2_int min2_int max_two min_two max_three min_three max_four min_four   -- for this text's walks alone
set_option linter.unusedVariables false
set_option linter.unusedSimpArgs false

/-! ### laws_eqFunc: function 16 -/
def laws_eqFunc.f (k : Nat) (a0_0 : ByteArray) (a0_1 : Int) (l0_2 : List Int) (a0_3 : Int) (l0_4 : List (S62)) (a1_0 : ByteArray) (a1_1 : Int) (l1_2 : List Int) (a1_3 : Int) (l1_4 : List (S62)) : Option Bool := if a0_0 = a1_0 then (if a0_1 = a1_1 then (((laws_eqInt64S.f k l0_2 l1_2).bind fun t2 => (if t2 = true then (if a0_3 = a1_3 then (((laws_eqBlockS.f k l0_4 l1_4).bind fun t4 => (if t4 = true then (some true) else none))) else none) else none))) else none) else none
set_option maxHeartbeats 4000000 in
set_option maxRecDepth 100000 in
theorem laws_eqFunc.calls (k : Nat) (a0_0 : ByteArray) (a0_1 : Int) (A0_2 : Option Addr) (c0_2 : Nat) (l0_2 : List Int) (a0_3 : Int) (A0_4 : Option Addr) (c0_4 : Nat) (l0_4 : List (S62)) (a1_0 : ByteArray) (a1_1 : Int) (A1_2 : Option Addr) (c1_2 : Nat) (l1_2 : List Int) (a1_3 : Int) (A1_4 : Option Addr) (c1_4 : Nat) (l1_4 : List (S62)) (r : Bool) (w : World) (hr0_2 : Kd.C (Kd.int .i64) w A0_2 l0_2.length l0_2) (hc0_2 : l0_2.length ≤ c0_2) (hr0_4 : Kd.C k62 w A0_4 l0_4.length l0_4) (hc0_4 : l0_4.length ≤ c0_4) (hr1_2 : Kd.C (Kd.int .i64) w A1_2 l1_2.length l1_2) (hc1_2 : l1_2.length ≤ c1_2) (hr1_4 : Kd.C k62 w A1_4 l1_4.length l1_4) (hc1_4 : l1_4.length ≤ c1_4) (h : laws_eqFunc.f k a0_0 a0_1 l0_2 a0_3 l0_4 a1_0 a1_1 l1_2 a1_3 l1_4 = some r) :
 Calls Try.prog 16 #[.agg #[.string a0_0, .int .i64 a0_1, .slice A0_2 l0_2.length c0_2, .int .i64 a0_3, .slice A0_4 l0_4.length c0_4], .agg #[.string a1_0, .int .i64 a1_1, .slice A1_2 l1_2.length c1_2, .int .i64 a1_3, .slice A1_4 l1_4.length c1_4]] w fun e w' => e = .returned (.bool r) ∧ Below w.heap.size w w' := by
 unfold laws_eqFunc.f at h
 by_cases e0 : a0_0 = a1_0
 rotate_left
 · rw [if_neg e0] at h; cases h
 rw [if_pos e0] at h
 subst e0
 by_cases e1 : a0_1 = a1_1
 rotate_left
 · rw [if_neg e1] at h; cases h
 rw [if_pos e1] at h
 subst e1
 obtain ⟨t2, b2, h2⟩ := Option.bind_eq_some_iff.mp h
 clear h
 by_cases e2 : t2 = true
 rotate_left
 · rw [if_neg e2] at h2; cases h2
 rw [if_pos e2] at h2
 subst e2
 have B2 := Aside0.mk b2
 clear b2
 by_cases e3 : a0_3 = a1_3
 rotate_left
 · rw [if_neg e3] at h2; cases h2
 rw [if_pos e3] at h2
 subst e3
 obtain ⟨t4, b4, h4⟩ := Option.bind_eq_some_iff.mp h2
 clear h2
 by_cases e4 : t4 = true
 rotate_left
 · rw [if_neg e4] at h4; cases h4
 rw [if_pos e4] at h4
 subst e4
 have B4 := Aside0.mk b4
 clear b4
 obtain rfl := Option.some.inj h4
 clear h4
 have R0_2 := Aside0.mk hr0_2; have C0_2 := Aside0.mk hc0_2; clear hr0_2 hc0_2
 have R0_4 := Aside0.mk hr0_4; have C0_4 := Aside0.mk hc0_4; clear hr0_4 hc0_4
 have R1_2 := Aside0.mk hr1_2; have C1_2 := Aside0.mk hc1_2; clear hr1_2 hc1_2
 have R1_4 := Aside0.mk hr1_4; have C1_4 := Aside0.mk hc1_4; clear hr1_4 hc1_4
 have hu := Try.underlying30
 go_enter Try.func16, Try.ntmps16
 go_wp2_with (first | (go_at_call 19; refine calls_at (fun W => Below w.heap.size w W ∧ W.heap[w.heap.size]? = some (.cells #[.string a0_0, .int .i64 a0_1, .slice A0_2 l0_2.length c0_2, .int .i64 a0_3, .slice A0_4 l0_4.length c0_4] 30 (0, 0)) ∧ W.heap[w.heap.size + 1]? = some (.cells #[.string a0_0, .int .i64 a0_1, .slice A1_2 l1_2.length c1_2, .int .i64 a0_3, .slice A1_4 l1_4.length c1_4] 30 (0, 0))) ?h_2 ?_; (case h_2 => exact ⟨below_alloc (below_alloc (Below.refl _ _) _) _, alloc2_0 _ _ _, alloc2_1 _ _ _⟩); rintro W2 ⟨b2, p2, q2⟩; refine (laws_eqInt64S.calls k A0_2 c0_2 l0_2 A1_2 c1_2 l1_2 true W2 (Kd.C_below R0_2.out b2) C0_2.out (Kd.C_below R1_2.out b2) C1_2.out B2.out).mono ?_; rintro e w2 ⟨rfl, d2⟩; have d2 := d2.below; have BW2 := Aside0.mk (below_step b2 d2); have P2 := Aside0.mk ((d2.block _ (blk_lt p2)).trans p2); have Q2 := Aside0.mk ((d2.block _ (blk_lt q2)).trans q2); clear b2 p2 q2 d2; have x2_3 : w2.cell? ⟨w.heap.size, 3, none⟩ = some (.int .i64 a0_3) := (blk_cell P2.out 3).trans rfl; have y2_3 : w2.cell? ⟨w.heap.size + 1, 3, none⟩ = some (.int .i64 a0_3) := (blk_cell Q2.out 3).trans rfl; have x2_4 : w2.cell? ⟨w.heap.size, 4, none⟩ = some (.slice A0_4 l0_4.length c0_4) := (blk_cell P2.out 4).trans rfl; have y2_4 : w2.cell? ⟨w.heap.size + 1, 4, none⟩ = some (.slice A1_4 l1_4.length c1_4) := (blk_cell Q2.out 4).trans rfl) | (go_at_call 50; refine calls_at (fun W => Below w.heap.size w W ∧ W.heap[w.heap.size]? = some (.cells #[.string a0_0, .int .i64 a0_1, .slice A0_2 l0_2.length c0_2, .int .i64 a0_3, .slice A0_4 l0_4.length c0_4] 30 (0, 0)) ∧ W.heap[w.heap.size + 1]? = some (.cells #[.string a0_0, .int .i64 a0_1, .slice A1_2 l1_2.length c1_2, .int .i64 a0_3, .slice A1_4 l1_4.length c1_4] 30 (0, 0))) ?h_4 ?_; (case h_4 => exact ⟨BW2.out, P2.out, Q2.out⟩); rintro W4 ⟨b4, p4, q4⟩; refine (laws_eqBlockS.calls k A0_4 c0_4 l0_4 A1_4 c1_4 l1_4 true W4 (Kd.C_below R0_4.out b4) C0_4.out (Kd.C_below R1_4.out b4) C1_4.out B4.out).mono ?_; rintro e w4 ⟨rfl, d4⟩; have BW4 := Aside0.mk (below_step b4 d4); have P4 := Aside0.mk ((d4.block _ (blk_lt p4)).trans p4); have Q4 := Aside0.mk ((d4.block _ (blk_lt q4)).trans q4); clear b4 p4 q4 d4))
 go_ret
 exact ⟨rfl, BW4.out⟩

end Go.Proofs.Ytoedcnhgobbnfaa.All


namespace Go.Proofs.Ytoedcnhgobbnfaa.All
open Go.RowKit Go.Proofs.YtoedcnhgobbnfaaW.PrintWords Go.Proofs.YtoedcnhgobbnfaaW.PrintLast Go.Proofs.YtoedcnhgobbnfaaW.PrintMore
attribute [local go_sem] max2_int min2_int max_two min_two max_three min_three max_four min_four   -- for this text's walks alone
set_option linter.unusedVariables false
set_option linter.unusedSimpArgs false

/-! ### laws_markInt64S: function 21 -/
def laws_markInt64S.l0 : Nat → List Int → Int → Int → Option (Int × List Int)
 | 0, _, _, _ => none
 | k + 1, x0, x1, x5 => if x5 < (x0.length : Int) then (if 0 ≤ x5 then (laws_markInt64S.l0 k (x0.set (x5 : Int).toNat x1) (wrap64 (x1 + 1)) (wrap64 (x5 + 1))) else (none)) else (some (x1, x0))
def laws_markInt64S.f (k : Nat) (l0 : List Int) (a1 : Int) : Option (Int × List Int) := laws_markInt64S.l0 k l0 a1 0
set_option maxHeartbeats 8000000 in
set_option maxRecDepth 100000 in
theorem laws_markInt64S.calls (k : Nat) (P0_ : Nat → Prop) (u9000_ : Value) (l0 : List Int) (a1 : Int) (r1 : Int) (r2 : List Int) (w0 w : World) (hB : Below w0.heap.size w0 w) (ho0 : Kd.R (Kd.int .i64) 2 w w0.heap.size P0_ u9000_ l0) (h : laws_markInt64S.f k l0 a1 = some (r1, r2)) :
 Calls Try.prog 21 #[u9000_, .int .i64 a1] w fun e w' => e = .returned (.int .i64 r1) ∧ Kd.R (Kd.int .i64) 2 w' w0.heap.size (fun k_ => (P0_ k_ ∨ w.heap.size ≤ k_)) u9000_ r2 ∧ Below w0.heap.size w0 w' ∧ Kept w w' (fun k_ => P0_ k_) := by
 have HO0 := Aside0.mk (show Kd.R (Kd.int .i64) 2 w w0.heap.size (fun k_ => (P0_ k_ ∨ w.heap.size ≤ k_)) u9000_ l0 from Kd.R_mono ho0 (fun k_ hk => (.inl hk)))
 have HK := Aside0.mk (Kept.refl w (fun k_ => P0_ k_))
 have HW0 := Aside0.mk hB.size
 have HB := Aside0.mk hB
 clear hB
 have H : (laws_markInt64S.l0 k l0 a1 0) = some (r1, r2) := h
 clear h
 have H' := Aside0.mk H
 clear H
 go_enter Try.func21, Try.ntmps21
 go_wp2
 go_loopg [1, 5] k (fun kq v1 v5 w' => ∃ (x0_1 : List Int) (x1_1 : Int) (x5_1 : Int), v1 = .int .i64 x1_1 ∧ v5 = .int .i64 x5_1 ∧ Aside0 (laws_markInt64S.l0 kq x0_1 x1_1 x5_1 = some (r1, r2)) ∧ Aside0 (kq ≤ k) ∧ Aside0 (Kd.R (Kd.int .i64) 2 w' w0.heap.size (fun k_ => (P0_ k_ ∨ w.heap.size ≤ k_)) u9000_ x0_1) ∧ Aside0 (Kept w w' (fun k_ => P0_ k_)) ∧ Aside0 (Below w0.heap.size w0 w'))
 case atStart => exact ⟨(l0), (a1), (0), (by first | rfl | (simp; done) | (simp [*]; done)), (by first | rfl | (simp; done) | (simp [*]; done)), H', ⟨Nat.le_refl _⟩, ⟨by (with_reducible repeat (first | apply Kd.R_alloc | apply Kd.R_drewN | apply Kd.R_drew)); exact HO0.out⟩, ⟨by repeat (first | (with_reducible first | exact HK.out | apply Kept.alloc | apply Kept.drewN | apply Kept.drew) | exact HK.out)⟩, ⟨by repeat (first | (with_reducible first | exact HB.out | apply below_alloc | apply pw_below_drewN | apply below_drew1) | exact HB.out)⟩⟩
 case round =>
  clear H'
  try clear c2
  try clear p2
  obtain ⟨x0_1, x1_1, x5_1, rfl, rfl, HA, HK1, HO_0, HK, HB⟩ := hrel
  cases gk with
  | zero => exact absurd HA.out (by simp [laws_markInt64S.l0])
  | succ k1 =>
   have H := HA.out
   clear HA
   simp only [laws_markInt64S.l0] at H
   by_cases c3 : x5_1 < (x0_1.length : Int)
   · rw [if_pos c3] at H
     have c3b0 : decide (x5_1 < (x0_1.length : Int)) = true := decide_eq_true c3
     clear c3
     by_cases c4 : 0 ≤ x5_1
     · rw [if_pos c4] at H
       have c4b0 : decide (0 ≤ x5_1) = true := decide_eq_true c4
       clear c4
       obtain ⟨y320, hy320⟩ : ∃ y_ : List Int, y_ = (x0_1.set (x5_1 : Int).toNat x1_1) := ⟨_, rfl⟩
       replace H : (laws_markInt64S.l0 k1 y320 (wrap64 (x1_1 + 1)) (wrap64 (x5_1 + 1))) = some (r1, r2) := by first | (rw [hy320]; with_reducible exact H) | (have H2_ := (Option.bind_some _ _).symm.trans H; rw [hy320]; with_reducible exact H2_) | (have H2_ := (Option.bind_some _ _).symm.trans H; with_reducible exact H2_) | with_reducible exact H | (rw [hy320]; exact H) | exact H
       have Ny320 := Aside0.mk hy320
       clear hy320
       have H' := Aside0.mk H
       clear H
       obtain ⟨Ao6, co6, eo6⟩ := Kd.R_slice HO_0.out
       subst eo6
       have p5 : 0 ≤ (x5_1 : Int) := of_decide_eq_true (by first | (with_reducible assumption) | assumption)
       have q5 : (x5_1 : Int) < ((x0_1.length : Int) : Int) := of_decide_eq_true (by first | (with_reducible assumption) | assumption)
       obtain ⟨go5, co5, eo5, gb5, gl5, cl5, HG5⟩ := Kd.R_form HO_0.out (by omega)
       (first | cases eo5 | (injection eo5 with ea_ en_ ec_; (first | subst ea_ | (injection ea_ with ea_; subst ea_)); subst ec_; clear en_))
       have GB5 := Aside0.mk gb5
       have GG5 := Aside0.mk HG5
       clear gb5 gl5 HG5
       have HMgo5 := Aside0.mk (show (P0_ go5 ∨ w.heap.size ≤ go5) from (HO_0.out.1 _ rfl))
       obtain ⟨hx5_0, hf5_0⟩ := Kd.R_celln 0 HO_0.out (x5_1 : Int) p5 q5
       replace p5 := eq_true p5
       replace q5 := eq_true q5
       have HP7 := Kd.R_putg HO_0.out (x5_1 : Int) x1_1
       go_wp2_with (first | ((with_reducible refine gate_store (t := 2) (p := 15) rfl ?_); refine store_event (t := 2) (p := 15) (v := ?vo_w8) (w1 := (wr.setCell ⟨go5, (x5_1 : Int).toNat, none⟩ (.int .i64 x1_1))) ?hg ?ho ?hn ?hr ?_; (case ho => rfl); (case hg => rfl); (case hn => rfl); (case hr => first | (go_simp; done) | (go_simp; rfl)); intro w8 hw; have hg : wr.grownBy w8 (some go5) := (by rw [hw]; exact HP7.2); have hp_ : Kd.R (Kd.int .i64) 2 w8 w0.heap.size (fun k_ => (P0_ k_ ∨ w.heap.size ≤ k_)) (.slice (some ⟨go5, 0, none⟩) x0_1.length co6) y320 := (by rw [hw, Ny320.out]; exact HP7.1); clear HP7; have n0_ := Aside0.mk (hp_); have n1_ := Aside0.mk ((by rw [hw]; exact below_set (HB.out) GB5.out : Below w0.heap.size w0 w8)); have n2_ := Aside0.mk (Kept.of_grown (S := (fun k_ => P0_ k_)) hg (by repeat (first | (with_reducible first | exact HK.out | apply Kept.alloc | apply Kept.drewN | apply Kept.drew) | exact HK.out)) (fun k_ e_ => (HO_0.out.1 k_ e_))); clear HO_0; clear HB; clear HK; have HO_0 := n0_; have HB := n1_; have HK := n2_; clear n0_ n1_ n2_; clear hg hw hp_))
       go_roundg k1
       case measure => have := HK1.out; omega
       case rel => exact ⟨(y320), (wrap64 (x1_1 + 1)), (wrap64 (x5_1 + 1)), (by first | rfl | (simp; done) | (simp [*]; done)), (by first | rfl | (simp; done) | (simp [*]; done)), H', ⟨by have := HK1.out; omega⟩, ⟨by (with_reducible repeat (first | apply Kd.R_alloc | apply Kd.R_drewN | apply Kd.R_drew)); exact HO_0.out⟩, ⟨by repeat (first | (with_reducible first | exact HK.out | apply Kept.alloc | apply Kept.drewN | apply Kept.drew) | exact HK.out)⟩, ⟨by repeat (first | (with_reducible first | exact HB.out | apply below_alloc | apply pw_below_drewN | apply below_drew1) | exact HB.out)⟩⟩
     · rw [if_neg c4] at H
       exact absurd H (by simp)
   · rw [if_neg c3] at H
     have c3b0 : decide (x5_1 < (x0_1.length : Int)) = false := decide_eq_false c3
     clear c3
     simp only [Option.some.injEq, Prod.mk.injEq] at H
     obtain ⟨rfl, rfl⟩ := H
     obtain ⟨Ao9, co9, eo9⟩ := Kd.R_slice HO_0.out
     subst eo9
     go_wp2
     go_ret
     exact ⟨by first | rfl | (simp [errW_none, errW_some] <;> rfl) | (simp [*, errW_none, errW_some] <;> rfl), by (with_reducible repeat (first | apply Kd.R_alloc | apply Kd.R_drewN | apply Kd.R_drew)); exact HO_0.out, by repeat (first | (with_reducible first | exact HB.out | apply below_alloc | apply pw_below_drewN | apply below_drew1) | exact HB.out), by repeat (first | (with_reducible first | exact HK.out | apply Kept.alloc | apply Kept.drewN | apply Kept.drew) | exact HK.out)⟩

end Go.Proofs.Ytoedcnhgobbnfaa.All


/- The walks of the laws' mark functions, as what they leave. Printed by gen_mark.py. -/
namespace Go.Proofs.Ytoedcnhgobbnfaa.All
open Go.RowKit Go.Proofs.YtoedcnhgobbnfaaW.PrintWords Go.Proofs.YtoedcnhgobbnfaaW.PrintLast Go.Proofs.YtoedcnhgobbnfaaW.PrintMore
set_option linter.unusedVariables false
set_option linter.unusedSimpArgs false
def cntL_int64 (xs : List Int) : Nat := xs.length
theorem cntL_int64_same {xs ys : List Int} (h : sameL (Shp.int .i64).same xs ys) : cntL_int64 ys = cntL_int64 xs := h.1
theorem cntL_int64_take (xs : List Int) (m : Nat) (h : m < xs.length) : cntL_int64 (xs.take (m + 1)) = cntL_int64 (xs.take m) + 1 := by unfold cntL_int64; rw [List.length_take, List.length_take]; omega
theorem cntL_int64_le (xs : List Int) (m : Nat) : cntL_int64 (xs.take m) ≤ cntL_int64 xs := by unfold cntL_int64; rw [List.length_take]; omega
theorem cntL_int64_len (xs : List Int) : xs.length ≤ cntL_int64 xs := Nat.le_refl _
def cntL_uint64 (xs : List Int) : Nat := xs.length
theorem cntL_uint64_same {xs ys : List Int} (h : sameL (Shp.int .u64).same xs ys) : cntL_uint64 ys = cntL_uint64 xs := h.1
theorem cntL_uint64_take (xs : List Int) (m : Nat) (h : m < xs.length) : cntL_uint64 (xs.take (m + 1)) = cntL_uint64 (xs.take m) + 1 := by unfold cntL_uint64; rw [List.length_take, List.length_take]; omega
theorem cntL_uint64_le (xs : List Int) (m : Nat) : cntL_uint64 (xs.take m) ≤ cntL_uint64 xs := by unfold cntL_uint64; rw [List.length_take]; omega
theorem cntL_uint64_len (xs : List Int) : xs.length ≤ cntL_uint64 xs := Nat.le_refl _
def cnt_Operand (x : S75) : Nat := 4
def cntL_Operand (xs : List S75) : Nat := (xs.map cnt_Operand).sum
def shp_Operand : Shp k75 := Shp.iso (Shp.pair (Shp.int .i64) (Shp.pair (Shp.int .i64) (Shp.pair (Shp.int .i64) (Shp.int .u64)))) (fun x : S75 => (x.f0, x.f1, x.f2, x.f3)) (fun y => ⟨y.1, y.2.1, y.2.2.1, y.2.2.2⟩) (fun _ => rfl)
theorem cnt_Operand_same {x y : S75} (h : shp_Operand.same x y) : cnt_Operand y = cnt_Operand x := rfl
theorem cntL_Operand_same {xs ys : List S75} (h : sameL shp_Operand.same xs ys) : cntL_Operand ys = cntL_Operand xs := sameL_sum h (fun _ _ h => cnt_Operand_same h)
theorem cntL_Operand_take (xs : List S75) (m : Nat) (h : m < xs.length) : cntL_Operand (xs.take (m + 1)) = cntL_Operand (xs.take m) + cnt_Operand (xs.getD m z75) := sum_take_succ _ _ xs m h
theorem cntL_Operand_len (xs : List S75) : xs.length ≤ cntL_Operand xs := len_le_sum xs (fun x => by unfold cnt_Operand; omega)
theorem cntL_Operand_le (xs : List S75) (m : Nat) : cntL_Operand (xs.take m) ≤ cntL_Operand xs := sum_take_le _ xs m
def cnt_Instr (x : S66) : Nat := 6 + cntL_Operand x.f6 + cntL_int64 x.f7 + cntL_uint64 x.f8
def cntL_Instr (xs : List S66) : Nat := (xs.map cnt_Instr).sum
def shp_Instr : Shp k66 := Shp.iso (Shp.pair (Shp.int .i64) (Shp.pair (Shp.int .i64) (Shp.pair (Shp.int .i64) (Shp.pair (Shp.int .i64) (Shp.pair (Shp.int .i64) (Shp.pair (Shp.int .i64) (Shp.pair (Shp.slice 75 shp_Operand) (Shp.pair (Shp.slice 2 (Shp.int .i64)) (Shp.slice 73 (Shp.int .u64)))))))))) (fun x : S66 => (x.f0, x.f1, x.f2, x.f3, x.f4, x.f5, x.f6, x.f7, x.f8)) (fun y => ⟨y.1, y.2.1, y.2.2.1, y.2.2.2.1, y.2.2.2.2.1, y.2.2.2.2.2.1, y.2.2.2.2.2.2.1, y.2.2.2.2.2.2.2.1, y.2.2.2.2.2.2.2.2⟩) (fun _ => rfl)
theorem cnt_Instr_same {x y : S66} (h : shp_Instr.same x y) : cnt_Instr y = cnt_Instr x := by
  have e6 : cntL_Operand y.f6 = cntL_Operand x.f6 := cntL_Operand_same h.2.2.2.2.2.2.1
  have e7 : cntL_int64 y.f7 = cntL_int64 x.f7 := cntL_int64_same h.2.2.2.2.2.2.2.1
  have e8 : cntL_uint64 y.f8 = cntL_uint64 x.f8 := cntL_uint64_same h.2.2.2.2.2.2.2.2
  unfold cnt_Instr
  rw [e6, e7, e8]
theorem cntL_Instr_same {xs ys : List S66} (h : sameL shp_Instr.same xs ys) : cntL_Instr ys = cntL_Instr xs := sameL_sum h (fun _ _ h => cnt_Instr_same h)
theorem cntL_Instr_take (xs : List S66) (m : Nat) (h : m < xs.length) : cntL_Instr (xs.take (m + 1)) = cntL_Instr (xs.take m) + cnt_Instr (xs.getD m z66) := sum_take_succ _ _ xs m h
theorem cntL_Instr_len (xs : List S66) : xs.length ≤ cntL_Instr xs := len_le_sum xs (fun x => by unfold cnt_Instr; omega)
theorem cntL_Instr_le (xs : List S66) (m : Nat) : cntL_Instr (xs.take m) ≤ cntL_Instr xs := sum_take_le _ xs m
def cnt_Block (x : S62) : Nat := cntL_Instr x.f0
def cntL_Block (xs : List S62) : Nat := (xs.map cnt_Block).sum
def shp_Block : Shp k62 := Shp.iso (Shp.slice 66 shp_Instr) (fun x : S62 => x.f0) (fun y => ⟨y⟩) (fun _ => rfl)
theorem cnt_Block_same {x y : S62} (h : shp_Block.same x y) : cnt_Block y = cnt_Block x := by
  have e0 : cntL_Instr y.f0 = cntL_Instr x.f0 := cntL_Instr_same h
  unfold cnt_Block
  rw [e0]
theorem cntL_Block_same {xs ys : List S62} (h : sameL shp_Block.same xs ys) : cntL_Block ys = cntL_Block xs := sameL_sum h (fun _ _ h => cnt_Block_same h)
theorem cntL_Block_take (xs : List S62) (m : Nat) (h : m < xs.length) : cntL_Block (xs.take (m + 1)) = cntL_Block (xs.take m) + cnt_Block (xs.getD m z62) := sum_take_succ _ _ xs m h
theorem cntL_Block_le (xs : List S62) (m : Nat) : cntL_Block (xs.take m) ≤ cntL_Block xs := sum_take_le _ xs m
theorem laws_markInt64S.elem {w : World} {base g n cap : Nat} {ok : Nat → Prop} {xs : List Int} (hR : (Kd.int .i64).R 2 w base ok (.slice (some ⟨g, 0, none⟩) n cap) xs) (m : Nat) (h1 : m < n) : ∃ y0, w.cell? ⟨g, m, none⟩ = some (.int .i64 y0) := by
  obtain ⟨e, _⟩ := Kd.R_celln 0 hR (m : Int) (by omega) (by omega)
  exact ⟨_, by simpa using e⟩
set_option maxHeartbeats 4000000 in
set_option maxRecDepth 100000 in
theorem laws_markInt64S.sim (v : Value) (xs : List Int) (a1 : Int) (w : World) (base : Nat) (ok : Nat → Prop) (h0 : 0 ≤ a1) (hb : a1 + cntL_int64 xs ≤ 1000000000000) (hR : (Kd.int .i64).R 2 w base ok v xs) :
    Calls Try.prog 21 #[v, .int .i64 a1] w fun e w' => e = .returned (.int .i64 (a1 + cntL_int64 xs)) ∧ Sim w w' (fun k => ok k ∧ base ≤ k) := by
  have HR := Aside0.mk (Kd.R_based hR)
  clear hR
  obtain ⟨A, c, rfl⟩ := Kd.R_slice HR.out
  have hl0 : xs.length ≤ 1000000000000 := by have := cntL_int64_len xs; omega
  have HB := Aside0.mk hb
  clear hb
  go_enter Try.func21, Try.ntmps21
  go_wp2
  go_loopw [1, 5] (fun v1 v5 w' => ∃ m : Nat, m ≤ xs.length ∧ v1 = .int .i64 (a1 + cntL_int64 (xs.take m)) ∧ v5 = .int .i64 (m : Int) ∧ Aside0 (Sim w w' (fun k => ok k ∧ base ≤ k))) (fun _ v5 _ => xs.length - (intOf v5).toNat)
  case atStart => exact ⟨0, Nat.zero_le _, by simp [cntL_int64], rfl, ⟨Sim.refl _ _⟩⟩
  case round =>
    obtain ⟨m, hm, rfl, rfl, HS⟩ := hrel
    have hle := cntL_int64_le xs m
    by_cases hlt : m < xs.length
    · have htk := cntL_int64_take xs m hlt
      have hle1 := cntL_int64_le xs (m + 1)
      obtain ⟨g, cap, eg, _, _, gc⟩ := Kd.R_form HR.out (by omega)
      injection eg with ea _ ec
      subst ea
      subst ec
      have GS : ok g ∧ base ≤ g := HR.out.1 g rfl
      have HG := Aside0.mk GS
      clear GS
      have GC := Aside0.mk gc
      clear gc
      obtain ⟨y0, c0⟩ := laws_markInt64S.elem HR.out m hlt
      obtain ⟨X, hX⟩ : ∃ X : Int, X = a1 + cntL_int64 (xs.take m) := ⟨_, rfl⟩
      rw [← hX]
      have hbb := HB.out
      have hX0 : 0 ≤ X := by omega
      have hX1 : X + 1 ≤ 1000000000000 := by omega
      have C0 := Aside0.mk c0
      clear c0
      have hfin : a1 + cntL_int64 (xs.take (m + 1)) = X + 1 := by omega
      have FIN := Aside0.mk hfin
      have HX := Aside0.mk hX
      clear hfin hX htk hle hle1 hbb
      obtain ⟨d0, e0⟩ := HS.out.scal_int GC.out C0.out
      have z0 := HS.out.frozen (j := m) GC.out
      go_wp2
      go_roundw
      case measure => simp [intOf]; omega
      case rel => exact ⟨m + 1, by omega, by (first | (rw [FIN.out]; done) | (rw [FIN.out]; go_num)), by go_num, ⟨by repeat (first | exact HS.out | (with_reducible refine Sim.putw ?_ GC.out (by first | exact C0.out) HG.out))⟩⟩
    · have : m = xs.length := by omega
      subst this
      rw [List.take_length]
      go_wp2
      go_ret
      exact ⟨rfl, HS.out⟩
theorem laws_markUint64S.elem {w : World} {base g n cap : Nat} {ok : Nat → Prop} {xs : List Int} (hR : (Kd.int .u64).R 73 w base ok (.slice (some ⟨g, 0, none⟩) n cap) xs) (m : Nat) (h1 : m < n) : ∃ y0, w.cell? ⟨g, m, none⟩ = some (.int .u64 y0) := by
  obtain ⟨e, _⟩ := Kd.R_celln 0 hR (m : Int) (by omega) (by omega)
  exact ⟨_, by simpa using e⟩
set_option maxHeartbeats 4000000 in
set_option maxRecDepth 100000 in
theorem laws_markUint64S.sim (v : Value) (xs : List Int) (a1 : Int) (w : World) (base : Nat) (ok : Nat → Prop) (h0 : 0 ≤ a1) (hb : a1 + cntL_uint64 xs ≤ 1000000000000) (hR : (Kd.int .u64).R 73 w base ok v xs) :
    Calls Try.prog 85 #[v, .int .i64 a1] w fun e w' => e = .returned (.int .i64 (a1 + cntL_uint64 xs)) ∧ Sim w w' (fun k => ok k ∧ base ≤ k) := by
  have HR := Aside0.mk (Kd.R_based hR)
  clear hR
  obtain ⟨A, c, rfl⟩ := Kd.R_slice HR.out
  have hl0 : xs.length ≤ 1000000000000 := by have := cntL_uint64_len xs; omega
  have HB := Aside0.mk hb
  clear hb
  go_enter Try.func85, Try.ntmps85
  go_wp2
  go_loopw [1, 5] (fun v1 v5 w' => ∃ m : Nat, m ≤ xs.length ∧ v1 = .int .i64 (a1 + cntL_uint64 (xs.take m)) ∧ v5 = .int .i64 (m : Int) ∧ Aside0 (Sim w w' (fun k => ok k ∧ base ≤ k))) (fun _ v5 _ => xs.length - (intOf v5).toNat)
  case atStart => exact ⟨0, Nat.zero_le _, by simp [cntL_uint64], rfl, ⟨Sim.refl _ _⟩⟩
  case round =>
    obtain ⟨m, hm, rfl, rfl, HS⟩ := hrel
    have hle := cntL_uint64_le xs m
    by_cases hlt : m < xs.length
    · have htk := cntL_uint64_take xs m hlt
      have hle1 := cntL_uint64_le xs (m + 1)
      obtain ⟨g, cap, eg, _, _, gc⟩ := Kd.R_form HR.out (by omega)
      injection eg with ea _ ec
      subst ea
      subst ec
      have GS : ok g ∧ base ≤ g := HR.out.1 g rfl
      have HG := Aside0.mk GS
      clear GS
      have GC := Aside0.mk gc
      clear gc
      obtain ⟨y0, c0⟩ := laws_markUint64S.elem HR.out m hlt
      obtain ⟨X, hX⟩ : ∃ X : Int, X = a1 + cntL_uint64 (xs.take m) := ⟨_, rfl⟩
      rw [← hX]
      have hbb := HB.out
      have hX0 : 0 ≤ X := by omega
      have hX1 : X + 1 ≤ 1000000000000 := by omega
      have C0 := Aside0.mk c0
      clear c0
      have hfin : a1 + cntL_uint64 (xs.take (m + 1)) = X + 1 := by omega
      have FIN := Aside0.mk hfin
      have HX := Aside0.mk hX
      clear hfin hX htk hle hle1 hbb
      obtain ⟨d0, e0⟩ := HS.out.scal_int GC.out C0.out
      have z0 := HS.out.frozen (j := m) GC.out
      go_wp2
      go_roundw
      case measure => simp [intOf]; omega
      case rel => exact ⟨m + 1, by omega, by (first | (rw [FIN.out]; done) | (rw [FIN.out]; go_num)), by go_num, ⟨by repeat (first | exact HS.out | (with_reducible refine Sim.putw ?_ GC.out (by first | exact C0.out) HG.out))⟩⟩
    · have : m = xs.length := by omega
      subst this
      rw [List.take_length]
      go_wp2
      go_ret
      exact ⟨rfl, HS.out⟩
theorem laws_markOperandS.elem {w : World} {base g n cap : Nat} {ok : Nat → Prop} {xs : List S75} (hR : k75.R 75 w base ok (.slice (some ⟨g, 0, none⟩) n cap) xs) (m : Nat) (h1 : m < n) : ∃ (x : S75), x = xs.getD m z75 ∧ w.cell? ⟨g, m * 4, none⟩ = some (.int .i64 x.f0) ∧ w.cell? ⟨g, m * 4 + 1, none⟩ = some (.int .i64 x.f1) ∧ w.cell? ⟨g, m * 4 + 2, none⟩ = some (.int .i64 x.f2) ∧ w.cell? ⟨g, m * 4 + 3, none⟩ = some (.int .u64 x.f3) := by
  obtain ⟨c, hl, hM, hc, _⟩ := Kd.R_elem hR z75 (m : Int) (by omega) (by omega)
  simp only [Int.toNat_natCast] at hM hc
  obtain rfl := k75_openM hM
  exact ⟨_, rfl, hc 0 _ rfl, hc 1 _ rfl, hc 2 _ rfl, hc 3 _ rfl⟩
set_option maxHeartbeats 4000000 in
set_option maxRecDepth 100000 in
theorem laws_markOperandS.sim (v : Value) (xs : List S75) (a1 : Int) (w : World) (base : Nat) (ok : Nat → Prop) (h0 : 0 ≤ a1) (hb : a1 + cntL_Operand xs ≤ 1000000000000) (hR : k75.R 75 w base ok v xs) :
    Calls Try.prog 84 #[v, .int .i64 a1] w fun e w' => e = .returned (.int .i64 (a1 + cntL_Operand xs)) ∧ Sim w w' (fun k => ok k ∧ base ≤ k) := by
  have HR := Aside0.mk (Kd.R_based hR)
  clear hR
  obtain ⟨A, c, rfl⟩ := Kd.R_slice HR.out
  have hl0 : xs.length ≤ 1000000000000 := by have := cntL_Operand_len xs; omega
  have HB := Aside0.mk hb
  clear hb
  go_enter Try.func84, Try.ntmps84
  go_wp2
  go_loopw [1, 5] (fun v1 v5 w' => ∃ m : Nat, m ≤ xs.length ∧ v1 = .int .i64 (a1 + cntL_Operand (xs.take m)) ∧ v5 = .int .i64 (m : Int) ∧ Aside0 (Sim w w' (fun k => ok k ∧ base ≤ k))) (fun _ v5 _ => xs.length - (intOf v5).toNat)
  case atStart => exact ⟨0, Nat.zero_le _, by simp [cntL_Operand], rfl, ⟨Sim.refl _ _⟩⟩
  case round =>
    obtain ⟨m, hm, rfl, rfl, HS⟩ := hrel
    have hle := cntL_Operand_le xs m
    by_cases hlt : m < xs.length
    · have htk := cntL_Operand_take xs m hlt
      have hle1 := cntL_Operand_le xs (m + 1)
      obtain ⟨g, cap, eg, _, _, gc⟩ := Kd.R_form HR.out (by omega)
      injection eg with ea _ ec
      subst ea
      subst ec
      have GS : ok g ∧ base ≤ g := HR.out.1 g rfl
      have HG := Aside0.mk GS
      clear GS
      have GC := Aside0.mk gc
      clear gc
      obtain ⟨x, hx, c0, c1, c2, c3⟩ := laws_markOperandS.elem HR.out m hlt
      rw [← hx] at htk
      have hcx : cnt_Operand x = 4 := rfl
      obtain ⟨X, hX⟩ : ∃ X : Int, X = a1 + cntL_Operand (xs.take m) := ⟨_, rfl⟩
      rw [← hX]
      have hbb := HB.out
      have hX0 : 0 ≤ X := by omega
      have hX1 : X + 4 ≤ 1000000000000 := by omega
      have C0 := Aside0.mk c0
      clear c0
      have C1 := Aside0.mk c1
      clear c1
      have C2 := Aside0.mk c2
      clear c2
      have C3 := Aside0.mk c3
      clear c3
      have hfin : a1 + cntL_Operand (xs.take (m + 1)) = X + 4 := by omega
      have FIN := Aside0.mk hfin
      have HX := Aside0.mk hX
      have HXX := Aside0.mk hx
      clear hx hcx
      clear hfin hX htk hle hle1 hbb
      obtain ⟨d0, e0⟩ := HS.out.scal_int GC.out C0.out
      have z0 := HS.out.frozen (j := m * 4) GC.out
      obtain ⟨d1, e1⟩ := HS.out.scal_int GC.out C1.out
      have z1 := HS.out.frozen (j := m * 4 + 1) GC.out
      obtain ⟨d2, e2⟩ := HS.out.scal_int GC.out C2.out
      have z2 := HS.out.frozen (j := m * 4 + 2) GC.out
      obtain ⟨d3, e3⟩ := HS.out.scal_int GC.out C3.out
      have z3 := HS.out.frozen (j := m * 4 + 3) GC.out
      go_wp2
      go_roundw
      case measure => simp [intOf]; omega
      case rel => exact ⟨m + 1, by omega, by (first | (rw [FIN.out]; done) | (rw [FIN.out]; go_num)), by go_num, ⟨by repeat (first | exact HS.out | (with_reducible refine Sim.putw ?_ GC.out (by first | exact C0.out | exact C1.out | exact C2.out | exact C3.out) HG.out))⟩⟩
    · have : m = xs.length := by omega
      subst this
      rw [List.take_length]
      go_wp2
      go_ret
      exact ⟨rfl, HS.out⟩
theorem laws_markInstrS.elem {w : World} {base g n cap : Nat} {ok : Nat → Prop} {xs : List S66} (hR : k66.R 66 w base ok (.slice (some ⟨g, 0, none⟩) n cap) xs) (m : Nat) (h1 : m < n) : ∃ (x : S66) (v6 : Value) (v7 : Value) (v8 : Value), x = xs.getD m z66 ∧ w.cell? ⟨g, m * 9, none⟩ = some (.int .i64 x.f0) ∧ w.cell? ⟨g, m * 9 + 1, none⟩ = some (.int .i64 x.f1) ∧ w.cell? ⟨g, m * 9 + 2, none⟩ = some (.int .i64 x.f2) ∧ w.cell? ⟨g, m * 9 + 3, none⟩ = some (.int .i64 x.f3) ∧ w.cell? ⟨g, m * 9 + 4, none⟩ = some (.int .i64 x.f4) ∧ w.cell? ⟨g, m * 9 + 5, none⟩ = some (.int .i64 x.f5) ∧ w.cell? ⟨g, m * 9 + 6, none⟩ = some v6 ∧ w.cell? ⟨g, m * 9 + 7, none⟩ = some v7 ∧ w.cell? ⟨g, m * 9 + 8, none⟩ = some v8 ∧ k75.R 75 w base ok v6 x.f6 ∧ (Kd.int .i64).R 2 w base ok v7 x.f7 ∧ (Kd.int .u64).R 73 w base ok v8 x.f8 := by
  obtain ⟨c, hl, hM, hc, _⟩ := Kd.R_elem hR z66 (m : Int) (by omega) (by omega)
  simp only [Int.toNat_natCast] at hM hc
  obtain ⟨v6, v7, v8, rfl, r6, r7, r8⟩ := k66_openM hM
  exact ⟨_, v6, v7, v8, rfl, hc 0 _ rfl, hc 1 _ rfl, hc 2 _ rfl, hc 3 _ rfl, hc 4 _ rfl, hc 5 _ rfl, hc 6 _ rfl, hc 7 _ rfl, hc 8 _ rfl, Kd.R_mono r6 (fun _ hk => hk.1), Kd.R_mono r7 (fun _ hk => hk.1), Kd.R_mono r8 (fun _ hk => hk.1)⟩
set_option maxHeartbeats 4000000 in
set_option maxRecDepth 100000 in
theorem laws_markInstrS.sim (v : Value) (xs : List S66) (a1 : Int) (w : World) (base : Nat) (ok : Nat → Prop) (h0 : 0 ≤ a1) (hb : a1 + cntL_Instr xs ≤ 1000000000000) (hR : k66.R 66 w base ok v xs) :
    Calls Try.prog 72 #[v, .int .i64 a1] w fun e w' => e = .returned (.int .i64 (a1 + cntL_Instr xs)) ∧ Sim w w' (fun k => ok k ∧ base ≤ k) := by
  have HR := Aside0.mk (Kd.R_based hR)
  clear hR
  obtain ⟨A, c, rfl⟩ := Kd.R_slice HR.out
  have hl0 : xs.length ≤ 1000000000000 := by have := cntL_Instr_len xs; omega
  have HB := Aside0.mk hb
  clear hb
  go_enter Try.func72, Try.ntmps72
  go_wp2
  go_loopw [1, 5] (fun v1 v5 w' => ∃ m : Nat, m ≤ xs.length ∧ v1 = .int .i64 (a1 + cntL_Instr (xs.take m)) ∧ v5 = .int .i64 (m : Int) ∧ Aside0 (Sim w w' (fun k => ok k ∧ base ≤ k))) (fun _ v5 _ => xs.length - (intOf v5).toNat)
  case atStart => exact ⟨0, Nat.zero_le _, by simp [cntL_Instr], rfl, ⟨Sim.refl _ _⟩⟩
  case round =>
    obtain ⟨m, hm, rfl, rfl, HS⟩ := hrel
    have hle := cntL_Instr_le xs m
    by_cases hlt : m < xs.length
    · have htk := cntL_Instr_take xs m hlt
      have hle1 := cntL_Instr_le xs (m + 1)
      obtain ⟨g, cap, eg, _, _, gc⟩ := Kd.R_form HR.out (by omega)
      injection eg with ea _ ec
      subst ea
      subst ec
      have GS : ok g ∧ base ≤ g := HR.out.1 g rfl
      have HG := Aside0.mk GS
      clear GS
      have GC := Aside0.mk gc
      clear gc
      obtain ⟨x, v6, v7, v8, hx, c0, c1, c2, c3, c4, c5, c6, c7, c8, r6, r7, r8⟩ := laws_markInstrS.elem HR.out m hlt
      rw [← hx] at htk
      have hcx : cnt_Instr x = 6 + cntL_Operand x.f6 + cntL_int64 x.f7 + cntL_uint64 x.f8 := rfl
      obtain ⟨X, hX⟩ : ∃ X : Int, X = a1 + cntL_Instr (xs.take m) := ⟨_, rfl⟩
      rw [← hX]
      have hbb := HB.out
      have hX0 : 0 ≤ X := by omega
      have hX1 : X + 6 + (cntL_Operand x.f6 : Nat) + (cntL_int64 x.f7 : Nat) + (cntL_uint64 x.f8 : Nat) ≤ 1000000000000 := by omega
      obtain ⟨q6, hq6⟩ : ∃ q : Nat, q = cntL_Operand x.f6 := ⟨_, rfl⟩
      rw [← hq6] at hX1 hcx
      obtain ⟨q7, hq7⟩ : ∃ q : Nat, q = cntL_int64 x.f7 := ⟨_, rfl⟩
      rw [← hq7] at hX1 hcx
      obtain ⟨q8, hq8⟩ : ∃ q : Nat, q = cntL_uint64 x.f8 := ⟨_, rfl⟩
      rw [← hq8] at hX1 hcx
      have R6 := Aside0.mk r6
      clear r6
      have R7 := Aside0.mk r7
      clear r7
      have R8 := Aside0.mk r8
      clear r8
      have C0 := Aside0.mk c0
      clear c0
      have C1 := Aside0.mk c1
      clear c1
      have C2 := Aside0.mk c2
      clear c2
      have C3 := Aside0.mk c3
      clear c3
      have C4 := Aside0.mk c4
      clear c4
      have C5 := Aside0.mk c5
      clear c5
      have C6 := Aside0.mk c6
      clear c6
      have C7 := Aside0.mk c7
      clear c7
      have C8 := Aside0.mk c8
      clear c8
      have hfin : a1 + cntL_Instr (xs.take (m + 1)) = X + 6 + (q6 : Nat) + (q7 : Nat) + (q8 : Nat) := by omega
      have FIN := Aside0.mk hfin
      have HX := Aside0.mk hX
      have HXX := Aside0.mk hx
      clear hx hcx
      have HQ6 := Aside0.mk hq6
      clear hq6
      have HQ7 := Aside0.mk hq7
      clear hq7
      have HQ8 := Aside0.mk hq8
      clear hq8
      clear hfin hX htk hle hle1 hbb
      obtain ⟨d0, e0⟩ := HS.out.scal_int GC.out C0.out
      have z0 := HS.out.frozen (j := m * 9) GC.out
      obtain ⟨d1, e1⟩ := HS.out.scal_int GC.out C1.out
      have z1 := HS.out.frozen (j := m * 9 + 1) GC.out
      obtain ⟨d2, e2⟩ := HS.out.scal_int GC.out C2.out
      have z2 := HS.out.frozen (j := m * 9 + 2) GC.out
      obtain ⟨d3, e3⟩ := HS.out.scal_int GC.out C3.out
      have z3 := HS.out.frozen (j := m * 9 + 3) GC.out
      obtain ⟨d4, e4⟩ := HS.out.scal_int GC.out C4.out
      have z4 := HS.out.frozen (j := m * 9 + 4) GC.out
      obtain ⟨d5, e5⟩ := HS.out.scal_int GC.out C5.out
      have z5 := HS.out.frozen (j := m * 9 + 5) GC.out
      obtain ⟨A6, n6, k6, s6⟩ := Kd.R_slice' R6.out
      have e6 := HS.out.slc GC.out (C6.out.trans (congrArg some s6))
      have S6 := Aside0.mk s6
      clear s6
      go_wp2_with (first | (go_at_call 84; refine calls_at (fun W => Sim w W (fun k => ok k ∧ base ≤ k)) ?hs_6 ?_; (case hs_6 => repeat (first | exact HS.out | (with_reducible refine Sim.putw ?_ GC.out (by first | exact C0.out | exact C0.out | exact C1.out | exact C2.out | exact C3.out | exact C4.out | exact C5.out | exact C6.out | exact C7.out | exact C8.out) HG.out))); intro W6 hs6; obtain ⟨l6, P6, L6⟩ := Shp.R shp_Operand hs6 R6.out; rw [S6.out] at P6; have hl6 := cntL_Operand_same L6; have hq6 := HQ6.out; refine (laws_markOperandS.sim _ l6 _ W6 base _ ?pa_6 ?pb_6 P6).mono ?_; (case pa_6 => omega); (case pb_6 => omega); rintro e w6 ⟨rfl, h6⟩; have HS6 := Aside0.mk (hs6.trans (h6.mono (fun _ hk => ⟨hk.1.1, hk.2⟩))); rw [hl6, ← hq6]; clear hs6 h6 hl6 hq6 P6 L6; obtain ⟨A7, n7, k7, s7⟩ := Kd.R_slice' R7.out; have e7 := HS6.out.slc GC.out (C7.out.trans (congrArg some s7)); have S7 := Aside0.mk s7; clear s7) | (go_at_call 21; refine calls_at (fun W => Sim w W (fun k => ok k ∧ base ≤ k)) ?hs_7 ?_; (case hs_7 => repeat (first | exact HS6.out | (with_reducible refine Sim.putw ?_ GC.out (by first | exact C0.out | exact C0.out | exact C1.out | exact C2.out | exact C3.out | exact C4.out | exact C5.out | exact C6.out | exact C7.out | exact C8.out) HG.out))); intro W7 hs7; obtain ⟨l7, P7, L7⟩ := Shp.R (Shp.int .i64) hs7 R7.out; rw [S7.out] at P7; have hl7 := cntL_int64_same L7; have hq7 := HQ7.out; refine (laws_markInt64S.sim _ l7 _ W7 base _ ?pa_7 ?pb_7 P7).mono ?_; (case pa_7 => omega); (case pb_7 => omega); rintro e w7 ⟨rfl, h7⟩; have HS7 := Aside0.mk (hs7.trans (h7.mono (fun _ hk => ⟨hk.1.1, hk.2⟩))); rw [hl7, ← hq7]; clear hs7 h7 hl7 hq7 P7 L7; obtain ⟨A8, n8, k8, s8⟩ := Kd.R_slice' R8.out; have e8 := HS7.out.slc GC.out (C8.out.trans (congrArg some s8)); have S8 := Aside0.mk s8; clear s8) | (go_at_call 85; refine calls_at (fun W => Sim w W (fun k => ok k ∧ base ≤ k)) ?hs_8 ?_; (case hs_8 => repeat (first | exact HS7.out | (with_reducible refine Sim.putw ?_ GC.out (by first | exact C0.out | exact C0.out | exact C1.out | exact C2.out | exact C3.out | exact C4.out | exact C5.out | exact C6.out | exact C7.out | exact C8.out) HG.out))); intro W8 hs8; obtain ⟨l8, P8, L8⟩ := Shp.R (Shp.int .u64) hs8 R8.out; rw [S8.out] at P8; have hl8 := cntL_uint64_same L8; have hq8 := HQ8.out; refine (laws_markUint64S.sim _ l8 _ W8 base _ ?pa_8 ?pb_8 P8).mono ?_; (case pa_8 => omega); (case pb_8 => omega); rintro e w8 ⟨rfl, h8⟩; have HS8 := Aside0.mk (hs8.trans (h8.mono (fun _ hk => ⟨hk.1.1, hk.2⟩))); rw [hl8, ← hq8]; clear hs8 h8 hl8 hq8 P8 L8))
      go_roundw
      case measure => simp [intOf]; omega
      case rel => exact ⟨m + 1, by omega, by (first | (rw [FIN.out]; done) | (rw [FIN.out]; go_num)), by go_num, ⟨HS8.out⟩⟩
    · have : m = xs.length := by omega
      subst this
      rw [List.take_length]
      go_wp2
      go_ret
      exact ⟨rfl, HS.out⟩
theorem laws_markBlockS.elem {w : World} {base g n cap : Nat} {ok : Nat → Prop} {xs : List S62} (hR : k62.R 62 w base ok (.slice (some ⟨g, 0, none⟩) n cap) xs) (m : Nat) (h1 : m < n) : ∃ (x : S62) (v0 : Value), x = xs.getD m z62 ∧ w.cell? ⟨g, m, none⟩ = some v0 ∧ k66.R 66 w base ok v0 x.f0 := by
  obtain ⟨c, hl, hM, hc, _⟩ := Kd.R_elem hR z62 (m : Int) (by omega) (by omega)
  simp only [Int.toNat_natCast] at hM hc
  obtain ⟨v0, rfl, r0⟩ := k62_openM hM
  exact ⟨_, v0, rfl, by simpa [show k62.sz = 1 from rfl] using hc 0 _ rfl, Kd.R_mono r0 (fun _ hk => hk.1)⟩
set_option maxHeartbeats 4000000 in
set_option maxRecDepth 100000 in
theorem laws_markBlockS.sim (v : Value) (xs : List S62) (a1 : Int) (w : World) (base : Nat) (ok : Nat → Prop) (h0 : 0 ≤ a1) (hb : a1 + cntL_Block xs ≤ 1000000000000) (hl0 : xs.length ≤ 1000000000000) (hR : k62.R 62 w base ok v xs) :
    Calls Try.prog 52 #[v, .int .i64 a1] w fun e w' => e = .returned (.int .i64 (a1 + cntL_Block xs)) ∧ Sim w w' (fun k => ok k ∧ base ≤ k) := by
  have HR := Aside0.mk (Kd.R_based hR)
  clear hR
  obtain ⟨A, c, rfl⟩ := Kd.R_slice HR.out
  have HB := Aside0.mk hb
  clear hb
  go_enter Try.func52, Try.ntmps52
  go_wp2
  go_loopw [1, 5] (fun v1 v5 w' => ∃ m : Nat, m ≤ xs.length ∧ v1 = .int .i64 (a1 + cntL_Block (xs.take m)) ∧ v5 = .int .i64 (m : Int) ∧ Aside0 (Sim w w' (fun k => ok k ∧ base ≤ k))) (fun _ v5 _ => xs.length - (intOf v5).toNat)
  case atStart => exact ⟨0, Nat.zero_le _, by simp [cntL_Block], rfl, ⟨Sim.refl _ _⟩⟩
  case round =>
    obtain ⟨m, hm, rfl, rfl, HS⟩ := hrel
    have hle := cntL_Block_le xs m
    by_cases hlt : m < xs.length
    · have htk := cntL_Block_take xs m hlt
      have hle1 := cntL_Block_le xs (m + 1)
      obtain ⟨g, cap, eg, _, _, gc⟩ := Kd.R_form HR.out (by omega)
      injection eg with ea _ ec
      subst ea
      subst ec
      have GS : ok g ∧ base ≤ g := HR.out.1 g rfl
      have HG := Aside0.mk GS
      clear GS
      have GC := Aside0.mk gc
      clear gc
      obtain ⟨x, v0, hx, c0, r0⟩ := laws_markBlockS.elem HR.out m hlt
      rw [← hx] at htk
      have hcx : cnt_Block x = cntL_Instr x.f0 := rfl
      obtain ⟨X, hX⟩ : ∃ X : Int, X = a1 + cntL_Block (xs.take m) := ⟨_, rfl⟩
      rw [← hX]
      have hbb := HB.out
      have hX0 : 0 ≤ X := by omega
      have hX1 : X + (cntL_Instr x.f0 : Nat) ≤ 1000000000000 := by omega
      obtain ⟨q0, hq0⟩ : ∃ q : Nat, q = cntL_Instr x.f0 := ⟨_, rfl⟩
      rw [← hq0] at hX1 hcx
      have R0 := Aside0.mk r0
      clear r0
      have C0 := Aside0.mk c0
      clear c0
      have hfin : a1 + cntL_Block (xs.take (m + 1)) = X + (q0 : Nat) := by omega
      have FIN := Aside0.mk hfin
      have HX := Aside0.mk hX
      have HXX := Aside0.mk hx
      clear hx hcx
      have HQ0 := Aside0.mk hq0
      clear hq0
      clear hfin hX htk hle hle1 hbb
      obtain ⟨A0, n0, k0, s0⟩ := Kd.R_slice' R0.out
      have e0 := HS.out.slc GC.out (C0.out.trans (congrArg some s0))
      have S0 := Aside0.mk s0
      clear s0
      go_wp2_with (first | (go_at_call 72; refine calls_at (fun W => Sim w W (fun k => ok k ∧ base ≤ k)) ?hs_0 ?_; (case hs_0 => repeat (first | exact HS.out | (with_reducible refine Sim.putw ?_ GC.out (by first | exact C0.out | exact C0.out) HG.out))); intro W0 hs0; obtain ⟨l0, P0, L0⟩ := Shp.R shp_Instr hs0 R0.out; rw [S0.out] at P0; have hl0 := cntL_Instr_same L0; have hq0 := HQ0.out; refine (laws_markInstrS.sim _ l0 _ W0 base _ ?pa_0 ?pb_0 P0).mono ?_; (case pa_0 => omega); (case pb_0 => omega); rintro e w0 ⟨rfl, h0⟩; have HS0 := Aside0.mk (hs0.trans (h0.mono (fun _ hk => ⟨hk.1.1, hk.2⟩))); rw [hl0, ← hq0]; clear hs0 h0 hl0 hq0 P0 L0))
      go_roundw
      case measure => simp [intOf]; omega
      case rel => exact ⟨m + 1, by omega, by (first | (rw [FIN.out]; done) | (rw [FIN.out]; go_num)), by go_num, ⟨HS0.out⟩⟩
    · have : m = xs.length := by omega
      subst this
      rw [List.take_length]
      go_wp2
      go_ret
      exact ⟨rfl, HS.out⟩
end Go.Proofs.Ytoedcnhgobbnfaa.All


namespace Go.Proofs.Ytoedcnhgobbnfaa.All
open Go.RowKit Go.Proofs.YtoedcnhgobbnfaaW.PrintWords Go.Proofs.YtoedcnhgobbnfaaW.PrintLast Go.Proofs.YtoedcnhgobbnfaaW.PrintMore
attribute [local go_sem] max2_int min2_int max_two min_two max_three min_three max_four min_four   -- for this text's walks alone
set_option linter.unusedVariables false
set_option linter.unusedSimpArgs false

/-! ### laws_markFunc: function 20 -/
def laws_markFunc.f (a0_0 : ByteArray) (a0_1 : Int) (l0_2 : List Int) (a0_3 : Int) (l0_4 : List (S62)) (a1 : Int) : Option Int := if 0 ≤ a1 then (if a1 + cntL_int64 l0_2 + cntL_Block l0_4 + l0_4.length ≤ 1000000000000 then some (a1 + cntL_int64 l0_2 + cntL_Block l0_4) else none) else none
set_option maxHeartbeats 4000000 in
set_option maxRecDepth 100000 in
theorem laws_markFunc.calls (a0_0 : ByteArray) (a0_1 : Int) (P0_2_ : Nat → Prop) (u9000_ : Value) (l0_2 : List Int) (a0_3 : Int) (P0_4_ : Nat → Prop) (u9001_ : Value) (l0_4 : List (S62)) (a1 : Int) (r : Int) (w0 w : World) (hB : Below w0.heap.size w0 w) (ho0_2 : Kd.R (Kd.int .i64) 2 w w0.heap.size P0_2_ u9000_ l0_2) (ho0_4 : Kd.R k62 62 w w0.heap.size P0_4_ u9001_ l0_4) (h : laws_markFunc.f a0_0 a0_1 l0_2 a0_3 l0_4 a1 = some r) :
 Calls Try.prog 20 #[.agg #[.string a0_0, .int .i64 a0_1, u9000_, .int .i64 a0_3, u9001_], .int .i64 a1] w fun e w' => e = .returned (.int .i64 r) ∧ Below w0.heap.size w0 w' ∧ Kept w w' (fun k_ => P0_2_ k_ ∨ P0_4_ k_) := by
 unfold laws_markFunc.f at h
 by_cases h0 : 0 ≤ a1
 · rw [if_pos h0] at h
   by_cases h1 : a1 + cntL_int64 l0_2 + cntL_Block l0_4 + l0_4.length ≤ 1000000000000
   · rw [if_pos h1] at h
     obtain rfl := Option.some.inj h
     clear h
     have HB := Aside0.mk hB
     have H2 := Aside0.mk ho0_2
     have H4 := Aside0.mk ho0_4
     have H1 := Aside0.mk h1
     obtain ⟨A2, c2, n2, rfl⟩ := Kd.R_slice' ho0_2
     obtain ⟨A4, c4, n4, rfl⟩ := Kd.R_slice' ho0_4
     clear hB ho0_2 ho0_4 h1
     have hu := Try.underlying30
     go_enter Try.func20, Try.ntmps20
     go_wp2_with (first | (go_at_call 21; refine calls_at (fun W => Below w.heap.size w W ∧ W.heap[w.heap.size]? = some (.cells #[.string a0_0, .int .i64 a0_1, .slice A2 c2 n2, .int .i64 a0_3, .slice A4 c4 n4] 30 (0, 0))) ?hs ?_; (case hs => exact ⟨below_alloc (Below.refl _ _) _, blk_new _ _⟩); rintro W1 ⟨hs1, hk1⟩; have r2 := Kd.R_below (Kd.R_old2 H2.out) hs1; refine (laws_markInt64S.sim _ l0_2 _ W1 w0.heap.size (fun k => P0_2_ k ∧ k < w.heap.size) ?pa ?pb r2).mono ?_; (case pa => exact h0); (case pb => have := H1.out; omega); rintro e w2 ⟨rfl, g1⟩; have hlt := blk_lt hk1; have HS1 := Aside0.mk hs1; have G1 := Aside0.mk g1; have K2 := Aside0.mk ((g1.out w.heap.size hlt (fun hk => absurd hk.1.2 (Nat.lt_irrefl _))).trans hk1); have d4 : w2.cell? ⟨w.heap.size, 4, none⟩ = some (.slice A4 c4 n4) := (blk_cell K2.out 4).trans rfl; clear hs1 g1 hk1 r2 hlt) | (go_at_call 52; obtain ⟨l4, r4, e4⟩ := Shp.R shp_Block G1.out (Kd.R_below H4.out HS1.out); refine (laws_markBlockS.sim _ l4 _ w2 w0.heap.size P0_4_ ?pc ?pd ?pe r4).mono ?_; (case pc => omega); (case pd => have := H1.out; have := cntL_Block_same e4; omega); (case pe => have := H1.out; have := e4.1; omega); rintro e w3 ⟨rfl, g3⟩; have G3 := Aside0.mk g3; have E4 := Aside0.mk (cntL_Block_same e4); clear g3 r4 e4))
     go_ret
     have hb1 : Below w0.heap.size w0 w2 := G1.out.below0 (below_then HB.out HB.out.size HS1.out) (fun k hk => hk.2)
     exact ⟨by rw [E4.out]; rfl, G3.out.below0 hb1 (fun k hk => hk.2), ((Kept.of_below HS1.out _).then_ G1.out.kept (fun k hk => .inl (.inl hk.1.1))).then_ G3.out.kept (fun k hk => .inl (.inr hk.1))⟩
   · rw [if_neg h1] at h; cases h
 · rw [if_neg h0] at h; cases h

end Go.Proofs.Ytoedcnhgobbnfaa.All


namespace Go.Proofs.Ytoedcnhgobbnfaa.All
open Go.RowKit Go.Proofs.YtoedcnhgobbnfaaW.PrintWords Go.Proofs.YtoedcnhgobbnfaaW.PrintLast Go.Proofs.YtoedcnhgobbnfaaW.PrintMore
attribute [local go_sem] max2_int min2_int max_two min_two max_three min_three max_four min_four   -- for this text's walks alone
set_option linter.unusedVariables false
set_option linter.unusedSimpArgs false

/-! ### laws_heldInt64S: function 22 -/
def laws_heldInt64S.l0 : Nat → List Int → Int → Int → Option (Int)
 | 0, _, _, _ => none
 | k + 1, x0, x1, x5 => if x5 < (x0.length : Int) then (if 0 ≤ x5 then (if (rd x0 x5) = x1 then (laws_heldInt64S.l0 k x0 (wrap64 (x1 + 1)) (wrap64 (x5 + 1))) else (some (-1))) else (none)) else (some x1)
def laws_heldInt64S.f (k : Nat) (l0 : List Int) (a1 : Int) : Option (Int) := laws_heldInt64S.l0 k l0 a1 0
set_option maxHeartbeats 8000000 in
set_option maxRecDepth 100000 in
theorem laws_heldInt64S.calls (k : Nat) (A0 : Option Addr) (c0 : Nat) (l0 : List Int) (a1 : Int) (r : Int) (w : World) (hr0 : Kd.C (Kd.int .i64) w A0 l0.length l0) (hc0 : l0.length ≤ c0) (h : laws_heldInt64S.f k l0 a1 = some r) :
 Calls Try.prog 22 #[.slice A0 l0.length c0, .int .i64 a1] w fun e w' => e = .returned (.int .i64 r) ∧ Drawn0 w w' := by
 have HR0 := Aside0.mk hr0
 have HC0 := Aside0.mk hc0
 clear hr0 hc0
 have H : (laws_heldInt64S.l0 k l0 a1 0) = some r := h
 clear h
 have H' := Aside0.mk H
 clear H
 go_enter Try.func22, Try.ntmps22
 go_wp2
 go_loopg [1, 5] k (fun kq v1 v5 w' => ∃ (x1_1 : Int) (x5_1 : Int), v1 = .int .i64 x1_1 ∧ v5 = .int .i64 x5_1 ∧ Aside0 (laws_heldInt64S.l0 kq l0 x1_1 x5_1 = some r) ∧ Aside0 (kq ≤ k) ∧ Drawn0 w w')
 case atStart => exact ⟨(a1), (0), (by first | rfl | (simp; done) | (simp [*]; done)), (by first | rfl | (simp; done) | (simp [*]; done)), H', ⟨Nat.le_refl _⟩, by repeat (first | exact Drawn0.refl _ | apply Drawn0.step)⟩
 case round =>
  clear H'
  try clear c2
  try clear p2
  obtain ⟨x1_1, x5_1, rfl, rfl, HA, HK1, ⟨m1, rfl⟩⟩ := hrel
  cases gk with
  | zero => exact absurd HA.out (by simp [laws_heldInt64S.l0])
  | succ k1 =>
   have H := HA.out
   clear HA
   simp only [laws_heldInt64S.l0] at H
   by_cases c3 : x5_1 < (l0.length : Int)
   · rw [if_pos c3] at H
     have c3b0 : decide (x5_1 < (l0.length : Int)) = true := decide_eq_true c3
     clear c3
     by_cases c4 : 0 ≤ x5_1
     · rw [if_pos c4] at H
       have c4b0 : decide (0 ≤ x5_1) = true := decide_eq_true c4
       clear c4
       by_cases c5 : (rd l0 x5_1) = x1_1
       · rw [if_pos c5] at H
         have c5b0 : ((rd l0 x5_1) == x1_1) = true := beq_iff_eq.mpr c5
         have c5b1 : ((rd l0 x5_1) != x1_1) = false := bne_eq_false_iff_eq.mpr c5
         clear c5
         have H' := Aside0.mk H
         clear H
         have p327 : 0 ≤ (x5_1 : Int) := of_decide_eq_true (by first | (with_reducible assumption) | assumption)
         have q327 : x5_1 < (l0.length : Int) := of_decide_eq_true (by first | (with_reducible assumption) | assumption)
         obtain ⟨ad327, e327, hx327_0⟩ := Kd.at_int HR0.out x5_1 p327 q327
         cases e327
         replace p327 := eq_true p327
         replace q327 := eq_true q327
         go_wp2
         go_roundg k1
         case measure => have := HK1.out; omega
         case rel => exact ⟨(wrap64 (x1_1 + 1)), (wrap64 (x5_1 + 1)), (by first | rfl | (simp; done) | (simp [*]; done)), (by first | rfl | (simp; done) | (simp [*]; done)), H', ⟨by have := HK1.out; omega⟩, by repeat (first | exact Drawn0.refl _ | apply Drawn0.step)⟩
       · rw [if_neg c5] at H
         have c5b0 : ((rd l0 x5_1) == x1_1) = false := beq_eq_false_iff_ne.mpr c5
         have c5b1 : ((rd l0 x5_1) != x1_1) = true := bne_iff_ne.mpr c5
         obtain rfl := Option.some.inj H
         have p327 : 0 ≤ (x5_1 : Int) := of_decide_eq_true (by first | (with_reducible assumption) | assumption)
         have q327 : x5_1 < (l0.length : Int) := of_decide_eq_true (by first | (with_reducible assumption) | assumption)
         obtain ⟨ad327, e327, hx327_0⟩ := Kd.at_int HR0.out x5_1 p327 q327
         cases e327
         replace p327 := eq_true p327
         replace q327 := eq_true q327
         go_wp2
         go_ret
         exact ⟨by first | rfl | (simp; done) | (simp [*]; done), by repeat (first | exact Drawn0.refl _ | apply Drawn0.step)⟩
     · rw [if_neg c4] at H
       exact absurd H (by simp)
   · rw [if_neg c3] at H
     have c3b0 : decide (x5_1 < (l0.length : Int)) = false := decide_eq_false c3
     clear c3
     obtain rfl := Option.some.inj H
     go_wp2
     go_ret
     exact ⟨by first | rfl | (simp; done) | (simp [*]; done), by repeat (first | exact Drawn0.refl _ | apply Drawn0.step)⟩

end Go.Proofs.Ytoedcnhgobbnfaa.All


namespace Go.Proofs.Ytoedcnhgobbnfaa.All
open Go.RowKit Go.Proofs.YtoedcnhgobbnfaaW.PrintWords Go.Proofs.YtoedcnhgobbnfaaW.PrintLast Go.Proofs.YtoedcnhgobbnfaaW.PrintMore
attribute [local go_sem] max2_int min2_int max_two min_two max_three min_three max_four min_four   -- for this text's walks alone
set_option linter.unusedVariables false
set_option linter.unusedSimpArgs false

/-! ### spec_l4Has: function 51 -/
def spec_l4Has.l0 : Nat → List Int → Int → Int → Option (Bool)
 | 0, _, _, _ => none
 | k + 1, x0, x1, x5 => if x5 < (x0.length : Int) then (if 0 ≤ x5 then (if (rd x0 x5) = x1 then (some true) else (spec_l4Has.l0 k x0 x1 (wrap64 (x5 + 1)))) else (none)) else (some false)
def spec_l4Has.f (k : Nat) (l0 : List Int) (a1 : Int) : Option (Bool) := spec_l4Has.l0 k l0 a1 0
set_option maxHeartbeats 8000000 in
set_option maxRecDepth 100000 in
theorem spec_l4Has.calls (k : Nat) (A0 : Option Addr) (c0 : Nat) (l0 : List Int) (a1 : Int) (r : Bool) (w : World) (hr0 : Kd.C (Kd.int .i64) w A0 l0.length l0) (hc0 : l0.length ≤ c0) (h : spec_l4Has.f k l0 a1 = some r) :
 Calls Try.prog 51 #[.slice A0 l0.length c0, .int .i64 a1] w fun e w' => e = .returned (.bool r) ∧ Drawn0 w w' := by
 have HR0 := Aside0.mk hr0
 have HC0 := Aside0.mk hc0
 clear hr0 hc0
 have H : (spec_l4Has.l0 k l0 a1 0) = some r := h
 clear h
 have H' := Aside0.mk H
 clear H
 go_enter Try.func51, Try.ntmps51
 go_wp2
 go_loopg [5] k (fun kq v5 w' => ∃ (x5_1 : Int), v5 = .int .i64 x5_1 ∧ Aside0 (spec_l4Has.l0 kq l0 a1 x5_1 = some r) ∧ Aside0 (kq ≤ k) ∧ Drawn0 w w')
 case atStart => exact ⟨(0), (by first | rfl | (simp; done) | (simp [*]; done)), H', ⟨Nat.le_refl _⟩, by repeat (first | exact Drawn0.refl _ | apply Drawn0.step)⟩
 case round =>
  clear H'
  try clear p2
  obtain ⟨x5_1, rfl, HA, HK1, ⟨m1, rfl⟩⟩ := hrel
  cases gk with
  | zero => exact absurd HA.out (by simp [spec_l4Has.l0])
  | succ k1 =>
   have H := HA.out
   clear HA
   simp only [spec_l4Has.l0] at H
   by_cases c3 : x5_1 < (l0.length : Int)
   · rw [if_pos c3] at H
     have c3b0 : decide (x5_1 < (l0.length : Int)) = true := decide_eq_true c3
     clear c3
     by_cases c4 : 0 ≤ x5_1
     · rw [if_pos c4] at H
       have c4b0 : decide (0 ≤ x5_1) = true := decide_eq_true c4
       clear c4
       by_cases c5 : (rd l0 x5_1) = a1
       · rw [if_pos c5] at H
         have c5b0 : ((rd l0 x5_1) == a1) = true := beq_iff_eq.mpr c5
         have c5b1 : ((rd l0 x5_1) != a1) = false := bne_eq_false_iff_eq.mpr c5
         clear c5
         obtain rfl := Option.some.inj H
         have p114 : 0 ≤ (x5_1 : Int) := of_decide_eq_true (by first | (with_reducible assumption) | assumption)
         have q114 : x5_1 < (l0.length : Int) := of_decide_eq_true (by first | (with_reducible assumption) | assumption)
         obtain ⟨ad114, e114, hx114_0⟩ := Kd.at_int HR0.out x5_1 p114 q114
         cases e114
         replace p114 := eq_true p114
         replace q114 := eq_true q114
         go_wp2
         go_ret
         exact ⟨by first | rfl | (simp; done) | (simp [*]; done), by repeat (first | exact Drawn0.refl _ | apply Drawn0.step)⟩
       · rw [if_neg c5] at H
         have c5b0 : ((rd l0 x5_1) == a1) = false := beq_eq_false_iff_ne.mpr c5
         have c5b1 : ((rd l0 x5_1) != a1) = true := bne_iff_ne.mpr c5
         have H' := Aside0.mk H
         clear H
         have p114 : 0 ≤ (x5_1 : Int) := of_decide_eq_true (by first | (with_reducible assumption) | assumption)
         have q114 : x5_1 < (l0.length : Int) := of_decide_eq_true (by first | (with_reducible assumption) | assumption)
         obtain ⟨ad114, e114, hx114_0⟩ := Kd.at_int HR0.out x5_1 p114 q114
         cases e114
         replace p114 := eq_true p114
         replace q114 := eq_true q114
         go_wp2
         go_roundg k1
         case measure => have := HK1.out; omega
         case rel => exact ⟨(wrap64 (x5_1 + 1)), (by first | rfl | (simp; done) | (simp [*]; done)), H', ⟨by have := HK1.out; omega⟩, by repeat (first | exact Drawn0.refl _ | apply Drawn0.step)⟩
     · rw [if_neg c4] at H
       exact absurd H (by simp)
   · rw [if_neg c3] at H
     have c3b0 : decide (x5_1 < (l0.length : Int)) = false := decide_eq_false c3
     clear c3
     obtain rfl := Option.some.inj H
     go_wp2
     go_ret
     exact ⟨by first | rfl | (simp; done) | (simp [*]; done), by repeat (first | exact Drawn0.refl _ | apply Drawn0.step)⟩

end Go.Proofs.Ytoedcnhgobbnfaa.All


namespace Go.Proofs.Ytoedcnhgobbnfaa.All
open Go.RowKit Go.Proofs.YtoedcnhgobbnfaaW.PrintWords Go.Proofs.YtoedcnhgobbnfaaW.PrintLast Go.Proofs.YtoedcnhgobbnfaaW.PrintMore
attribute [local go_sem] max2_int min2_int max_two min_two max_three min_three max_four min_four   -- for this text's walks alone
set_option linter.unusedVariables false
set_option linter.unusedSimpArgs false

/-! ### spec_NextBlocks: function 17 -/
mutual
def spec_NextBlocks.j0 : Nat → Int → List Int → Bool → ByteArray → Int → List Int → Int → List (S62) → Option (List Int)
 | 0, _, _, _, _, _, _, _, _ => none
 | k + 1, x1, x5, x29, x116000, x116001, x116002, x116003, x116004 => if x29 = true then (some x5) else (if 0 ≤ x1 then (if x1 < (x116004.length : Int) then (if 0 ≤ (wrap64 ((((rd_T62 x116004 x1).f0).length : Int) - 1)) then (if (wrap64 ((((rd_T62 x116004 x1).f0).length : Int) - 1)) < (((rd_T62 x116004 x1).f0).length : Int) then (spec_NextBlocks.l0 k x5 0 x116000 x116001 x116002 x116003 x116004 ((rd_T66 ((rd_T62 x116004 x1).f0) (wrap64 ((((rd_T62 x116004 x1).f0).length : Int) - 1))).f0) ((rd_T66 ((rd_T62 x116004 x1).f0) (wrap64 ((((rd_T62 x116004 x1).f0).length : Int) - 1))).f1) ((rd_T66 ((rd_T62 x116004 x1).f0) (wrap64 ((((rd_T62 x116004 x1).f0).length : Int) - 1))).f2) ((rd_T66 ((rd_T62 x116004 x1).f0) (wrap64 ((((rd_T62 x116004 x1).f0).length : Int) - 1))).f3) ((rd_T66 ((rd_T62 x116004 x1).f0) (wrap64 ((((rd_T62 x116004 x1).f0).length : Int) - 1))).f4) ((rd_T66 ((rd_T62 x116004 x1).f0) (wrap64 ((((rd_T62 x116004 x1).f0).length : Int) - 1))).f5) ((rd_T66 ((rd_T62 x116004 x1).f0) (wrap64 ((((rd_T62 x116004 x1).f0).length : Int) - 1))).f6) ((rd_T66 ((rd_T62 x116004 x1).f0) (wrap64 ((((rd_T62 x116004 x1).f0).length : Int) - 1))).f7) ((rd_T66 ((rd_T62 x116004 x1).f0) (wrap64 ((((rd_T62 x116004 x1).f0).length : Int) - 1))).f8)) else (none)) else (none)) else (none)) else (none))
def spec_NextBlocks.l0 : Nat → List Int → Int → ByteArray → Int → List Int → Int → List (S62) → Int → Int → Int → Int → Int → Int → List (S75) → List Int → List Int → Option (List Int)
 | 0, _, _, _, _, _, _, _, _, _, _, _, _, _, _, _, _ => none
 | k + 1, x5, x8, x116000, x116001, x116002, x116003, x116004, x123000, x123001, x123002, x123003, x123004, x123005, x123006, x123007, x123008 => if x8 < (x123007.length : Int) then (if 0 ≤ x8 then (if (rd x123007 x8) ≥ 0 then (if (rd x123007 x8) < (x116004.length : Int) then ((spec_l4Has.f k x5 (rd x123007 x8)).bind fun t124 => (if t124 = true then (spec_NextBlocks.l0 k x5 (wrap64 (x8 + 1)) x116000 x116001 x116002 x116003 x116004 x123000 x123001 x123002 x123003 x123004 x123005 x123006 x123007 x123008) else (if x5.length < 17592186044416 then (spec_NextBlocks.l0 k (x5 ++ [rd x123007 x8]) (wrap64 (x8 + 1)) x116000 x116001 x116002 x116003 x116004 x123000 x123001 x123002 x123003 x123004 x123005 x123006 x123007 x123008) else (none)))) else (spec_NextBlocks.l0 k x5 (wrap64 (x8 + 1)) x116000 x116001 x116002 x116003 x116004 x123000 x123001 x123002 x123003 x123004 x123005 x123006 x123007 x123008)) else (spec_NextBlocks.l0 k x5 (wrap64 (x8 + 1)) x116000 x116001 x116002 x116003 x116004 x123000 x123001 x123002 x123003 x123004 x123005 x123006 x123007 x123008)) else (none)) else (some x5)
end
def spec_NextBlocks.f (k : Nat) (a0_0 : ByteArray) (a0_1 : Int) (l0_2 : List Int) (a0_3 : Int) (l0_4 : List (S62)) (a1 : Int) : Option (List Int) := (some (([] : List Int) : List Int)).bind fun y116 => (if a1 < 0 then (spec_NextBlocks.j0 k a1 y116 true a0_0 a0_1 l0_2 a0_3 l0_4) else (if a1 ≥ (l0_4.length : Int) then (spec_NextBlocks.j0 k a1 y116 true a0_0 a0_1 l0_2 a0_3 l0_4) else (if 0 ≤ a1 then (if a1 < (l0_4.length : Int) then (spec_NextBlocks.j0 k a1 y116 ((((rd_T62 l0_4 a1).f0).length : Int) == 0) a0_0 a0_1 l0_2 a0_3 l0_4) else (none)) else (none))))
set_option maxHeartbeats 8000000 in
set_option maxRecDepth 100000 in
theorem spec_NextBlocks.calls (k : Nat) (a0_0 : ByteArray) (a0_1 : Int) (A0_2 : Option Addr) (c0_2 : Nat) (l0_2 : List Int) (a0_3 : Int) (A0_4 : Option Addr) (c0_4 : Nat) (l0_4 : List (S62)) (a1 : Int) (r : List Int) (w : World) (hr0_2 : Kd.C (Kd.int .i64) w A0_2 l0_2.length l0_2) (hc0_2 : l0_2.length ≤ c0_2) (hr0_4 : Kd.C k62 w A0_4 l0_4.length l0_4) (hc0_4 : l0_4.length ≤ c0_4) (h : spec_NextBlocks.f k a0_0 a0_1 l0_2 a0_3 l0_4 a1 = some r) :
 Calls Try.prog 17 #[.agg #[.string a0_0, .int .i64 a0_1, .slice A0_2 l0_2.length c0_2, .int .i64 a0_3, .slice A0_4 l0_4.length c0_4], .int .i64 a1] w fun e w' => ∃ v0_ : Value, e = .returned (v0_) ∧ Kd.R (Kd.int .i64) 2 w' w.heap.size (fun _ => True) v0_ r ∧ Below w.heap.size w w' := by
 have hu30 := Try.underlying30
 have hu66 := Try.underlying66
 have HR0_2 := Aside0.mk hr0_2
 have HC0_2 := Aside0.mk hc0_2
 clear hr0_2 hc0_2
 have HR0_4 := Aside0.mk hr0_4
 have HC0_4 := Aside0.mk hc0_4
 clear hr0_4 hc0_4
 have HB := Aside0.mk (Below.refl w.heap.size w)
 have H : ((some (([] : List Int) : List Int)).bind fun y116 => (if a1 < 0 then (spec_NextBlocks.j0 k a1 y116 true a0_0 a0_1 l0_2 a0_3 l0_4) else (if a1 ≥ (l0_4.length : Int) then (spec_NextBlocks.j0 k a1 y116 true a0_0 a0_1 l0_2 a0_3 l0_4) else (if 0 ≤ a1 then (if a1 < (l0_4.length : Int) then (spec_NextBlocks.j0 k a1 y116 ((((rd_T62 l0_4 a1).f0).length : Int) == 0) a0_0 a0_1 l0_2 a0_3 l0_4) else (none)) else (none))))) = some r := h
 clear h
 obtain ⟨y116, hy116⟩ : ∃ y_ : List Int, y_ = (([] : List Int)) := ⟨_, rfl⟩
 replace H : (if a1 < 0 then (spec_NextBlocks.j0 k a1 y116 true a0_0 a0_1 l0_2 a0_3 l0_4) else (if a1 ≥ (l0_4.length : Int) then (spec_NextBlocks.j0 k a1 y116 true a0_0 a0_1 l0_2 a0_3 l0_4) else (if 0 ≤ a1 then (if a1 < (l0_4.length : Int) then (spec_NextBlocks.j0 k a1 y116 ((((rd_T62 l0_4 a1).f0).length : Int) == 0) a0_0 a0_1 l0_2 a0_3 l0_4) else (none)) else (none)))) = some r := by first | (rw [hy116]; with_reducible exact H) | (have H2_ := (Option.bind_some _ _).symm.trans H; rw [hy116]; with_reducible exact H2_) | (have H2_ := (Option.bind_some _ _).symm.trans H; with_reducible exact H2_) | with_reducible exact H | (rw [hy116]; exact H) | exact H
 have Ny116 := Aside0.mk hy116
 clear hy116
 have HC3 := Aside0.mk H
 clear H
 go_enter Try.func17, Try.ntmps17
 go_upto_region 2 with (first | ((with_reducible refine gate_dst (N := 2) rfl ?_); (try (refine gate_guard (by rfl) ?_; dsimp only)); refine box_event ?hg (N := 2) ?hd (cs := #[.string a0_0, .int .i64 a0_1, .slice A0_2 l0_2.length c0_2, .int .i64 a0_3, .slice A0_4 l0_4.length c0_4]) (t := 30) ?hr ?_; (case hd => rfl); (case hg => rfl); (case hr => first | (go_simp; done) | (go_simp; rfl)); intro gb115 hg w4 hbox hb; have n0_ := Aside0.mk (below_step (by repeat (first | (with_reducible first | exact HB.out | apply below_alloc | apply pw_below_drewN | apply below_drew1) | exact HB.out)) hb); have n1_ := Aside0.mk (hbox); have n2_ := Aside0.mk ((by rw [hg]; exact (below_size (by repeat (first | (with_reducible first | exact HB.out | apply below_alloc | apply pw_below_drewN | apply below_drew1) | exact HB.out))) : w.heap.size ≤ gb115)); have n3_ := Aside0.mk ((by rw [hg]; exact (below_size (by repeat (first | (with_reducible first | exact HB.out | apply below_alloc | apply pw_below_drewN | apply below_drew1) | exact HB.out))) : w.heap.size ≤ gb115)); clear HB; have HB := n0_; have BK115 := n1_; have GW115 := n2_; have GE115 := n3_; clear n0_ n1_ n2_ n3_; clear hb hbox hg) | ((with_reducible refine gate_dst (N := 10) rfl ?_); (try (refine gate_guard (by rfl) ?_; dsimp only)); refine Kd.R_lit (Kd.int .i64) _ 2 ?hg (N := 10) ?hd (xs := ([] : List Int)) (inner := []) (ok := fun _ => True) (okp := fun _ => True) ?hr ?hp (fun _ hk => hk) trivial (Below.refl _ _) (Nat.le_refl _) (by simp) ?_; (case hd => rfl); (case hg => rfl); (case hr => first | (go_simp; done) | (go_simp; rfl)); (case hp => exact (Reps.none _ _)); intro v117 w5 ho6 hb hg_ hnew_; clear hg_ hnew_; (first | rw [← Ny116.out] at ho6 | (simp only [Int.reduceToNat] at ho6; rw [← Ny116.out] at ho6)); have n0_ := Aside0.mk (Kd.R_lower ho6 (below_size (by repeat (first | (with_reducible first | exact HB.out | apply below_alloc | apply pw_below_drewN | apply below_drew1 | refine below_set ?_ GE115.out) | exact HB.out)))); have n1_ := Aside0.mk (blk_below (g := gb115) (o := .cells #[.string a0_0, .int .i64 a0_1, .slice A0_2 l0_2.length c0_2, .int .i64 a0_3, .slice A0_4 l0_4.length c0_4] 30 (0, 0)) (by (with_reducible repeat (first | refine blk_drewN ?_ _ | refine blk_drew ?_ | refine blk_alloc ?_ _)); exact BK115.out) hb); have n2_ := Aside0.mk (below_step (by repeat (first | (with_reducible first | exact HB.out | apply below_alloc | apply pw_below_drewN | apply below_drew1 | refine below_set ?_ GE115.out) | exact HB.out)) hb); clear BK115; clear HB; have HO118 := n0_; have BK115 := n1_; have HB := n2_; clear n0_ n1_ n2_; clear hb ho6))
 (try simp only [Act.put, List.setIfInBounds_toArray, List.set_cons_zero, List.set_cons_succ])
 go_cut [29] (fun v29 wc => ∃ (kq : Nat) (x29_2 : Bool), v29 = .bool x29_2 ∧ Aside0 (spec_NextBlocks.j0 kq a1 y116 x29_2 a0_0 a0_1 l0_2 a0_3 l0_4 = some r) ∧ Aside0 (kq ≤ k) ∧ Aside0 (Kd.R (Kd.int .i64) 2 wc w.heap.size (fun _ => True) v117 y116) ∧ Aside0 (wc.heap[gb115]? = some (.cells #[.string a0_0, .int .i64 a0_1, (.slice A0_2 l0_2.length c0_2), .int .i64 a0_3, (.slice A0_4 l0_4.length c0_4)] 30 (0, 0))) ∧ Aside0 (Below w.heap.size w wc))
 case first =>
  have H := HC3.out
  clear HC3
  by_cases c7 : a1 < 0
  · rw [if_pos c7] at H
    have c7b0 : decide (a1 < 0) = true := decide_eq_true c7
    clear c7
    (first | rw [c7b0] | (simp only [i64_w, i32_w]; rw [c7b0]) | skip)
    have H' := Aside0.mk H
    clear H
    go_wp2
    go_meet
    case rel => exact ⟨_, (true), (by first | rfl | (simp; done) | (simp [*]; done)), H', ⟨by first | omega | exact Nat.le_refl _⟩, ⟨by (with_reducible repeat (first | apply Kd.R_alloc | apply Kd.R_drewN | apply Kd.R_drew)); exact HO118.out⟩, ⟨by (with_reducible repeat (first | refine blk_drewN ?_ _ | refine blk_drew ?_ | refine blk_alloc ?_ _)); exact BK115.out⟩, ⟨by repeat (first | (with_reducible first | exact HB.out | apply below_alloc | apply pw_below_drewN | apply below_drew1 | refine below_set ?_ GE115.out) | exact HB.out)⟩⟩
  · rw [if_neg c7] at H
    have c7b0 : decide (a1 < 0) = false := decide_eq_false c7
    clear c7
    (first | rw [c7b0] | (simp only [i64_w, i32_w]; rw [c7b0]) | skip)
    by_cases c8 : a1 ≥ (l0_4.length : Int)
    · rw [if_pos c8] at H
      have c8b0 : decide ((l0_4.length : Int) ≤ a1) = true := decide_eq_true c8
      clear c8
      have H' := Aside0.mk H
      clear H
      have hcz9_0 : w5.cell? ⟨gb115, 0, none⟩ = some (.string a0_0) := (blk_cell BK115.out 0).trans rfl
      have hcz9_1 : w5.cell? ⟨gb115, 1, none⟩ = some (.int .i64 a0_1) := (blk_cell BK115.out 1).trans rfl
      have hcz9_2 : w5.cell? ⟨gb115, 2, none⟩ = some (.slice A0_2 l0_2.length c0_2) := (blk_cell BK115.out 2).trans rfl
      have hcz9_3 : w5.cell? ⟨gb115, 3, none⟩ = some (.int .i64 a0_3) := (blk_cell BK115.out 3).trans rfl
      have hcz9_4 : w5.cell? ⟨gb115, 4, none⟩ = some (.slice A0_4 l0_4.length c0_4) := (blk_cell BK115.out 4).trans rfl
      have hfz9_0 := blk_frozen BK115.out 0
      have hfz9_1 := blk_frozen BK115.out 1
      have hfz9_2 := blk_frozen BK115.out 2
      have hfz9_3 := blk_frozen BK115.out 3
      have hfz9_4 := blk_frozen BK115.out 4
      go_wp2
      go_meet
      case rel => exact ⟨_, (true), (by first | rfl | (simp; done) | (simp [*]; done)), H', ⟨by first | omega | exact Nat.le_refl _⟩, ⟨by (with_reducible repeat (first | apply Kd.R_alloc | apply Kd.R_drewN | apply Kd.R_drew)); exact HO118.out⟩, ⟨by (with_reducible repeat (first | refine blk_drewN ?_ _ | refine blk_drew ?_ | refine blk_alloc ?_ _)); exact BK115.out⟩, ⟨by repeat (first | (with_reducible first | exact HB.out | apply below_alloc | apply pw_below_drewN | apply below_drew1 | refine below_set ?_ GE115.out) | exact HB.out)⟩⟩
    · rw [if_neg c8] at H
      have c8b0 : decide ((l0_4.length : Int) ≤ a1) = false := decide_eq_false c8
      clear c8
      by_cases c10 : 0 ≤ a1
      · rw [if_pos c10] at H
        have c10b0 : decide (0 ≤ a1) = true := decide_eq_true c10
        clear c10
        by_cases c11 : a1 < (l0_4.length : Int)
        · rw [if_pos c11] at H
          have c11b0 : decide (a1 < (l0_4.length : Int)) = true := decide_eq_true c11
          clear c11
          have H' := Aside0.mk H
          clear H
          have hcz12_0 : w5.cell? ⟨gb115, 0, none⟩ = some (.string a0_0) := (blk_cell BK115.out 0).trans rfl
          have hcz12_1 : w5.cell? ⟨gb115, 1, none⟩ = some (.int .i64 a0_1) := (blk_cell BK115.out 1).trans rfl
          have hcz12_2 : w5.cell? ⟨gb115, 2, none⟩ = some (.slice A0_2 l0_2.length c0_2) := (blk_cell BK115.out 2).trans rfl
          have hcz12_3 : w5.cell? ⟨gb115, 3, none⟩ = some (.int .i64 a0_3) := (blk_cell BK115.out 3).trans rfl
          have hcz12_4 : w5.cell? ⟨gb115, 4, none⟩ = some (.slice A0_4 l0_4.length c0_4) := (blk_cell BK115.out 4).trans rfl
          have hfz12_0 := blk_frozen BK115.out 0
          have hfz12_1 := blk_frozen BK115.out 1
          have hfz12_2 := blk_frozen BK115.out 2
          have hfz12_3 := blk_frozen BK115.out 3
          have hfz12_4 := blk_frozen BK115.out 4
          have p119 : 0 ≤ (a1 : Int) := of_decide_eq_true (by first | (with_reducible assumption) | assumption)
          have q119 : a1 < (l0_4.length : Int) := of_decide_eq_true (by first | (with_reducible assumption) | assumption)
          obtain ⟨ad119, A119_0, c119_0, e119, hx119_0, hl119_0, hi119_0⟩ := at_T62 HR0_4.out a1 p119 q119
          cases e119
          replace hx119_0 := (HB.out.cell (World.block_lt_of_cell? w _ hx119_0)).trans hx119_0
          have HR119_0 := Aside0.mk hi119_0
          have HC119_0 := Aside0.mk hl119_0
          clear hi119_0 hl119_0
          replace p119 := eq_true p119
          replace q119 := eq_true q119
          go_wp2
          go_meet
          case rel => exact ⟨_, (((((rd_T62 l0_4 a1).f0).length : Int) == 0)), (by first | rfl | (simp; done) | (simp [*]; done)), H', ⟨by first | omega | exact Nat.le_refl _⟩, ⟨by (with_reducible repeat (first | apply Kd.R_alloc | apply Kd.R_drewN | apply Kd.R_drew)); exact HO118.out⟩, ⟨by (with_reducible repeat (first | refine blk_drewN ?_ _ | refine blk_drew ?_ | refine blk_alloc ?_ _)); exact BK115.out⟩, ⟨by repeat (first | (with_reducible first | exact HB.out | apply below_alloc | apply pw_below_drewN | apply below_drew1 | refine below_set ?_ GE115.out) | exact HB.out)⟩⟩
        · rw [if_neg c11] at H
          exact absurd H (by simp)
      · rw [if_neg c10] at H
        exact absurd H (by simp)
 case rest =>
  clear HC3
  try clear c1
  try clear p1
  try clear q1
  try clear hx1
  try clear p2
  try clear c7
  try clear c7b0
  try clear c8
  try clear c8b0
  try clear c10
  try clear c10b0
  try clear c11
  try clear c11b0
  try clear p11
  try clear q11
  try clear hx11
  try clear hcz12_0
  try clear hcz12_1
  try clear hcz12_2
  try clear hcz12_3
  try clear hcz12_4
  try clear hcz9_0
  try clear hcz9_1
  try clear hcz9_2
  try clear hcz9_3
  try clear hcz9_4
  try clear hfz12_0
  try clear hfz12_1
  try clear hfz12_2
  try clear hfz12_3
  try clear hfz12_4
  try clear hfz9_0
  try clear hfz9_1
  try clear hfz9_2
  try clear hfz9_3
  try clear hfz9_4
  try clear hx119_0
  try clear p119
  try clear q119
  obtain ⟨kq, x29_2, rfl, HA, HJ2, HO_5, BK115, HB⟩ := hcut
  cases kq with
  | zero => exact absurd HA.out (by simp [spec_NextBlocks.j0])
  | succ kj2 =>
   have H := HA.out
   clear HA
   simp only [spec_NextBlocks.j0] at H
   by_cases c13 : x29_2 = true
   · subst c13
     have H1 : (some y116) = some r := by rw [if_pos rfl] at H; exact H
     clear H
     have H := H1
     clear H1
     obtain rfl := Option.some.inj H
     go_wp2
     go_ret
     exact ⟨_, by first | rfl | (simp [errW_none, errW_some] <;> rfl) | (simp [*, errW_none, errW_some] <;> rfl), by (with_reducible repeat (first | apply Kd.R_alloc | apply Kd.R_drewN | apply Kd.R_drew)); exact HO_5.out, by repeat (first | (with_reducible first | exact HB.out | apply below_alloc | apply pw_below_drewN | apply below_drew1 | refine below_set ?_ GE115.out) | exact HB.out)⟩
   · replace c13 := Bool.eq_false_iff.mpr c13
     subst c13
     have H1 : (if 0 ≤ a1 then (if a1 < (l0_4.length : Int) then (if 0 ≤ (wrap64 ((((rd_T62 l0_4 a1).f0).length : Int) - 1)) then (if (wrap64 ((((rd_T62 l0_4 a1).f0).length : Int) - 1)) < (((rd_T62 l0_4 a1).f0).length : Int) then (spec_NextBlocks.l0 kj2 y116 0 a0_0 a0_1 l0_2 a0_3 l0_4 ((rd_T66 ((rd_T62 l0_4 a1).f0) (wrap64 ((((rd_T62 l0_4 a1).f0).length : Int) - 1))).f0) ((rd_T66 ((rd_T62 l0_4 a1).f0) (wrap64 ((((rd_T62 l0_4 a1).f0).length : Int) - 1))).f1) ((rd_T66 ((rd_T62 l0_4 a1).f0) (wrap64 ((((rd_T62 l0_4 a1).f0).length : Int) - 1))).f2) ((rd_T66 ((rd_T62 l0_4 a1).f0) (wrap64 ((((rd_T62 l0_4 a1).f0).length : Int) - 1))).f3) ((rd_T66 ((rd_T62 l0_4 a1).f0) (wrap64 ((((rd_T62 l0_4 a1).f0).length : Int) - 1))).f4) ((rd_T66 ((rd_T62 l0_4 a1).f0) (wrap64 ((((rd_T62 l0_4 a1).f0).length : Int) - 1))).f5) ((rd_T66 ((rd_T62 l0_4 a1).f0) (wrap64 ((((rd_T62 l0_4 a1).f0).length : Int) - 1))).f6) ((rd_T66 ((rd_T62 l0_4 a1).f0) (wrap64 ((((rd_T62 l0_4 a1).f0).length : Int) - 1))).f7) ((rd_T66 ((rd_T62 l0_4 a1).f0) (wrap64 ((((rd_T62 l0_4 a1).f0).length : Int) - 1))).f8)) else (none)) else (none)) else (none)) else (none)) = some r := by rw [if_neg (show ¬ (false = true) by decide)] at H; exact H
     clear H
     have H := H1
     clear H1
     by_cases c14 : 0 ≤ a1
     · rw [if_pos c14] at H
       have c14b0 : decide (0 ≤ a1) = true := decide_eq_true c14
       clear c14
       by_cases c15 : a1 < (l0_4.length : Int)
       · rw [if_pos c15] at H
         have c15b0 : decide (a1 < (l0_4.length : Int)) = true := decide_eq_true c15
         clear c15
         obtain ⟨ji16, hji16⟩ : ∃ j_ : Int, (wrap64 ((((rd_T62 l0_4 a1).f0).length : Int) - 1)) = j_ := ⟨_, rfl⟩
         replace H : (if 0 ≤ (ji16) then (if (ji16) < (((rd_T62 l0_4 a1).f0).length : Int) then (spec_NextBlocks.l0 kj2 y116 0 a0_0 a0_1 l0_2 a0_3 l0_4 ((rd_T66 ((rd_T62 l0_4 a1).f0) (ji16)).f0) ((rd_T66 ((rd_T62 l0_4 a1).f0) (ji16)).f1) ((rd_T66 ((rd_T62 l0_4 a1).f0) (ji16)).f2) ((rd_T66 ((rd_T62 l0_4 a1).f0) (ji16)).f3) ((rd_T66 ((rd_T62 l0_4 a1).f0) (ji16)).f4) ((rd_T66 ((rd_T62 l0_4 a1).f0) (ji16)).f5) ((rd_T66 ((rd_T62 l0_4 a1).f0) (ji16)).f6) ((rd_T66 ((rd_T62 l0_4 a1).f0) (ji16)).f7) ((rd_T66 ((rd_T62 l0_4 a1).f0) (ji16)).f8)) else (none)) else (none)) = some r := by first | (rw [hji16] at H; exact H) | (simp only [hji16] at H ⊢; exact H)
         have hji16w : (IntKind.i64.wrap ((((rd_T62 l0_4 a1).f0).length : Int) - 1)) = ji16 := (i64_w _).trans hji16
         by_cases c17 : 0 ≤ (ji16)
         · rw [if_pos c17] at H
           have c17b0 : decide (0 ≤ (ji16)) = true := decide_eq_true c17
           clear c17
           by_cases c18 : (ji16) < (((rd_T62 l0_4 a1).f0).length : Int)
           · rw [if_pos c18] at H
             have c18b0 : decide ((ji16) < (((rd_T62 l0_4 a1).f0).length : Int)) = true := decide_eq_true c18
             clear c18
             have H' := Aside0.mk H
             clear H
             have hcz19_0 : wc.cell? ⟨gb115, 0, none⟩ = some (.string a0_0) := (blk_cell BK115.out 0).trans rfl
             have hcz19_1 : wc.cell? ⟨gb115, 1, none⟩ = some (.int .i64 a0_1) := (blk_cell BK115.out 1).trans rfl
             have hcz19_2 : wc.cell? ⟨gb115, 2, none⟩ = some (.slice A0_2 l0_2.length c0_2) := (blk_cell BK115.out 2).trans rfl
             have hcz19_3 : wc.cell? ⟨gb115, 3, none⟩ = some (.int .i64 a0_3) := (blk_cell BK115.out 3).trans rfl
             have hcz19_4 : wc.cell? ⟨gb115, 4, none⟩ = some (.slice A0_4 l0_4.length c0_4) := (blk_cell BK115.out 4).trans rfl
             have hfz19_0 := blk_frozen BK115.out 0
             have hfz19_1 := blk_frozen BK115.out 1
             have hfz19_2 := blk_frozen BK115.out 2
             have hfz19_3 := blk_frozen BK115.out 3
             have hfz19_4 := blk_frozen BK115.out 4
             have p120 : 0 ≤ (a1 : Int) := of_decide_eq_true (by first | (with_reducible assumption) | assumption)
             have q120 : a1 < (l0_4.length : Int) := of_decide_eq_true (by first | (with_reducible assumption) | assumption)
             obtain ⟨ad120, A120_0, c120_0, e120, hx120_0, hl120_0, hi120_0⟩ := at_T62 HR0_4.out a1 p120 q120
             cases e120
             replace hx120_0 := (HB.out.cell (World.block_lt_of_cell? w _ hx120_0)).trans hx120_0
             have HR120_0 := Aside0.mk hi120_0
             have HC120_0 := Aside0.mk hl120_0
             clear hi120_0 hl120_0
             replace p120 := eq_true p120
             replace q120 := eq_true q120
             have p121 : 0 ≤ ((ji16) : Int) := of_decide_eq_true (by first | (with_reducible assumption) | assumption)
             have q121 : (ji16) < (((rd_T62 l0_4 a1).f0).length : Int) := of_decide_eq_true (by first | (with_reducible assumption) | assumption)
             obtain ⟨ad121, A121_6, c121_6, A121_7, c121_7, A121_8, c121_8, e121, hx121_0, hx121_1, hx121_2, hx121_3, hx121_4, hx121_5, hx121_6, hx121_7, hx121_8, hl121_6, hi121_6, hl121_7, hi121_7, hl121_8, hi121_8⟩ := at_T66 HR120_0.out (ji16) p121 q121
             cases e121
             replace hx121_0 := (HB.out.cell (World.block_lt_of_cell? w _ hx121_0)).trans hx121_0
             replace hx121_1 := (HB.out.cell (World.block_lt_of_cell? w _ hx121_1)).trans hx121_1
             replace hx121_2 := (HB.out.cell (World.block_lt_of_cell? w _ hx121_2)).trans hx121_2
             replace hx121_3 := (HB.out.cell (World.block_lt_of_cell? w _ hx121_3)).trans hx121_3
             replace hx121_4 := (HB.out.cell (World.block_lt_of_cell? w _ hx121_4)).trans hx121_4
             replace hx121_5 := (HB.out.cell (World.block_lt_of_cell? w _ hx121_5)).trans hx121_5
             replace hx121_6 := (HB.out.cell (World.block_lt_of_cell? w _ hx121_6)).trans hx121_6
             replace hx121_7 := (HB.out.cell (World.block_lt_of_cell? w _ hx121_7)).trans hx121_7
             replace hx121_8 := (HB.out.cell (World.block_lt_of_cell? w _ hx121_8)).trans hx121_8
             have HR121_6 := Aside0.mk hi121_6
             have HC121_6 := Aside0.mk hl121_6
             clear hi121_6 hl121_6
             have HR121_7 := Aside0.mk hi121_7
             have HC121_7 := Aside0.mk hl121_7
             clear hi121_7 hl121_7
             have HR121_8 := Aside0.mk hi121_8
             have HC121_8 := Aside0.mk hl121_8
             clear hi121_8 hl121_8
             replace p121 := eq_true p121
             replace q121 := eq_true q121
             go_wp2_with (first | ((with_reducible refine gate_dst (N := 7) rfl ?_); (try (refine gate_guard (by rfl) ?_; dsimp only)); refine box_event ?hg (N := 7) ?hd (cs := #[.int .i64 0, .int .i64 0, .int .i64 0, .int .i64 0, .int .i64 0, .int .i64 0, .slice none 0 0, .slice none 0 0, .slice none 0 0]) (t := 66) ?hr ?_; (case hd => rfl); (case hg => rfl); (case hr => first | (go_simp; done) | (go_simp; rfl)); intro gb122 hg w20 hbox hb; have n0_ := Aside0.mk (Kd.R_below (by (with_reducible repeat (first | apply Kd.R_alloc | apply Kd.R_drewN | apply Kd.R_drew)); exact HO_5.out) hb); have n1_ := Aside0.mk (blk_below (g := gb115) (o := .cells #[.string a0_0, .int .i64 a0_1, .slice A0_2 l0_2.length c0_2, .int .i64 a0_3, .slice (some ad120) l0_4.length c0_4] 30 (0, 0)) (by (with_reducible repeat (first | refine blk_drewN ?_ _ | refine blk_drew ?_ | refine blk_alloc ?_ _)); exact BK115.out) hb); have n2_ := Aside0.mk (below_step (by repeat (first | (with_reducible first | exact HB.out | apply below_alloc | apply pw_below_drewN | apply below_drew1 | refine below_set ?_ GE115.out) | exact HB.out)) hb); have n3_ := Aside0.mk (hbox); have n4_ := Aside0.mk ((by rw [hg]; exact (below_size (by repeat (first | (with_reducible first | exact HB.out | apply below_alloc | apply pw_below_drewN | apply below_drew1 | refine below_set ?_ GE115.out) | exact HB.out))) : w.heap.size ≤ gb122)); have n5_ := Aside0.mk ((by rw [hg]; exact (below_size (by repeat (first | (with_reducible first | exact HB.out | apply below_alloc | apply pw_below_drewN | apply below_drew1 | refine below_set ?_ GE115.out) | exact HB.out))) : w.heap.size ≤ gb122)); have n6_ := Aside0.mk ((by rw [hg]; exact Nat.ne_of_lt (blk_lt (g := gb115) (o := .cells #[.string a0_0, .int .i64 a0_1, .slice A0_2 l0_2.length c0_2, .int .i64 a0_3, .slice (some ad120) l0_4.length c0_4] 30 (0, 0)) (by (with_reducible repeat (first | refine blk_drewN ?_ _ | refine blk_drew ?_ | refine blk_alloc ?_ _)); exact BK115.out)) : gb115 ≠ gb122)); have n7_ := Aside0.mk ((by rw [hg]; exact Nat.ne_of_gt (blk_lt (g := gb115) (o := .cells #[.string a0_0, .int .i64 a0_1, .slice A0_2 l0_2.length c0_2, .int .i64 a0_3, .slice (some ad120) l0_4.length c0_4] 30 (0, 0)) (by (with_reducible repeat (first | refine blk_drewN ?_ _ | refine blk_drew ?_ | refine blk_alloc ?_ _)); exact BK115.out)) : gb122 ≠ gb115)); clear HO_5; clear BK115; clear HB; have HO_5 := n0_; have BK115 := n1_; have HB := n2_; have BK122 := n3_; have GW122 := n4_; have GE122 := n5_; have NB115_122 := n6_; have NB122_115 := n7_; clear n0_ n1_ n2_ n3_ n4_ n5_ n6_ n7_; clear hb hbox hg; have hnb21 := NB122_115.out; have hnc21 := NB115_122.out; have hcz22_0 : w20.cell? ⟨gb122, 0, none⟩ = some (.int .i64 0) := (blk_cell BK122.out 0).trans rfl; have hcz22_1 : w20.cell? ⟨gb122, 1, none⟩ = some (.int .i64 0) := (blk_cell BK122.out 1).trans rfl; have hcz22_2 : w20.cell? ⟨gb122, 2, none⟩ = some (.int .i64 0) := (blk_cell BK122.out 2).trans rfl; have hcz22_3 : w20.cell? ⟨gb122, 3, none⟩ = some (.int .i64 0) := (blk_cell BK122.out 3).trans rfl; have hcz22_4 : w20.cell? ⟨gb122, 4, none⟩ = some (.int .i64 0) := (blk_cell BK122.out 4).trans rfl; have hcz22_5 : w20.cell? ⟨gb122, 5, none⟩ = some (.int .i64 0) := (blk_cell BK122.out 5).trans rfl; have hcz22_6 : w20.cell? ⟨gb122, 6, none⟩ = some (.slice none 0 0) := (blk_cell BK122.out 6).trans rfl; have hcz22_7 : w20.cell? ⟨gb122, 7, none⟩ = some (.slice none 0 0) := (blk_cell BK122.out 7).trans rfl; have hcz22_8 : w20.cell? ⟨gb122, 8, none⟩ = some (.slice none 0 0) := (blk_cell BK122.out 8).trans rfl; have hfz22_0 := blk_frozen BK122.out 0; have hfz22_1 := blk_frozen BK122.out 1; have hfz22_2 := blk_frozen BK122.out 2; have hfz22_3 := blk_frozen BK122.out 3; have hfz22_4 := blk_frozen BK122.out 4; have hfz22_5 := blk_frozen BK122.out 5; have hfz22_6 := blk_frozen BK122.out 6; have hfz22_7 := blk_frozen BK122.out 7; have hfz22_8 := blk_frozen BK122.out 8))
             go_loopg [5, 8] kj2 (fun kq v5 v8 w' => ∃ (x5_2 : List Int) (x8_2 : Int), v8 = .int .i64 x8_2 ∧ Aside0 (spec_NextBlocks.l0 kq x5_2 x8_2 a0_0 a0_1 l0_2 a0_3 l0_4 ((rd_T66 ((rd_T62 l0_4 a1).f0) (ji16)).f0) ((rd_T66 ((rd_T62 l0_4 a1).f0) (ji16)).f1) ((rd_T66 ((rd_T62 l0_4 a1).f0) (ji16)).f2) ((rd_T66 ((rd_T62 l0_4 a1).f0) (ji16)).f3) ((rd_T66 ((rd_T62 l0_4 a1).f0) (ji16)).f4) ((rd_T66 ((rd_T62 l0_4 a1).f0) (ji16)).f5) ((rd_T66 ((rd_T62 l0_4 a1).f0) (ji16)).f6) ((rd_T66 ((rd_T62 l0_4 a1).f0) (ji16)).f7) ((rd_T66 ((rd_T62 l0_4 a1).f0) (ji16)).f8) = some r) ∧ Aside0 (kq ≤ kj2) ∧ Aside0 (Kd.R (Kd.int .i64) 2 w' w.heap.size (fun _ => True) v5 x5_2) ∧ Aside0 (w'.heap[gb115]? = some (.cells #[.string a0_0, .int .i64 a0_1, (.slice A0_2 l0_2.length c0_2), .int .i64 a0_3, (.slice (some ad120) l0_4.length c0_4)] 30 (0, 0))) ∧ Aside0 (w'.heap[gb122]? = some (.cells #[.int .i64 ((rd_T66 ((rd_T62 l0_4 a1).f0) (ji16)).f0), .int .i64 ((rd_T66 ((rd_T62 l0_4 a1).f0) (ji16)).f1), .int .i64 ((rd_T66 ((rd_T62 l0_4 a1).f0) (ji16)).f2), .int .i64 ((rd_T66 ((rd_T62 l0_4 a1).f0) (ji16)).f3), .int .i64 ((rd_T66 ((rd_T62 l0_4 a1).f0) (ji16)).f4), .int .i64 ((rd_T66 ((rd_T62 l0_4 a1).f0) (ji16)).f5), (.slice A121_6 ((rd_T66 ((rd_T62 l0_4 a1).f0) (ji16)).f6).length c121_6), (.slice A121_7 ((rd_T66 ((rd_T62 l0_4 a1).f0) (ji16)).f7).length c121_7), (.slice A121_8 ((rd_T66 ((rd_T62 l0_4 a1).f0) (ji16)).f8).length c121_8)] 66 (0, 0))) ∧ Aside0 (Below w.heap.size w w'))
             case atStart => exact ⟨(y116), (0), (by first | rfl | (simp; done) | (simp [*]; done)), H', ⟨Nat.le_refl _⟩, ⟨by (with_reducible repeat (first | apply Kd.R_alloc | apply Kd.R_drewN | apply Kd.R_drew)); exact Kd.R_mono (Kd.R_far (p := ⟨gb122, 8, none⟩) (Kd.R_far (p := ⟨gb122, 7, none⟩) (Kd.R_far (p := ⟨gb122, 6, none⟩) (Kd.R_far (p := ⟨gb122, 5, none⟩) (Kd.R_far (p := ⟨gb122, 4, none⟩) (Kd.R_far (p := ⟨gb122, 3, none⟩) (Kd.R_far (p := ⟨gb122, 2, none⟩) (Kd.R_far (p := ⟨gb122, 1, none⟩) (Kd.R_far (p := ⟨gb122, 0, none⟩) (Kd.R_types HO_5.out BK122.out (by decide)) (fun _ hk => hk.2) (.int .i64 ((rd_T66 ((rd_T62 l0_4 a1).f0) (ji16)).f0))) (fun _ hk => hk.2) (.int .i64 ((rd_T66 ((rd_T62 l0_4 a1).f0) (ji16)).f1))) (fun _ hk => hk.2) (.int .i64 ((rd_T66 ((rd_T62 l0_4 a1).f0) (ji16)).f2))) (fun _ hk => hk.2) (.int .i64 ((rd_T66 ((rd_T62 l0_4 a1).f0) (ji16)).f3))) (fun _ hk => hk.2) (.int .i64 ((rd_T66 ((rd_T62 l0_4 a1).f0) (ji16)).f4))) (fun _ hk => hk.2) (.int .i64 ((rd_T66 ((rd_T62 l0_4 a1).f0) (ji16)).f5))) (fun _ hk => hk.2) (.slice A121_6 ((rd_T66 ((rd_T62 l0_4 a1).f0) (ji16)).f6).length c121_6)) (fun _ hk => hk.2) (.slice A121_7 ((rd_T66 ((rd_T62 l0_4 a1).f0) (ji16)).f7).length c121_7)) (fun _ hk => hk.2) (.slice A121_8 ((rd_T66 ((rd_T62 l0_4 a1).f0) (ji16)).f8).length c121_8)) (fun _ hk => trivial)⟩, ⟨by (with_reducible repeat (first | refine blk_drewN ?_ _ | refine blk_drew ?_ | refine blk_alloc ?_ _)); refine blk_far ?_ NB115_122.out _; (with_reducible repeat (first | refine blk_drewN ?_ _ | refine blk_drew ?_ | refine blk_alloc ?_ _)); refine blk_far ?_ NB115_122.out _; (with_reducible repeat (first | refine blk_drewN ?_ _ | refine blk_drew ?_ | refine blk_alloc ?_ _)); refine blk_far ?_ NB115_122.out _; (with_reducible repeat (first | refine blk_drewN ?_ _ | refine blk_drew ?_ | refine blk_alloc ?_ _)); refine blk_far ?_ NB115_122.out _; (with_reducible repeat (first | refine blk_drewN ?_ _ | refine blk_drew ?_ | refine blk_alloc ?_ _)); refine blk_far ?_ NB115_122.out _; (with_reducible repeat (first | refine blk_drewN ?_ _ | refine blk_drew ?_ | refine blk_alloc ?_ _)); refine blk_far ?_ NB115_122.out _; (with_reducible repeat (first | refine blk_drewN ?_ _ | refine blk_drew ?_ | refine blk_alloc ?_ _)); refine blk_far ?_ NB115_122.out _; (with_reducible repeat (first | refine blk_drewN ?_ _ | refine blk_drew ?_ | refine blk_alloc ?_ _)); refine blk_far ?_ NB115_122.out _; (with_reducible repeat (first | refine blk_drewN ?_ _ | refine blk_drew ?_ | refine blk_alloc ?_ _)); refine blk_far ?_ NB115_122.out _; (with_reducible repeat (first | refine blk_drewN ?_ _ | refine blk_drew ?_ | refine blk_alloc ?_ _)); exact BK115.out⟩, ⟨by (with_reducible repeat (first | refine blk_drewN ?_ _ | refine blk_drew ?_ | refine blk_alloc ?_ _)); refine blk_put (cs := #[.int .i64 ((rd_T66 ((rd_T62 l0_4 a1).f0) (ji16)).f0), .int .i64 ((rd_T66 ((rd_T62 l0_4 a1).f0) (ji16)).f1), .int .i64 ((rd_T66 ((rd_T62 l0_4 a1).f0) (ji16)).f2), .int .i64 ((rd_T66 ((rd_T62 l0_4 a1).f0) (ji16)).f3), .int .i64 ((rd_T66 ((rd_T62 l0_4 a1).f0) (ji16)).f4), .int .i64 ((rd_T66 ((rd_T62 l0_4 a1).f0) (ji16)).f5), .slice A121_6 ((rd_T66 ((rd_T62 l0_4 a1).f0) (ji16)).f6).length c121_6, .slice A121_7 ((rd_T66 ((rd_T62 l0_4 a1).f0) (ji16)).f7).length c121_7, .slice none 0 0]) ?_ 8 _ rfl; (with_reducible repeat (first | refine blk_drewN ?_ _ | refine blk_drew ?_ | refine blk_alloc ?_ _)); refine blk_put (cs := #[.int .i64 ((rd_T66 ((rd_T62 l0_4 a1).f0) (ji16)).f0), .int .i64 ((rd_T66 ((rd_T62 l0_4 a1).f0) (ji16)).f1), .int .i64 ((rd_T66 ((rd_T62 l0_4 a1).f0) (ji16)).f2), .int .i64 ((rd_T66 ((rd_T62 l0_4 a1).f0) (ji16)).f3), .int .i64 ((rd_T66 ((rd_T62 l0_4 a1).f0) (ji16)).f4), .int .i64 ((rd_T66 ((rd_T62 l0_4 a1).f0) (ji16)).f5), .slice A121_6 ((rd_T66 ((rd_T62 l0_4 a1).f0) (ji16)).f6).length c121_6, .slice none 0 0, .slice none 0 0]) ?_ 7 _ rfl; (with_reducible repeat (first | refine blk_drewN ?_ _ | refine blk_drew ?_ | refine blk_alloc ?_ _)); refine blk_put (cs := #[.int .i64 ((rd_T66 ((rd_T62 l0_4 a1).f0) (ji16)).f0), .int .i64 ((rd_T66 ((rd_T62 l0_4 a1).f0) (ji16)).f1), .int .i64 ((rd_T66 ((rd_T62 l0_4 a1).f0) (ji16)).f2), .int .i64 ((rd_T66 ((rd_T62 l0_4 a1).f0) (ji16)).f3), .int .i64 ((rd_T66 ((rd_T62 l0_4 a1).f0) (ji16)).f4), .int .i64 ((rd_T66 ((rd_T62 l0_4 a1).f0) (ji16)).f5), .slice none 0 0, .slice none 0 0, .slice none 0 0]) ?_ 6 _ rfl; (with_reducible repeat (first | refine blk_drewN ?_ _ | refine blk_drew ?_ | refine blk_alloc ?_ _)); refine blk_put (cs := #[.int .i64 ((rd_T66 ((rd_T62 l0_4 a1).f0) (ji16)).f0), .int .i64 ((rd_T66 ((rd_T62 l0_4 a1).f0) (ji16)).f1), .int .i64 ((rd_T66 ((rd_T62 l0_4 a1).f0) (ji16)).f2), .int .i64 ((rd_T66 ((rd_T62 l0_4 a1).f0) (ji16)).f3), .int .i64 ((rd_T66 ((rd_T62 l0_4 a1).f0) (ji16)).f4), .int .i64 0, .slice none 0 0, .slice none 0 0, .slice none 0 0]) ?_ 5 _ rfl; (with_reducible repeat (first | refine blk_drewN ?_ _ | refine blk_drew ?_ | refine blk_alloc ?_ _)); refine blk_put (cs := #[.int .i64 ((rd_T66 ((rd_T62 l0_4 a1).f0) (ji16)).f0), .int .i64 ((rd_T66 ((rd_T62 l0_4 a1).f0) (ji16)).f1), .int .i64 ((rd_T66 ((rd_T62 l0_4 a1).f0) (ji16)).f2), .int .i64 ((rd_T66 ((rd_T62 l0_4 a1).f0) (ji16)).f3), .int .i64 0, .int .i64 0, .slice none 0 0, .slice none 0 0, .slice none 0 0]) ?_ 4 _ rfl; (with_reducible repeat (first | refine blk_drewN ?_ _ | refine blk_drew ?_ | refine blk_alloc ?_ _)); refine blk_put (cs := #[.int .i64 ((rd_T66 ((rd_T62 l0_4 a1).f0) (ji16)).f0), .int .i64 ((rd_T66 ((rd_T62 l0_4 a1).f0) (ji16)).f1), .int .i64 ((rd_T66 ((rd_T62 l0_4 a1).f0) (ji16)).f2), .int .i64 0, .int .i64 0, .int .i64 0, .slice none 0 0, .slice none 0 0, .slice none 0 0]) ?_ 3 _ rfl; (with_reducible repeat (first | refine blk_drewN ?_ _ | refine blk_drew ?_ | refine blk_alloc ?_ _)); refine blk_put (cs := #[.int .i64 ((rd_T66 ((rd_T62 l0_4 a1).f0) (ji16)).f0), .int .i64 ((rd_T66 ((rd_T62 l0_4 a1).f0) (ji16)).f1), .int .i64 0, .int .i64 0, .int .i64 0, .int .i64 0, .slice none 0 0, .slice none 0 0, .slice none 0 0]) ?_ 2 _ rfl; (with_reducible repeat (first | refine blk_drewN ?_ _ | refine blk_drew ?_ | refine blk_alloc ?_ _)); refine blk_put (cs := #[.int .i64 ((rd_T66 ((rd_T62 l0_4 a1).f0) (ji16)).f0), .int .i64 0, .int .i64 0, .int .i64 0, .int .i64 0, .int .i64 0, .slice none 0 0, .slice none 0 0, .slice none 0 0]) ?_ 1 _ rfl; (with_reducible repeat (first | refine blk_drewN ?_ _ | refine blk_drew ?_ | refine blk_alloc ?_ _)); refine blk_put (cs := #[.int .i64 0, .int .i64 0, .int .i64 0, .int .i64 0, .int .i64 0, .int .i64 0, .slice none 0 0, .slice none 0 0, .slice none 0 0]) ?_ 0 _ rfl; (with_reducible repeat (first | refine blk_drewN ?_ _ | refine blk_drew ?_ | refine blk_alloc ?_ _)); exact BK122.out⟩, ⟨by repeat (first | (with_reducible first | exact HB.out | apply below_alloc | apply pw_below_drewN | apply below_drew1 | refine below_set ?_ GE115.out | refine below_set ?_ GE122.out) | exact HB.out)⟩⟩
             case round =>
              clear H'
              try clear c1
              try clear p1
              try clear q1
              try clear hx1
              try clear c2
              try clear p2
              try clear p6
              try clear c7
              try clear c7b0
              try clear c8
              try clear c8b0
              try clear c10
              try clear c10b0
              try clear c11
              try clear c11b0
              try clear p11
              try clear q11
              try clear hx11
              try clear c12
              try clear p12
              try clear q12
              try clear hx12
              try clear c13
              try clear c14
              try clear c14b0
              try clear c15
              try clear c15b0
              try clear c17
              try clear c17b0
              try clear c18
              try clear c18b0
              try clear c21
              try clear hcz12_0
              try clear hcz12_1
              try clear hcz12_2
              try clear hcz12_3
              try clear hcz12_4
              try clear hcz19_0
              try clear hcz19_1
              try clear hcz19_2
              try clear hcz19_3
              try clear hcz19_4
              try clear hcz22_0
              try clear hcz22_1
              try clear hcz22_2
              try clear hcz22_3
              try clear hcz22_4
              try clear hcz22_5
              try clear hcz22_6
              try clear hcz22_7
              try clear hcz22_8
              try clear hcz9_0
              try clear hcz9_1
              try clear hcz9_2
              try clear hcz9_3
              try clear hcz9_4
              try clear hfz12_0
              try clear hfz12_1
              try clear hfz12_2
              try clear hfz12_3
              try clear hfz12_4
              try clear hfz19_0
              try clear hfz19_1
              try clear hfz19_2
              try clear hfz19_3
              try clear hfz19_4
              try clear hfz22_0
              try clear hfz22_1
              try clear hfz22_2
              try clear hfz22_3
              try clear hfz22_4
              try clear hfz22_5
              try clear hfz22_6
              try clear hfz22_7
              try clear hfz22_8
              try clear hfz9_0
              try clear hfz9_1
              try clear hfz9_2
              try clear hfz9_3
              try clear hfz9_4
              try clear hx119_0
              try clear hx120_0
              try clear hx121_0
              try clear hx121_1
              try clear hx121_2
              try clear hx121_3
              try clear hx121_4
              try clear hx121_5
              try clear hx121_6
              try clear hx121_7
              try clear hx121_8
              try clear p1
              try clear p11
              try clear p119
              try clear p120
              try clear p121
              try clear p2
              try clear q1
              try clear q11
              try clear q119
              try clear q120
              try clear q121
              obtain ⟨x5_2, x8_2, rfl, HA, HK2, HO_5, BK115, BK122, HB⟩ := hrel
              cases gk with
              | zero => exact absurd HA.out (by simp [spec_NextBlocks.l0])
              | succ k2 =>
               have H := HA.out
               clear HA
               simp only [spec_NextBlocks.l0] at H
               by_cases c23 : x8_2 < (((rd_T66 ((rd_T62 l0_4 a1).f0) (ji16)).f7).length : Int)
               · rw [if_pos c23] at H
                 have c23b0 : decide (x8_2 < (((rd_T66 ((rd_T62 l0_4 a1).f0) (ji16)).f7).length : Int)) = true := decide_eq_true c23
                 clear c23
                 by_cases c24 : 0 ≤ x8_2
                 · rw [if_pos c24] at H
                   have c24b0 : decide (0 ≤ x8_2) = true := decide_eq_true c24
                   clear c24
                   by_cases c25 : (rd ((rd_T66 ((rd_T62 l0_4 a1).f0) (ji16)).f7) x8_2) ≥ 0
                   · rw [if_pos c25] at H
                     have c25b0 : decide (0 ≤ (rd ((rd_T66 ((rd_T62 l0_4 a1).f0) (ji16)).f7) x8_2)) = true := decide_eq_true c25
                     clear c25
                     by_cases c26 : (rd ((rd_T66 ((rd_T62 l0_4 a1).f0) (ji16)).f7) x8_2) < (l0_4.length : Int)
                     · rw [if_pos c26] at H
                       have c26b0 : decide ((rd ((rd_T66 ((rd_T62 l0_4 a1).f0) (ji16)).f7) x8_2) < (l0_4.length : Int)) = true := decide_eq_true c26
                       clear c26
                       replace H := Option.bind_eq_some_iff.mp H
                       obtain ⟨t124, A270, H⟩ := H
                       replace H : (if t124 = true then (spec_NextBlocks.l0 k2 x5_2 (wrap64 (x8_2 + 1)) a0_0 a0_1 l0_2 a0_3 l0_4 ((rd_T66 ((rd_T62 l0_4 a1).f0) (ji16)).f0) ((rd_T66 ((rd_T62 l0_4 a1).f0) (ji16)).f1) ((rd_T66 ((rd_T62 l0_4 a1).f0) (ji16)).f2) ((rd_T66 ((rd_T62 l0_4 a1).f0) (ji16)).f3) ((rd_T66 ((rd_T62 l0_4 a1).f0) (ji16)).f4) ((rd_T66 ((rd_T62 l0_4 a1).f0) (ji16)).f5) ((rd_T66 ((rd_T62 l0_4 a1).f0) (ji16)).f6) ((rd_T66 ((rd_T62 l0_4 a1).f0) (ji16)).f7) ((rd_T66 ((rd_T62 l0_4 a1).f0) (ji16)).f8)) else (if x5_2.length < 17592186044416 then (spec_NextBlocks.l0 k2 (x5_2 ++ [rd ((rd_T66 ((rd_T62 l0_4 a1).f0) (ji16)).f7) x8_2]) (wrap64 (x8_2 + 1)) a0_0 a0_1 l0_2 a0_3 l0_4 ((rd_T66 ((rd_T62 l0_4 a1).f0) (ji16)).f0) ((rd_T66 ((rd_T62 l0_4 a1).f0) (ji16)).f1) ((rd_T66 ((rd_T62 l0_4 a1).f0) (ji16)).f2) ((rd_T66 ((rd_T62 l0_4 a1).f0) (ji16)).f3) ((rd_T66 ((rd_T62 l0_4 a1).f0) (ji16)).f4) ((rd_T66 ((rd_T62 l0_4 a1).f0) (ji16)).f5) ((rd_T66 ((rd_T62 l0_4 a1).f0) (ji16)).f6) ((rd_T66 ((rd_T62 l0_4 a1).f0) (ji16)).f7) ((rd_T66 ((rd_T62 l0_4 a1).f0) (ji16)).f8)) else (none))) = some r := H
                       have A27 := Aside0.mk A270
                       clear A270
                       by_cases c28 : t124 = true
                       · subst c28
                         have H1 : (spec_NextBlocks.l0 k2 x5_2 (wrap64 (x8_2 + 1)) a0_0 a0_1 l0_2 a0_3 l0_4 ((rd_T66 ((rd_T62 l0_4 a1).f0) (ji16)).f0) ((rd_T66 ((rd_T62 l0_4 a1).f0) (ji16)).f1) ((rd_T66 ((rd_T62 l0_4 a1).f0) (ji16)).f2) ((rd_T66 ((rd_T62 l0_4 a1).f0) (ji16)).f3) ((rd_T66 ((rd_T62 l0_4 a1).f0) (ji16)).f4) ((rd_T66 ((rd_T62 l0_4 a1).f0) (ji16)).f5) ((rd_T66 ((rd_T62 l0_4 a1).f0) (ji16)).f6) ((rd_T66 ((rd_T62 l0_4 a1).f0) (ji16)).f7) ((rd_T66 ((rd_T62 l0_4 a1).f0) (ji16)).f8)) = some r := by rw [if_pos rfl] at H; exact H
                         clear H
                         have H := H1
                         clear H1
                         have H' := Aside0.mk H
                         clear H
                         have hnb29 := NB122_115.out
                         have hnc29 := NB115_122.out
                         have hcz30_0 : wr.cell? ⟨gb122, 0, none⟩ = some (.int .i64 ((rd_T66 ((rd_T62 l0_4 a1).f0) (ji16)).f0)) := (blk_cell BK122.out 0).trans rfl
                         have hcz30_1 : wr.cell? ⟨gb122, 1, none⟩ = some (.int .i64 ((rd_T66 ((rd_T62 l0_4 a1).f0) (ji16)).f1)) := (blk_cell BK122.out 1).trans rfl
                         have hcz30_2 : wr.cell? ⟨gb122, 2, none⟩ = some (.int .i64 ((rd_T66 ((rd_T62 l0_4 a1).f0) (ji16)).f2)) := (blk_cell BK122.out 2).trans rfl
                         have hcz30_3 : wr.cell? ⟨gb122, 3, none⟩ = some (.int .i64 ((rd_T66 ((rd_T62 l0_4 a1).f0) (ji16)).f3)) := (blk_cell BK122.out 3).trans rfl
                         have hcz30_4 : wr.cell? ⟨gb122, 4, none⟩ = some (.int .i64 ((rd_T66 ((rd_T62 l0_4 a1).f0) (ji16)).f4)) := (blk_cell BK122.out 4).trans rfl
                         have hcz30_5 : wr.cell? ⟨gb122, 5, none⟩ = some (.int .i64 ((rd_T66 ((rd_T62 l0_4 a1).f0) (ji16)).f5)) := (blk_cell BK122.out 5).trans rfl
                         have hcz30_6 : wr.cell? ⟨gb122, 6, none⟩ = some (.slice A121_6 ((rd_T66 ((rd_T62 l0_4 a1).f0) (ji16)).f6).length c121_6) := (blk_cell BK122.out 6).trans rfl
                         have hcz30_7 : wr.cell? ⟨gb122, 7, none⟩ = some (.slice A121_7 ((rd_T66 ((rd_T62 l0_4 a1).f0) (ji16)).f7).length c121_7) := (blk_cell BK122.out 7).trans rfl
                         have hcz30_8 : wr.cell? ⟨gb122, 8, none⟩ = some (.slice A121_8 ((rd_T66 ((rd_T62 l0_4 a1).f0) (ji16)).f8).length c121_8) := (blk_cell BK122.out 8).trans rfl
                         have hfz30_0 := blk_frozen BK122.out 0
                         have hfz30_1 := blk_frozen BK122.out 1
                         have hfz30_2 := blk_frozen BK122.out 2
                         have hfz30_3 := blk_frozen BK122.out 3
                         have hfz30_4 := blk_frozen BK122.out 4
                         have hfz30_5 := blk_frozen BK122.out 5
                         have hfz30_6 := blk_frozen BK122.out 6
                         have hfz30_7 := blk_frozen BK122.out 7
                         have hfz30_8 := blk_frozen BK122.out 8
                         have p123 : 0 ≤ (x8_2 : Int) := of_decide_eq_true (by first | (with_reducible assumption) | assumption)
                         have q123 : x8_2 < (((rd_T66 ((rd_T62 l0_4 a1).f0) (ji16)).f7).length : Int) := of_decide_eq_true (by first | (with_reducible assumption) | assumption)
                         obtain ⟨ad123, e123, hx123_0⟩ := Kd.at_int HR121_7.out x8_2 p123 q123
                         cases e123
                         replace hx123_0 := (HB.out.cell (World.block_lt_of_cell? w _ hx123_0)).trans hx123_0
                         replace p123 := eq_true p123
                         replace q123 := eq_true q123
                         have hcz31_0 : wr.cell? ⟨gb115, 0, none⟩ = some (.string a0_0) := (blk_cell BK115.out 0).trans rfl
                         have hcz31_1 : wr.cell? ⟨gb115, 1, none⟩ = some (.int .i64 a0_1) := (blk_cell BK115.out 1).trans rfl
                         have hcz31_2 : wr.cell? ⟨gb115, 2, none⟩ = some (.slice A0_2 l0_2.length c0_2) := (blk_cell BK115.out 2).trans rfl
                         have hcz31_3 : wr.cell? ⟨gb115, 3, none⟩ = some (.int .i64 a0_3) := (blk_cell BK115.out 3).trans rfl
                         have hcz31_4 : wr.cell? ⟨gb115, 4, none⟩ = some (.slice (some ad120) l0_4.length c0_4) := (blk_cell BK115.out 4).trans rfl
                         have hfz31_0 := blk_frozen BK115.out 0
                         have hfz31_1 := blk_frozen BK115.out 1
                         have hfz31_2 := blk_frozen BK115.out 2
                         have hfz31_3 := blk_frozen BK115.out 3
                         have hfz31_4 := blk_frozen BK115.out 4
                         obtain ⟨Ao32, co32, eo32⟩ := Kd.R_slice HO_5.out
                         subst eo32
                         go_wp2_with (first | (go_at_call 51; (with_reducible refine (spec_l4Has.calls k2 _ _ x5_2 (rd ((rd_T66 ((rd_T62 l0_4 a1).f0) (ji16)).f7) x8_2) true _ ?side1 ?side2 A27.out).mono ?_); (case side1 => repeat (first | exact (Kd.R_reads' HO_5.out).2.2 | (with_reducible refine Kd.C_alloc ?_ _) | (with_reducible refine Kd.C_drewN ?_ _) | (with_reducible refine Kd.C_drew ?_))); (case side2 => exact (Kd.R_reads' HO_5.out).2.1); rintro e w' ⟨rfl, ⟨nd, rfl⟩⟩))
                         go_roundg k2
                         case measure => have := HJ2.out; have := HK2.out; omega
                         case rel => exact ⟨(x5_2), (wrap64 (x8_2 + 1)), (by first | rfl | (simp; done) | (simp [*]; done)), H', ⟨by have := HJ2.out; have := HK2.out; omega⟩, ⟨by (with_reducible repeat (first | apply Kd.R_alloc | apply Kd.R_drewN | apply Kd.R_drew)); exact HO_5.out⟩, ⟨by (with_reducible repeat (first | refine blk_drewN ?_ _ | refine blk_drew ?_ | refine blk_alloc ?_ _)); exact BK115.out⟩, ⟨by (with_reducible repeat (first | refine blk_drewN ?_ _ | refine blk_drew ?_ | refine blk_alloc ?_ _)); exact BK122.out⟩, ⟨by repeat (first | (with_reducible first | exact HB.out | apply below_alloc | apply pw_below_drewN | apply below_drew1 | refine below_set ?_ GE115.out | refine below_set ?_ GE122.out) | exact HB.out)⟩⟩
                       · replace c28 := Bool.eq_false_iff.mpr c28
                         subst c28
                         have H1 : (if x5_2.length < 17592186044416 then (spec_NextBlocks.l0 k2 (x5_2 ++ [rd ((rd_T66 ((rd_T62 l0_4 a1).f0) (ji16)).f7) x8_2]) (wrap64 (x8_2 + 1)) a0_0 a0_1 l0_2 a0_3 l0_4 ((rd_T66 ((rd_T62 l0_4 a1).f0) (ji16)).f0) ((rd_T66 ((rd_T62 l0_4 a1).f0) (ji16)).f1) ((rd_T66 ((rd_T62 l0_4 a1).f0) (ji16)).f2) ((rd_T66 ((rd_T62 l0_4 a1).f0) (ji16)).f3) ((rd_T66 ((rd_T62 l0_4 a1).f0) (ji16)).f4) ((rd_T66 ((rd_T62 l0_4 a1).f0) (ji16)).f5) ((rd_T66 ((rd_T62 l0_4 a1).f0) (ji16)).f6) ((rd_T66 ((rd_T62 l0_4 a1).f0) (ji16)).f7) ((rd_T66 ((rd_T62 l0_4 a1).f0) (ji16)).f8)) else (none)) = some r := by rw [if_neg (show ¬ (false = true) by decide)] at H; exact H
                         clear H
                         have H := H1
                         clear H1
                         by_cases c33 : x5_2.length < 17592186044416
                         · rw [if_pos c33] at H
                           have LMc33 := Aside0.mk c33
                           clear c33
                           obtain ⟨y125, hy125⟩ : ∃ y_ : List Int, y_ = (x5_2 ++ [rd ((rd_T66 ((rd_T62 l0_4 a1).f0) (ji16)).f7) x8_2]) := ⟨_, rfl⟩
                           replace H : (spec_NextBlocks.l0 k2 y125 (wrap64 (x8_2 + 1)) a0_0 a0_1 l0_2 a0_3 l0_4 ((rd_T66 ((rd_T62 l0_4 a1).f0) (ji16)).f0) ((rd_T66 ((rd_T62 l0_4 a1).f0) (ji16)).f1) ((rd_T66 ((rd_T62 l0_4 a1).f0) (ji16)).f2) ((rd_T66 ((rd_T62 l0_4 a1).f0) (ji16)).f3) ((rd_T66 ((rd_T62 l0_4 a1).f0) (ji16)).f4) ((rd_T66 ((rd_T62 l0_4 a1).f0) (ji16)).f5) ((rd_T66 ((rd_T62 l0_4 a1).f0) (ji16)).f6) ((rd_T66 ((rd_T62 l0_4 a1).f0) (ji16)).f7) ((rd_T66 ((rd_T62 l0_4 a1).f0) (ji16)).f8)) = some r := by first | (rw [hy125]; with_reducible exact H) | (have H2_ := (Option.bind_some _ _).symm.trans H; rw [hy125]; with_reducible exact H2_) | (have H2_ := (Option.bind_some _ _).symm.trans H; with_reducible exact H2_) | with_reducible exact H | (rw [hy125]; exact H) | exact H
                           have Ny125 := Aside0.mk hy125
                           clear hy125
                           have H' := Aside0.mk H
                           clear H
                           have hnb34 := NB122_115.out
                           have hnc34 := NB115_122.out
                           have hcz35_0 : wr.cell? ⟨gb122, 0, none⟩ = some (.int .i64 ((rd_T66 ((rd_T62 l0_4 a1).f0) (ji16)).f0)) := (blk_cell BK122.out 0).trans rfl
                           have hcz35_1 : wr.cell? ⟨gb122, 1, none⟩ = some (.int .i64 ((rd_T66 ((rd_T62 l0_4 a1).f0) (ji16)).f1)) := (blk_cell BK122.out 1).trans rfl
                           have hcz35_2 : wr.cell? ⟨gb122, 2, none⟩ = some (.int .i64 ((rd_T66 ((rd_T62 l0_4 a1).f0) (ji16)).f2)) := (blk_cell BK122.out 2).trans rfl
                           have hcz35_3 : wr.cell? ⟨gb122, 3, none⟩ = some (.int .i64 ((rd_T66 ((rd_T62 l0_4 a1).f0) (ji16)).f3)) := (blk_cell BK122.out 3).trans rfl
                           have hcz35_4 : wr.cell? ⟨gb122, 4, none⟩ = some (.int .i64 ((rd_T66 ((rd_T62 l0_4 a1).f0) (ji16)).f4)) := (blk_cell BK122.out 4).trans rfl
                           have hcz35_5 : wr.cell? ⟨gb122, 5, none⟩ = some (.int .i64 ((rd_T66 ((rd_T62 l0_4 a1).f0) (ji16)).f5)) := (blk_cell BK122.out 5).trans rfl
                           have hcz35_6 : wr.cell? ⟨gb122, 6, none⟩ = some (.slice A121_6 ((rd_T66 ((rd_T62 l0_4 a1).f0) (ji16)).f6).length c121_6) := (blk_cell BK122.out 6).trans rfl
                           have hcz35_7 : wr.cell? ⟨gb122, 7, none⟩ = some (.slice A121_7 ((rd_T66 ((rd_T62 l0_4 a1).f0) (ji16)).f7).length c121_7) := (blk_cell BK122.out 7).trans rfl
                           have hcz35_8 : wr.cell? ⟨gb122, 8, none⟩ = some (.slice A121_8 ((rd_T66 ((rd_T62 l0_4 a1).f0) (ji16)).f8).length c121_8) := (blk_cell BK122.out 8).trans rfl
                           have hfz35_0 := blk_frozen BK122.out 0
                           have hfz35_1 := blk_frozen BK122.out 1
                           have hfz35_2 := blk_frozen BK122.out 2
                           have hfz35_3 := blk_frozen BK122.out 3
                           have hfz35_4 := blk_frozen BK122.out 4
                           have hfz35_5 := blk_frozen BK122.out 5
                           have hfz35_6 := blk_frozen BK122.out 6
                           have hfz35_7 := blk_frozen BK122.out 7
                           have hfz35_8 := blk_frozen BK122.out 8
                           have p123 : 0 ≤ (x8_2 : Int) := of_decide_eq_true (by first | (with_reducible assumption) | assumption)
                           have q123 : x8_2 < (((rd_T66 ((rd_T62 l0_4 a1).f0) (ji16)).f7).length : Int) := of_decide_eq_true (by first | (with_reducible assumption) | assumption)
                           obtain ⟨ad123, e123, hx123_0⟩ := Kd.at_int HR121_7.out x8_2 p123 q123
                           cases e123
                           replace hx123_0 := (HB.out.cell (World.block_lt_of_cell? w _ hx123_0)).trans hx123_0
                           replace p123 := eq_true p123
                           replace q123 := eq_true q123
                           have hcz36_0 : wr.cell? ⟨gb115, 0, none⟩ = some (.string a0_0) := (blk_cell BK115.out 0).trans rfl
                           have hcz36_1 : wr.cell? ⟨gb115, 1, none⟩ = some (.int .i64 a0_1) := (blk_cell BK115.out 1).trans rfl
                           have hcz36_2 : wr.cell? ⟨gb115, 2, none⟩ = some (.slice A0_2 l0_2.length c0_2) := (blk_cell BK115.out 2).trans rfl
                           have hcz36_3 : wr.cell? ⟨gb115, 3, none⟩ = some (.int .i64 a0_3) := (blk_cell BK115.out 3).trans rfl
                           have hcz36_4 : wr.cell? ⟨gb115, 4, none⟩ = some (.slice (some ad120) l0_4.length c0_4) := (blk_cell BK115.out 4).trans rfl
                           have hfz36_0 := blk_frozen BK115.out 0
                           have hfz36_1 := blk_frozen BK115.out 1
                           have hfz36_2 := blk_frozen BK115.out 2
                           have hfz36_3 := blk_frozen BK115.out 3
                           have hfz36_4 := blk_frozen BK115.out 4
                           obtain ⟨Ao37, co37, eo37⟩ := Kd.R_slice HO_5.out
                           subst eo37
                           go_wp2_with (first | (go_at_call 51; (with_reducible refine (spec_l4Has.calls k2 _ _ x5_2 (rd ((rd_T66 ((rd_T62 l0_4 a1).f0) (ji16)).f7) x8_2) false _ ?side1 ?side2 A27.out).mono ?_); (case side1 => repeat (first | exact (Kd.R_reads' HO_5.out).2.2 | (with_reducible refine Kd.C_alloc ?_ _) | (with_reducible refine Kd.C_drewN ?_ _) | (with_reducible refine Kd.C_drew ?_))); (case side2 => exact (Kd.R_reads' HO_5.out).2.1); rintro e w' ⟨rfl, ⟨nd, rfl⟩⟩) | ((with_reducible refine gate_builtin (b := .append) (xs := #[.tmp 70, .tmp 72]) rfl ?_); (try (refine gate_guard (by rfl) ?_; dsimp only)); at_builtin; refine Kd.R_append (Kd.int .i64) (w0 := w) w.heap.size rfl (.tmp 70) (.tmp 72) 22 2 (.int .i64 0) 8 rfl Try.underlying22 info2 rfl (by decide) (by omega) (.slice Ao37 x5_2.length co37) x5_2 (rd ((rd_T66 ((rd_T62 l0_4 a1).f0) (ji16)).f7) x8_2) [.int .i64 (rd ((rd_T66 ((rd_T62 l0_4 a1).f0) (ji16)).f7) x8_2)] (fun _ => True) (fun _ => False) rfl rfl ?aP (fun _ hk => hk.elim) ?aF ?aO ?aB ?aS ?aL ?_; (case aP => exact rfl); (case aB => exact (by repeat (first | (with_reducible first | exact HB.out | apply below_alloc | apply pw_below_drewN | apply below_drew1 | refine below_set ?_ GE115.out | refine below_set ?_ GE122.out) | exact HB.out))); (case aF => exact (fun _ _ => trivial)); (case aO => exact (by (with_reducible repeat (first | apply Kd.R_alloc | apply Kd.R_drewN | apply Kd.R_drew)); exact HO_5.out)); (case aS => exact (below_size (by repeat (first | (with_reducible first | exact HB.out | apply below_alloc | apply pw_below_drewN | apply below_drew1 | refine below_set ?_ GE115.out | refine below_set ?_ GE122.out) | exact HB.out)))); (case aL => have := LMc33.out; omega); intro v126 w38 ho hb hg hat; rw [← Ny125.out] at ho; have n0_ := Aside0.mk (blk_grown (g := gb115) (o := .cells #[.string a0_0, .int .i64 a0_1, .slice A0_2 l0_2.length c0_2, .int .i64 a0_3, .slice (some ad120) l0_4.length c0_4] 30 (0, 0)) (by (with_reducible repeat (first | refine blk_drewN ?_ _ | refine blk_drew ?_ | refine blk_alloc ?_ _)); exact BK115.out) hg (Kd.R_ne HO_5.out BK115.out (by decide))); have n1_ := Aside0.mk (blk_grown (g := gb122) (o := .cells #[.int .i64 ((rd_T66 ((rd_T62 l0_4 a1).f0) (ji16)).f0), .int .i64 ((rd_T66 ((rd_T62 l0_4 a1).f0) (ji16)).f1), .int .i64 ((rd_T66 ((rd_T62 l0_4 a1).f0) (ji16)).f2), .int .i64 ((rd_T66 ((rd_T62 l0_4 a1).f0) (ji16)).f3), .int .i64 ((rd_T66 ((rd_T62 l0_4 a1).f0) (ji16)).f4), .int .i64 ((rd_T66 ((rd_T62 l0_4 a1).f0) (ji16)).f5), .slice A121_6 ((rd_T66 ((rd_T62 l0_4 a1).f0) (ji16)).f6).length c121_6, .slice (some ad123) ((rd_T66 ((rd_T62 l0_4 a1).f0) (ji16)).f7).length c121_7, .slice A121_8 ((rd_T66 ((rd_T62 l0_4 a1).f0) (ji16)).f8).length c121_8] 66 (0, 0)) (by (with_reducible repeat (first | refine blk_drewN ?_ _ | refine blk_drew ?_ | refine blk_alloc ?_ _)); exact BK122.out) hg (Kd.R_ne HO_5.out BK122.out (by decide))); have n2_ := Aside0.mk (hb); have n3_ := Aside0.mk (ho); clear BK115; clear BK122; clear HB; clear HO_5; have BK115 := n0_; have BK122 := n1_; have HB := n2_; have HO127 := n3_; clear n0_ n1_ n2_ n3_; clear ho hb hg hat))
                           go_roundg k2
                           case measure => have := HJ2.out; have := HK2.out; omega
                           case rel => exact ⟨(y125), (wrap64 (x8_2 + 1)), (by first | rfl | (simp; done) | (simp [*]; done)), H', ⟨by have := HJ2.out; have := HK2.out; omega⟩, ⟨by (with_reducible repeat (first | apply Kd.R_alloc | apply Kd.R_drewN | apply Kd.R_drew)); exact HO127.out⟩, ⟨by (with_reducible repeat (first | refine blk_drewN ?_ _ | refine blk_drew ?_ | refine blk_alloc ?_ _)); exact BK115.out⟩, ⟨by (with_reducible repeat (first | refine blk_drewN ?_ _ | refine blk_drew ?_ | refine blk_alloc ?_ _)); exact BK122.out⟩, ⟨by repeat (first | (with_reducible first | exact HB.out | apply below_alloc | apply pw_below_drewN | apply below_drew1 | refine below_set ?_ GE115.out | refine below_set ?_ GE122.out) | exact HB.out)⟩⟩
                         · rw [if_neg c33] at H
                           exact absurd H (by simp)
                     · rw [if_neg c26] at H
                       have c26b0 : decide ((rd ((rd_T66 ((rd_T62 l0_4 a1).f0) (ji16)).f7) x8_2) < (l0_4.length : Int)) = false := decide_eq_false c26
                       clear c26
                       have H' := Aside0.mk H
                       clear H
                       have hnb39 := NB122_115.out
                       have hnc39 := NB115_122.out
                       have hcz40_0 : wr.cell? ⟨gb122, 0, none⟩ = some (.int .i64 ((rd_T66 ((rd_T62 l0_4 a1).f0) (ji16)).f0)) := (blk_cell BK122.out 0).trans rfl
                       have hcz40_1 : wr.cell? ⟨gb122, 1, none⟩ = some (.int .i64 ((rd_T66 ((rd_T62 l0_4 a1).f0) (ji16)).f1)) := (blk_cell BK122.out 1).trans rfl
                       have hcz40_2 : wr.cell? ⟨gb122, 2, none⟩ = some (.int .i64 ((rd_T66 ((rd_T62 l0_4 a1).f0) (ji16)).f2)) := (blk_cell BK122.out 2).trans rfl
                       have hcz40_3 : wr.cell? ⟨gb122, 3, none⟩ = some (.int .i64 ((rd_T66 ((rd_T62 l0_4 a1).f0) (ji16)).f3)) := (blk_cell BK122.out 3).trans rfl
                       have hcz40_4 : wr.cell? ⟨gb122, 4, none⟩ = some (.int .i64 ((rd_T66 ((rd_T62 l0_4 a1).f0) (ji16)).f4)) := (blk_cell BK122.out 4).trans rfl
                       have hcz40_5 : wr.cell? ⟨gb122, 5, none⟩ = some (.int .i64 ((rd_T66 ((rd_T62 l0_4 a1).f0) (ji16)).f5)) := (blk_cell BK122.out 5).trans rfl
                       have hcz40_6 : wr.cell? ⟨gb122, 6, none⟩ = some (.slice A121_6 ((rd_T66 ((rd_T62 l0_4 a1).f0) (ji16)).f6).length c121_6) := (blk_cell BK122.out 6).trans rfl
                       have hcz40_7 : wr.cell? ⟨gb122, 7, none⟩ = some (.slice A121_7 ((rd_T66 ((rd_T62 l0_4 a1).f0) (ji16)).f7).length c121_7) := (blk_cell BK122.out 7).trans rfl
                       have hcz40_8 : wr.cell? ⟨gb122, 8, none⟩ = some (.slice A121_8 ((rd_T66 ((rd_T62 l0_4 a1).f0) (ji16)).f8).length c121_8) := (blk_cell BK122.out 8).trans rfl
                       have hfz40_0 := blk_frozen BK122.out 0
                       have hfz40_1 := blk_frozen BK122.out 1
                       have hfz40_2 := blk_frozen BK122.out 2
                       have hfz40_3 := blk_frozen BK122.out 3
                       have hfz40_4 := blk_frozen BK122.out 4
                       have hfz40_5 := blk_frozen BK122.out 5
                       have hfz40_6 := blk_frozen BK122.out 6
                       have hfz40_7 := blk_frozen BK122.out 7
                       have hfz40_8 := blk_frozen BK122.out 8
                       have p123 : 0 ≤ (x8_2 : Int) := of_decide_eq_true (by first | (with_reducible assumption) | assumption)
                       have q123 : x8_2 < (((rd_T66 ((rd_T62 l0_4 a1).f0) (ji16)).f7).length : Int) := of_decide_eq_true (by first | (with_reducible assumption) | assumption)
                       obtain ⟨ad123, e123, hx123_0⟩ := Kd.at_int HR121_7.out x8_2 p123 q123
                       cases e123
                       replace hx123_0 := (HB.out.cell (World.block_lt_of_cell? w _ hx123_0)).trans hx123_0
                       replace p123 := eq_true p123
                       replace q123 := eq_true q123
                       have hcz41_0 : wr.cell? ⟨gb115, 0, none⟩ = some (.string a0_0) := (blk_cell BK115.out 0).trans rfl
                       have hcz41_1 : wr.cell? ⟨gb115, 1, none⟩ = some (.int .i64 a0_1) := (blk_cell BK115.out 1).trans rfl
                       have hcz41_2 : wr.cell? ⟨gb115, 2, none⟩ = some (.slice A0_2 l0_2.length c0_2) := (blk_cell BK115.out 2).trans rfl
                       have hcz41_3 : wr.cell? ⟨gb115, 3, none⟩ = some (.int .i64 a0_3) := (blk_cell BK115.out 3).trans rfl
                       have hcz41_4 : wr.cell? ⟨gb115, 4, none⟩ = some (.slice (some ad120) l0_4.length c0_4) := (blk_cell BK115.out 4).trans rfl
                       have hfz41_0 := blk_frozen BK115.out 0
                       have hfz41_1 := blk_frozen BK115.out 1
                       have hfz41_2 := blk_frozen BK115.out 2
                       have hfz41_3 := blk_frozen BK115.out 3
                       have hfz41_4 := blk_frozen BK115.out 4
                       go_wp2
                       go_roundg k2
                       case measure => have := HJ2.out; have := HK2.out; omega
                       case rel => exact ⟨(x5_2), (wrap64 (x8_2 + 1)), (by first | rfl | (simp; done) | (simp [*]; done)), H', ⟨by have := HJ2.out; have := HK2.out; omega⟩, ⟨by (with_reducible repeat (first | apply Kd.R_alloc | apply Kd.R_drewN | apply Kd.R_drew)); exact HO_5.out⟩, ⟨by (with_reducible repeat (first | refine blk_drewN ?_ _ | refine blk_drew ?_ | refine blk_alloc ?_ _)); exact BK115.out⟩, ⟨by (with_reducible repeat (first | refine blk_drewN ?_ _ | refine blk_drew ?_ | refine blk_alloc ?_ _)); exact BK122.out⟩, ⟨by repeat (first | (with_reducible first | exact HB.out | apply below_alloc | apply pw_below_drewN | apply below_drew1 | refine below_set ?_ GE115.out | refine below_set ?_ GE122.out) | exact HB.out)⟩⟩
                   · rw [if_neg c25] at H
                     have c25b0 : decide (0 ≤ (rd ((rd_T66 ((rd_T62 l0_4 a1).f0) (ji16)).f7) x8_2)) = false := decide_eq_false c25
                     clear c25
                     have H' := Aside0.mk H
                     clear H
                     have hnb42 := NB122_115.out
                     have hnc42 := NB115_122.out
                     have hcz43_0 : wr.cell? ⟨gb122, 0, none⟩ = some (.int .i64 ((rd_T66 ((rd_T62 l0_4 a1).f0) (ji16)).f0)) := (blk_cell BK122.out 0).trans rfl
                     have hcz43_1 : wr.cell? ⟨gb122, 1, none⟩ = some (.int .i64 ((rd_T66 ((rd_T62 l0_4 a1).f0) (ji16)).f1)) := (blk_cell BK122.out 1).trans rfl
                     have hcz43_2 : wr.cell? ⟨gb122, 2, none⟩ = some (.int .i64 ((rd_T66 ((rd_T62 l0_4 a1).f0) (ji16)).f2)) := (blk_cell BK122.out 2).trans rfl
                     have hcz43_3 : wr.cell? ⟨gb122, 3, none⟩ = some (.int .i64 ((rd_T66 ((rd_T62 l0_4 a1).f0) (ji16)).f3)) := (blk_cell BK122.out 3).trans rfl
                     have hcz43_4 : wr.cell? ⟨gb122, 4, none⟩ = some (.int .i64 ((rd_T66 ((rd_T62 l0_4 a1).f0) (ji16)).f4)) := (blk_cell BK122.out 4).trans rfl
                     have hcz43_5 : wr.cell? ⟨gb122, 5, none⟩ = some (.int .i64 ((rd_T66 ((rd_T62 l0_4 a1).f0) (ji16)).f5)) := (blk_cell BK122.out 5).trans rfl
                     have hcz43_6 : wr.cell? ⟨gb122, 6, none⟩ = some (.slice A121_6 ((rd_T66 ((rd_T62 l0_4 a1).f0) (ji16)).f6).length c121_6) := (blk_cell BK122.out 6).trans rfl
                     have hcz43_7 : wr.cell? ⟨gb122, 7, none⟩ = some (.slice A121_7 ((rd_T66 ((rd_T62 l0_4 a1).f0) (ji16)).f7).length c121_7) := (blk_cell BK122.out 7).trans rfl
                     have hcz43_8 : wr.cell? ⟨gb122, 8, none⟩ = some (.slice A121_8 ((rd_T66 ((rd_T62 l0_4 a1).f0) (ji16)).f8).length c121_8) := (blk_cell BK122.out 8).trans rfl
                     have hfz43_0 := blk_frozen BK122.out 0
                     have hfz43_1 := blk_frozen BK122.out 1
                     have hfz43_2 := blk_frozen BK122.out 2
                     have hfz43_3 := blk_frozen BK122.out 3
                     have hfz43_4 := blk_frozen BK122.out 4
                     have hfz43_5 := blk_frozen BK122.out 5
                     have hfz43_6 := blk_frozen BK122.out 6
                     have hfz43_7 := blk_frozen BK122.out 7
                     have hfz43_8 := blk_frozen BK122.out 8
                     have p123 : 0 ≤ (x8_2 : Int) := of_decide_eq_true (by first | (with_reducible assumption) | assumption)
                     have q123 : x8_2 < (((rd_T66 ((rd_T62 l0_4 a1).f0) (ji16)).f7).length : Int) := of_decide_eq_true (by first | (with_reducible assumption) | assumption)
                     obtain ⟨ad123, e123, hx123_0⟩ := Kd.at_int HR121_7.out x8_2 p123 q123
                     cases e123
                     replace hx123_0 := (HB.out.cell (World.block_lt_of_cell? w _ hx123_0)).trans hx123_0
                     replace p123 := eq_true p123
                     replace q123 := eq_true q123
                     go_wp2
                     go_roundg k2
                     case measure => have := HJ2.out; have := HK2.out; omega
                     case rel => exact ⟨(x5_2), (wrap64 (x8_2 + 1)), (by first | rfl | (simp; done) | (simp [*]; done)), H', ⟨by have := HJ2.out; have := HK2.out; omega⟩, ⟨by (with_reducible repeat (first | apply Kd.R_alloc | apply Kd.R_drewN | apply Kd.R_drew)); exact HO_5.out⟩, ⟨by (with_reducible repeat (first | refine blk_drewN ?_ _ | refine blk_drew ?_ | refine blk_alloc ?_ _)); exact BK115.out⟩, ⟨by (with_reducible repeat (first | refine blk_drewN ?_ _ | refine blk_drew ?_ | refine blk_alloc ?_ _)); exact BK122.out⟩, ⟨by repeat (first | (with_reducible first | exact HB.out | apply below_alloc | apply pw_below_drewN | apply below_drew1 | refine below_set ?_ GE115.out | refine below_set ?_ GE122.out) | exact HB.out)⟩⟩
                 · rw [if_neg c24] at H
                   exact absurd H (by simp)
               · rw [if_neg c23] at H
                 have c23b0 : decide (x8_2 < (((rd_T66 ((rd_T62 l0_4 a1).f0) (ji16)).f7).length : Int)) = false := decide_eq_false c23
                 clear c23
                 obtain rfl := Option.some.inj H
                 have hnb44 := NB122_115.out
                 have hnc44 := NB115_122.out
                 have hcz45_0 : wr.cell? ⟨gb122, 0, none⟩ = some (.int .i64 ((rd_T66 ((rd_T62 l0_4 a1).f0) (ji16)).f0)) := (blk_cell BK122.out 0).trans rfl
                 have hcz45_1 : wr.cell? ⟨gb122, 1, none⟩ = some (.int .i64 ((rd_T66 ((rd_T62 l0_4 a1).f0) (ji16)).f1)) := (blk_cell BK122.out 1).trans rfl
                 have hcz45_2 : wr.cell? ⟨gb122, 2, none⟩ = some (.int .i64 ((rd_T66 ((rd_T62 l0_4 a1).f0) (ji16)).f2)) := (blk_cell BK122.out 2).trans rfl
                 have hcz45_3 : wr.cell? ⟨gb122, 3, none⟩ = some (.int .i64 ((rd_T66 ((rd_T62 l0_4 a1).f0) (ji16)).f3)) := (blk_cell BK122.out 3).trans rfl
                 have hcz45_4 : wr.cell? ⟨gb122, 4, none⟩ = some (.int .i64 ((rd_T66 ((rd_T62 l0_4 a1).f0) (ji16)).f4)) := (blk_cell BK122.out 4).trans rfl
                 have hcz45_5 : wr.cell? ⟨gb122, 5, none⟩ = some (.int .i64 ((rd_T66 ((rd_T62 l0_4 a1).f0) (ji16)).f5)) := (blk_cell BK122.out 5).trans rfl
                 have hcz45_6 : wr.cell? ⟨gb122, 6, none⟩ = some (.slice A121_6 ((rd_T66 ((rd_T62 l0_4 a1).f0) (ji16)).f6).length c121_6) := (blk_cell BK122.out 6).trans rfl
                 have hcz45_7 : wr.cell? ⟨gb122, 7, none⟩ = some (.slice A121_7 ((rd_T66 ((rd_T62 l0_4 a1).f0) (ji16)).f7).length c121_7) := (blk_cell BK122.out 7).trans rfl
                 have hcz45_8 : wr.cell? ⟨gb122, 8, none⟩ = some (.slice A121_8 ((rd_T66 ((rd_T62 l0_4 a1).f0) (ji16)).f8).length c121_8) := (blk_cell BK122.out 8).trans rfl
                 have hfz45_0 := blk_frozen BK122.out 0
                 have hfz45_1 := blk_frozen BK122.out 1
                 have hfz45_2 := blk_frozen BK122.out 2
                 have hfz45_3 := blk_frozen BK122.out 3
                 have hfz45_4 := blk_frozen BK122.out 4
                 have hfz45_5 := blk_frozen BK122.out 5
                 have hfz45_6 := blk_frozen BK122.out 6
                 have hfz45_7 := blk_frozen BK122.out 7
                 have hfz45_8 := blk_frozen BK122.out 8
                 go_wp2
                 go_ret
                 exact ⟨_, by first | rfl | (simp [errW_none, errW_some] <;> rfl) | (simp only [← hji16]; first | rfl | (simp [errW_none, errW_some] <;> rfl)) | (simp [*, errW_none, errW_some] <;> rfl), by (with_reducible repeat (first | apply Kd.R_alloc | apply Kd.R_drewN | apply Kd.R_drew)); exact HO_5.out, by repeat (first | (with_reducible first | exact HB.out | apply below_alloc | apply pw_below_drewN | apply below_drew1 | refine below_set ?_ GE115.out | refine below_set ?_ GE122.out) | exact HB.out)⟩
           · rw [if_neg c18] at H
             exact absurd H (by simp)
         · rw [if_neg c17] at H
           exact absurd H (by simp)
       · rw [if_neg c15] at H
         exact absurd H (by simp)
     · rw [if_neg c14] at H
       exact absurd H (by simp)

end Go.Proofs.Ytoedcnhgobbnfaa.All


/- A graph's rows of rows: where each block goes and whence it is come to, worked out once. -/
namespace Go.Proofs.Ytoedcnhgobbnfaa.All
open Go.RowKit Go.Proofs.YtoedcnhgobbnfaaW.PrintWords Go.Proofs.YtoedcnhgobbnfaaW.PrintLast Go.Proofs.YtoedcnhgobbnfaaW.PrintMore
set_option linter.unusedVariables false
set_option linter.unusedSimpArgs false
/-- b is put behind the rows that ts names. -/
def pushB (prev : List (List Int)) (b : Int) (ts : List Int) : List (List Int) := ts.foldl (fun p t => p.set t.toNat (p.getD t.toNat [] ++ [b])) prev
def prevUp (rows : List (List Int)) : Nat → List (List Int)
  | 0 => List.replicate rows.length []
  | m + 1 => pushB (prevUp rows m) (m : Int) (rows.getD m [])
def rowsOf (F : Int → Option (List Int)) : Nat → Option (List (List Int))
  | 0 => some []
  | m + 1 => (rowsOf F m).bind fun rs => (F (m : Int)).bind fun r => some (rs ++ [r])
def okRows (n : Nat) (rs : List (List Int)) : Bool := rs.all (fun r => decide (r.length ≤ 2000000) && r.all (fun t => decide (0 ≤ t ∧ t < (n : Int))))
theorem rowsOf_at {F : Int → Option (List Int)} : ∀ {n : Nat} {rs : List (List Int)}, rowsOf F n = some rs → ∀ m, m < n → ∃ N t, rowsOf F m = some N ∧ F (m : Int) = some t ∧ rowsOf F (m + 1) = some (N ++ [t])
  | 0, _, _, m, hm => absurd hm (Nat.not_lt_zero _)
  | n + 1, rs, h, m, hm => by
    have h' := h
    simp only [rowsOf] at h
    obtain ⟨N, h1, h2⟩ := Option.bind_eq_some_iff.mp h
    obtain ⟨t, h3, h4⟩ := Option.bind_eq_some_iff.mp h2
    by_cases e : m = n
    · subst e
      injection h4 with h4
      exact ⟨N, t, h1, h3, by rw [h', h4]⟩
    · exact rowsOf_at h1 m (by omega)
theorem rowsOf_len {F : Int → Option (List Int)} : ∀ {n : Nat} {rs : List (List Int)}, rowsOf F n = some rs → rs.length = n
  | 0, _, h => by simp only [rowsOf, Option.some.injEq] at h; subst h; rfl
  | n + 1, rs, h => by
    simp only [rowsOf] at h
    obtain ⟨N, h1, h2⟩ := Option.bind_eq_some_iff.mp h
    obtain ⟨t, h3, h4⟩ := Option.bind_eq_some_iff.mp h2
    injection h4 with h4
    subst h4
    rw [List.length_append, rowsOf_len h1]
    rfl
theorem pushB_len : ∀ (ts : List Int) (prev : List (List Int)) (b : Int), (pushB prev b ts).length = prev.length
  | [], _, _ => rfl
  | t :: ts, prev, b => by
    have h := pushB_len ts (prev.set t.toNat (prev.getD t.toNat [] ++ [b])) b
    rw [List.length_set] at h
    exact h
theorem pushB_snoc (prev : List (List Int)) (b : Int) (ts : List Int) (t : Int) : pushB prev b (ts ++ [t]) = (pushB prev b ts).set t.toNat ((pushB prev b ts).getD t.toNat [] ++ [b]) := by
  unfold pushB
  rw [List.foldl_append]
  rfl
theorem prevUp_len (rows : List (List Int)) : ∀ m, (prevUp rows m).length = rows.length
  | 0 => by simp [prevUp]
  | m + 1 => by rw [prevUp, pushB_len, prevUp_len rows m]
theorem pushB_row (b : Int) (i : Nat) : ∀ (ts : List Int) (prev : List (List Int)), ((pushB prev b ts).getD i []).length ≤ (prev.getD i []).length + ts.length
  | [], prev => by simp [pushB]
  | t :: ts, prev => by
    have h := pushB_row b i ts (prev.set t.toNat (prev.getD t.toNat [] ++ [b]))
    have h2 : ((prev.set t.toNat (prev.getD t.toNat [] ++ [b])).getD i []).length ≤ (prev.getD i []).length + 1 := by
      simp only [List.getD_eq_getElem?_getD, List.getElem?_set]
      split
      · split
        · rename_i e _; subst e; simp
        · simp
      · omega
    have h3 : pushB prev b (t :: ts) = pushB (prev.set t.toNat (prev.getD t.toNat [] ++ [b])) b ts := rfl
    rw [h3, List.length_cons]
    omega
theorem okRows_at {n : Nat} {rs : List (List Int)} (h : okRows n rs = true) (m : Nat) (hm : m < rs.length) : (rs.getD m []).length ≤ 2000000 ∧ ∀ t ∈ rs.getD m [], 0 ≤ t ∧ t < (n : Int) := by
  unfold okRows at h
  rw [List.all_eq_true] at h
  have h2 := h _ (List.getElem_mem hm)
  rw [Bool.and_eq_true, decide_eq_true_eq, List.all_eq_true] at h2
  rw [List.getD_eq_getElem?_getD, List.getElem?_eq_getElem hm, Option.getD_some]
  exact ⟨h2.1, fun t ht => by simpa using h2.2 t ht⟩
theorem prevUp_row {n : Nat} {rs : List (List Int)} (h : okRows n rs = true) (i : Nat) : ∀ m, m ≤ rs.length → ((prevUp rs m).getD i []).length ≤ m * 2000000
  | 0, _ => by
    simp only [prevUp, List.getD_eq_getElem?_getD, List.getElem?_replicate]
    split <;> simp
  | m + 1, hm => by
    have h1 := prevUp_row h i m (by omega)
    have h2 := pushB_row (m : Int) i (rs.getD m []) (prevUp rs m)
    have h3 := (okRows_at h m (by omega)).1
    rw [prevUp]
    omega
/-- An inner row of a row of rows is appended to, and what came of it is stored in its place. -/
theorem S_push {e e2 : Nat} {W : World} {base g n cap : Nat} {ok : Nat → Prop} {xs : List (List Int)} {vi : Value} (h : Kd.S (Kd.slice e2 (Kd.int .i64)) e W base ok (.slice (some ⟨g, 0, none⟩) n cap) xs) (i : Int) (h0 : 0 ≤ i) (h1 : i < n) (hv : W.cell? ⟨g, i.toNat, none⟩ = some vi) :
    ∃ oki : Nat → Prop, (Kd.int .i64).R e2 W base oki vi (xs.getD i.toNat []) ∧ (∀ k, oki k → ok k ∧ k ≠ g) ∧
      ∀ (W1 : World) (v1 : Value) (x' : List Int), W.grownBy W1 vi.ownBlock → (Kd.int .i64).R e2 W1 base (fun k => oki k ∨ ok k ∧ W.heap.size ≤ k) v1 x' → Kd.S (Kd.slice e2 (Kd.int .i64)) e (W1.setCell ⟨g, i.toNat, none⟩ v1) base ok (.slice (some ⟨g, 0, none⟩) n cap) (xs.set i.toNat x') := by
  obtain ⟨oki, c, hcl, hM, hcc, _, hoki, hH⟩ := Kd.S_elem h [] i h0 h1
  obtain ⟨u, rfl, hR⟩ := hM
  have hs : (Kd.slice e2 (Kd.int .i64)).sz = 1 := rfl
  have hu := hcc 0 u rfl
  rw [hs, Nat.mul_one, Nat.add_zero] at hu
  have he : u = vi := Option.some.inj (hu.symm.trans hv)
  subst he
  refine ⟨oki, hR, hoki, fun W1 v1 x' hg hR1 => ?_⟩
  have hrow : ∀ k, u.ownBlock = some k → oki k ∨ ok k ∧ W.heap.size ≤ k := fun k hk => .inl (hR.1 k hk)
  have hH2 := Kd.H_grown (Kd.H_widen hH) hg hrow
  have hone : ∀ q ∈ [v1], q.oneCell' = true := by
    intro q hq
    rw [List.mem_singleton] at hq
    subst hq
    exact (Kd.R_val hR1).2
  obtain ⟨h3, h4⟩ := Kd.H_seg hH2 h0 h1 (seg := [v1]) (j := 0) (by simp [hs]) hone
  rw [hs, Nat.mul_one, Nat.add_zero] at h3 h4
  have hset : W1.setCells g i.toNat [v1] = W1.setCell ⟨g, i.toNat, none⟩ v1 := by simp [World.setCells]
  rw [hset] at h3 h4
  refine Kd.H_back h3 (okp := fun k => oki k ∨ ok k ∧ W.heap.size ≤ k) (Kd.M_row ?_) (fun _ hk => hk)
  exact Kd.R_step hR1 (fun k hk _ => h4.block k (by omega) (fun e => by
    have hkg : k ≠ g := by
      rcases hk with hk | hk
      · exact (hoki k hk).2
      · have hgl := Kd.S_lt h g (by simp [Value.ownBlock])
        omega
    injection e with e
    exact hkg e))
theorem cell_al {w : World} {a : Addr} {v : Value} (h : w.cell? a = some v) (o : Obj) : (w.alloc o).cell? a = some v := ((below_alloc (Below.refl w.heap.size w) o).cell (World.block_lt_of_cell? w a h)).trans h
theorem frozen_gr {W w1 : World} {row : Option Nat} (hg : W.grownBy w1 row) {a : Addr} {v : Value} (hc : W.cell? a = some v) (h : W.frozen? a = false) (hne : some a.block ≠ row) : w1.frozen? a = false := by
  have := hg.block a.block (World.block_lt_of_cell? W a hc) hne
  simpa [World.frozen?, this] using h
theorem rd_take {xs : List Int} {j : Nat} (h : j < xs.length) : rd xs (j : Int) ∈ xs ∧ xs.take (j + 1) = xs.take j ++ [rd xs (j : Int)] := by
  have hr : rd xs (j : Int) = xs[j] := by simp [rd, List.getElem?_eq_getElem h]
  rw [hr]
  exact ⟨List.getElem_mem h, List.take_succ_eq_append_getElem h⟩
end Go.Proofs.Ytoedcnhgobbnfaa.All

