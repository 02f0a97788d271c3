/- Part 1 of the proof of FnExactNextBlocks: functions of the translation with what they return, and plain laws of these. Written by programs of this session over the kit's print, and by hand. -/
import Derived.Test.YtoedcnhgobbnfaaProg
import Derived.Test.YtoedcnhgobbnfaaWApart
import Derived.Test.YtoedcnhgobbnfaaWArr
import Derived.Test.YtoedcnhgobbnfaaWFoot
import Derived.Test.YtoedcnhgobbnfaaWGuard
import Derived.Test.YtoedcnhgobbnfaaWKept
import Derived.Test.YtoedcnhgobbnfaaWLast
import Derived.Test.YtoedcnhgobbnfaaWMore
import Derived.Test.YtoedcnhgobbnfaaWN
import Derived.Test.YtoedcnhgobbnfaaWNEv
import Derived.Test.YtoedcnhgobbnfaaWQPut
import Derived.Test.YtoedcnhgobbnfaaWRepsOne
import Derived.Test.YtoedcnhgobbnfaaWShare
import Derived.Test.YtoedcnhgobbnfaaWTab
import Derived.Test.YtoedcnhgobbnfaaWWords
import Derived.Test.YtoedcnhgobbnfaaWZeros
import Derived.Below
import Derived.Deep.Draws
import Derived.Deep.AppendLies
import Derived.Maps.AppendAt
import Derived.OwnWalk
import Derived.Laws.BytesArg
import Derived.Laws.MakeOwn
import Derived.Laws.OwnMore
import Derived.Deep.OwnRows
import Derived.Tactics
import Derived.Lib.ConvBytes
import Derived.Laws.Slices
import Derived.WalkKit
import Derived.KernelRfl
import Derived.RowKit3
import Derived.Deep.LoopGhost
import Derived.Deep.QuietTactic
import Derived.BigQuiet
import Derived.WideLaws
import Derived.Deep.DeepCutAuto
import Derived.Deep.CutBlock
import Derived.Deep.RegionHeld3
import Derived.Laws.Rows
import Derived.Lib.AppendStr
import Derived.ArgAppend
import Derived.Laws.IdiomCopy
import Derived.OrdersHeld
import Derived.Laws.BitsLemmas
import Derived.RowKit
import Derived.Maps.OwnSet
import Derived.Maps.OwnOps
import Derived.Deep.Slices
import Derived.ChangeArms
import Derived.ProofKit
import Derived.OpenShut
import Derived.ShutString
import Derived.ChangeOld
import Derived.SizedLaws
namespace Go.Proofs.Ytoedcnhgobbnfaa.All
open Go.RowKit Go.Proofs.YtoedcnhgobbnfaaW.PrintWords Go.Proofs.YtoedcnhgobbnfaaW.PrintLast Go.Proofs.YtoedcnhgobbnfaaW.PrintMore
attribute [local go_sem] max2_int min2_int max_two min_two max_three min_three max_four min_four   -- for this text's walks alone
set_option linter.unusedVariables false
set_option linter.unusedSimpArgs false



def errW : Option Int → Value
  | none => .nilIface
  | some c => .iface 0 (.int .i64 c)
theorem errW_none : errW none = .nilIface := rfl
theorem errW_some (c : Int) : errW (some c) = .iface 0 (.int .i64 c) := rfl

theorem info2 : (Try.prog.info? 2).map (fun i => (i.zero, i.size, i.bytes)) = some (some (.int .i64 0), 1, 8) := by kernel_rfl
theorem info3 : (Try.prog.info? 3).map (fun i => (i.zero, i.size, i.bytes)) = some (some (.int .i64 0), 1, 8) := by kernel_rfl
theorem info4 : (Try.prog.info? 4).map (fun i => (i.zero, i.size, i.bytes)) = some (some (.bool false), 1, 1) := by kernel_rfl
theorem info54 : (Try.prog.info? 54).map (fun i => (i.zero, i.size, i.bytes)) = some (some (.slice none 0 0), 1, 24) := by kernel_rfl
theorem info62 : (Try.prog.info? 62).map (fun i => (i.zero, i.size, i.bytes)) = some (some (.agg #[(.slice none 0 0)]), 1, 24) := by kernel_rfl
theorem info66 : (Try.prog.info? 66).map (fun i => (i.zero, i.size, i.bytes)) = some (some (.agg #[(.int .i64 0), (.int .i64 0), (.int .i64 0), (.int .i64 0), (.int .i64 0), (.int .i64 0), (.slice none 0 0), (.slice none 0 0), (.slice none 0 0)]), 9, 120) := by kernel_rfl
theorem info72 : (Try.prog.info? 72).map (fun i => (i.zero, i.size, i.bytes)) = some (some (.agg #[(.int .i64 0), (.int .i64 0)]), 2, 16) := by kernel_rfl
theorem info73 : (Try.prog.info? 73).map (fun i => (i.zero, i.size, i.bytes)) = some (some (.int .u64 0), 1, 8) := by kernel_rfl
theorem info75 : (Try.prog.info? 75).map (fun i => (i.zero, i.size, i.bytes)) = some (some (.agg #[(.int .i64 0), (.int .i64 0), (.int .i64 0), (.int .u64 0)]), 4, 32) := by kernel_rfl
theorem info86 : (Try.prog.info? 86).map (fun i => (i.zero, i.size, i.bytes)) = some (some (.agg #[(.int .i64 0), (.slice none 0 0)]), 2, 32) := by kernel_rfl
-- the values' own types
/-! #### struct type 158 -/
structure S158 where
  f0 : Int
  f1 : Int
  f2 : Int
  f3 : Int
def z158 : S158 := ⟨(0 : Int), (0 : Int), (0 : Int), (0 : Int)⟩
def k158 : Kd S158 := Kd.iso (Kd.pair (Kd.int .i64) (Kd.pair (Kd.int .i64) (Kd.pair (Kd.int .i64) (Kd.int .u64)))) (fun x : S158 => (x.f0, x.f1, x.f2, x.f3))
theorem k158_heap : Kd.Heap k158 := Kd.heap_iso _ (Kd.heap_pair (Kd.heap_int .i64) (Kd.heap_pair (Kd.heap_int .i64) (Kd.heap_pair (Kd.heap_int .i64) (Kd.heap_int .u64))))
theorem k158_open {w : World} {x : S158} {cs : List Value} (h : k158.K w x cs) : cs = [.int .i64 x.f0, .int .i64 x.f1, .int .i64 x.f2, .int .u64 x.f3] := by
  obtain ⟨_, _, rfl, rfl, ⟨_, _, rfl, rfl, ⟨_, _, rfl, rfl, rfl⟩⟩⟩ := h
  exact rfl
theorem k158_openM {w : World} {base : Nat} {ok : Nat → Prop} {x : S158} {cs : List Value} (h : k158.M w base ok x cs) : cs = [.int .i64 x.f0, .int .i64 x.f1, .int .i64 x.f2, .int .u64 x.f3] := by
  obtain ⟨_, _, rfl, rfl, ⟨_, _, rfl, rfl, ⟨_, _, rfl, rfl, rfl⟩⟩⟩ := h
  exact rfl
theorem k158_mk (w : World) (x : S158)  : k158.K w x [.int .i64 x.f0, .int .i64 x.f1, .int .i64 x.f2, .int .u64 x.f3] := ⟨[.int .i64 x.f0], [.int .i64 x.f1, .int .i64 x.f2, .int .u64 x.f3], rfl, rfl, ⟨[.int .i64 x.f1], [.int .i64 x.f2, .int .u64 x.f3], rfl, rfl, ⟨[.int .i64 x.f2], [.int .u64 x.f3], rfl, rfl, rfl⟩⟩⟩
theorem k158_mkM (w : World) (base : Nat) (ok : Nat → Prop) (x : S158)  : k158.M w base ok x [.int .i64 x.f0, .int .i64 x.f1, .int .i64 x.f2, .int .u64 x.f3] := ⟨[.int .i64 x.f0], [.int .i64 x.f1, .int .i64 x.f2, .int .u64 x.f3], rfl, rfl, ⟨[.int .i64 x.f1], [.int .i64 x.f2, .int .u64 x.f3], rfl, rfl, ⟨[.int .i64 x.f2], [.int .u64 x.f3], rfl, rfl, rfl⟩⟩⟩
theorem k158_mkF (W : World) (ok : Nat → Prop) (x : S158) : Kd.FK k158 W ok x [.int .i64 x.f0, .int .i64 x.f1, .int .i64 x.f2, .int .u64 x.f3] := fun W2 _ => k158_mk W2 x
def rd_T158 (xs : List S158) (i : Int) : S158 := xs.getD i.toNat z158
theorem at_T158 {w : World} {A : Option Addr} {n : Nat} {xs : List S158} (h : Kd.C k158 w A n xs) (i : Int) (h0 : 0 ≤ i) (h1 : i < n) : ∃ ad , A = some ad ∧ w.cell? (ad.add (i.toNat * 4)) = some (.int .i64 (rd_T158 xs i).f0) ∧ w.cell? ⟨(ad.add (i.toNat * 4)).block, (ad.add (i.toNat * 4)).off + 1, none⟩ = some (.int .i64 (rd_T158 xs i).f1) ∧ w.cell? ⟨(ad.add (i.toNat * 4)).block, (ad.add (i.toNat * 4)).off + 2, none⟩ = some (.int .i64 (rd_T158 xs i).f2) ∧ w.cell? ⟨(ad.add (i.toNat * 4)).block, (ad.add (i.toNat * 4)).off + 3, none⟩ = some (.int .u64 (rd_T158 xs i).f3) := by
  obtain ⟨ad, c, e, _, hK, hc0⟩ := Kd.C_get h z158 i h0 h1
  have hc : ∀ j u, c[j]? = some u → w.cell? (ad.add (i.toNat * 4 + j)) = some u := hc0
  obtain rfl := k158_open hK
  exact ⟨ad, e, hc 0 _ rfl, by rw [← add_field _ _ 1 (by omega)]; exact hc 1 _ rfl, by rw [← add_field _ _ 2 (by omega)]; exact hc 2 _ rfl, by rw [← add_field _ _ 3 (by omega)]; exact hc 3 _ rfl⟩

def rd_L3 (xs : List (List S158)) (i : Int) : (List S158) := xs.getD i.toNat ([] : List S158)
theorem at_L3 {w : World} {A : Option Addr} {n : Nat} {xs : List (List S158)} (h : Kd.C (Kd.slice 158 k158) w A n xs) (i : Int) (h0 : 0 ≤ i) (h1 : i < n) : ∃ ad A0 c0, A = some ad ∧ w.cell? (ad.add i.toNat) = some (.slice A0 (rd_L3 xs i).length c0) ∧ (rd_L3 xs i).length ≤ c0 ∧ k158.C w A0 (rd_L3 xs i).length (rd_L3 xs i) := by
  obtain ⟨ad, c, e, _, hK, hc0⟩ := Kd.C_get h ([] : List S158) i h0 h1
  have hc : ∀ j u, c[j]? = some u → w.cell? (ad.add (i.toNat * 1 + j)) = some u := hc0
  obtain ⟨A0, c0, rfl, l0, g0⟩ := hK
  exact ⟨ad, A0, c0, e, by have hq := hc 0 _ rfl; rwa [Nat.mul_one, Nat.add_zero] at hq, l0, g0⟩

def rd_L4 (xs : List (List Int)) (i : Int) : (List Int) := xs.getD i.toNat ([] : List Int)
theorem at_L4 {w : World} {A : Option Addr} {n : Nat} {xs : List (List Int)} (h : Kd.C (Kd.slice 2 (Kd.int .i64)) w A n xs) (i : Int) (h0 : 0 ≤ i) (h1 : i < n) : ∃ ad A0 c0, A = some ad ∧ w.cell? (ad.add i.toNat) = some (.slice A0 (rd_L4 xs i).length c0) ∧ (rd_L4 xs i).length ≤ c0 ∧ (Kd.int .i64).C w A0 (rd_L4 xs i).length (rd_L4 xs i) := by
  obtain ⟨ad, c, e, _, hK, hc0⟩ := Kd.C_get h ([] : List Int) i h0 h1
  have hc : ∀ j u, c[j]? = some u → w.cell? (ad.add (i.toNat * 1 + j)) = some u := hc0
  obtain ⟨A0, c0, rfl, l0, g0⟩ := hK
  exact ⟨ad, A0, c0, e, by have hq := hc 0 _ rfl; rwa [Nat.mul_one, Nat.add_zero] at hq, l0, g0⟩

def rd_L5 (xs : List (List Int)) (i : Int) : (List Int) := xs.getD i.toNat ([] : List Int)
theorem at_L5 {w : World} {A : Option Addr} {n : Nat} {xs : List (List Int)} (h : Kd.C (Kd.slice 73 (Kd.int .u64)) w A n xs) (i : Int) (h0 : 0 ≤ i) (h1 : i < n) : ∃ ad A0 c0, A = some ad ∧ w.cell? (ad.add i.toNat) = some (.slice A0 (rd_L5 xs i).length c0) ∧ (rd_L5 xs i).length ≤ c0 ∧ (Kd.int .u64).C w A0 (rd_L5 xs i).length (rd_L5 xs i) := by
  obtain ⟨ad, c, e, _, hK, hc0⟩ := Kd.C_get h ([] : List Int) i h0 h1
  have hc : ∀ j u, c[j]? = some u → w.cell? (ad.add (i.toNat * 1 + j)) = some u := hc0
  obtain ⟨A0, c0, rfl, l0, g0⟩ := hK
  exact ⟨ad, A0, c0, e, by have hq := hc 0 _ rfl; rwa [Nat.mul_one, Nat.add_zero] at hq, l0, g0⟩

/-! #### struct type 140 -/
structure S140 where
  f0 : Int
  f1 : Int
  f2 : Int
  f3 : Int
  f4 : Int
  f5 : Int
  f6 : (List S158)
  f7 : (List Int)
  f8 : (List Int)
def z140 : S140 := ⟨(0 : Int), (0 : Int), (0 : Int), (0 : Int), (0 : Int), (0 : Int), ([] : List S158), ([] : List Int), ([] : List Int)⟩
def k140 : Kd S140 := Kd.iso (Kd.pair (Kd.int .i64) (Kd.pair (Kd.int .i64) (Kd.pair (Kd.int .i64) (Kd.pair (Kd.int .i64) (Kd.pair (Kd.int .i64) (Kd.pair (Kd.int .i64) (Kd.pair (Kd.slice 158 k158) (Kd.pair (Kd.slice 2 (Kd.int .i64)) (Kd.slice 73 (Kd.int .u64)))))))))) (fun x : S140 => (x.f0, x.f1, x.f2, x.f3, x.f4, x.f5, x.f6, x.f7, x.f8))
theorem k140_heap : Kd.Heap k140 := Kd.heap_iso _ (Kd.heap_pair (Kd.heap_int .i64) (Kd.heap_pair (Kd.heap_int .i64) (Kd.heap_pair (Kd.heap_int .i64) (Kd.heap_pair (Kd.heap_int .i64) (Kd.heap_pair (Kd.heap_int .i64) (Kd.heap_pair (Kd.heap_int .i64) (Kd.heap_pair (Kd.heap_slice 158 k158_heap) (Kd.heap_pair (Kd.heap_slice 2 (Kd.heap_int .i64)) (Kd.heap_slice 73 (Kd.heap_int .u64))))))))))
theorem k140_open {w : World} {x : S140} {cs : List Value} (h : k140.K w x cs) : ∃ A6 c6 A7 c7 A8 c8, cs = [.int .i64 x.f0, .int .i64 x.f1, .int .i64 x.f2, .int .i64 x.f3, .int .i64 x.f4, .int .i64 x.f5, .slice A6 x.f6.length c6, .slice A7 x.f7.length c7, .slice A8 x.f8.length c8] ∧ x.f6.length ≤ c6 ∧ k158.C w A6 x.f6.length x.f6 ∧ x.f7.length ≤ c7 ∧ (Kd.int .i64).C w A7 x.f7.length x.f7 ∧ x.f8.length ≤ c8 ∧ (Kd.int .u64).C w A8 x.f8.length x.f8 := by
  obtain ⟨_, _, rfl, rfl, ⟨_, _, rfl, rfl, ⟨_, _, rfl, rfl, ⟨_, _, rfl, rfl, ⟨_, _, rfl, rfl, ⟨_, _, rfl, rfl, ⟨_, _, rfl, ⟨A6, c6, rfl, l6, g6⟩, ⟨_, _, rfl, ⟨A7, c7, rfl, l7, g7⟩, ⟨A8, c8, rfl, l8, g8⟩⟩⟩⟩⟩⟩⟩⟩⟩ := h
  exact ⟨A6, c6, A7, c7, A8, c8, rfl, l6, g6, l7, g7, l8, g8⟩
theorem k140_openM {w : World} {base : Nat} {ok : Nat → Prop} {x : S140} {cs : List Value} (h : k140.M w base ok x cs) : ∃ v6 v7 v8, cs = [.int .i64 x.f0, .int .i64 x.f1, .int .i64 x.f2, .int .i64 x.f3, .int .i64 x.f4, .int .i64 x.f5, v6, v7, v8] ∧ k158.R 158 w base ok v6 x.f6 ∧ (Kd.int .i64).R 2 w base ok v7 x.f7 ∧ (Kd.int .u64).R 73 w base ok v8 x.f8 := by
  obtain ⟨_, _, rfl, rfl, ⟨_, _, rfl, rfl, ⟨_, _, rfl, rfl, ⟨_, _, rfl, rfl, ⟨_, _, rfl, rfl, ⟨_, _, rfl, rfl, ⟨_, _, rfl, ⟨v6, rfl, g6⟩, ⟨_, _, rfl, ⟨v7, rfl, g7⟩, ⟨v8, rfl, g8⟩⟩⟩⟩⟩⟩⟩⟩⟩ := h
  exact ⟨v6, v7, v8, rfl, g6, g7, g8⟩
theorem k140_mk (w : World) (x : S140) {A6 : Option Addr} {c6 : Nat} (l6 : x.f6.length ≤ c6) (g6 : k158.C w A6 x.f6.length x.f6) {A7 : Option Addr} {c7 : Nat} (l7 : x.f7.length ≤ c7) (g7 : (Kd.int .i64).C w A7 x.f7.length x.f7) {A8 : Option Addr} {c8 : Nat} (l8 : x.f8.length ≤ c8) (g8 : (Kd.int .u64).C w A8 x.f8.length x.f8) : k140.K w x [.int .i64 x.f0, .int .i64 x.f1, .int .i64 x.f2, .int .i64 x.f3, .int .i64 x.f4, .int .i64 x.f5, .slice A6 x.f6.length c6, .slice A7 x.f7.length c7, .slice A8 x.f8.length c8] := ⟨[.int .i64 x.f0], [.int .i64 x.f1, .int .i64 x.f2, .int .i64 x.f3, .int .i64 x.f4, .int .i64 x.f5, .slice A6 x.f6.length c6, .slice A7 x.f7.length c7, .slice A8 x.f8.length c8], rfl, rfl, ⟨[.int .i64 x.f1], [.int .i64 x.f2, .int .i64 x.f3, .int .i64 x.f4, .int .i64 x.f5, .slice A6 x.f6.length c6, .slice A7 x.f7.length c7, .slice A8 x.f8.length c8], rfl, rfl, ⟨[.int .i64 x.f2], [.int .i64 x.f3, .int .i64 x.f4, .int .i64 x.f5, .slice A6 x.f6.length c6, .slice A7 x.f7.length c7, .slice A8 x.f8.length c8], rfl, rfl, ⟨[.int .i64 x.f3], [.int .i64 x.f4, .int .i64 x.f5, .slice A6 x.f6.length c6, .slice A7 x.f7.length c7, .slice A8 x.f8.length c8], rfl, rfl, ⟨[.int .i64 x.f4], [.int .i64 x.f5, .slice A6 x.f6.length c6, .slice A7 x.f7.length c7, .slice A8 x.f8.length c8], rfl, rfl, ⟨[.int .i64 x.f5], [.slice A6 x.f6.length c6, .slice A7 x.f7.length c7, .slice A8 x.f8.length c8], rfl, rfl, ⟨[.slice A6 x.f6.length c6], [.slice A7 x.f7.length c7, .slice A8 x.f8.length c8], rfl, ⟨A6, c6, rfl, l6, g6⟩, ⟨[.slice A7 x.f7.length c7], [.slice A8 x.f8.length c8], rfl, ⟨A7, c7, rfl, l7, g7⟩, ⟨A8, c8, rfl, l8, g8⟩⟩⟩⟩⟩⟩⟩⟩⟩
theorem k140_mkM (w : World) (base : Nat) (ok : Nat → Prop) (x : S140) {v6 : Value} (g6 : k158.R 158 w base ok v6 x.f6) {v7 : Value} (g7 : (Kd.int .i64).R 2 w base ok v7 x.f7) {v8 : Value} (g8 : (Kd.int .u64).R 73 w base ok v8 x.f8) : k140.M w base ok x [.int .i64 x.f0, .int .i64 x.f1, .int .i64 x.f2, .int .i64 x.f3, .int .i64 x.f4, .int .i64 x.f5, v6, v7, v8] := ⟨[.int .i64 x.f0], [.int .i64 x.f1, .int .i64 x.f2, .int .i64 x.f3, .int .i64 x.f4, .int .i64 x.f5, v6, v7, v8], rfl, rfl, ⟨[.int .i64 x.f1], [.int .i64 x.f2, .int .i64 x.f3, .int .i64 x.f4, .int .i64 x.f5, v6, v7, v8], rfl, rfl, ⟨[.int .i64 x.f2], [.int .i64 x.f3, .int .i64 x.f4, .int .i64 x.f5, v6, v7, v8], rfl, rfl, ⟨[.int .i64 x.f3], [.int .i64 x.f4, .int .i64 x.f5, v6, v7, v8], rfl, rfl, ⟨[.int .i64 x.f4], [.int .i64 x.f5, v6, v7, v8], rfl, rfl, ⟨[.int .i64 x.f5], [v6, v7, v8], rfl, rfl, ⟨[v6], [v7, v8], rfl, ⟨v6, rfl, g6⟩, ⟨[v7], [v8], rfl, ⟨v7, rfl, g7⟩, ⟨v8, rfl, g8⟩⟩⟩⟩⟩⟩⟩⟩⟩
theorem k140_openF {W : World} {ok : Nat → Prop} {x : S140} {cs : List Value} (h : Kd.FK k140 W ok x cs) : ∃ A6 c6 A7 c7 A8 c8, cs = [.int .i64 x.f0, .int .i64 x.f1, .int .i64 x.f2, .int .i64 x.f3, .int .i64 x.f4, .int .i64 x.f5, .slice A6 x.f6.length c6, .slice A7 x.f7.length c7, .slice A8 x.f8.length c8] ∧ x.f6.length ≤ c6 ∧ Kd.F k158 W ok A6 x.f6.length x.f6 ∧ x.f7.length ≤ c7 ∧ Kd.F (Kd.int .i64) W ok A7 x.f7.length x.f7 ∧ x.f8.length ≤ c8 ∧ Kd.F (Kd.int .u64) W ok A8 x.f8.length x.f8 := by
  obtain ⟨A6, c6, A7, c7, A8, c8, rfl, l6, _, l7, _, l8, _⟩ := k140_open (Kd.FK_now h)
  exact ⟨A6, c6, A7, c7, A8, c8, rfl, l6, (fun W' hW => by obtain ⟨A6_, c6_, A7_, c7_, A8_, c8_, he, l6_, g6_, l7_, g7_, l8_, g8_⟩ := k140_open (h W' hW); injection (Option.some.inj (show some (Value.slice A6 x.f6.length c6) = some (Value.slice A6_ x.f6.length c6_) from congrArg (fun l => l[6]?) he)) with ha_ _ _; rw [ha_]; exact g6_), l7, (fun W' hW => by obtain ⟨A6_, c6_, A7_, c7_, A8_, c8_, he, l6_, g6_, l7_, g7_, l8_, g8_⟩ := k140_open (h W' hW); injection (Option.some.inj (show some (Value.slice A7 x.f7.length c7) = some (Value.slice A7_ x.f7.length c7_) from congrArg (fun l => l[7]?) he)) with ha_ _ _; rw [ha_]; exact g7_), l8, (fun W' hW => by obtain ⟨A6_, c6_, A7_, c7_, A8_, c8_, he, l6_, g6_, l7_, g7_, l8_, g8_⟩ := k140_open (h W' hW); injection (Option.some.inj (show some (Value.slice A8 x.f8.length c8) = some (Value.slice A8_ x.f8.length c8_) from congrArg (fun l => l[8]?) he)) with ha_ _ _; rw [ha_]; exact g8_)⟩
theorem k140_mkF (W : World) (ok : Nat → Prop) (x : S140) {A6 : Option Addr} {c6 : Nat} (l6 : x.f6.length ≤ c6) (g6 : Kd.F k158 W ok A6 x.f6.length x.f6) {A7 : Option Addr} {c7 : Nat} (l7 : x.f7.length ≤ c7) (g7 : Kd.F (Kd.int .i64) W ok A7 x.f7.length x.f7) {A8 : Option Addr} {c8 : Nat} (l8 : x.f8.length ≤ c8) (g8 : Kd.F (Kd.int .u64) W ok A8 x.f8.length x.f8) : Kd.FK k140 W ok x [.int .i64 x.f0, .int .i64 x.f1, .int .i64 x.f2, .int .i64 x.f3, .int .i64 x.f4, .int .i64 x.f5, .slice A6 x.f6.length c6, .slice A7 x.f7.length c7, .slice A8 x.f8.length c8] := fun W2 hW => k140_mk W2 x l6 (g6 W2 hW) l7 (g7 W2 hW) l8 (g8 W2 hW)
def rd_T140 (xs : List S140) (i : Int) : S140 := xs.getD i.toNat z140
theorem at_T140 {w : World} {A : Option Addr} {n : Nat} {xs : List S140} (h : Kd.C k140 w A n xs) (i : Int) (h0 : 0 ≤ i) (h1 : i < n) : ∃ ad A6 c6 A7 c7 A8 c8, A = some ad ∧ w.cell? (ad.add (i.toNat * 9)) = some (.int .i64 (rd_T140 xs i).f0) ∧ w.cell? ⟨(ad.add (i.toNat * 9)).block, (ad.add (i.toNat * 9)).off + 1, none⟩ = some (.int .i64 (rd_T140 xs i).f1) ∧ w.cell? ⟨(ad.add (i.toNat * 9)).block, (ad.add (i.toNat * 9)).off + 2, none⟩ = some (.int .i64 (rd_T140 xs i).f2) ∧ w.cell? ⟨(ad.add (i.toNat * 9)).block, (ad.add (i.toNat * 9)).off + 3, none⟩ = some (.int .i64 (rd_T140 xs i).f3) ∧ w.cell? ⟨(ad.add (i.toNat * 9)).block, (ad.add (i.toNat * 9)).off + 4, none⟩ = some (.int .i64 (rd_T140 xs i).f4) ∧ w.cell? ⟨(ad.add (i.toNat * 9)).block, (ad.add (i.toNat * 9)).off + 5, none⟩ = some (.int .i64 (rd_T140 xs i).f5) ∧ w.cell? ⟨(ad.add (i.toNat * 9)).block, (ad.add (i.toNat * 9)).off + 6, none⟩ = some (.slice A6 (rd_T140 xs i).f6.length c6) ∧ w.cell? ⟨(ad.add (i.toNat * 9)).block, (ad.add (i.toNat * 9)).off + 7, none⟩ = some (.slice A7 (rd_T140 xs i).f7.length c7) ∧ w.cell? ⟨(ad.add (i.toNat * 9)).block, (ad.add (i.toNat * 9)).off + 8, none⟩ = some (.slice A8 (rd_T140 xs i).f8.length c8) ∧ (rd_T140 xs i).f6.length ≤ c6 ∧ k158.C w A6 (rd_T140 xs i).f6.length (rd_T140 xs i).f6 ∧ (rd_T140 xs i).f7.length ≤ c7 ∧ (Kd.int .i64).C w A7 (rd_T140 xs i).f7.length (rd_T140 xs i).f7 ∧ (rd_T140 xs i).f8.length ≤ c8 ∧ (Kd.int .u64).C w A8 (rd_T140 xs i).f8.length (rd_T140 xs i).f8 := by
  obtain ⟨ad, c, e, _, hK, hc0⟩ := Kd.C_get h z140 i h0 h1
  have hc : ∀ j u, c[j]? = some u → w.cell? (ad.add (i.toNat * 9 + j)) = some u := hc0
  obtain ⟨A6, c6, A7, c7, A8, c8, rfl, l6, g6, l7, g7, l8, g8⟩ := k140_open hK
  exact ⟨ad, A6, c6, A7, c7, A8, c8, e, hc 0 _ rfl, by rw [← add_field _ _ 1 (by omega)]; exact hc 1 _ rfl, by rw [← add_field _ _ 2 (by omega)]; exact hc 2 _ rfl, by rw [← add_field _ _ 3 (by omega)]; exact hc 3 _ rfl, by rw [← add_field _ _ 4 (by omega)]; exact hc 4 _ rfl, by rw [← add_field _ _ 5 (by omega)]; exact hc 5 _ rfl, by rw [← add_field _ _ 6 (by omega)]; exact hc 6 _ rfl, by rw [← add_field _ _ 7 (by omega)]; exact hc 7 _ rfl, by rw [← add_field _ _ 8 (by omega)]; exact hc 8 _ rfl, l6, g6, l7, g7, l8, g8⟩

def rd_L7 (xs : List (List S140)) (i : Int) : (List S140) := xs.getD i.toNat ([] : List S140)
theorem at_L7 {w : World} {A : Option Addr} {n : Nat} {xs : List (List S140)} (h : Kd.C (Kd.slice 140 k140) w A n xs) (i : Int) (h0 : 0 ≤ i) (h1 : i < n) : ∃ ad A0 c0, A = some ad ∧ w.cell? (ad.add i.toNat) = some (.slice A0 (rd_L7 xs i).length c0) ∧ (rd_L7 xs i).length ≤ c0 ∧ k140.C w A0 (rd_L7 xs i).length (rd_L7 xs i) := by
  obtain ⟨ad, c, e, _, hK, hc0⟩ := Kd.C_get h ([] : List S140) i h0 h1
  have hc : ∀ j u, c[j]? = some u → w.cell? (ad.add (i.toNat * 1 + j)) = some u := hc0
  obtain ⟨A0, c0, rfl, l0, g0⟩ := hK
  exact ⟨ad, A0, c0, e, by have hq := hc 0 _ rfl; rwa [Nat.mul_one, Nat.add_zero] at hq, l0, g0⟩

/-! #### struct type 96 -/
structure S96 where
  f0 : (List S140)
def z96 : S96 := ⟨([] : List S140)⟩
def k96 : Kd S96 := Kd.iso (Kd.slice 140 k140) (fun x : S96 => x.f0)
theorem k96_heap : Kd.Heap k96 := Kd.heap_iso _ (Kd.heap_slice 140 k140_heap)
theorem k96_open {w : World} {x : S96} {cs : List Value} (h : k96.K w x cs) : ∃ A0 c0, cs = [.slice A0 x.f0.length c0] ∧ x.f0.length ≤ c0 ∧ k140.C w A0 x.f0.length x.f0 := by
  obtain ⟨A0, c0, rfl, l0, g0⟩ := h
  exact ⟨A0, c0, rfl, l0, g0⟩
theorem k96_openM {w : World} {base : Nat} {ok : Nat → Prop} {x : S96} {cs : List Value} (h : k96.M w base ok x cs) : ∃ v0, cs = [v0] ∧ k140.R 140 w base ok v0 x.f0 := by
  obtain ⟨v0, rfl, g0⟩ := h
  exact ⟨v0, rfl, g0⟩
theorem k96_mk (w : World) (x : S96) {A0 : Option Addr} {c0 : Nat} (l0 : x.f0.length ≤ c0) (g0 : k140.C w A0 x.f0.length x.f0) : k96.K w x [.slice A0 x.f0.length c0] := ⟨A0, c0, rfl, l0, g0⟩
theorem k96_mkM (w : World) (base : Nat) (ok : Nat → Prop) (x : S96) {v0 : Value} (g0 : k140.R 140 w base ok v0 x.f0) : k96.M w base ok x [v0] := ⟨v0, rfl, g0⟩
theorem k96_openF {W : World} {ok : Nat → Prop} {x : S96} {cs : List Value} (h : Kd.FK k96 W ok x cs) : ∃ A0 c0, cs = [.slice A0 x.f0.length c0] ∧ x.f0.length ≤ c0 ∧ Kd.F k140 W ok A0 x.f0.length x.f0 := by
  obtain ⟨A0, c0, rfl, l0, _⟩ := k96_open (Kd.FK_now h)
  exact ⟨A0, c0, rfl, l0, (fun W' hW => by obtain ⟨A0_, c0_, he, l0_, g0_⟩ := k96_open (h W' hW); injection (Option.some.inj (show some (Value.slice A0 x.f0.length c0) = some (Value.slice A0_ x.f0.length c0_) from congrArg (fun l => l[0]?) he)) with ha_ _ _; rw [ha_]; exact g0_)⟩
theorem k96_mkF (W : World) (ok : Nat → Prop) (x : S96) {A0 : Option Addr} {c0 : Nat} (l0 : x.f0.length ≤ c0) (g0 : Kd.F k140 W ok A0 x.f0.length x.f0) : Kd.FK k96 W ok x [.slice A0 x.f0.length c0] := fun W2 hW => k96_mk W2 x l0 (g0 W2 hW)
def rd_T96 (xs : List S96) (i : Int) : S96 := xs.getD i.toNat z96
theorem at_T96 {w : World} {A : Option Addr} {n : Nat} {xs : List S96} (h : Kd.C k96 w A n xs) (i : Int) (h0 : 0 ≤ i) (h1 : i < n) : ∃ ad A0 c0, A = some ad ∧ w.cell? (ad.add i.toNat) = some (.slice A0 (rd_T96 xs i).f0.length c0) ∧ (rd_T96 xs i).f0.length ≤ c0 ∧ k140.C w A0 (rd_T96 xs i).f0.length (rd_T96 xs i).f0 := by
  obtain ⟨ad, c, e, _, hK, hc0⟩ := Kd.C_get h z96 i h0 h1
  have hc : ∀ j u, c[j]? = some u → w.cell? (ad.add (i.toNat * 1 + j)) = some u := hc0
  obtain ⟨A0, c0, rfl, l0, g0⟩ := k96_open hK
  exact ⟨ad, A0, c0, e, by have hq := hc 0 _ rfl; rwa [Nat.mul_one, Nat.add_zero] at hq, l0, g0⟩

/-! #### struct type 75 -/
structure S75 where
  f0 : Int
  f1 : Int
  f2 : Int
  f3 : Int
def z75 : S75 := ⟨(0 : Int), (0 : Int), (0 : Int), (0 : Int)⟩
def k75 : Kd S75 := Kd.iso (Kd.pair (Kd.int .i64) (Kd.pair (Kd.int .i64) (Kd.pair (Kd.int .i64) (Kd.int .u64)))) (fun x : S75 => (x.f0, x.f1, x.f2, x.f3))
theorem k75_heap : Kd.Heap k75 := Kd.heap_iso _ (Kd.heap_pair (Kd.heap_int .i64) (Kd.heap_pair (Kd.heap_int .i64) (Kd.heap_pair (Kd.heap_int .i64) (Kd.heap_int .u64))))
theorem k75_open {w : World} {x : S75} {cs : List Value} (h : k75.K w x cs) : cs = [.int .i64 x.f0, .int .i64 x.f1, .int .i64 x.f2, .int .u64 x.f3] := by
  obtain ⟨_, _, rfl, rfl, ⟨_, _, rfl, rfl, ⟨_, _, rfl, rfl, rfl⟩⟩⟩ := h
  exact rfl
theorem k75_openM {w : World} {base : Nat} {ok : Nat → Prop} {x : S75} {cs : List Value} (h : k75.M w base ok x cs) : cs = [.int .i64 x.f0, .int .i64 x.f1, .int .i64 x.f2, .int .u64 x.f3] := by
  obtain ⟨_, _, rfl, rfl, ⟨_, _, rfl, rfl, ⟨_, _, rfl, rfl, rfl⟩⟩⟩ := h
  exact rfl
theorem k75_mk (w : World) (x : S75)  : k75.K w x [.int .i64 x.f0, .int .i64 x.f1, .int .i64 x.f2, .int .u64 x.f3] := ⟨[.int .i64 x.f0], [.int .i64 x.f1, .int .i64 x.f2, .int .u64 x.f3], rfl, rfl, ⟨[.int .i64 x.f1], [.int .i64 x.f2, .int .u64 x.f3], rfl, rfl, ⟨[.int .i64 x.f2], [.int .u64 x.f3], rfl, rfl, rfl⟩⟩⟩
theorem k75_mkM (w : World) (base : Nat) (ok : Nat → Prop) (x : S75)  : k75.M w base ok x [.int .i64 x.f0, .int .i64 x.f1, .int .i64 x.f2, .int .u64 x.f3] := ⟨[.int .i64 x.f0], [.int .i64 x.f1, .int .i64 x.f2, .int .u64 x.f3], rfl, rfl, ⟨[.int .i64 x.f1], [.int .i64 x.f2, .int .u64 x.f3], rfl, rfl, ⟨[.int .i64 x.f2], [.int .u64 x.f3], rfl, rfl, rfl⟩⟩⟩
theorem k75_mkF (W : World) (ok : Nat → Prop) (x : S75) : Kd.FK k75 W ok x [.int .i64 x.f0, .int .i64 x.f1, .int .i64 x.f2, .int .u64 x.f3] := fun W2 _ => k75_mk W2 x
def rd_T75 (xs : List S75) (i : Int) : S75 := xs.getD i.toNat z75
theorem at_T75 {w : World} {A : Option Addr} {n : Nat} {xs : List S75} (h : Kd.C k75 w A n xs) (i : Int) (h0 : 0 ≤ i) (h1 : i < n) : ∃ ad , A = some ad ∧ w.cell? (ad.add (i.toNat * 4)) = some (.int .i64 (rd_T75 xs i).f0) ∧ w.cell? ⟨(ad.add (i.toNat * 4)).block, (ad.add (i.toNat * 4)).off + 1, none⟩ = some (.int .i64 (rd_T75 xs i).f1) ∧ w.cell? ⟨(ad.add (i.toNat * 4)).block, (ad.add (i.toNat * 4)).off + 2, none⟩ = some (.int .i64 (rd_T75 xs i).f2) ∧ w.cell? ⟨(ad.add (i.toNat * 4)).block, (ad.add (i.toNat * 4)).off + 3, none⟩ = some (.int .u64 (rd_T75 xs i).f3) := by
  obtain ⟨ad, c, e, _, hK, hc0⟩ := Kd.C_get h z75 i h0 h1
  have hc : ∀ j u, c[j]? = some u → w.cell? (ad.add (i.toNat * 4 + j)) = some u := hc0
  obtain rfl := k75_open hK
  exact ⟨ad, e, hc 0 _ rfl, by rw [← add_field _ _ 1 (by omega)]; exact hc 1 _ rfl, by rw [← add_field _ _ 2 (by omega)]; exact hc 2 _ rfl, by rw [← add_field _ _ 3 (by omega)]; exact hc 3 _ rfl⟩

def rd_L10 (xs : List (List S75)) (i : Int) : (List S75) := xs.getD i.toNat ([] : List S75)
theorem at_L10 {w : World} {A : Option Addr} {n : Nat} {xs : List (List S75)} (h : Kd.C (Kd.slice 75 k75) w A n xs) (i : Int) (h0 : 0 ≤ i) (h1 : i < n) : ∃ ad A0 c0, A = some ad ∧ w.cell? (ad.add i.toNat) = some (.slice A0 (rd_L10 xs i).length c0) ∧ (rd_L10 xs i).length ≤ c0 ∧ k75.C w A0 (rd_L10 xs i).length (rd_L10 xs i) := by
  obtain ⟨ad, c, e, _, hK, hc0⟩ := Kd.C_get h ([] : List S75) i h0 h1
  have hc : ∀ j u, c[j]? = some u → w.cell? (ad.add (i.toNat * 1 + j)) = some u := hc0
  obtain ⟨A0, c0, rfl, l0, g0⟩ := hK
  exact ⟨ad, A0, c0, e, by have hq := hc 0 _ rfl; rwa [Nat.mul_one, Nat.add_zero] at hq, l0, g0⟩

/-! #### struct type 66 -/
structure S66 where
  f0 : Int
  f1 : Int
  f2 : Int
  f3 : Int
  f4 : Int
  f5 : Int
  f6 : (List S75)
  f7 : (List Int)
  f8 : (List Int)
def z66 : S66 := ⟨(0 : Int), (0 : Int), (0 : Int), (0 : Int), (0 : Int), (0 : Int), ([] : List S75), ([] : List Int), ([] : List Int)⟩
def k66 : Kd S66 := Kd.iso (Kd.pair (Kd.int .i64) (Kd.pair (Kd.int .i64) (Kd.pair (Kd.int .i64) (Kd.pair (Kd.int .i64) (Kd.pair (Kd.int .i64) (Kd.pair (Kd.int .i64) (Kd.pair (Kd.slice 75 k75) (Kd.pair (Kd.slice 2 (Kd.int .i64)) (Kd.slice 73 (Kd.int .u64)))))))))) (fun x : S66 => (x.f0, x.f1, x.f2, x.f3, x.f4, x.f5, x.f6, x.f7, x.f8))
theorem k66_heap : Kd.Heap k66 := Kd.heap_iso _ (Kd.heap_pair (Kd.heap_int .i64) (Kd.heap_pair (Kd.heap_int .i64) (Kd.heap_pair (Kd.heap_int .i64) (Kd.heap_pair (Kd.heap_int .i64) (Kd.heap_pair (Kd.heap_int .i64) (Kd.heap_pair (Kd.heap_int .i64) (Kd.heap_pair (Kd.heap_slice 75 k75_heap) (Kd.heap_pair (Kd.heap_slice 2 (Kd.heap_int .i64)) (Kd.heap_slice 73 (Kd.heap_int .u64))))))))))
theorem k66_open {w : World} {x : S66} {cs : List Value} (h : k66.K w x cs) : ∃ A6 c6 A7 c7 A8 c8, cs = [.int .i64 x.f0, .int .i64 x.f1, .int .i64 x.f2, .int .i64 x.f3, .int .i64 x.f4, .int .i64 x.f5, .slice A6 x.f6.length c6, .slice A7 x.f7.length c7, .slice A8 x.f8.length c8] ∧ x.f6.length ≤ c6 ∧ k75.C w A6 x.f6.length x.f6 ∧ x.f7.length ≤ c7 ∧ (Kd.int .i64).C w A7 x.f7.length x.f7 ∧ x.f8.length ≤ c8 ∧ (Kd.int .u64).C w A8 x.f8.length x.f8 := by
  obtain ⟨_, _, rfl, rfl, ⟨_, _, rfl, rfl, ⟨_, _, rfl, rfl, ⟨_, _, rfl, rfl, ⟨_, _, rfl, rfl, ⟨_, _, rfl, rfl, ⟨_, _, rfl, ⟨A6, c6, rfl, l6, g6⟩, ⟨_, _, rfl, ⟨A7, c7, rfl, l7, g7⟩, ⟨A8, c8, rfl, l8, g8⟩⟩⟩⟩⟩⟩⟩⟩⟩ := h
  exact ⟨A6, c6, A7, c7, A8, c8, rfl, l6, g6, l7, g7, l8, g8⟩
theorem k66_openM {w : World} {base : Nat} {ok : Nat → Prop} {x : S66} {cs : List Value} (h : k66.M w base ok x cs) : ∃ v6 v7 v8, cs = [.int .i64 x.f0, .int .i64 x.f1, .int .i64 x.f2, .int .i64 x.f3, .int .i64 x.f4, .int .i64 x.f5, v6, v7, v8] ∧ k75.R 75 w base ok v6 x.f6 ∧ (Kd.int .i64).R 2 w base ok v7 x.f7 ∧ (Kd.int .u64).R 73 w base ok v8 x.f8 := by
  obtain ⟨_, _, rfl, rfl, ⟨_, _, rfl, rfl, ⟨_, _, rfl, rfl, ⟨_, _, rfl, rfl, ⟨_, _, rfl, rfl, ⟨_, _, rfl, rfl, ⟨_, _, rfl, ⟨v6, rfl, g6⟩, ⟨_, _, rfl, ⟨v7, rfl, g7⟩, ⟨v8, rfl, g8⟩⟩⟩⟩⟩⟩⟩⟩⟩ := h
  exact ⟨v6, v7, v8, rfl, g6, g7, g8⟩
theorem k66_mk (w : World) (x : S66) {A6 : Option Addr} {c6 : Nat} (l6 : x.f6.length ≤ c6) (g6 : k75.C w A6 x.f6.length x.f6) {A7 : Option Addr} {c7 : Nat} (l7 : x.f7.length ≤ c7) (g7 : (Kd.int .i64).C w A7 x.f7.length x.f7) {A8 : Option Addr} {c8 : Nat} (l8 : x.f8.length ≤ c8) (g8 : (Kd.int .u64).C w A8 x.f8.length x.f8) : k66.K w x [.int .i64 x.f0, .int .i64 x.f1, .int .i64 x.f2, .int .i64 x.f3, .int .i64 x.f4, .int .i64 x.f5, .slice A6 x.f6.length c6, .slice A7 x.f7.length c7, .slice A8 x.f8.length c8] := ⟨[.int .i64 x.f0], [.int .i64 x.f1, .int .i64 x.f2, .int .i64 x.f3, .int .i64 x.f4, .int .i64 x.f5, .slice A6 x.f6.length c6, .slice A7 x.f7.length c7, .slice A8 x.f8.length c8], rfl, rfl, ⟨[.int .i64 x.f1], [.int .i64 x.f2, .int .i64 x.f3, .int .i64 x.f4, .int .i64 x.f5, .slice A6 x.f6.length c6, .slice A7 x.f7.length c7, .slice A8 x.f8.length c8], rfl, rfl, ⟨[.int .i64 x.f2], [.int .i64 x.f3, .int .i64 x.f4, .int .i64 x.f5, .slice A6 x.f6.length c6, .slice A7 x.f7.length c7, .slice A8 x.f8.length c8], rfl, rfl, ⟨[.int .i64 x.f3], [.int .i64 x.f4, .int .i64 x.f5, .slice A6 x.f6.length c6, .slice A7 x.f7.length c7, .slice A8 x.f8.length c8], rfl, rfl, ⟨[.int .i64 x.f4], [.int .i64 x.f5, .slice A6 x.f6.length c6, .slice A7 x.f7.length c7, .slice A8 x.f8.length c8], rfl, rfl, ⟨[.int .i64 x.f5], [.slice A6 x.f6.length c6, .slice A7 x.f7.length c7, .slice A8 x.f8.length c8], rfl, rfl, ⟨[.slice A6 x.f6.length c6], [.slice A7 x.f7.length c7, .slice A8 x.f8.length c8], rfl, ⟨A6, c6, rfl, l6, g6⟩, ⟨[.slice A7 x.f7.length c7], [.slice A8 x.f8.length c8], rfl, ⟨A7, c7, rfl, l7, g7⟩, ⟨A8, c8, rfl, l8, g8⟩⟩⟩⟩⟩⟩⟩⟩⟩
theorem k66_mkM (w : World) (base : Nat) (ok : Nat → Prop) (x : S66) {v6 : Value} (g6 : k75.R 75 w base ok v6 x.f6) {v7 : Value} (g7 : (Kd.int .i64).R 2 w base ok v7 x.f7) {v8 : Value} (g8 : (Kd.int .u64).R 73 w base ok v8 x.f8) : k66.M w base ok x [.int .i64 x.f0, .int .i64 x.f1, .int .i64 x.f2, .int .i64 x.f3, .int .i64 x.f4, .int .i64 x.f5, v6, v7, v8] := ⟨[.int .i64 x.f0], [.int .i64 x.f1, .int .i64 x.f2, .int .i64 x.f3, .int .i64 x.f4, .int .i64 x.f5, v6, v7, v8], rfl, rfl, ⟨[.int .i64 x.f1], [.int .i64 x.f2, .int .i64 x.f3, .int .i64 x.f4, .int .i64 x.f5, v6, v7, v8], rfl, rfl, ⟨[.int .i64 x.f2], [.int .i64 x.f3, .int .i64 x.f4, .int .i64 x.f5, v6, v7, v8], rfl, rfl, ⟨[.int .i64 x.f3], [.int .i64 x.f4, .int .i64 x.f5, v6, v7, v8], rfl, rfl, ⟨[.int .i64 x.f4], [.int .i64 x.f5, v6, v7, v8], rfl, rfl, ⟨[.int .i64 x.f5], [v6, v7, v8], rfl, rfl, ⟨[v6], [v7, v8], rfl, ⟨v6, rfl, g6⟩, ⟨[v7], [v8], rfl, ⟨v7, rfl, g7⟩, ⟨v8, rfl, g8⟩⟩⟩⟩⟩⟩⟩⟩⟩
theorem k66_openF {W : World} {ok : Nat → Prop} {x : S66} {cs : List Value} (h : Kd.FK k66 W ok x cs) : ∃ A6 c6 A7 c7 A8 c8, cs = [.int .i64 x.f0, .int .i64 x.f1, .int .i64 x.f2, .int .i64 x.f3, .int .i64 x.f4, .int .i64 x.f5, .slice A6 x.f6.length c6, .slice A7 x.f7.length c7, .slice A8 x.f8.length c8] ∧ x.f6.length ≤ c6 ∧ Kd.F k75 W ok A6 x.f6.length x.f6 ∧ x.f7.length ≤ c7 ∧ Kd.F (Kd.int .i64) W ok A7 x.f7.length x.f7 ∧ x.f8.length ≤ c8 ∧ Kd.F (Kd.int .u64) W ok A8 x.f8.length x.f8 := by
  obtain ⟨A6, c6, A7, c7, A8, c8, rfl, l6, _, l7, _, l8, _⟩ := k66_open (Kd.FK_now h)
  exact ⟨A6, c6, A7, c7, A8, c8, rfl, l6, (fun W' hW => by obtain ⟨A6_, c6_, A7_, c7_, A8_, c8_, he, l6_, g6_, l7_, g7_, l8_, g8_⟩ := k66_open (h W' hW); injection (Option.some.inj (show some (Value.slice A6 x.f6.length c6) = some (Value.slice A6_ x.f6.length c6_) from congrArg (fun l => l[6]?) he)) with ha_ _ _; rw [ha_]; exact g6_), l7, (fun W' hW => by obtain ⟨A6_, c6_, A7_, c7_, A8_, c8_, he, l6_, g6_, l7_, g7_, l8_, g8_⟩ := k66_open (h W' hW); injection (Option.some.inj (show some (Value.slice A7 x.f7.length c7) = some (Value.slice A7_ x.f7.length c7_) from congrArg (fun l => l[7]?) he)) with ha_ _ _; rw [ha_]; exact g7_), l8, (fun W' hW => by obtain ⟨A6_, c6_, A7_, c7_, A8_, c8_, he, l6_, g6_, l7_, g7_, l8_, g8_⟩ := k66_open (h W' hW); injection (Option.some.inj (show some (Value.slice A8 x.f8.length c8) = some (Value.slice A8_ x.f8.length c8_) from congrArg (fun l => l[8]?) he)) with ha_ _ _; rw [ha_]; exact g8_)⟩
theorem k66_mkF (W : World) (ok : Nat → Prop) (x : S66) {A6 : Option Addr} {c6 : Nat} (l6 : x.f6.length ≤ c6) (g6 : Kd.F k75 W ok A6 x.f6.length x.f6) {A7 : Option Addr} {c7 : Nat} (l7 : x.f7.length ≤ c7) (g7 : Kd.F (Kd.int .i64) W ok A7 x.f7.length x.f7) {A8 : Option Addr} {c8 : Nat} (l8 : x.f8.length ≤ c8) (g8 : Kd.F (Kd.int .u64) W ok A8 x.f8.length x.f8) : Kd.FK k66 W ok x [.int .i64 x.f0, .int .i64 x.f1, .int .i64 x.f2, .int .i64 x.f3, .int .i64 x.f4, .int .i64 x.f5, .slice A6 x.f6.length c6, .slice A7 x.f7.length c7, .slice A8 x.f8.length c8] := fun W2 hW => k66_mk W2 x l6 (g6 W2 hW) l7 (g7 W2 hW) l8 (g8 W2 hW)
def rd_T66 (xs : List S66) (i : Int) : S66 := xs.getD i.toNat z66
theorem at_T66 {w : World} {A : Option Addr} {n : Nat} {xs : List S66} (h : Kd.C k66 w A n xs) (i : Int) (h0 : 0 ≤ i) (h1 : i < n) : ∃ ad A6 c6 A7 c7 A8 c8, A = some ad ∧ w.cell? (ad.add (i.toNat * 9)) = some (.int .i64 (rd_T66 xs i).f0) ∧ w.cell? ⟨(ad.add (i.toNat * 9)).block, (ad.add (i.toNat * 9)).off + 1, none⟩ = some (.int .i64 (rd_T66 xs i).f1) ∧ w.cell? ⟨(ad.add (i.toNat * 9)).block, (ad.add (i.toNat * 9)).off + 2, none⟩ = some (.int .i64 (rd_T66 xs i).f2) ∧ w.cell? ⟨(ad.add (i.toNat * 9)).block, (ad.add (i.toNat * 9)).off + 3, none⟩ = some (.int .i64 (rd_T66 xs i).f3) ∧ w.cell? ⟨(ad.add (i.toNat * 9)).block, (ad.add (i.toNat * 9)).off + 4, none⟩ = some (.int .i64 (rd_T66 xs i).f4) ∧ w.cell? ⟨(ad.add (i.toNat * 9)).block, (ad.add (i.toNat * 9)).off + 5, none⟩ = some (.int .i64 (rd_T66 xs i).f5) ∧ w.cell? ⟨(ad.add (i.toNat * 9)).block, (ad.add (i.toNat * 9)).off + 6, none⟩ = some (.slice A6 (rd_T66 xs i).f6.length c6) ∧ w.cell? ⟨(ad.add (i.toNat * 9)).block, (ad.add (i.toNat * 9)).off + 7, none⟩ = some (.slice A7 (rd_T66 xs i).f7.length c7) ∧ w.cell? ⟨(ad.add (i.toNat * 9)).block, (ad.add (i.toNat * 9)).off + 8, none⟩ = some (.slice A8 (rd_T66 xs i).f8.length c8) ∧ (rd_T66 xs i).f6.length ≤ c6 ∧ k75.C w A6 (rd_T66 xs i).f6.length (rd_T66 xs i).f6 ∧ (rd_T66 xs i).f7.length ≤ c7 ∧ (Kd.int .i64).C w A7 (rd_T66 xs i).f7.length (rd_T66 xs i).f7 ∧ (rd_T66 xs i).f8.length ≤ c8 ∧ (Kd.int .u64).C w A8 (rd_T66 xs i).f8.length (rd_T66 xs i).f8 := by
  obtain ⟨ad, c, e, _, hK, hc0⟩ := Kd.C_get h z66 i h0 h1
  have hc : ∀ j u, c[j]? = some u → w.cell? (ad.add (i.toNat * 9 + j)) = some u := hc0
  obtain ⟨A6, c6, A7, c7, A8, c8, rfl, l6, g6, l7, g7, l8, g8⟩ := k66_open hK
  exact ⟨ad, A6, c6, A7, c7, A8, c8, e, hc 0 _ rfl, by rw [← add_field _ _ 1 (by omega)]; exact hc 1 _ rfl, by rw [← add_field _ _ 2 (by omega)]; exact hc 2 _ rfl, by rw [← add_field _ _ 3 (by omega)]; exact hc 3 _ rfl, by rw [← add_field _ _ 4 (by omega)]; exact hc 4 _ rfl, by rw [← add_field _ _ 5 (by omega)]; exact hc 5 _ rfl, by rw [← add_field _ _ 6 (by omega)]; exact hc 6 _ rfl, by rw [← add_field _ _ 7 (by omega)]; exact hc 7 _ rfl, by rw [← add_field _ _ 8 (by omega)]; exact hc 8 _ rfl, l6, g6, l7, g7, l8, g8⟩

def rd_L12 (xs : List (List S66)) (i : Int) : (List S66) := xs.getD i.toNat ([] : List S66)
theorem at_L12 {w : World} {A : Option Addr} {n : Nat} {xs : List (List S66)} (h : Kd.C (Kd.slice 66 k66) w A n xs) (i : Int) (h0 : 0 ≤ i) (h1 : i < n) : ∃ ad A0 c0, A = some ad ∧ w.cell? (ad.add i.toNat) = some (.slice A0 (rd_L12 xs i).length c0) ∧ (rd_L12 xs i).length ≤ c0 ∧ k66.C w A0 (rd_L12 xs i).length (rd_L12 xs i) := by
  obtain ⟨ad, c, e, _, hK, hc0⟩ := Kd.C_get h ([] : List S66) i h0 h1
  have hc : ∀ j u, c[j]? = some u → w.cell? (ad.add (i.toNat * 1 + j)) = some u := hc0
  obtain ⟨A0, c0, rfl, l0, g0⟩ := hK
  exact ⟨ad, A0, c0, e, by have hq := hc 0 _ rfl; rwa [Nat.mul_one, Nat.add_zero] at hq, l0, g0⟩

/-! #### struct type 62 -/
structure S62 where
  f0 : (List S66)
def z62 : S62 := ⟨([] : List S66)⟩
def k62 : Kd S62 := Kd.iso (Kd.slice 66 k66) (fun x : S62 => x.f0)
theorem k62_heap : Kd.Heap k62 := Kd.heap_iso _ (Kd.heap_slice 66 k66_heap)
theorem k62_open {w : World} {x : S62} {cs : List Value} (h : k62.K w x cs) : ∃ A0 c0, cs = [.slice A0 x.f0.length c0] ∧ x.f0.length ≤ c0 ∧ k66.C w A0 x.f0.length x.f0 := by
  obtain ⟨A0, c0, rfl, l0, g0⟩ := h
  exact ⟨A0, c0, rfl, l0, g0⟩
theorem k62_openM {w : World} {base : Nat} {ok : Nat → Prop} {x : S62} {cs : List Value} (h : k62.M w base ok x cs) : ∃ v0, cs = [v0] ∧ k66.R 66 w base ok v0 x.f0 := by
  obtain ⟨v0, rfl, g0⟩ := h
  exact ⟨v0, rfl, g0⟩
theorem k62_mk (w : World) (x : S62) {A0 : Option Addr} {c0 : Nat} (l0 : x.f0.length ≤ c0) (g0 : k66.C w A0 x.f0.length x.f0) : k62.K w x [.slice A0 x.f0.length c0] := ⟨A0, c0, rfl, l0, g0⟩
theorem k62_mkM (w : World) (base : Nat) (ok : Nat → Prop) (x : S62) {v0 : Value} (g0 : k66.R 66 w base ok v0 x.f0) : k62.M w base ok x [v0] := ⟨v0, rfl, g0⟩
theorem k62_openF {W : World} {ok : Nat → Prop} {x : S62} {cs : List Value} (h : Kd.FK k62 W ok x cs) : ∃ A0 c0, cs = [.slice A0 x.f0.length c0] ∧ x.f0.length ≤ c0 ∧ Kd.F k66 W ok A0 x.f0.length x.f0 := by
  obtain ⟨A0, c0, rfl, l0, _⟩ := k62_open (Kd.FK_now h)
  exact ⟨A0, c0, rfl, l0, (fun W' hW => by obtain ⟨A0_, c0_, he, l0_, g0_⟩ := k62_open (h W' hW); injection (Option.some.inj (show some (Value.slice A0 x.f0.length c0) = some (Value.slice A0_ x.f0.length c0_) from congrArg (fun l => l[0]?) he)) with ha_ _ _; rw [ha_]; exact g0_)⟩
theorem k62_mkF (W : World) (ok : Nat → Prop) (x : S62) {A0 : Option Addr} {c0 : Nat} (l0 : x.f0.length ≤ c0) (g0 : Kd.F k66 W ok A0 x.f0.length x.f0) : Kd.FK k62 W ok x [.slice A0 x.f0.length c0] := fun W2 hW => k62_mk W2 x l0 (g0 W2 hW)
def rd_T62 (xs : List S62) (i : Int) : S62 := xs.getD i.toNat z62
theorem at_T62 {w : World} {A : Option Addr} {n : Nat} {xs : List S62} (h : Kd.C k62 w A n xs) (i : Int) (h0 : 0 ≤ i) (h1 : i < n) : ∃ ad A0 c0, A = some ad ∧ w.cell? (ad.add i.toNat) = some (.slice A0 (rd_T62 xs i).f0.length c0) ∧ (rd_T62 xs i).f0.length ≤ c0 ∧ k66.C w A0 (rd_T62 xs i).f0.length (rd_T62 xs i).f0 := by
  obtain ⟨ad, c, e, _, hK, hc0⟩ := Kd.C_get h z62 i h0 h1
  have hc : ∀ j u, c[j]? = some u → w.cell? (ad.add (i.toNat * 1 + j)) = some u := hc0
  obtain ⟨A0, c0, rfl, l0, g0⟩ := k62_open hK
  exact ⟨ad, A0, c0, e, by have hq := hc 0 _ rfl; rwa [Nat.mul_one, Nat.add_zero] at hq, l0, g0⟩

def rd_L15 (xs : List (List S62)) (i : Int) : (List S62) := xs.getD i.toNat ([] : List S62)
theorem at_L15 {w : World} {A : Option Addr} {n : Nat} {xs : List (List S62)} (h : Kd.C (Kd.slice 62 k62) w A n xs) (i : Int) (h0 : 0 ≤ i) (h1 : i < n) : ∃ ad A0 c0, A = some ad ∧ w.cell? (ad.add i.toNat) = some (.slice A0 (rd_L15 xs i).length c0) ∧ (rd_L15 xs i).length ≤ c0 ∧ k62.C w A0 (rd_L15 xs i).length (rd_L15 xs i) := by
  obtain ⟨ad, c, e, _, hK, hc0⟩ := Kd.C_get h ([] : List S62) i h0 h1
  have hc : ∀ j u, c[j]? = some u → w.cell? (ad.add (i.toNat * 1 + j)) = some u := hc0
  obtain ⟨A0, c0, rfl, l0, g0⟩ := hK
  exact ⟨ad, A0, c0, e, by have hq := hc 0 _ rfl; rwa [Nat.mul_one, Nat.add_zero] at hq, l0, g0⟩

def rd_L16 (xs : List (List (List Int))) (i : Int) : (List (List Int)) := xs.getD i.toNat ([] : List (List Int))
theorem at_L16 {w : World} {A : Option Addr} {n : Nat} {xs : List (List (List Int))} (h : Kd.C (Kd.slice 22 (Kd.slice 2 (Kd.int .i64))) w A n xs) (i : Int) (h0 : 0 ≤ i) (h1 : i < n) : ∃ ad A0 c0, A = some ad ∧ w.cell? (ad.add i.toNat) = some (.slice A0 (rd_L16 xs i).length c0) ∧ (rd_L16 xs i).length ≤ c0 ∧ (Kd.slice 2 (Kd.int .i64)).C w A0 (rd_L16 xs i).length (rd_L16 xs i) := by
  obtain ⟨ad, c, e, _, hK, hc0⟩ := Kd.C_get h ([] : List (List Int)) i h0 h1
  have hc : ∀ j u, c[j]? = some u → w.cell? (ad.add (i.toNat * 1 + j)) = some u := hc0
  obtain ⟨A0, c0, rfl, l0, g0⟩ := hK
  exact ⟨ad, A0, c0, e, by have hq := hc 0 _ rfl; rwa [Nat.mul_one, Nat.add_zero] at hq, l0, g0⟩

def rd_L18 (xs : List (List Bool)) (i : Int) : (List Bool) := xs.getD i.toNat ([] : List Bool)
theorem at_L18 {w : World} {A : Option Addr} {n : Nat} {xs : List (List Bool)} (h : Kd.C (Kd.slice 4 Kd.bool) w A n xs) (i : Int) (h0 : 0 ≤ i) (h1 : i < n) : ∃ ad A0 c0, A = some ad ∧ w.cell? (ad.add i.toNat) = some (.slice A0 (rd_L18 xs i).length c0) ∧ (rd_L18 xs i).length ≤ c0 ∧ Kd.bool.C w A0 (rd_L18 xs i).length (rd_L18 xs i) := by
  obtain ⟨ad, c, e, _, hK, hc0⟩ := Kd.C_get h ([] : List Bool) i h0 h1
  have hc : ∀ j u, c[j]? = some u → w.cell? (ad.add (i.toNat * 1 + j)) = some u := hc0
  obtain ⟨A0, c0, rfl, l0, g0⟩ := hK
  exact ⟨ad, A0, c0, e, by have hq := hc 0 _ rfl; rwa [Nat.mul_one, Nat.add_zero] at hq, l0, g0⟩

/-! #### struct type 86 -/
structure S86 where
  f0 : Int
  f1 : (List Int)
def z86 : S86 := ⟨(0 : Int), ([] : List Int)⟩
def k86 : Kd S86 := Kd.iso (Kd.pair (Kd.int .i64) (Kd.slice 2 (Kd.int .i64))) (fun x : S86 => (x.f0, x.f1))
theorem k86_heap : Kd.Heap k86 := Kd.heap_iso _ (Kd.heap_pair (Kd.heap_int .i64) (Kd.heap_slice 2 (Kd.heap_int .i64)))
theorem k86_open {w : World} {x : S86} {cs : List Value} (h : k86.K w x cs) : ∃ A1 c1, cs = [.int .i64 x.f0, .slice A1 x.f1.length c1] ∧ x.f1.length ≤ c1 ∧ (Kd.int .i64).C w A1 x.f1.length x.f1 := by
  obtain ⟨_, _, rfl, rfl, ⟨A1, c1, rfl, l1, g1⟩⟩ := h
  exact ⟨A1, c1, rfl, l1, g1⟩
theorem k86_openM {w : World} {base : Nat} {ok : Nat → Prop} {x : S86} {cs : List Value} (h : k86.M w base ok x cs) : ∃ v1, cs = [.int .i64 x.f0, v1] ∧ (Kd.int .i64).R 2 w base ok v1 x.f1 := by
  obtain ⟨_, _, rfl, rfl, ⟨v1, rfl, g1⟩⟩ := h
  exact ⟨v1, rfl, g1⟩
theorem k86_mk (w : World) (x : S86) {A1 : Option Addr} {c1 : Nat} (l1 : x.f1.length ≤ c1) (g1 : (Kd.int .i64).C w A1 x.f1.length x.f1) : k86.K w x [.int .i64 x.f0, .slice A1 x.f1.length c1] := ⟨[.int .i64 x.f0], [.slice A1 x.f1.length c1], rfl, rfl, ⟨A1, c1, rfl, l1, g1⟩⟩
theorem k86_mkM (w : World) (base : Nat) (ok : Nat → Prop) (x : S86) {v1 : Value} (g1 : (Kd.int .i64).R 2 w base ok v1 x.f1) : k86.M w base ok x [.int .i64 x.f0, v1] := ⟨[.int .i64 x.f0], [v1], rfl, rfl, ⟨v1, rfl, g1⟩⟩
theorem k86_openF {W : World} {ok : Nat → Prop} {x : S86} {cs : List Value} (h : Kd.FK k86 W ok x cs) : ∃ A1 c1, cs = [.int .i64 x.f0, .slice A1 x.f1.length c1] ∧ x.f1.length ≤ c1 ∧ Kd.F (Kd.int .i64) W ok A1 x.f1.length x.f1 := by
  obtain ⟨A1, c1, rfl, l1, _⟩ := k86_open (Kd.FK_now h)
  exact ⟨A1, c1, rfl, l1, (fun W' hW => by obtain ⟨A1_, c1_, he, l1_, g1_⟩ := k86_open (h W' hW); injection (Option.some.inj (show some (Value.slice A1 x.f1.length c1) = some (Value.slice A1_ x.f1.length c1_) from congrArg (fun l => l[1]?) he)) with ha_ _ _; rw [ha_]; exact g1_)⟩
theorem k86_mkF (W : World) (ok : Nat → Prop) (x : S86) {A1 : Option Addr} {c1 : Nat} (l1 : x.f1.length ≤ c1) (g1 : Kd.F (Kd.int .i64) W ok A1 x.f1.length x.f1) : Kd.FK k86 W ok x [.int .i64 x.f0, .slice A1 x.f1.length c1] := fun W2 hW => k86_mk W2 x l1 (g1 W2 hW)
def rd_T86 (xs : List S86) (i : Int) : S86 := xs.getD i.toNat z86
theorem at_T86 {w : World} {A : Option Addr} {n : Nat} {xs : List S86} (h : Kd.C k86 w A n xs) (i : Int) (h0 : 0 ≤ i) (h1 : i < n) : ∃ ad A1 c1, A = some ad ∧ w.cell? (ad.add (i.toNat * 2)) = some (.int .i64 (rd_T86 xs i).f0) ∧ w.cell? ⟨(ad.add (i.toNat * 2)).block, (ad.add (i.toNat * 2)).off + 1, none⟩ = some (.slice A1 (rd_T86 xs i).f1.length c1) ∧ (rd_T86 xs i).f1.length ≤ c1 ∧ (Kd.int .i64).C w A1 (rd_T86 xs i).f1.length (rd_T86 xs i).f1 := by
  obtain ⟨ad, c, e, _, hK, hc0⟩ := Kd.C_get h z86 i h0 h1
  have hc : ∀ j u, c[j]? = some u → w.cell? (ad.add (i.toNat * 2 + j)) = some u := hc0
  obtain ⟨A1, c1, rfl, l1, g1⟩ := k86_open hK
  exact ⟨ad, A1, c1, e, hc 0 _ rfl, by rw [← add_field _ _ 1 (by omega)]; exact hc 1 _ rfl, l1, g1⟩

def rd_L20 (xs : List (List S86)) (i : Int) : (List S86) := xs.getD i.toNat ([] : List S86)
theorem at_L20 {w : World} {A : Option Addr} {n : Nat} {xs : List (List S86)} (h : Kd.C (Kd.slice 86 k86) w A n xs) (i : Int) (h0 : 0 ≤ i) (h1 : i < n) : ∃ ad A0 c0, A = some ad ∧ w.cell? (ad.add i.toNat) = some (.slice A0 (rd_L20 xs i).length c0) ∧ (rd_L20 xs i).length ≤ c0 ∧ k86.C w A0 (rd_L20 xs i).length (rd_L20 xs i) := by
  obtain ⟨ad, c, e, _, hK, hc0⟩ := Kd.C_get h ([] : List S86) i h0 h1
  have hc : ∀ j u, c[j]? = some u → w.cell? (ad.add (i.toNat * 1 + j)) = some u := hc0
  obtain ⟨A0, c0, rfl, l0, g0⟩ := hK
  exact ⟨ad, A0, c0, e, by have hq := hc 0 _ rfl; rwa [Nat.mul_one, Nat.add_zero] at hq, l0, g0⟩

/-! #### struct type 72 -/
structure S72 where
  f0 : Int
  f1 : Int
def z72 : S72 := ⟨(0 : Int), (0 : Int)⟩
def k72 : Kd S72 := Kd.iso (Kd.pair (Kd.int .i64) (Kd.int .i64)) (fun x : S72 => (x.f0, x.f1))
theorem k72_heap : Kd.Heap k72 := Kd.heap_iso _ (Kd.heap_pair (Kd.heap_int .i64) (Kd.heap_int .i64))
theorem k72_open {w : World} {x : S72} {cs : List Value} (h : k72.K w x cs) : cs = [.int .i64 x.f0, .int .i64 x.f1] := by
  obtain ⟨_, _, rfl, rfl, rfl⟩ := h
  exact rfl
theorem k72_openM {w : World} {base : Nat} {ok : Nat → Prop} {x : S72} {cs : List Value} (h : k72.M w base ok x cs) : cs = [.int .i64 x.f0, .int .i64 x.f1] := by
  obtain ⟨_, _, rfl, rfl, rfl⟩ := h
  exact rfl
theorem k72_mk (w : World) (x : S72)  : k72.K w x [.int .i64 x.f0, .int .i64 x.f1] := ⟨[.int .i64 x.f0], [.int .i64 x.f1], rfl, rfl, rfl⟩
theorem k72_mkM (w : World) (base : Nat) (ok : Nat → Prop) (x : S72)  : k72.M w base ok x [.int .i64 x.f0, .int .i64 x.f1] := ⟨[.int .i64 x.f0], [.int .i64 x.f1], rfl, rfl, rfl⟩
theorem k72_mkF (W : World) (ok : Nat → Prop) (x : S72) : Kd.FK k72 W ok x [.int .i64 x.f0, .int .i64 x.f1] := fun W2 _ => k72_mk W2 x
def rd_T72 (xs : List S72) (i : Int) : S72 := xs.getD i.toNat z72
theorem at_T72 {w : World} {A : Option Addr} {n : Nat} {xs : List S72} (h : Kd.C k72 w A n xs) (i : Int) (h0 : 0 ≤ i) (h1 : i < n) : ∃ ad , A = some ad ∧ w.cell? (ad.add (i.toNat * 2)) = some (.int .i64 (rd_T72 xs i).f0) ∧ w.cell? ⟨(ad.add (i.toNat * 2)).block, (ad.add (i.toNat * 2)).off + 1, none⟩ = some (.int .i64 (rd_T72 xs i).f1) := by
  obtain ⟨ad, c, e, _, hK, hc0⟩ := Kd.C_get h z72 i h0 h1
  have hc : ∀ j u, c[j]? = some u → w.cell? (ad.add (i.toNat * 2 + j)) = some u := hc0
  obtain rfl := k72_open hK
  exact ⟨ad, e, hc 0 _ rfl, by rw [← add_field _ _ 1 (by omega)]; exact hc 1 _ rfl⟩

end Go.Proofs.Ytoedcnhgobbnfaa.All

namespace Go.Proofs.Ytoedcnhgobbnfaa.All
open Go.RowKit Go.Proofs.YtoedcnhgobbnfaaW.PrintWords Go.Proofs.YtoedcnhgobbnfaaW.PrintLast Go.Proofs.YtoedcnhgobbnfaaW.PrintMore
attribute [local go_sem] max2_int min2_int max_two min_two max_three min_three max_four min_four   -- for this text's walks alone
set_option linter.unusedVariables false
set_option linter.unusedSimpArgs false

/-! ### laws_szInt64S: function 43 -/
def laws_szInt64S.f (l0 : List Int) (a1 : Int) : Option (Int) := if (wrap64 (a1 - (l0.length : Int))) < 0 then (some (-1)) else (some (wrap64 (a1 - (l0.length : Int))))
set_option maxHeartbeats 8000000 in
set_option maxRecDepth 100000 in
theorem laws_szInt64S.calls (A0 : Option Addr) (c0 : Nat) (l0 : List Int) (a1 : Int) (r : Int) (w : World) (hr0 : Kd.C (Kd.int .i64) w A0 l0.length l0) (hc0 : l0.length ≤ c0) (h : laws_szInt64S.f l0 a1 = some r) :
    Calls Try.prog 43 #[.slice A0 l0.length c0, .int .i64 a1] w fun e w' => e = .returned (.int .i64 r) ∧ Drawn0 w w' := by
  have HR0 := Aside0.mk hr0
  have HC0 := Aside0.mk hc0
  clear hr0 hc0
  have H : (if (wrap64 (a1 - (l0.length : Int))) < 0 then (some (-1)) else (some (wrap64 (a1 - (l0.length : Int))))) = some r := h
  clear h
  by_cases c3 : (wrap64 (a1 - (l0.length : Int))) < 0
  · rw [if_pos c3] at H
    have c3b0 : decide ((wrap64 (a1 - (l0.length : Int))) < 0) = true := decide_eq_true c3
    clear c3
    obtain rfl := Option.some.inj H
    go_enter Try.func43, Try.ntmps43
    go_wp2
    go_ret
    exact ⟨by first | rfl | (simp; done) | (simp [*]; done), by repeat (first | exact Drawn0.refl _ | apply Drawn0.step)⟩
  · rw [if_neg c3] at H
    have c3b0 : decide ((wrap64 (a1 - (l0.length : Int))) < 0) = false := decide_eq_false c3
    clear c3
    obtain rfl := Option.some.inj H
    go_enter Try.func43, Try.ntmps43
    go_wp2
    go_ret
    exact ⟨by first | rfl | (simp; done) | (simp [*]; done), by repeat (first | exact Drawn0.refl _ | apply Drawn0.step)⟩

end Go.Proofs.Ytoedcnhgobbnfaa.All

namespace Go.Proofs.Ytoedcnhgobbnfaa.All
open Go.RowKit Go.Proofs.YtoedcnhgobbnfaaW.PrintWords Go.Proofs.YtoedcnhgobbnfaaW.PrintLast Go.Proofs.YtoedcnhgobbnfaaW.PrintMore
attribute [local go_sem] max2_int min2_int max_two min_two max_three min_three max_four min_four   -- for this text's walks alone
set_option linter.unusedVariables false
set_option linter.unusedSimpArgs false

/-! ### laws_szOperandS: function 116 -/
def laws_szOperandS.f (l0 : List (S158)) (a1 : Int) : Option (Int) := if (wrap64 (a1 - (l0.length : Int))) < 0 then (some (-1)) else (some (wrap64 (a1 - (l0.length : Int))))
set_option maxHeartbeats 8000000 in
set_option maxRecDepth 100000 in
theorem laws_szOperandS.calls (A0 : Option Addr) (c0 : Nat) (l0 : List (S158)) (a1 : Int) (r : Int) (w : World) (hr0 : Kd.C k158 w A0 l0.length l0) (hc0 : l0.length ≤ c0) (h : laws_szOperandS.f l0 a1 = some r) :
    Calls Try.prog 116 #[.slice A0 l0.length c0, .int .i64 a1] w fun e w' => e = .returned (.int .i64 r) ∧ Drawn0 w w' := by
  have HR0 := Aside0.mk hr0
  have HC0 := Aside0.mk hc0
  clear hr0 hc0
  have H : (if (wrap64 (a1 - (l0.length : Int))) < 0 then (some (-1)) else (some (wrap64 (a1 - (l0.length : Int))))) = some r := h
  clear h
  by_cases c3 : (wrap64 (a1 - (l0.length : Int))) < 0
  · rw [if_pos c3] at H
    have c3b0 : decide ((wrap64 (a1 - (l0.length : Int))) < 0) = true := decide_eq_true c3
    clear c3
    obtain rfl := Option.some.inj H
    go_enter Try.func116, Try.ntmps116
    go_wp2
    go_ret
    exact ⟨by first | rfl | (simp; done) | (simp [*]; done), by repeat (first | exact Drawn0.refl _ | apply Drawn0.step)⟩
  · rw [if_neg c3] at H
    have c3b0 : decide ((wrap64 (a1 - (l0.length : Int))) < 0) = false := decide_eq_false c3
    clear c3
    obtain rfl := Option.some.inj H
    go_enter Try.func116, Try.ntmps116
    go_wp2
    go_ret
    exact ⟨by first | rfl | (simp; done) | (simp [*]; done), by repeat (first | exact Drawn0.refl _ | apply Drawn0.step)⟩

end Go.Proofs.Ytoedcnhgobbnfaa.All

namespace Go.Proofs.Ytoedcnhgobbnfaa.All
open Go.RowKit Go.Proofs.YtoedcnhgobbnfaaW.PrintWords Go.Proofs.YtoedcnhgobbnfaaW.PrintLast Go.Proofs.YtoedcnhgobbnfaaW.PrintMore
attribute [local go_sem] max2_int min2_int max_two min_two max_three min_three max_four min_four   -- for this text's walks alone
set_option linter.unusedVariables false
set_option linter.unusedSimpArgs false

/-! ### laws_szUint64S: function 117 -/
def laws_szUint64S.f (l0 : List Int) (a1 : Int) : Option (Int) := if (wrap64 (a1 - (l0.length : Int))) < 0 then (some (-1)) else (some (wrap64 (a1 - (l0.length : Int))))
set_option maxHeartbeats 8000000 in
set_option maxRecDepth 100000 in
theorem laws_szUint64S.calls (A0 : Option Addr) (c0 : Nat) (l0 : List Int) (a1 : Int) (r : Int) (w : World) (hr0 : Kd.C (Kd.int .u64) w A0 l0.length l0) (hc0 : l0.length ≤ c0) (h : laws_szUint64S.f l0 a1 = some r) :
    Calls Try.prog 117 #[.slice A0 l0.length c0, .int .i64 a1] w fun e w' => e = .returned (.int .i64 r) ∧ Drawn0 w w' := by
  have HR0 := Aside0.mk hr0
  have HC0 := Aside0.mk hc0
  clear hr0 hc0
  have H : (if (wrap64 (a1 - (l0.length : Int))) < 0 then (some (-1)) else (some (wrap64 (a1 - (l0.length : Int))))) = some r := h
  clear h
  by_cases c3 : (wrap64 (a1 - (l0.length : Int))) < 0
  · rw [if_pos c3] at H
    have c3b0 : decide ((wrap64 (a1 - (l0.length : Int))) < 0) = true := decide_eq_true c3
    clear c3
    obtain rfl := Option.some.inj H
    go_enter Try.func117, Try.ntmps117
    go_wp2
    go_ret
    exact ⟨by first | rfl | (simp; done) | (simp [*]; done), by repeat (first | exact Drawn0.refl _ | apply Drawn0.step)⟩
  · rw [if_neg c3] at H
    have c3b0 : decide ((wrap64 (a1 - (l0.length : Int))) < 0) = false := decide_eq_false c3
    clear c3
    obtain rfl := Option.some.inj H
    go_enter Try.func117, Try.ntmps117
    go_wp2
    go_ret
    exact ⟨by first | rfl | (simp; done) | (simp [*]; done), by repeat (first | exact Drawn0.refl _ | apply Drawn0.step)⟩

end Go.Proofs.Ytoedcnhgobbnfaa.All

namespace Go.Proofs.Ytoedcnhgobbnfaa.All
open Go.RowKit Go.Proofs.YtoedcnhgobbnfaaW.PrintWords Go.Proofs.YtoedcnhgobbnfaaW.PrintLast Go.Proofs.YtoedcnhgobbnfaaW.PrintMore
attribute [local go_sem] max2_int min2_int max_two min_two max_three min_three max_four min_four   -- for this text's walks alone
set_option linter.unusedVariables false
set_option linter.unusedSimpArgs false

/-! ### laws_szInstr: function 107 -/
def laws_szInstr.f (a0_0 : Int) (a0_1 : Int) (a0_2 : Int) (a0_3 : Int) (a0_4 : Int) (a0_5 : Int) (l0_6 : List (S158)) (l0_7 : List Int) (l0_8 : List Int) (a1 : Int) : Option (Int) := (laws_szOperandS.f l0_6 a1).bind fun t102 => (if t102 < 0 then (some (-1)) else ((laws_szInt64S.f l0_7 t102).bind fun t103 => (if t103 < 0 then (some (-1)) else ((laws_szUint64S.f l0_8 t103).bind fun t104 => (if t104 < 0 then (some (-1)) else (some t104))))))
set_option maxHeartbeats 8000000 in
set_option maxRecDepth 100000 in
theorem laws_szInstr.calls (a0_0 : Int) (a0_1 : Int) (a0_2 : Int) (a0_3 : Int) (a0_4 : Int) (a0_5 : Int) (A0_6 : Option Addr) (c0_6 : Nat) (l0_6 : List (S158)) (A0_7 : Option Addr) (c0_7 : Nat) (l0_7 : List Int) (A0_8 : Option Addr) (c0_8 : Nat) (l0_8 : List Int) (a1 : Int) (r : Int) (w : World) (hr0_6 : Kd.C k158 w A0_6 l0_6.length l0_6) (hc0_6 : l0_6.length ≤ c0_6) (hr0_7 : Kd.C (Kd.int .i64) w A0_7 l0_7.length l0_7) (hc0_7 : l0_7.length ≤ c0_7) (hr0_8 : Kd.C (Kd.int .u64) w A0_8 l0_8.length l0_8) (hc0_8 : l0_8.length ≤ c0_8) (h : laws_szInstr.f a0_0 a0_1 a0_2 a0_3 a0_4 a0_5 l0_6 l0_7 l0_8 a1 = some r) :
    Calls Try.prog 107 #[.agg #[.int .i64 a0_0, .int .i64 a0_1, .int .i64 a0_2, .int .i64 a0_3, .int .i64 a0_4, .int .i64 a0_5, .slice A0_6 l0_6.length c0_6, .slice A0_7 l0_7.length c0_7, .slice A0_8 l0_8.length c0_8], .int .i64 a1] w fun e w' => e = .returned (.int .i64 r) ∧ Below w.heap.size w w' := by
  have hu140 := Try.underlying140
  have HR0_6 := Aside0.mk hr0_6
  have HC0_6 := Aside0.mk hc0_6
  clear hr0_6 hc0_6
  have HR0_7 := Aside0.mk hr0_7
  have HC0_7 := Aside0.mk hc0_7
  clear hr0_7 hc0_7
  have HR0_8 := Aside0.mk hr0_8
  have HC0_8 := Aside0.mk hc0_8
  clear hr0_8 hc0_8
  have HB := Aside0.mk (Below.refl w.heap.size w)
  have H : ((laws_szOperandS.f l0_6 a1).bind fun t102 => (if t102 < 0 then (some (-1)) else ((laws_szInt64S.f l0_7 t102).bind fun t103 => (if t103 < 0 then (some (-1)) else ((laws_szUint64S.f l0_8 t103).bind fun t104 => (if t104 < 0 then (some (-1)) else (some t104))))))) = some r := h
  clear h
  replace H := Option.bind_eq_some_iff.mp H
  obtain ⟨t102, A30, H⟩ := H
  replace H : (if t102 < 0 then (some (-1)) else ((laws_szInt64S.f l0_7 t102).bind fun t103 => (if t103 < 0 then (some (-1)) else ((laws_szUint64S.f l0_8 t103).bind fun t104 => (if t104 < 0 then (some (-1)) else (some t104)))))) = some r := H
  have A3 := Aside0.mk A30
  clear A30
  by_cases c4 : t102 < 0
  · rw [if_pos c4] at H
    have c4b0 : decide (t102 < 0) = true := decide_eq_true c4
    clear c4
    obtain rfl := Option.some.inj H
    go_enter Try.func107, Try.ntmps107
    go_wp2_with (first | ((with_reducible refine gate_dst (N := 2) rfl ?_); refine box_event ?hg (N := 2) ?hd (cs := #[.int .i64 a0_0, .int .i64 a0_1, .int .i64 a0_2, .int .i64 a0_3, .int .i64 a0_4, .int .i64 a0_5, .slice A0_6 l0_6.length c0_6, .slice A0_7 l0_7.length c0_7, .slice A0_8 l0_8.length c0_8]) (t := 140) ?hr ?_; (case hd => rfl); (case hg => rfl); (case hr => first | (go_simp; done) | (go_simp; rfl)); intro gb101 hg w5 hbox hb; have n0_ := Aside0.mk (below_step (by repeat (first | (with_reducible first | exact HB.out | apply below_alloc | apply pw_below_drewN | apply below_drew1) | exact HB.out)) hb); have n1_ := Aside0.mk (hbox); have n2_ := Aside0.mk ((by rw [hg]; exact (below_size (by repeat (first | (with_reducible first | exact HB.out | apply below_alloc | apply pw_below_drewN | apply below_drew1) | exact HB.out))) : w.heap.size ≤ gb101)); have n3_ := Aside0.mk ((by rw [hg]; exact (below_size (by repeat (first | (with_reducible first | exact HB.out | apply below_alloc | apply pw_below_drewN | apply below_drew1) | exact HB.out))) : w.heap.size ≤ gb101)); clear HB; have HB := n0_; have BK101 := n1_; have GW101 := n2_; have GE101 := n3_; clear n0_ n1_ n2_ n3_; clear hb hbox hg; have hcz6_0 : w5.cell? ⟨gb101, 0, none⟩ = some (.int .i64 a0_0) := (blk_cell BK101.out 0).trans rfl; have hcz6_1 : w5.cell? ⟨gb101, 1, none⟩ = some (.int .i64 a0_1) := (blk_cell BK101.out 1).trans rfl; have hcz6_2 : w5.cell? ⟨gb101, 2, none⟩ = some (.int .i64 a0_2) := (blk_cell BK101.out 2).trans rfl; have hcz6_3 : w5.cell? ⟨gb101, 3, none⟩ = some (.int .i64 a0_3) := (blk_cell BK101.out 3).trans rfl; have hcz6_4 : w5.cell? ⟨gb101, 4, none⟩ = some (.int .i64 a0_4) := (blk_cell BK101.out 4).trans rfl; have hcz6_5 : w5.cell? ⟨gb101, 5, none⟩ = some (.int .i64 a0_5) := (blk_cell BK101.out 5).trans rfl; have hcz6_6 : w5.cell? ⟨gb101, 6, none⟩ = some (.slice A0_6 l0_6.length c0_6) := (blk_cell BK101.out 6).trans rfl; have hcz6_7 : w5.cell? ⟨gb101, 7, none⟩ = some (.slice A0_7 l0_7.length c0_7) := (blk_cell BK101.out 7).trans rfl; have hcz6_8 : w5.cell? ⟨gb101, 8, none⟩ = some (.slice A0_8 l0_8.length c0_8) := (blk_cell BK101.out 8).trans rfl; have hfz6_0 := blk_frozen BK101.out 0; have hfz6_1 := blk_frozen BK101.out 1; have hfz6_2 := blk_frozen BK101.out 2; have hfz6_3 := blk_frozen BK101.out 3; have hfz6_4 := blk_frozen BK101.out 4; have hfz6_5 := blk_frozen BK101.out 5; have hfz6_6 := blk_frozen BK101.out 6; have hfz6_7 := blk_frozen BK101.out 7; have hfz6_8 := blk_frozen BK101.out 8) | ((with_reducible refine gate_callee (f := 116) rfl ?_); refine goesL_ (some 8) rfl rfl Try.func116 (by kernel_rfl) rfl #[.slice A0_6 l0_6.length c0_6, .int .i64 a1] rfl (by (try simp only [List.map_toArray, List.map_cons, List.map_nil]); first | done | rfl | (simp only [List.length_drop, List.length_take]; rfl)) ?_; (with_reducible refine (laws_szOperandS.calls _ _ l0_6 a1 t102 _ ?side1 ?side2 A3.out).mono ?_); (case side1 => repeat (first | exact (Kd.C_below HR0_6.out HB.out) | (with_reducible refine Kd.C_alloc ?_ _) | (with_reducible refine Kd.C_drewN ?_ _) | (with_reducible refine Kd.C_drew ?_))); (case side2 => exact HC0_6.out); rintro e w' ⟨rfl, ⟨nd, rfl⟩⟩; refine ⟨_, rfl, ?_⟩))
    go_ret
    exact ⟨by first | rfl | (simp [errW_none, errW_some] <;> rfl) | (simp [*, errW_none, errW_some] <;> rfl), by repeat (first | (with_reducible first | exact HB.out | apply below_alloc | apply pw_below_drewN | apply below_drew1 | refine below_set ?_ GE101.out) | exact HB.out)⟩
  · rw [if_neg c4] at H
    have c4b0 : decide (t102 < 0) = false := decide_eq_false c4
    clear c4
    replace H := Option.bind_eq_some_iff.mp H
    obtain ⟨t103, A70, H⟩ := H
    replace H : (if t103 < 0 then (some (-1)) else ((laws_szUint64S.f l0_8 t103).bind fun t104 => (if t104 < 0 then (some (-1)) else (some t104)))) = some r := H
    have A7 := Aside0.mk A70
    clear A70
    by_cases c8 : t103 < 0
    · rw [if_pos c8] at H
      have c8b0 : decide (t103 < 0) = true := decide_eq_true c8
      clear c8
      obtain rfl := Option.some.inj H
      go_enter Try.func107, Try.ntmps107
      go_wp2_with (first | ((with_reducible refine gate_dst (N := 2) rfl ?_); refine box_event ?hg (N := 2) ?hd (cs := #[.int .i64 a0_0, .int .i64 a0_1, .int .i64 a0_2, .int .i64 a0_3, .int .i64 a0_4, .int .i64 a0_5, .slice A0_6 l0_6.length c0_6, .slice A0_7 l0_7.length c0_7, .slice A0_8 l0_8.length c0_8]) (t := 140) ?hr ?_; (case hd => rfl); (case hg => rfl); (case hr => first | (go_simp; done) | (go_simp; rfl)); intro gb101 hg w9 hbox hb; have n0_ := Aside0.mk (below_step (by repeat (first | (with_reducible first | exact HB.out | apply below_alloc | apply pw_below_drewN | apply below_drew1) | exact HB.out)) hb); have n1_ := Aside0.mk (hbox); have n2_ := Aside0.mk ((by rw [hg]; exact (below_size (by repeat (first | (with_reducible first | exact HB.out | apply below_alloc | apply pw_below_drewN | apply below_drew1) | exact HB.out))) : w.heap.size ≤ gb101)); have n3_ := Aside0.mk ((by rw [hg]; exact (below_size (by repeat (first | (with_reducible first | exact HB.out | apply below_alloc | apply pw_below_drewN | apply below_drew1) | exact HB.out))) : w.heap.size ≤ gb101)); clear HB; have HB := n0_; have BK101 := n1_; have GW101 := n2_; have GE101 := n3_; clear n0_ n1_ n2_ n3_; clear hb hbox hg; have hcz10_0 : w9.cell? ⟨gb101, 0, none⟩ = some (.int .i64 a0_0) := (blk_cell BK101.out 0).trans rfl; have hcz10_1 : w9.cell? ⟨gb101, 1, none⟩ = some (.int .i64 a0_1) := (blk_cell BK101.out 1).trans rfl; have hcz10_2 : w9.cell? ⟨gb101, 2, none⟩ = some (.int .i64 a0_2) := (blk_cell BK101.out 2).trans rfl; have hcz10_3 : w9.cell? ⟨gb101, 3, none⟩ = some (.int .i64 a0_3) := (blk_cell BK101.out 3).trans rfl; have hcz10_4 : w9.cell? ⟨gb101, 4, none⟩ = some (.int .i64 a0_4) := (blk_cell BK101.out 4).trans rfl; have hcz10_5 : w9.cell? ⟨gb101, 5, none⟩ = some (.int .i64 a0_5) := (blk_cell BK101.out 5).trans rfl; have hcz10_6 : w9.cell? ⟨gb101, 6, none⟩ = some (.slice A0_6 l0_6.length c0_6) := (blk_cell BK101.out 6).trans rfl; have hcz10_7 : w9.cell? ⟨gb101, 7, none⟩ = some (.slice A0_7 l0_7.length c0_7) := (blk_cell BK101.out 7).trans rfl; have hcz10_8 : w9.cell? ⟨gb101, 8, none⟩ = some (.slice A0_8 l0_8.length c0_8) := (blk_cell BK101.out 8).trans rfl; have hfz10_0 := blk_frozen BK101.out 0; have hfz10_1 := blk_frozen BK101.out 1; have hfz10_2 := blk_frozen BK101.out 2; have hfz10_3 := blk_frozen BK101.out 3; have hfz10_4 := blk_frozen BK101.out 4; have hfz10_5 := blk_frozen BK101.out 5; have hfz10_6 := blk_frozen BK101.out 6; have hfz10_7 := blk_frozen BK101.out 7; have hfz10_8 := blk_frozen BK101.out 8) | ((with_reducible refine gate_callee (f := 116) rfl ?_); refine goesL_ (some 8) rfl rfl Try.func116 (by kernel_rfl) rfl #[.slice A0_6 l0_6.length c0_6, .int .i64 a1] rfl (by (try simp only [List.map_toArray, List.map_cons, List.map_nil]); first | done | rfl | (simp only [List.length_drop, List.length_take]; rfl)) ?_; (with_reducible refine (laws_szOperandS.calls _ _ l0_6 a1 t102 _ ?side1 ?side2 A3.out).mono ?_); (case side1 => repeat (first | exact (Kd.C_below HR0_6.out HB.out) | (with_reducible refine Kd.C_alloc ?_ _) | (with_reducible refine Kd.C_drewN ?_ _) | (with_reducible refine Kd.C_drew ?_))); (case side2 => exact HC0_6.out); rintro e w' ⟨rfl, ⟨nd, rfl⟩⟩; refine ⟨_, rfl, ?_⟩) | ((with_reducible refine gate_callee (f := 43) rfl ?_); refine goesL_ (some 14) rfl rfl Try.func43 (by kernel_rfl) rfl #[.slice A0_7 l0_7.length c0_7, .int .i64 t102] rfl (by (try simp only [List.map_toArray, List.map_cons, List.map_nil]); first | done | rfl | (simp only [List.length_drop, List.length_take]; rfl)) ?_; (with_reducible refine (laws_szInt64S.calls _ _ l0_7 t102 t103 _ ?side1 ?side2 A7.out).mono ?_); (case side1 => repeat (first | exact (Kd.C_below HR0_7.out (by repeat (first | (with_reducible first | exact HB.out | apply below_alloc | apply pw_below_drewN | apply below_drew1 | refine below_set ?_ GE101.out) | exact HB.out))) | (with_reducible refine Kd.C_alloc ?_ _) | (with_reducible refine Kd.C_drewN ?_ _) | (with_reducible refine Kd.C_drew ?_))); (case side2 => exact HC0_7.out); rintro e w' ⟨rfl, ⟨nd, rfl⟩⟩; refine ⟨_, rfl, ?_⟩))
      go_ret
      exact ⟨by first | rfl | (simp [errW_none, errW_some] <;> rfl) | (simp [*, errW_none, errW_some] <;> rfl), by repeat (first | (with_reducible first | exact HB.out | apply below_alloc | apply pw_below_drewN | apply below_drew1 | refine below_set ?_ GE101.out) | exact HB.out)⟩
    · rw [if_neg c8] at H
      have c8b0 : decide (t103 < 0) = false := decide_eq_false c8
      clear c8
      replace H := Option.bind_eq_some_iff.mp H
      obtain ⟨t104, A110, H⟩ := H
      replace H : (if t104 < 0 then (some (-1)) else (some t104)) = some r := H
      have A11 := Aside0.mk A110
      clear A110
      by_cases c12 : t104 < 0
      · rw [if_pos c12] at H
        have c12b0 : decide (t104 < 0) = true := decide_eq_true c12
        clear c12
        obtain rfl := Option.some.inj H
        go_enter Try.func107, Try.ntmps107
        go_wp2_with (first | ((with_reducible refine gate_dst (N := 2) rfl ?_); refine box_event ?hg (N := 2) ?hd (cs := #[.int .i64 a0_0, .int .i64 a0_1, .int .i64 a0_2, .int .i64 a0_3, .int .i64 a0_4, .int .i64 a0_5, .slice A0_6 l0_6.length c0_6, .slice A0_7 l0_7.length c0_7, .slice A0_8 l0_8.length c0_8]) (t := 140) ?hr ?_; (case hd => rfl); (case hg => rfl); (case hr => first | (go_simp; done) | (go_simp; rfl)); intro gb101 hg w13 hbox hb; have n0_ := Aside0.mk (below_step (by repeat (first | (with_reducible first | exact HB.out | apply below_alloc | apply pw_below_drewN | apply below_drew1) | exact HB.out)) hb); have n1_ := Aside0.mk (hbox); have n2_ := Aside0.mk ((by rw [hg]; exact (below_size (by repeat (first | (with_reducible first | exact HB.out | apply below_alloc | apply pw_below_drewN | apply below_drew1) | exact HB.out))) : w.heap.size ≤ gb101)); have n3_ := Aside0.mk ((by rw [hg]; exact (below_size (by repeat (first | (with_reducible first | exact HB.out | apply below_alloc | apply pw_below_drewN | apply below_drew1) | exact HB.out))) : w.heap.size ≤ gb101)); clear HB; have HB := n0_; have BK101 := n1_; have GW101 := n2_; have GE101 := n3_; clear n0_ n1_ n2_ n3_; clear hb hbox hg; have hcz14_0 : w13.cell? ⟨gb101, 0, none⟩ = some (.int .i64 a0_0) := (blk_cell BK101.out 0).trans rfl; have hcz14_1 : w13.cell? ⟨gb101, 1, none⟩ = some (.int .i64 a0_1) := (blk_cell BK101.out 1).trans rfl; have hcz14_2 : w13.cell? ⟨gb101, 2, none⟩ = some (.int .i64 a0_2) := (blk_cell BK101.out 2).trans rfl; have hcz14_3 : w13.cell? ⟨gb101, 3, none⟩ = some (.int .i64 a0_3) := (blk_cell BK101.out 3).trans rfl; have hcz14_4 : w13.cell? ⟨gb101, 4, none⟩ = some (.int .i64 a0_4) := (blk_cell BK101.out 4).trans rfl; have hcz14_5 : w13.cell? ⟨gb101, 5, none⟩ = some (.int .i64 a0_5) := (blk_cell BK101.out 5).trans rfl; have hcz14_6 : w13.cell? ⟨gb101, 6, none⟩ = some (.slice A0_6 l0_6.length c0_6) := (blk_cell BK101.out 6).trans rfl; have hcz14_7 : w13.cell? ⟨gb101, 7, none⟩ = some (.slice A0_7 l0_7.length c0_7) := (blk_cell BK101.out 7).trans rfl; have hcz14_8 : w13.cell? ⟨gb101, 8, none⟩ = some (.slice A0_8 l0_8.length c0_8) := (blk_cell BK101.out 8).trans rfl; have hfz14_0 := blk_frozen BK101.out 0; have hfz14_1 := blk_frozen BK101.out 1; have hfz14_2 := blk_frozen BK101.out 2; have hfz14_3 := blk_frozen BK101.out 3; have hfz14_4 := blk_frozen BK101.out 4; have hfz14_5 := blk_frozen BK101.out 5; have hfz14_6 := blk_frozen BK101.out 6; have hfz14_7 := blk_frozen BK101.out 7; have hfz14_8 := blk_frozen BK101.out 8) | ((with_reducible refine gate_callee (f := 116) rfl ?_); refine goesL_ (some 8) rfl rfl Try.func116 (by kernel_rfl) rfl #[.slice A0_6 l0_6.length c0_6, .int .i64 a1] rfl (by (try simp only [List.map_toArray, List.map_cons, List.map_nil]); first | done | rfl | (simp only [List.length_drop, List.length_take]; rfl)) ?_; (with_reducible refine (laws_szOperandS.calls _ _ l0_6 a1 t102 _ ?side1 ?side2 A3.out).mono ?_); (case side1 => repeat (first | exact (Kd.C_below HR0_6.out HB.out) | (with_reducible refine Kd.C_alloc ?_ _) | (with_reducible refine Kd.C_drewN ?_ _) | (with_reducible refine Kd.C_drew ?_))); (case side2 => exact HC0_6.out); rintro e w' ⟨rfl, ⟨nd, rfl⟩⟩; refine ⟨_, rfl, ?_⟩) | ((with_reducible refine gate_callee (f := 43) rfl ?_); refine goesL_ (some 14) rfl rfl Try.func43 (by kernel_rfl) rfl #[.slice A0_7 l0_7.length c0_7, .int .i64 t102] rfl (by (try simp only [List.map_toArray, List.map_cons, List.map_nil]); first | done | rfl | (simp only [List.length_drop, List.length_take]; rfl)) ?_; (with_reducible refine (laws_szInt64S.calls _ _ l0_7 t102 t103 _ ?side1 ?side2 A7.out).mono ?_); (case side1 => repeat (first | exact (Kd.C_below HR0_7.out (by repeat (first | (with_reducible first | exact HB.out | apply below_alloc | apply pw_below_drewN | apply below_drew1 | refine below_set ?_ GE101.out) | exact HB.out))) | (with_reducible refine Kd.C_alloc ?_ _) | (with_reducible refine Kd.C_drewN ?_ _) | (with_reducible refine Kd.C_drew ?_))); (case side2 => exact HC0_7.out); rintro e w' ⟨rfl, ⟨nd, rfl⟩⟩; refine ⟨_, rfl, ?_⟩) | ((with_reducible refine gate_callee (f := 117) rfl ?_); refine goesL_ (some 20) rfl rfl Try.func117 (by kernel_rfl) rfl #[.slice A0_8 l0_8.length c0_8, .int .i64 t103] rfl (by (try simp only [List.map_toArray, List.map_cons, List.map_nil]); first | done | rfl | (simp only [List.length_drop, List.length_take]; rfl)) ?_; (with_reducible refine (laws_szUint64S.calls _ _ l0_8 t103 t104 _ ?side1 ?side2 A11.out).mono ?_); (case side1 => repeat (first | exact (Kd.C_below HR0_8.out (by repeat (first | (with_reducible first | exact HB.out | apply below_alloc | apply pw_below_drewN | apply below_drew1 | refine below_set ?_ GE101.out) | exact HB.out))) | (with_reducible refine Kd.C_alloc ?_ _) | (with_reducible refine Kd.C_drewN ?_ _) | (with_reducible refine Kd.C_drew ?_))); (case side2 => exact HC0_8.out); rintro e w' ⟨rfl, ⟨nd, rfl⟩⟩; refine ⟨_, rfl, ?_⟩))
        go_ret
        exact ⟨by first | rfl | (simp [errW_none, errW_some] <;> rfl) | (simp [*, errW_none, errW_some] <;> rfl), by repeat (first | (with_reducible first | exact HB.out | apply below_alloc | apply pw_below_drewN | apply below_drew1 | refine below_set ?_ GE101.out) | exact HB.out)⟩
      · rw [if_neg c12] at H
        have c12b0 : decide (t104 < 0) = false := decide_eq_false c12
        clear c12
        obtain rfl := Option.some.inj H
        go_enter Try.func107, Try.ntmps107
        go_wp2_with (first | ((with_reducible refine gate_dst (N := 2) rfl ?_); refine box_event ?hg (N := 2) ?hd (cs := #[.int .i64 a0_0, .int .i64 a0_1, .int .i64 a0_2, .int .i64 a0_3, .int .i64 a0_4, .int .i64 a0_5, .slice A0_6 l0_6.length c0_6, .slice A0_7 l0_7.length c0_7, .slice A0_8 l0_8.length c0_8]) (t := 140) ?hr ?_; (case hd => rfl); (case hg => rfl); (case hr => first | (go_simp; done) | (go_simp; rfl)); intro gb101 hg w15 hbox hb; have n0_ := Aside0.mk (below_step (by repeat (first | (with_reducible first | exact HB.out | apply below_alloc | apply pw_below_drewN | apply below_drew1) | exact HB.out)) hb); have n1_ := Aside0.mk (hbox); have n2_ := Aside0.mk ((by rw [hg]; exact (below_size (by repeat (first | (with_reducible first | exact HB.out | apply below_alloc | apply pw_below_drewN | apply below_drew1) | exact HB.out))) : w.heap.size ≤ gb101)); have n3_ := Aside0.mk ((by rw [hg]; exact (below_size (by repeat (first | (with_reducible first | exact HB.out | apply below_alloc | apply pw_below_drewN | apply below_drew1) | exact HB.out))) : w.heap.size ≤ gb101)); clear HB; have HB := n0_; have BK101 := n1_; have GW101 := n2_; have GE101 := n3_; clear n0_ n1_ n2_ n3_; clear hb hbox hg; have hcz16_0 : w15.cell? ⟨gb101, 0, none⟩ = some (.int .i64 a0_0) := (blk_cell BK101.out 0).trans rfl; have hcz16_1 : w15.cell? ⟨gb101, 1, none⟩ = some (.int .i64 a0_1) := (blk_cell BK101.out 1).trans rfl; have hcz16_2 : w15.cell? ⟨gb101, 2, none⟩ = some (.int .i64 a0_2) := (blk_cell BK101.out 2).trans rfl; have hcz16_3 : w15.cell? ⟨gb101, 3, none⟩ = some (.int .i64 a0_3) := (blk_cell BK101.out 3).trans rfl; have hcz16_4 : w15.cell? ⟨gb101, 4, none⟩ = some (.int .i64 a0_4) := (blk_cell BK101.out 4).trans rfl; have hcz16_5 : w15.cell? ⟨gb101, 5, none⟩ = some (.int .i64 a0_5) := (blk_cell BK101.out 5).trans rfl; have hcz16_6 : w15.cell? ⟨gb101, 6, none⟩ = some (.slice A0_6 l0_6.length c0_6) := (blk_cell BK101.out 6).trans rfl; have hcz16_7 : w15.cell? ⟨gb101, 7, none⟩ = some (.slice A0_7 l0_7.length c0_7) := (blk_cell BK101.out 7).trans rfl; have hcz16_8 : w15.cell? ⟨gb101, 8, none⟩ = some (.slice A0_8 l0_8.length c0_8) := (blk_cell BK101.out 8).trans rfl; have hfz16_0 := blk_frozen BK101.out 0; have hfz16_1 := blk_frozen BK101.out 1; have hfz16_2 := blk_frozen BK101.out 2; have hfz16_3 := blk_frozen BK101.out 3; have hfz16_4 := blk_frozen BK101.out 4; have hfz16_5 := blk_frozen BK101.out 5; have hfz16_6 := blk_frozen BK101.out 6; have hfz16_7 := blk_frozen BK101.out 7; have hfz16_8 := blk_frozen BK101.out 8) | ((with_reducible refine gate_callee (f := 116) rfl ?_); refine goesL_ (some 8) rfl rfl Try.func116 (by kernel_rfl) rfl #[.slice A0_6 l0_6.length c0_6, .int .i64 a1] rfl (by (try simp only [List.map_toArray, List.map_cons, List.map_nil]); first | done | rfl | (simp only [List.length_drop, List.length_take]; rfl)) ?_; (with_reducible refine (laws_szOperandS.calls _ _ l0_6 a1 t102 _ ?side1 ?side2 A3.out).mono ?_); (case side1 => repeat (first | exact (Kd.C_below HR0_6.out HB.out) | (with_reducible refine Kd.C_alloc ?_ _) | (with_reducible refine Kd.C_drewN ?_ _) | (with_reducible refine Kd.C_drew ?_))); (case side2 => exact HC0_6.out); rintro e w' ⟨rfl, ⟨nd, rfl⟩⟩; refine ⟨_, rfl, ?_⟩) | ((with_reducible refine gate_callee (f := 43) rfl ?_); refine goesL_ (some 14) rfl rfl Try.func43 (by kernel_rfl) rfl #[.slice A0_7 l0_7.length c0_7, .int .i64 t102] rfl (by (try simp only [List.map_toArray, List.map_cons, List.map_nil]); first | done | rfl | (simp only [List.length_drop, List.length_take]; rfl)) ?_; (with_reducible refine (laws_szInt64S.calls _ _ l0_7 t102 t103 _ ?side1 ?side2 A7.out).mono ?_); (case side1 => repeat (first | exact (Kd.C_below HR0_7.out (by repeat (first | (with_reducible first | exact HB.out | apply below_alloc | apply pw_below_drewN | apply below_drew1 | refine below_set ?_ GE101.out) | exact HB.out))) | (with_reducible refine Kd.C_alloc ?_ _) | (with_reducible refine Kd.C_drewN ?_ _) | (with_reducible refine Kd.C_drew ?_))); (case side2 => exact HC0_7.out); rintro e w' ⟨rfl, ⟨nd, rfl⟩⟩; refine ⟨_, rfl, ?_⟩) | ((with_reducible refine gate_callee (f := 117) rfl ?_); refine goesL_ (some 20) rfl rfl Try.func117 (by kernel_rfl) rfl #[.slice A0_8 l0_8.length c0_8, .int .i64 t103] rfl (by (try simp only [List.map_toArray, List.map_cons, List.map_nil]); first | done | rfl | (simp only [List.length_drop, List.length_take]; rfl)) ?_; (with_reducible refine (laws_szUint64S.calls _ _ l0_8 t103 t104 _ ?side1 ?side2 A11.out).mono ?_); (case side1 => repeat (first | exact (Kd.C_below HR0_8.out (by repeat (first | (with_reducible first | exact HB.out | apply below_alloc | apply pw_below_drewN | apply below_drew1 | refine below_set ?_ GE101.out) | exact HB.out))) | (with_reducible refine Kd.C_alloc ?_ _) | (with_reducible refine Kd.C_drewN ?_ _) | (with_reducible refine Kd.C_drew ?_))); (case side2 => exact HC0_8.out); rintro e w' ⟨rfl, ⟨nd, rfl⟩⟩; refine ⟨_, rfl, ?_⟩))
        go_ret
        exact ⟨by first | rfl | (simp [errW_none, errW_some] <;> rfl) | (simp [*, errW_none, errW_some] <;> rfl), by repeat (first | (with_reducible first | exact HB.out | apply below_alloc | apply pw_below_drewN | apply below_drew1 | refine below_set ?_ GE101.out) | exact HB.out)⟩

end Go.Proofs.Ytoedcnhgobbnfaa.All

namespace Go.Proofs.Ytoedcnhgobbnfaa.All
open Go.RowKit Go.Proofs.YtoedcnhgobbnfaaW.PrintWords Go.Proofs.YtoedcnhgobbnfaaW.PrintLast Go.Proofs.YtoedcnhgobbnfaaW.PrintMore
attribute [local go_sem] max2_int min2_int max_two min_two max_three min_three max_four min_four   -- for this text's walks alone
set_option linter.unusedVariables false
set_option linter.unusedSimpArgs false

/-! ### laws_szInstrS: function 81 -/
def laws_szInstrS.l0 : Nat → List (S140) → Int → Int → Option (Int)
  | 0, _, _, _ => none
  | k + 1, x0, x1, x5 => if x5 < (x0.length : Int) then (if 0 ≤ x5 then ((laws_szInstr.f ((rd_T140 x0 x5).f0) ((rd_T140 x0 x5).f1) ((rd_T140 x0 x5).f2) ((rd_T140 x0 x5).f3) ((rd_T140 x0 x5).f4) ((rd_T140 x0 x5).f5) ((rd_T140 x0 x5).f6) ((rd_T140 x0 x5).f7) ((rd_T140 x0 x5).f8) x1).bind fun t106 => (if t106 < 0 then (some (-1)) else (laws_szInstrS.l0 k x0 t106 (wrap64 (x5 + 1))))) else (none)) else (some x1)
def laws_szInstrS.f (k : Nat) (l0 : List (S140)) (a1 : Int) : Option (Int) := if (wrap64 (a1 - (l0.length : Int))) < 0 then (some (-1)) else (laws_szInstrS.l0 k l0 (wrap64 (a1 - (l0.length : Int))) 0)
set_option maxHeartbeats 8000000 in
set_option maxRecDepth 100000 in
theorem laws_szInstrS.calls (k : Nat) (A0 : Option Addr) (c0 : Nat) (l0 : List (S140)) (a1 : Int) (r : Int) (w : World) (hr0 : Kd.C k140 w A0 l0.length l0) (hc0 : l0.length ≤ c0) (h : laws_szInstrS.f k l0 a1 = some r) :
    Calls Try.prog 81 #[.slice A0 l0.length c0, .int .i64 a1] w fun e w' => e = .returned (.int .i64 r) ∧ Below w.heap.size w w' := by
  have hu140 := Try.underlying140
  have HR0 := Aside0.mk hr0
  have HC0 := Aside0.mk hc0
  clear hr0 hc0
  have HB := Aside0.mk (Below.refl w.heap.size w)
  have H : (if (wrap64 (a1 - (l0.length : Int))) < 0 then (some (-1)) else (laws_szInstrS.l0 k l0 (wrap64 (a1 - (l0.length : Int))) 0)) = some r := h
  clear h
  by_cases c3 : (wrap64 (a1 - (l0.length : Int))) < 0
  · rw [if_pos c3] at H
    have c3b0 : decide ((wrap64 (a1 - (l0.length : Int))) < 0) = true := decide_eq_true c3
    clear c3
    obtain rfl := Option.some.inj H
    go_enter Try.func81, Try.ntmps81
    go_wp2
    go_ret
    exact ⟨by first | rfl | (simp [errW_none, errW_some] <;> rfl) | (simp [*, errW_none, errW_some] <;> rfl), by repeat (first | (with_reducible first | exact HB.out | apply below_alloc | apply pw_below_drewN | apply below_drew1) | exact HB.out)⟩
  · rw [if_neg c3] at H
    have c3b0 : decide ((wrap64 (a1 - (l0.length : Int))) < 0) = false := decide_eq_false c3
    clear c3
    have H' := Aside0.mk H
    clear H
    go_enter Try.func81, Try.ntmps81
    go_wp2
    go_loopg [1, 5] k (fun kq v1 v5 w' => ∃ (x1_1 : Int) (x5_1 : Int), v1 = .int .i64 x1_1 ∧ v5 = .int .i64 x5_1 ∧ Aside0 (laws_szInstrS.l0 kq l0 x1_1 x5_1 = some r) ∧ Aside0 (kq ≤ k) ∧ Aside0 (Below w.heap.size w w'))
    case atStart => exact ⟨(wrap64 (a1 - (l0.length : Int))), (0), (by first | rfl | (simp; done) | (simp [*]; done)), (by first | rfl | (simp; done) | (simp [*]; done)), H', ⟨Nat.le_refl _⟩, ⟨by repeat (first | (with_reducible first | exact HB.out | apply below_alloc | apply pw_below_drewN | apply below_drew1) | exact HB.out)⟩⟩
    case round =>
      clear H'
      try clear p2
      try clear c3
      try clear c3b0
      obtain ⟨x1_1, x5_1, rfl, rfl, HA, HK1, HB⟩ := hrel
      cases gk with
      | zero => exact absurd HA.out (by simp [laws_szInstrS.l0])
      | succ k1 =>
        have H := HA.out
        clear HA
        simp only [laws_szInstrS.l0] at H
        by_cases c4 : x5_1 < (l0.length : Int)
        · rw [if_pos c4] at H
          have c4b0 : decide (x5_1 < (l0.length : Int)) = true := decide_eq_true c4
          clear c4
          by_cases c5 : 0 ≤ x5_1
          · rw [if_pos c5] at H
            have c5b0 : decide (0 ≤ x5_1) = true := decide_eq_true c5
            clear c5
            replace H := Option.bind_eq_some_iff.mp H
            obtain ⟨t106, A60, H⟩ := H
            replace H : (if t106 < 0 then (some (-1)) else (laws_szInstrS.l0 k1 l0 t106 (wrap64 (x5_1 + 1)))) = some r := H
            have A6 := Aside0.mk A60
            clear A60
            by_cases c7 : t106 < 0
            · rw [if_pos c7] at H
              have c7b0 : decide (t106 < 0) = true := decide_eq_true c7
              clear c7
              obtain rfl := Option.some.inj H
              have p105 : 0 ≤ (x5_1 : Int) := of_decide_eq_true (by first | (with_reducible assumption) | assumption)
              have q105 : x5_1 < (l0.length : Int) := of_decide_eq_true (by first | (with_reducible assumption) | assumption)
              obtain ⟨ad105, A105_6, c105_6, A105_7, c105_7, A105_8, c105_8, e105, hx105_0, hx105_1, hx105_2, hx105_3, hx105_4, hx105_5, hx105_6, hx105_7, hx105_8, hl105_6, hi105_6, hl105_7, hi105_7, hl105_8, hi105_8⟩ := at_T140 HR0.out x5_1 p105 q105
              cases e105
              replace hx105_0 := (HB.out.cell (World.block_lt_of_cell? w _ hx105_0)).trans hx105_0
              replace hx105_1 := (HB.out.cell (World.block_lt_of_cell? w _ hx105_1)).trans hx105_1
              replace hx105_2 := (HB.out.cell (World.block_lt_of_cell? w _ hx105_2)).trans hx105_2
              replace hx105_3 := (HB.out.cell (World.block_lt_of_cell? w _ hx105_3)).trans hx105_3
              replace hx105_4 := (HB.out.cell (World.block_lt_of_cell? w _ hx105_4)).trans hx105_4
              replace hx105_5 := (HB.out.cell (World.block_lt_of_cell? w _ hx105_5)).trans hx105_5
              replace hx105_6 := (HB.out.cell (World.block_lt_of_cell? w _ hx105_6)).trans hx105_6
              replace hx105_7 := (HB.out.cell (World.block_lt_of_cell? w _ hx105_7)).trans hx105_7
              replace hx105_8 := (HB.out.cell (World.block_lt_of_cell? w _ hx105_8)).trans hx105_8
              have HR105_6 := Aside0.mk hi105_6
              have HC105_6 := Aside0.mk hl105_6
              clear hi105_6 hl105_6
              have HR105_7 := Aside0.mk hi105_7
              have HC105_7 := Aside0.mk hl105_7
              clear hi105_7 hl105_7
              have HR105_8 := Aside0.mk hi105_8
              have HC105_8 := Aside0.mk hl105_8
              clear hi105_8 hl105_8
              replace p105 := eq_true p105
              replace q105 := eq_true q105
              go_wp2_with (first | ((with_reducible refine gate_callee (f := 107) rfl ?_); refine goesL_ (some 23) rfl rfl Try.func107 (by kernel_rfl) rfl #[.agg #[.int .i64 ((rd_T140 l0 x5_1).f0), .int .i64 ((rd_T140 l0 x5_1).f1), .int .i64 ((rd_T140 l0 x5_1).f2), .int .i64 ((rd_T140 l0 x5_1).f3), .int .i64 ((rd_T140 l0 x5_1).f4), .int .i64 ((rd_T140 l0 x5_1).f5), .slice A105_6 ((rd_T140 l0 x5_1).f6).length c105_6, .slice A105_7 ((rd_T140 l0 x5_1).f7).length c105_7, .slice A105_8 ((rd_T140 l0 x5_1).f8).length c105_8], .int .i64 x1_1] rfl (by (try simp only [List.map_toArray, List.map_cons, List.map_nil]); first | done | rfl | (simp only [List.length_drop, List.length_take]; rfl)) ?_; (with_reducible refine (laws_szInstr.calls ((rd_T140 l0 x5_1).f0) ((rd_T140 l0 x5_1).f1) ((rd_T140 l0 x5_1).f2) ((rd_T140 l0 x5_1).f3) ((rd_T140 l0 x5_1).f4) ((rd_T140 l0 x5_1).f5) _ _ ((rd_T140 l0 x5_1).f6) _ _ ((rd_T140 l0 x5_1).f7) _ _ ((rd_T140 l0 x5_1).f8) x1_1 t106 _ ?side1 ?side2 ?side3 ?side4 ?side5 ?side6 A6.out).mono ?_); (case side1 => repeat (first | exact (Kd.C_below HR105_6.out HB.out) | (with_reducible refine Kd.C_alloc ?_ _) | (with_reducible refine Kd.C_drewN ?_ _) | (with_reducible refine Kd.C_drew ?_))); (case side2 => exact HC105_6.out); (case side3 => repeat (first | exact (Kd.C_below HR105_7.out HB.out) | (with_reducible refine Kd.C_alloc ?_ _) | (with_reducible refine Kd.C_drewN ?_ _) | (with_reducible refine Kd.C_drew ?_))); (case side4 => exact HC105_7.out); (case side5 => repeat (first | exact (Kd.C_below HR105_8.out HB.out) | (with_reducible refine Kd.C_alloc ?_ _) | (with_reducible refine Kd.C_drewN ?_ _) | (with_reducible refine Kd.C_drew ?_))); (case side6 => exact HC105_8.out); rintro e w8 ⟨rfl, hb⟩; refine ⟨_, rfl, ?_⟩; have n0_ := Aside0.mk (below_step (by repeat (first | (with_reducible first | exact HB.out | apply below_alloc | apply pw_below_drewN | apply below_drew1) | exact HB.out)) hb); clear HB; have HB := n0_; clear n0_; (try clear hb); (try clear hb2); (try clear hk); (try clear hi)))
              go_ret
              exact ⟨by first | rfl | (simp [errW_none, errW_some] <;> rfl) | (simp [*, errW_none, errW_some] <;> rfl), by repeat (first | (with_reducible first | exact HB.out | apply below_alloc | apply pw_below_drewN | apply below_drew1) | exact HB.out)⟩
            · rw [if_neg c7] at H
              have c7b0 : decide (t106 < 0) = false := decide_eq_false c7
              clear c7
              have H' := Aside0.mk H
              clear H
              have p105 : 0 ≤ (x5_1 : Int) := of_decide_eq_true (by first | (with_reducible assumption) | assumption)
              have q105 : x5_1 < (l0.length : Int) := of_decide_eq_true (by first | (with_reducible assumption) | assumption)
              obtain ⟨ad105, A105_6, c105_6, A105_7, c105_7, A105_8, c105_8, e105, hx105_0, hx105_1, hx105_2, hx105_3, hx105_4, hx105_5, hx105_6, hx105_7, hx105_8, hl105_6, hi105_6, hl105_7, hi105_7, hl105_8, hi105_8⟩ := at_T140 HR0.out x5_1 p105 q105
              cases e105
              replace hx105_0 := (HB.out.cell (World.block_lt_of_cell? w _ hx105_0)).trans hx105_0
              replace hx105_1 := (HB.out.cell (World.block_lt_of_cell? w _ hx105_1)).trans hx105_1
              replace hx105_2 := (HB.out.cell (World.block_lt_of_cell? w _ hx105_2)).trans hx105_2
              replace hx105_3 := (HB.out.cell (World.block_lt_of_cell? w _ hx105_3)).trans hx105_3
              replace hx105_4 := (HB.out.cell (World.block_lt_of_cell? w _ hx105_4)).trans hx105_4
              replace hx105_5 := (HB.out.cell (World.block_lt_of_cell? w _ hx105_5)).trans hx105_5
              replace hx105_6 := (HB.out.cell (World.block_lt_of_cell? w _ hx105_6)).trans hx105_6
              replace hx105_7 := (HB.out.cell (World.block_lt_of_cell? w _ hx105_7)).trans hx105_7
              replace hx105_8 := (HB.out.cell (World.block_lt_of_cell? w _ hx105_8)).trans hx105_8
              have HR105_6 := Aside0.mk hi105_6
              have HC105_6 := Aside0.mk hl105_6
              clear hi105_6 hl105_6
              have HR105_7 := Aside0.mk hi105_7
              have HC105_7 := Aside0.mk hl105_7
              clear hi105_7 hl105_7
              have HR105_8 := Aside0.mk hi105_8
              have HC105_8 := Aside0.mk hl105_8
              clear hi105_8 hl105_8
              replace p105 := eq_true p105
              replace q105 := eq_true q105
              go_wp2_with (first | ((with_reducible refine gate_callee (f := 107) rfl ?_); refine goesL_ (some 23) rfl rfl Try.func107 (by kernel_rfl) rfl #[.agg #[.int .i64 ((rd_T140 l0 x5_1).f0), .int .i64 ((rd_T140 l0 x5_1).f1), .int .i64 ((rd_T140 l0 x5_1).f2), .int .i64 ((rd_T140 l0 x5_1).f3), .int .i64 ((rd_T140 l0 x5_1).f4), .int .i64 ((rd_T140 l0 x5_1).f5), .slice A105_6 ((rd_T140 l0 x5_1).f6).length c105_6, .slice A105_7 ((rd_T140 l0 x5_1).f7).length c105_7, .slice A105_8 ((rd_T140 l0 x5_1).f8).length c105_8], .int .i64 x1_1] rfl (by (try simp only [List.map_toArray, List.map_cons, List.map_nil]); first | done | rfl | (simp only [List.length_drop, List.length_take]; rfl)) ?_; (with_reducible refine (laws_szInstr.calls ((rd_T140 l0 x5_1).f0) ((rd_T140 l0 x5_1).f1) ((rd_T140 l0 x5_1).f2) ((rd_T140 l0 x5_1).f3) ((rd_T140 l0 x5_1).f4) ((rd_T140 l0 x5_1).f5) _ _ ((rd_T140 l0 x5_1).f6) _ _ ((rd_T140 l0 x5_1).f7) _ _ ((rd_T140 l0 x5_1).f8) x1_1 t106 _ ?side1 ?side2 ?side3 ?side4 ?side5 ?side6 A6.out).mono ?_); (case side1 => repeat (first | exact (Kd.C_below HR105_6.out HB.out) | (with_reducible refine Kd.C_alloc ?_ _) | (with_reducible refine Kd.C_drewN ?_ _) | (with_reducible refine Kd.C_drew ?_))); (case side2 => exact HC105_6.out); (case side3 => repeat (first | exact (Kd.C_below HR105_7.out HB.out) | (with_reducible refine Kd.C_alloc ?_ _) | (with_reducible refine Kd.C_drewN ?_ _) | (with_reducible refine Kd.C_drew ?_))); (case side4 => exact HC105_7.out); (case side5 => repeat (first | exact (Kd.C_below HR105_8.out HB.out) | (with_reducible refine Kd.C_alloc ?_ _) | (with_reducible refine Kd.C_drewN ?_ _) | (with_reducible refine Kd.C_drew ?_))); (case side6 => exact HC105_8.out); rintro e w9 ⟨rfl, hb⟩; refine ⟨_, rfl, ?_⟩; have n0_ := Aside0.mk (below_step (by repeat (first | (with_reducible first | exact HB.out | apply below_alloc | apply pw_below_drewN | apply below_drew1) | exact HB.out)) hb); clear HB; have HB := n0_; clear n0_; (try clear hb); (try clear hb2); (try clear hk); (try clear hi)))
              go_roundg k1
              case measure => have := HK1.out; omega
              case rel => exact ⟨(t106), (wrap64 (x5_1 + 1)), (by first | rfl | (simp; done) | (simp [*]; done)), (by first | rfl | (simp; done) | (simp [*]; done)), H', ⟨by have := HK1.out; omega⟩, ⟨by repeat (first | (with_reducible first | exact HB.out | apply below_alloc | apply pw_below_drewN | apply below_drew1) | exact HB.out)⟩⟩
          · rw [if_neg c5] at H
            exact absurd H (by simp)
        · rw [if_neg c4] at H
          have c4b0 : decide (x5_1 < (l0.length : Int)) = false := decide_eq_false c4
          clear c4
          obtain rfl := Option.some.inj H
          go_wp2
          go_ret
          exact ⟨by first | rfl | (simp [errW_none, errW_some] <;> rfl) | (simp [*, errW_none, errW_some] <;> rfl), by repeat (first | (with_reducible first | exact HB.out | apply below_alloc | apply pw_below_drewN | apply below_drew1) | exact HB.out)⟩

end Go.Proofs.Ytoedcnhgobbnfaa.All

namespace Go.Proofs.Ytoedcnhgobbnfaa.All
open Go.RowKit Go.Proofs.YtoedcnhgobbnfaaW.PrintWords Go.Proofs.YtoedcnhgobbnfaaW.PrintLast Go.Proofs.YtoedcnhgobbnfaaW.PrintMore
attribute [local go_sem] max2_int min2_int max_two min_two max_three min_three max_four min_four   -- for this text's walks alone
set_option linter.unusedVariables false
set_option linter.unusedSimpArgs false

/-! ### laws_szBlock: function 69 -/
def laws_szBlock.f (k : Nat) (l0_0 : List (S140)) (a1 : Int) : Option (Int) := (laws_szInstrS.f k l0_0 a1).bind fun t108 => (if t108 < 0 then (some (-1)) else (some t108))
set_option maxHeartbeats 8000000 in
set_option maxRecDepth 100000 in
theorem laws_szBlock.calls (k : Nat) (A0_0 : Option Addr) (c0_0 : Nat) (l0_0 : List (S140)) (a1 : Int) (r : Int) (w : World) (hr0_0 : Kd.C k140 w A0_0 l0_0.length l0_0) (hc0_0 : l0_0.length ≤ c0_0) (h : laws_szBlock.f k l0_0 a1 = some r) :
    Calls Try.prog 69 #[.agg #[.slice A0_0 l0_0.length c0_0], .int .i64 a1] w fun e w' => e = .returned (.int .i64 r) ∧ Below w.heap.size w w' := by
  have hu96 := Try.underlying96
  have HR0_0 := Aside0.mk hr0_0
  have HC0_0 := Aside0.mk hc0_0
  clear hr0_0 hc0_0
  have HB := Aside0.mk (Below.refl w.heap.size w)
  have H : ((laws_szInstrS.f k l0_0 a1).bind fun t108 => (if t108 < 0 then (some (-1)) else (some t108))) = some r := h
  clear h
  replace H := Option.bind_eq_some_iff.mp H
  obtain ⟨t108, A30, H⟩ := H
  replace H : (if t108 < 0 then (some (-1)) else (some t108)) = some r := H
  have A3 := Aside0.mk A30
  clear A30
  by_cases c4 : t108 < 0
  · rw [if_pos c4] at H
    have c4b0 : decide (t108 < 0) = true := decide_eq_true c4
    clear c4
    obtain rfl := Option.some.inj H
    go_enter Try.func69, Try.ntmps69
    go_wp2_with (first | ((with_reducible refine gate_dst (N := 2) rfl ?_); refine box_event ?hg (N := 2) ?hd (cs := #[.slice A0_0 l0_0.length c0_0]) (t := 96) ?hr ?_; (case hd => rfl); (case hg => rfl); (case hr => first | (go_simp; done) | (go_simp; rfl)); intro gb107 hg w5 hbox hb; have n0_ := Aside0.mk (below_step (by repeat (first | (with_reducible first | exact HB.out | apply below_alloc | apply pw_below_drewN | apply below_drew1) | exact HB.out)) hb); have n1_ := Aside0.mk (hbox); have n2_ := Aside0.mk ((by rw [hg]; exact (below_size (by repeat (first | (with_reducible first | exact HB.out | apply below_alloc | apply pw_below_drewN | apply below_drew1) | exact HB.out))) : w.heap.size ≤ gb107)); have n3_ := Aside0.mk ((by rw [hg]; exact (below_size (by repeat (first | (with_reducible first | exact HB.out | apply below_alloc | apply pw_below_drewN | apply below_drew1) | exact HB.out))) : w.heap.size ≤ gb107)); clear HB; have HB := n0_; have BK107 := n1_; have GW107 := n2_; have GE107 := n3_; clear n0_ n1_ n2_ n3_; clear hb hbox hg; have hcz6_0 : w5.cell? ⟨gb107, 0, none⟩ = some (.slice A0_0 l0_0.length c0_0) := (blk_cell BK107.out 0).trans rfl; have hfz6_0 := blk_frozen BK107.out 0) | ((with_reducible refine gate_callee (f := 81) rfl ?_); refine goesL_ (some 8) rfl rfl Try.func81 (by kernel_rfl) rfl #[.slice A0_0 l0_0.length c0_0, .int .i64 a1] rfl (by (try simp only [List.map_toArray, List.map_cons, List.map_nil]); first | done | rfl | (simp only [List.length_drop, List.length_take]; rfl)) ?_; (with_reducible refine (laws_szInstrS.calls k _ _ l0_0 a1 t108 _ ?side1 ?side2 A3.out).mono ?_); (case side1 => repeat (first | exact (Kd.C_below HR0_0.out HB.out) | (with_reducible refine Kd.C_alloc ?_ _) | (with_reducible refine Kd.C_drewN ?_ _) | (with_reducible refine Kd.C_drew ?_))); (case side2 => exact HC0_0.out); rintro e w7 ⟨rfl, hb⟩; refine ⟨_, rfl, ?_⟩; have n0_ := Aside0.mk (blk_below (g := gb107) (o := .cells #[.slice A0_0 l0_0.length c0_0] 96 (0, 0)) (by (with_reducible repeat (first | refine blk_drewN ?_ _ | refine blk_drew ?_ | refine blk_alloc ?_ _)); exact BK107.out) hb); have n1_ := Aside0.mk (below_step (by repeat (first | (with_reducible first | exact HB.out | apply below_alloc | apply pw_below_drewN | apply below_drew1 | refine below_set ?_ GE107.out) | exact HB.out)) hb); clear BK107; clear HB; have BK107 := n0_; have HB := n1_; clear n0_ n1_; (try clear hb); (try clear hb2); (try clear hk); (try clear hi)))
    go_ret
    exact ⟨by first | rfl | (simp [errW_none, errW_some] <;> rfl) | (simp [*, errW_none, errW_some] <;> rfl), by repeat (first | (with_reducible first | exact HB.out | apply below_alloc | apply pw_below_drewN | apply below_drew1 | refine below_set ?_ GE107.out) | exact HB.out)⟩
  · rw [if_neg c4] at H
    have c4b0 : decide (t108 < 0) = false := decide_eq_false c4
    clear c4
    obtain rfl := Option.some.inj H
    go_enter Try.func69, Try.ntmps69
    go_wp2_with (first | ((with_reducible refine gate_dst (N := 2) rfl ?_); refine box_event ?hg (N := 2) ?hd (cs := #[.slice A0_0 l0_0.length c0_0]) (t := 96) ?hr ?_; (case hd => rfl); (case hg => rfl); (case hr => first | (go_simp; done) | (go_simp; rfl)); intro gb107 hg w8 hbox hb; have n0_ := Aside0.mk (below_step (by repeat (first | (with_reducible first | exact HB.out | apply below_alloc | apply pw_below_drewN | apply below_drew1) | exact HB.out)) hb); have n1_ := Aside0.mk (hbox); have n2_ := Aside0.mk ((by rw [hg]; exact (below_size (by repeat (first | (with_reducible first | exact HB.out | apply below_alloc | apply pw_below_drewN | apply below_drew1) | exact HB.out))) : w.heap.size ≤ gb107)); have n3_ := Aside0.mk ((by rw [hg]; exact (below_size (by repeat (first | (with_reducible first | exact HB.out | apply below_alloc | apply pw_below_drewN | apply below_drew1) | exact HB.out))) : w.heap.size ≤ gb107)); clear HB; have HB := n0_; have BK107 := n1_; have GW107 := n2_; have GE107 := n3_; clear n0_ n1_ n2_ n3_; clear hb hbox hg; have hcz9_0 : w8.cell? ⟨gb107, 0, none⟩ = some (.slice A0_0 l0_0.length c0_0) := (blk_cell BK107.out 0).trans rfl; have hfz9_0 := blk_frozen BK107.out 0) | ((with_reducible refine gate_callee (f := 81) rfl ?_); refine goesL_ (some 8) rfl rfl Try.func81 (by kernel_rfl) rfl #[.slice A0_0 l0_0.length c0_0, .int .i64 a1] rfl (by (try simp only [List.map_toArray, List.map_cons, List.map_nil]); first | done | rfl | (simp only [List.length_drop, List.length_take]; rfl)) ?_; (with_reducible refine (laws_szInstrS.calls k _ _ l0_0 a1 t108 _ ?side1 ?side2 A3.out).mono ?_); (case side1 => repeat (first | exact (Kd.C_below HR0_0.out HB.out) | (with_reducible refine Kd.C_alloc ?_ _) | (with_reducible refine Kd.C_drewN ?_ _) | (with_reducible refine Kd.C_drew ?_))); (case side2 => exact HC0_0.out); rintro e w10 ⟨rfl, hb⟩; refine ⟨_, rfl, ?_⟩; have n0_ := Aside0.mk (blk_below (g := gb107) (o := .cells #[.slice A0_0 l0_0.length c0_0] 96 (0, 0)) (by (with_reducible repeat (first | refine blk_drewN ?_ _ | refine blk_drew ?_ | refine blk_alloc ?_ _)); exact BK107.out) hb); have n1_ := Aside0.mk (below_step (by repeat (first | (with_reducible first | exact HB.out | apply below_alloc | apply pw_below_drewN | apply below_drew1 | refine below_set ?_ GE107.out) | exact HB.out)) hb); clear BK107; clear HB; have BK107 := n0_; have HB := n1_; clear n0_ n1_; (try clear hb); (try clear hb2); (try clear hk); (try clear hi)))
    go_ret
    exact ⟨by first | rfl | (simp [errW_none, errW_some] <;> rfl) | (simp [*, errW_none, errW_some] <;> rfl), by repeat (first | (with_reducible first | exact HB.out | apply below_alloc | apply pw_below_drewN | apply below_drew1 | refine below_set ?_ GE107.out) | exact HB.out)⟩

end Go.Proofs.Ytoedcnhgobbnfaa.All

namespace Go.Proofs.Ytoedcnhgobbnfaa.All
open Go.RowKit Go.Proofs.YtoedcnhgobbnfaaW.PrintWords Go.Proofs.YtoedcnhgobbnfaaW.PrintLast Go.Proofs.YtoedcnhgobbnfaaW.PrintMore
attribute [local go_sem] max2_int min2_int max_two min_two max_three min_three max_four min_four   -- for this text's walks alone
set_option linter.unusedVariables false
set_option linter.unusedSimpArgs false

/-! ### laws_szBlockS: function 44 -/
def laws_szBlockS.l0 : Nat → List (S96) → Int → Int → Option (Int)
  | 0, _, _, _ => none
  | k + 1, x0, x1, x5 => if x5 < (x0.length : Int) then (if 0 ≤ x5 then ((laws_szBlock.f k ((rd_T96 x0 x5).f0) x1).bind fun t110 => (if t110 < 0 then (some (-1)) else (laws_szBlockS.l0 k x0 t110 (wrap64 (x5 + 1))))) else (none)) else (some x1)
def laws_szBlockS.f (k : Nat) (l0 : List (S96)) (a1 : Int) : Option (Int) := if (wrap64 (a1 - (l0.length : Int))) < 0 then (some (-1)) else (laws_szBlockS.l0 k l0 (wrap64 (a1 - (l0.length : Int))) 0)
set_option maxHeartbeats 8000000 in
set_option maxRecDepth 100000 in
theorem laws_szBlockS.calls (k : Nat) (A0 : Option Addr) (c0 : Nat) (l0 : List (S96)) (a1 : Int) (r : Int) (w : World) (hr0 : Kd.C k96 w A0 l0.length l0) (hc0 : l0.length ≤ c0) (h : laws_szBlockS.f k l0 a1 = some r) :
    Calls Try.prog 44 #[.slice A0 l0.length c0, .int .i64 a1] w fun e w' => e = .returned (.int .i64 r) ∧ Below w.heap.size w w' := by
  have hu96 := Try.underlying96
  have HR0 := Aside0.mk hr0
  have HC0 := Aside0.mk hc0
  clear hr0 hc0
  have HB := Aside0.mk (Below.refl w.heap.size w)
  have H : (if (wrap64 (a1 - (l0.length : Int))) < 0 then (some (-1)) else (laws_szBlockS.l0 k l0 (wrap64 (a1 - (l0.length : Int))) 0)) = some r := h
  clear h
  by_cases c3 : (wrap64 (a1 - (l0.length : Int))) < 0
  · rw [if_pos c3] at H
    have c3b0 : decide ((wrap64 (a1 - (l0.length : Int))) < 0) = true := decide_eq_true c3
    clear c3
    obtain rfl := Option.some.inj H
    go_enter Try.func44, Try.ntmps44
    go_wp2
    go_ret
    exact ⟨by first | rfl | (simp [errW_none, errW_some] <;> rfl) | (simp [*, errW_none, errW_some] <;> rfl), by repeat (first | (with_reducible first | exact HB.out | apply below_alloc | apply pw_below_drewN | apply below_drew1) | exact HB.out)⟩
  · rw [if_neg c3] at H
    have c3b0 : decide ((wrap64 (a1 - (l0.length : Int))) < 0) = false := decide_eq_false c3
    clear c3
    have H' := Aside0.mk H
    clear H
    go_enter Try.func44, Try.ntmps44
    go_wp2
    go_loopg [1, 5] k (fun kq v1 v5 w' => ∃ (x1_1 : Int) (x5_1 : Int), v1 = .int .i64 x1_1 ∧ v5 = .int .i64 x5_1 ∧ Aside0 (laws_szBlockS.l0 kq l0 x1_1 x5_1 = some r) ∧ Aside0 (kq ≤ k) ∧ Aside0 (Below w.heap.size w w'))
    case atStart => exact ⟨(wrap64 (a1 - (l0.length : Int))), (0), (by first | rfl | (simp; done) | (simp [*]; done)), (by first | rfl | (simp; done) | (simp [*]; done)), H', ⟨Nat.le_refl _⟩, ⟨by repeat (first | (with_reducible first | exact HB.out | apply below_alloc | apply pw_below_drewN | apply below_drew1) | exact HB.out)⟩⟩
    case round =>
      clear H'
      try clear p2
      try clear c3
      try clear c3b0
      obtain ⟨x1_1, x5_1, rfl, rfl, HA, HK1, HB⟩ := hrel
      cases gk with
      | zero => exact absurd HA.out (by simp [laws_szBlockS.l0])
      | succ k1 =>
        have H := HA.out
        clear HA
        simp only [laws_szBlockS.l0] at H
        by_cases c4 : x5_1 < (l0.length : Int)
        · rw [if_pos c4] at H
          have c4b0 : decide (x5_1 < (l0.length : Int)) = true := decide_eq_true c4
          clear c4
          by_cases c5 : 0 ≤ x5_1
          · rw [if_pos c5] at H
            have c5b0 : decide (0 ≤ x5_1) = true := decide_eq_true c5
            clear c5
            replace H := Option.bind_eq_some_iff.mp H
            obtain ⟨t110, A60, H⟩ := H
            replace H : (if t110 < 0 then (some (-1)) else (laws_szBlockS.l0 k1 l0 t110 (wrap64 (x5_1 + 1)))) = some r := H
            have A6 := Aside0.mk A60
            clear A60
            by_cases c7 : t110 < 0
            · rw [if_pos c7] at H
              have c7b0 : decide (t110 < 0) = true := decide_eq_true c7
              clear c7
              obtain rfl := Option.some.inj H
              have p109 : 0 ≤ (x5_1 : Int) := of_decide_eq_true (by first | (with_reducible assumption) | assumption)
              have q109 : x5_1 < (l0.length : Int) := of_decide_eq_true (by first | (with_reducible assumption) | assumption)
              obtain ⟨ad109, A109_0, c109_0, e109, hx109_0, hl109_0, hi109_0⟩ := at_T96 HR0.out x5_1 p109 q109
              cases e109
              replace hx109_0 := (HB.out.cell (World.block_lt_of_cell? w _ hx109_0)).trans hx109_0
              have HR109_0 := Aside0.mk hi109_0
              have HC109_0 := Aside0.mk hl109_0
              clear hi109_0 hl109_0
              replace p109 := eq_true p109
              replace q109 := eq_true q109
              go_wp2_with (first | ((with_reducible refine gate_callee (f := 69) rfl ?_); refine goesL_ (some 23) rfl rfl Try.func69 (by kernel_rfl) rfl #[.agg #[.slice A109_0 ((rd_T96 l0 x5_1).f0).length c109_0], .int .i64 x1_1] rfl (by (try simp only [List.map_toArray, List.map_cons, List.map_nil]); first | done | rfl | (simp only [List.length_drop, List.length_take]; rfl)) ?_; (with_reducible refine (laws_szBlock.calls k1 _ _ ((rd_T96 l0 x5_1).f0) x1_1 t110 _ ?side1 ?side2 A6.out).mono ?_); (case side1 => repeat (first | exact (Kd.C_below HR109_0.out HB.out) | (with_reducible refine Kd.C_alloc ?_ _) | (with_reducible refine Kd.C_drewN ?_ _) | (with_reducible refine Kd.C_drew ?_))); (case side2 => exact HC109_0.out); rintro e w8 ⟨rfl, hb⟩; refine ⟨_, rfl, ?_⟩; have n0_ := Aside0.mk (below_step (by repeat (first | (with_reducible first | exact HB.out | apply below_alloc | apply pw_below_drewN | apply below_drew1) | exact HB.out)) hb); clear HB; have HB := n0_; clear n0_; (try clear hb); (try clear hb2); (try clear hk); (try clear hi)))
              go_ret
              exact ⟨by first | rfl | (simp [errW_none, errW_some] <;> rfl) | (simp [*, errW_none, errW_some] <;> rfl), by repeat (first | (with_reducible first | exact HB.out | apply below_alloc | apply pw_below_drewN | apply below_drew1) | exact HB.out)⟩
            · rw [if_neg c7] at H
              have c7b0 : decide (t110 < 0) = false := decide_eq_false c7
              clear c7
              have H' := Aside0.mk H
              clear H
              have p109 : 0 ≤ (x5_1 : Int) := of_decide_eq_true (by first | (with_reducible assumption) | assumption)
              have q109 : x5_1 < (l0.length : Int) := of_decide_eq_true (by first | (with_reducible assumption) | assumption)
              obtain ⟨ad109, A109_0, c109_0, e109, hx109_0, hl109_0, hi109_0⟩ := at_T96 HR0.out x5_1 p109 q109
              cases e109
              replace hx109_0 := (HB.out.cell (World.block_lt_of_cell? w _ hx109_0)).trans hx109_0
              have HR109_0 := Aside0.mk hi109_0
              have HC109_0 := Aside0.mk hl109_0
              clear hi109_0 hl109_0
              replace p109 := eq_true p109
              replace q109 := eq_true q109
              go_wp2_with (first | ((with_reducible refine gate_callee (f := 69) rfl ?_); refine goesL_ (some 23) rfl rfl Try.func69 (by kernel_rfl) rfl #[.agg #[.slice A109_0 ((rd_T96 l0 x5_1).f0).length c109_0], .int .i64 x1_1] rfl (by (try simp only [List.map_toArray, List.map_cons, List.map_nil]); first | done | rfl | (simp only [List.length_drop, List.length_take]; rfl)) ?_; (with_reducible refine (laws_szBlock.calls k1 _ _ ((rd_T96 l0 x5_1).f0) x1_1 t110 _ ?side1 ?side2 A6.out).mono ?_); (case side1 => repeat (first | exact (Kd.C_below HR109_0.out HB.out) | (with_reducible refine Kd.C_alloc ?_ _) | (with_reducible refine Kd.C_drewN ?_ _) | (with_reducible refine Kd.C_drew ?_))); (case side2 => exact HC109_0.out); rintro e w9 ⟨rfl, hb⟩; refine ⟨_, rfl, ?_⟩; have n0_ := Aside0.mk (below_step (by repeat (first | (with_reducible first | exact HB.out | apply below_alloc | apply pw_below_drewN | apply below_drew1) | exact HB.out)) hb); clear HB; have HB := n0_; clear n0_; (try clear hb); (try clear hb2); (try clear hk); (try clear hi)))
              go_roundg k1
              case measure => have := HK1.out; omega
              case rel => exact ⟨(t110), (wrap64 (x5_1 + 1)), (by first | rfl | (simp; done) | (simp [*]; done)), (by first | rfl | (simp; done) | (simp [*]; done)), H', ⟨by have := HK1.out; omega⟩, ⟨by repeat (first | (with_reducible first | exact HB.out | apply below_alloc | apply pw_below_drewN | apply below_drew1) | exact HB.out)⟩⟩
          · rw [if_neg c5] at H
            exact absurd H (by simp)
        · rw [if_neg c4] at H
          have c4b0 : decide (x5_1 < (l0.length : Int)) = false := decide_eq_false c4
          clear c4
          obtain rfl := Option.some.inj H
          go_wp2
          go_ret
          exact ⟨by first | rfl | (simp [errW_none, errW_some] <;> rfl) | (simp [*, errW_none, errW_some] <;> rfl), by repeat (first | (with_reducible first | exact HB.out | apply below_alloc | apply pw_below_drewN | apply below_drew1) | exact HB.out)⟩

end Go.Proofs.Ytoedcnhgobbnfaa.All

namespace Go.Proofs.Ytoedcnhgobbnfaa.All
open Go.RowKit Go.Proofs.YtoedcnhgobbnfaaW.PrintWords Go.Proofs.YtoedcnhgobbnfaaW.PrintLast Go.Proofs.YtoedcnhgobbnfaaW.PrintMore
attribute [local go_sem] max2_int min2_int max_two min_two max_three min_three max_four min_four   -- for this text's walks alone
set_option linter.unusedVariables false
set_option linter.unusedSimpArgs false

/-! ### laws_szFunc: function 12 -/
def laws_szFunc.f (k : Nat) (a0_0 : ByteArray) (a0_1 : Int) (l0_2 : List Int) (a0_3 : Int) (l0_4 : List (S96)) (a1 : Int) : Option (Int) := if (wrap64 (a1 - (a0_0.size : Int))) < 0 then (some (-1)) else ((laws_szInt64S.f l0_2 (wrap64 (a1 - (a0_0.size : Int)))).bind fun t112 => (if t112 < 0 then (some (-1)) else ((laws_szBlockS.f k l0_4 t112).bind fun t113 => (if t113 < 0 then (some (-1)) else (some t113)))))
set_option maxHeartbeats 8000000 in
set_option maxRecDepth 100000 in
theorem laws_szFunc.calls (k : Nat) (a0_0 : ByteArray) (a0_1 : Int) (A0_2 : Option Addr) (c0_2 : Nat) (l0_2 : List Int) (a0_3 : Int) (A0_4 : Option Addr) (c0_4 : Nat) (l0_4 : List (S96)) (a1 : Int) (r : Int) (w : World) (hr0_2 : Kd.C (Kd.int .i64) w A0_2 l0_2.length l0_2) (hc0_2 : l0_2.length ≤ c0_2) (hr0_4 : Kd.C k96 w A0_4 l0_4.length l0_4) (hc0_4 : l0_4.length ≤ c0_4) (h : laws_szFunc.f k a0_0 a0_1 l0_2 a0_3 l0_4 a1 = some r) :
    Calls Try.prog 12 #[.agg #[.string a0_0, .int .i64 a0_1, .slice A0_2 l0_2.length c0_2, .int .i64 a0_3, .slice A0_4 l0_4.length c0_4], .int .i64 a1] w fun e w' => e = .returned (.int .i64 r) ∧ Below w.heap.size w w' := by
  have hu25 := Try.underlying25
  have HR0_2 := Aside0.mk hr0_2
  have HC0_2 := Aside0.mk hc0_2
  clear hr0_2 hc0_2
  have HR0_4 := Aside0.mk hr0_4
  have HC0_4 := Aside0.mk hc0_4
  clear hr0_4 hc0_4
  have HB := Aside0.mk (Below.refl w.heap.size w)
  have H : (if (wrap64 (a1 - (a0_0.size : Int))) < 0 then (some (-1)) else ((laws_szInt64S.f l0_2 (wrap64 (a1 - (a0_0.size : Int)))).bind fun t112 => (if t112 < 0 then (some (-1)) else ((laws_szBlockS.f k l0_4 t112).bind fun t113 => (if t113 < 0 then (some (-1)) else (some t113)))))) = some r := h
  clear h
  by_cases c3 : (wrap64 (a1 - (a0_0.size : Int))) < 0
  · rw [if_pos c3] at H
    have c3b0 : decide ((wrap64 (a1 - (a0_0.size : Int))) < 0) = true := decide_eq_true c3
    clear c3
    obtain rfl := Option.some.inj H
    go_enter Try.func12, Try.ntmps12
    go_wp2_with (first | ((with_reducible refine gate_dst (N := 2) rfl ?_); refine box_event ?hg (N := 2) ?hd (cs := #[.string a0_0, .int .i64 a0_1, .slice A0_2 l0_2.length c0_2, .int .i64 a0_3, .slice A0_4 l0_4.length c0_4]) (t := 25) ?hr ?_; (case hd => rfl); (case hg => rfl); (case hr => first | (go_simp; done) | (go_simp; rfl)); intro gb111 hg w4 hbox hb; have n0_ := Aside0.mk (below_step (by repeat (first | (with_reducible first | exact HB.out | apply below_alloc | apply pw_below_drewN | apply below_drew1) | exact HB.out)) hb); have n1_ := Aside0.mk (hbox); have n2_ := Aside0.mk ((by rw [hg]; exact (below_size (by repeat (first | (with_reducible first | exact HB.out | apply below_alloc | apply pw_below_drewN | apply below_drew1) | exact HB.out))) : w.heap.size ≤ gb111)); have n3_ := Aside0.mk ((by rw [hg]; exact (below_size (by repeat (first | (with_reducible first | exact HB.out | apply below_alloc | apply pw_below_drewN | apply below_drew1) | exact HB.out))) : w.heap.size ≤ gb111)); clear HB; have HB := n0_; have BK111 := n1_; have GW111 := n2_; have GE111 := n3_; clear n0_ n1_ n2_ n3_; clear hb hbox hg; have hcz5_0 : w4.cell? ⟨gb111, 0, none⟩ = some (.string a0_0) := (blk_cell BK111.out 0).trans rfl; have hcz5_1 : w4.cell? ⟨gb111, 1, none⟩ = some (.int .i64 a0_1) := (blk_cell BK111.out 1).trans rfl; have hcz5_2 : w4.cell? ⟨gb111, 2, none⟩ = some (.slice A0_2 l0_2.length c0_2) := (blk_cell BK111.out 2).trans rfl; have hcz5_3 : w4.cell? ⟨gb111, 3, none⟩ = some (.int .i64 a0_3) := (blk_cell BK111.out 3).trans rfl; have hcz5_4 : w4.cell? ⟨gb111, 4, none⟩ = some (.slice A0_4 l0_4.length c0_4) := (blk_cell BK111.out 4).trans rfl; have hfz5_0 := blk_frozen BK111.out 0; have hfz5_1 := blk_frozen BK111.out 1; have hfz5_2 := blk_frozen BK111.out 2; have hfz5_3 := blk_frozen BK111.out 3; have hfz5_4 := blk_frozen BK111.out 4))
    go_ret
    exact ⟨by first | rfl | (simp [errW_none, errW_some] <;> rfl) | (simp [*, errW_none, errW_some] <;> rfl), by repeat (first | (with_reducible first | exact HB.out | apply below_alloc | apply pw_below_drewN | apply below_drew1 | refine below_set ?_ GE111.out) | exact HB.out)⟩
  · rw [if_neg c3] at H
    have c3b0 : decide ((wrap64 (a1 - (a0_0.size : Int))) < 0) = false := decide_eq_false c3
    clear c3
    replace H := Option.bind_eq_some_iff.mp H
    obtain ⟨t112, A60, H⟩ := H
    replace H : (if t112 < 0 then (some (-1)) else ((laws_szBlockS.f k l0_4 t112).bind fun t113 => (if t113 < 0 then (some (-1)) else (some t113)))) = some r := H
    have A6 := Aside0.mk A60
    clear A60
    by_cases c7 : t112 < 0
    · rw [if_pos c7] at H
      have c7b0 : decide (t112 < 0) = true := decide_eq_true c7
      clear c7
      obtain rfl := Option.some.inj H
      go_enter Try.func12, Try.ntmps12
      go_wp2_with (first | ((with_reducible refine gate_dst (N := 2) rfl ?_); refine box_event ?hg (N := 2) ?hd (cs := #[.string a0_0, .int .i64 a0_1, .slice A0_2 l0_2.length c0_2, .int .i64 a0_3, .slice A0_4 l0_4.length c0_4]) (t := 25) ?hr ?_; (case hd => rfl); (case hg => rfl); (case hr => first | (go_simp; done) | (go_simp; rfl)); intro gb111 hg w8 hbox hb; have n0_ := Aside0.mk (below_step (by repeat (first | (with_reducible first | exact HB.out | apply below_alloc | apply pw_below_drewN | apply below_drew1) | exact HB.out)) hb); have n1_ := Aside0.mk (hbox); have n2_ := Aside0.mk ((by rw [hg]; exact (below_size (by repeat (first | (with_reducible first | exact HB.out | apply below_alloc | apply pw_below_drewN | apply below_drew1) | exact HB.out))) : w.heap.size ≤ gb111)); have n3_ := Aside0.mk ((by rw [hg]; exact (below_size (by repeat (first | (with_reducible first | exact HB.out | apply below_alloc | apply pw_below_drewN | apply below_drew1) | exact HB.out))) : w.heap.size ≤ gb111)); clear HB; have HB := n0_; have BK111 := n1_; have GW111 := n2_; have GE111 := n3_; clear n0_ n1_ n2_ n3_; clear hb hbox hg; have hcz9_0 : w8.cell? ⟨gb111, 0, none⟩ = some (.string a0_0) := (blk_cell BK111.out 0).trans rfl; have hcz9_1 : w8.cell? ⟨gb111, 1, none⟩ = some (.int .i64 a0_1) := (blk_cell BK111.out 1).trans rfl; have hcz9_2 : w8.cell? ⟨gb111, 2, none⟩ = some (.slice A0_2 l0_2.length c0_2) := (blk_cell BK111.out 2).trans rfl; have hcz9_3 : w8.cell? ⟨gb111, 3, none⟩ = some (.int .i64 a0_3) := (blk_cell BK111.out 3).trans rfl; have hcz9_4 : w8.cell? ⟨gb111, 4, none⟩ = some (.slice A0_4 l0_4.length c0_4) := (blk_cell BK111.out 4).trans rfl; have hfz9_0 := blk_frozen BK111.out 0; have hfz9_1 := blk_frozen BK111.out 1; have hfz9_2 := blk_frozen BK111.out 2; have hfz9_3 := blk_frozen BK111.out 3; have hfz9_4 := blk_frozen BK111.out 4) | ((with_reducible refine gate_callee (f := 43) rfl ?_); refine goesL_ (some 15) rfl rfl Try.func43 (by kernel_rfl) rfl #[.slice A0_2 l0_2.length c0_2, .int .i64 (wrap64 (a1 - (a0_0.size : Int)))] rfl (by (try simp only [List.map_toArray, List.map_cons, List.map_nil]); first | done | rfl | (simp only [List.length_drop, List.length_take]; rfl)) ?_; (with_reducible refine (laws_szInt64S.calls _ _ l0_2 (wrap64 (a1 - (a0_0.size : Int))) t112 _ ?side1 ?side2 A6.out).mono ?_); (case side1 => repeat (first | exact (Kd.C_below HR0_2.out HB.out) | (with_reducible refine Kd.C_alloc ?_ _) | (with_reducible refine Kd.C_drewN ?_ _) | (with_reducible refine Kd.C_drew ?_))); (case side2 => exact HC0_2.out); rintro e w' ⟨rfl, ⟨nd, rfl⟩⟩; refine ⟨_, rfl, ?_⟩))
      go_ret
      exact ⟨by first | rfl | (simp [errW_none, errW_some] <;> rfl) | (simp [*, errW_none, errW_some] <;> rfl), by repeat (first | (with_reducible first | exact HB.out | apply below_alloc | apply pw_below_drewN | apply below_drew1 | refine below_set ?_ GE111.out) | exact HB.out)⟩
    · rw [if_neg c7] at H
      have c7b0 : decide (t112 < 0) = false := decide_eq_false c7
      clear c7
      replace H := Option.bind_eq_some_iff.mp H
      obtain ⟨t113, A100, H⟩ := H
      replace H : (if t113 < 0 then (some (-1)) else (some t113)) = some r := H
      have A10 := Aside0.mk A100
      clear A100
      by_cases c11 : t113 < 0
      · rw [if_pos c11] at H
        have c11b0 : decide (t113 < 0) = true := decide_eq_true c11
        clear c11
        obtain rfl := Option.some.inj H
        go_enter Try.func12, Try.ntmps12
        go_wp2_with (first | ((with_reducible refine gate_dst (N := 2) rfl ?_); refine box_event ?hg (N := 2) ?hd (cs := #[.string a0_0, .int .i64 a0_1, .slice A0_2 l0_2.length c0_2, .int .i64 a0_3, .slice A0_4 l0_4.length c0_4]) (t := 25) ?hr ?_; (case hd => rfl); (case hg => rfl); (case hr => first | (go_simp; done) | (go_simp; rfl)); intro gb111 hg w12 hbox hb; have n0_ := Aside0.mk (below_step (by repeat (first | (with_reducible first | exact HB.out | apply below_alloc | apply pw_below_drewN | apply below_drew1) | exact HB.out)) hb); have n1_ := Aside0.mk (hbox); have n2_ := Aside0.mk ((by rw [hg]; exact (below_size (by repeat (first | (with_reducible first | exact HB.out | apply below_alloc | apply pw_below_drewN | apply below_drew1) | exact HB.out))) : w.heap.size ≤ gb111)); have n3_ := Aside0.mk ((by rw [hg]; exact (below_size (by repeat (first | (with_reducible first | exact HB.out | apply below_alloc | apply pw_below_drewN | apply below_drew1) | exact HB.out))) : w.heap.size ≤ gb111)); clear HB; have HB := n0_; have BK111 := n1_; have GW111 := n2_; have GE111 := n3_; clear n0_ n1_ n2_ n3_; clear hb hbox hg; have hcz13_0 : w12.cell? ⟨gb111, 0, none⟩ = some (.string a0_0) := (blk_cell BK111.out 0).trans rfl; have hcz13_1 : w12.cell? ⟨gb111, 1, none⟩ = some (.int .i64 a0_1) := (blk_cell BK111.out 1).trans rfl; have hcz13_2 : w12.cell? ⟨gb111, 2, none⟩ = some (.slice A0_2 l0_2.length c0_2) := (blk_cell BK111.out 2).trans rfl; have hcz13_3 : w12.cell? ⟨gb111, 3, none⟩ = some (.int .i64 a0_3) := (blk_cell BK111.out 3).trans rfl; have hcz13_4 : w12.cell? ⟨gb111, 4, none⟩ = some (.slice A0_4 l0_4.length c0_4) := (blk_cell BK111.out 4).trans rfl; have hfz13_0 := blk_frozen BK111.out 0; have hfz13_1 := blk_frozen BK111.out 1; have hfz13_2 := blk_frozen BK111.out 2; have hfz13_3 := blk_frozen BK111.out 3; have hfz13_4 := blk_frozen BK111.out 4) | ((with_reducible refine gate_callee (f := 43) rfl ?_); refine goesL_ (some 15) rfl rfl Try.func43 (by kernel_rfl) rfl #[.slice A0_2 l0_2.length c0_2, .int .i64 (wrap64 (a1 - (a0_0.size : Int)))] rfl (by (try simp only [List.map_toArray, List.map_cons, List.map_nil]); first | done | rfl | (simp only [List.length_drop, List.length_take]; rfl)) ?_; (with_reducible refine (laws_szInt64S.calls _ _ l0_2 (wrap64 (a1 - (a0_0.size : Int))) t112 _ ?side1 ?side2 A6.out).mono ?_); (case side1 => repeat (first | exact (Kd.C_below HR0_2.out HB.out) | (with_reducible refine Kd.C_alloc ?_ _) | (with_reducible refine Kd.C_drewN ?_ _) | (with_reducible refine Kd.C_drew ?_))); (case side2 => exact HC0_2.out); rintro e w' ⟨rfl, ⟨nd, rfl⟩⟩; refine ⟨_, rfl, ?_⟩) | ((with_reducible refine gate_callee (f := 44) rfl ?_); refine goesL_ (some 21) rfl rfl Try.func44 (by kernel_rfl) rfl #[.slice A0_4 l0_4.length c0_4, .int .i64 t112] rfl (by (try simp only [List.map_toArray, List.map_cons, List.map_nil]); first | done | rfl | (simp only [List.length_drop, List.length_take]; rfl)) ?_; (with_reducible refine (laws_szBlockS.calls k _ _ l0_4 t112 t113 _ ?side1 ?side2 A10.out).mono ?_); (case side1 => repeat (first | exact (Kd.C_below HR0_4.out (by repeat (first | (with_reducible first | exact HB.out | apply below_alloc | apply pw_below_drewN | apply below_drew1 | refine below_set ?_ GE111.out) | exact HB.out))) | (with_reducible refine Kd.C_alloc ?_ _) | (with_reducible refine Kd.C_drewN ?_ _) | (with_reducible refine Kd.C_drew ?_))); (case side2 => exact HC0_4.out); rintro e w14 ⟨rfl, hb⟩; refine ⟨_, rfl, ?_⟩; have n0_ := Aside0.mk (blk_below (g := gb111) (o := .cells #[.string a0_0, .int .i64 a0_1, .slice A0_2 l0_2.length c0_2, .int .i64 a0_3, .slice A0_4 l0_4.length c0_4] 25 (0, 0)) (by (with_reducible repeat (first | refine blk_drewN ?_ _ | refine blk_drew ?_ | refine blk_alloc ?_ _)); exact BK111.out) hb); have n1_ := Aside0.mk (below_step (by repeat (first | (with_reducible first | exact HB.out | apply below_alloc | apply pw_below_drewN | apply below_drew1 | refine below_set ?_ GE111.out) | exact HB.out)) hb); clear BK111; clear HB; have BK111 := n0_; have HB := n1_; clear n0_ n1_; (try clear hb); (try clear hb2); (try clear hk); (try clear hi)))
        go_ret
        exact ⟨by first | rfl | (simp [errW_none, errW_some] <;> rfl) | (simp [*, errW_none, errW_some] <;> rfl), by repeat (first | (with_reducible first | exact HB.out | apply below_alloc | apply pw_below_drewN | apply below_drew1 | refine below_set ?_ GE111.out) | exact HB.out)⟩
      · rw [if_neg c11] at H
        have c11b0 : decide (t113 < 0) = false := decide_eq_false c11
        clear c11
        obtain rfl := Option.some.inj H
        go_enter Try.func12, Try.ntmps12
        go_wp2_with (first | ((with_reducible refine gate_dst (N := 2) rfl ?_); refine box_event ?hg (N := 2) ?hd (cs := #[.string a0_0, .int .i64 a0_1, .slice A0_2 l0_2.length c0_2, .int .i64 a0_3, .slice A0_4 l0_4.length c0_4]) (t := 25) ?hr ?_; (case hd => rfl); (case hg => rfl); (case hr => first | (go_simp; done) | (go_simp; rfl)); intro gb111 hg w15 hbox hb; have n0_ := Aside0.mk (below_step (by repeat (first | (with_reducible first | exact HB.out | apply below_alloc | apply pw_below_drewN | apply below_drew1) | exact HB.out)) hb); have n1_ := Aside0.mk (hbox); have n2_ := Aside0.mk ((by rw [hg]; exact (below_size (by repeat (first | (with_reducible first | exact HB.out | apply below_alloc | apply pw_below_drewN | apply below_drew1) | exact HB.out))) : w.heap.size ≤ gb111)); have n3_ := Aside0.mk ((by rw [hg]; exact (below_size (by repeat (first | (with_reducible first | exact HB.out | apply below_alloc | apply pw_below_drewN | apply below_drew1) | exact HB.out))) : w.heap.size ≤ gb111)); clear HB; have HB := n0_; have BK111 := n1_; have GW111 := n2_; have GE111 := n3_; clear n0_ n1_ n2_ n3_; clear hb hbox hg; have hcz16_0 : w15.cell? ⟨gb111, 0, none⟩ = some (.string a0_0) := (blk_cell BK111.out 0).trans rfl; have hcz16_1 : w15.cell? ⟨gb111, 1, none⟩ = some (.int .i64 a0_1) := (blk_cell BK111.out 1).trans rfl; have hcz16_2 : w15.cell? ⟨gb111, 2, none⟩ = some (.slice A0_2 l0_2.length c0_2) := (blk_cell BK111.out 2).trans rfl; have hcz16_3 : w15.cell? ⟨gb111, 3, none⟩ = some (.int .i64 a0_3) := (blk_cell BK111.out 3).trans rfl; have hcz16_4 : w15.cell? ⟨gb111, 4, none⟩ = some (.slice A0_4 l0_4.length c0_4) := (blk_cell BK111.out 4).trans rfl; have hfz16_0 := blk_frozen BK111.out 0; have hfz16_1 := blk_frozen BK111.out 1; have hfz16_2 := blk_frozen BK111.out 2; have hfz16_3 := blk_frozen BK111.out 3; have hfz16_4 := blk_frozen BK111.out 4) | ((with_reducible refine gate_callee (f := 43) rfl ?_); refine goesL_ (some 15) rfl rfl Try.func43 (by kernel_rfl) rfl #[.slice A0_2 l0_2.length c0_2, .int .i64 (wrap64 (a1 - (a0_0.size : Int)))] rfl (by (try simp only [List.map_toArray, List.map_cons, List.map_nil]); first | done | rfl | (simp only [List.length_drop, List.length_take]; rfl)) ?_; (with_reducible refine (laws_szInt64S.calls _ _ l0_2 (wrap64 (a1 - (a0_0.size : Int))) t112 _ ?side1 ?side2 A6.out).mono ?_); (case side1 => repeat (first | exact (Kd.C_below HR0_2.out HB.out) | (with_reducible refine Kd.C_alloc ?_ _) | (with_reducible refine Kd.C_drewN ?_ _) | (with_reducible refine Kd.C_drew ?_))); (case side2 => exact HC0_2.out); rintro e w' ⟨rfl, ⟨nd, rfl⟩⟩; refine ⟨_, rfl, ?_⟩) | ((with_reducible refine gate_callee (f := 44) rfl ?_); refine goesL_ (some 21) rfl rfl Try.func44 (by kernel_rfl) rfl #[.slice A0_4 l0_4.length c0_4, .int .i64 t112] rfl (by (try simp only [List.map_toArray, List.map_cons, List.map_nil]); first | done | rfl | (simp only [List.length_drop, List.length_take]; rfl)) ?_; (with_reducible refine (laws_szBlockS.calls k _ _ l0_4 t112 t113 _ ?side1 ?side2 A10.out).mono ?_); (case side1 => repeat (first | exact (Kd.C_below HR0_4.out (by repeat (first | (with_reducible first | exact HB.out | apply below_alloc | apply pw_below_drewN | apply below_drew1 | refine below_set ?_ GE111.out) | exact HB.out))) | (with_reducible refine Kd.C_alloc ?_ _) | (with_reducible refine Kd.C_drewN ?_ _) | (with_reducible refine Kd.C_drew ?_))); (case side2 => exact HC0_4.out); rintro e w17 ⟨rfl, hb⟩; refine ⟨_, rfl, ?_⟩; have n0_ := Aside0.mk (blk_below (g := gb111) (o := .cells #[.string a0_0, .int .i64 a0_1, .slice A0_2 l0_2.length c0_2, .int .i64 a0_3, .slice A0_4 l0_4.length c0_4] 25 (0, 0)) (by (with_reducible repeat (first | refine blk_drewN ?_ _ | refine blk_drew ?_ | refine blk_alloc ?_ _)); exact BK111.out) hb); have n1_ := Aside0.mk (below_step (by repeat (first | (with_reducible first | exact HB.out | apply below_alloc | apply pw_below_drewN | apply below_drew1 | refine below_set ?_ GE111.out) | exact HB.out)) hb); clear BK111; clear HB; have BK111 := n0_; have HB := n1_; clear n0_ n1_; (try clear hb); (try clear hb2); (try clear hk); (try clear hi)))
        go_ret
        exact ⟨by first | rfl | (simp [errW_none, errW_some] <;> rfl) | (simp [*, errW_none, errW_some] <;> rfl), by repeat (first | (with_reducible first | exact HB.out | apply below_alloc | apply pw_below_drewN | apply below_drew1 | refine below_set ?_ GE111.out) | exact HB.out)⟩

end Go.Proofs.Ytoedcnhgobbnfaa.All

namespace Go.Proofs.Ytoedcnhgobbnfaa.All
open Go.RowKit Go.Proofs.YtoedcnhgobbnfaaW.PrintWords Go.Proofs.YtoedcnhgobbnfaaW.PrintLast Go.Proofs.YtoedcnhgobbnfaaW.PrintMore
attribute [local go_sem] max2_int min2_int max_two min_two max_three min_three max_four min_four   -- for this text's walks alone
set_option linter.unusedVariables false
set_option linter.unusedSimpArgs false

/-! ### spec_l4Has: function 51 -/
def spec_l4Has.l0 : Nat → List Int → Int → Int → Option (Bool)
  | 0, _, _, _ => none
  | k + 1, x0, x1, x5 => if x5 < (x0.length : Int) then (if 0 ≤ x5 then (if (rd x0 x5) = x1 then (some true) else (spec_l4Has.l0 k x0 x1 (wrap64 (x5 + 1)))) else (none)) else (some false)
def spec_l4Has.f (k : Nat) (l0 : List Int) (a1 : Int) : Option (Bool) := spec_l4Has.l0 k l0 a1 0
set_option maxHeartbeats 8000000 in
set_option maxRecDepth 100000 in
theorem spec_l4Has.calls (k : Nat) (A0 : Option Addr) (c0 : Nat) (l0 : List Int) (a1 : Int) (r : Bool) (w : World) (hr0 : Kd.C (Kd.int .i64) w A0 l0.length l0) (hc0 : l0.length ≤ c0) (h : spec_l4Has.f k l0 a1 = some r) :
    Calls Try.prog 51 #[.slice A0 l0.length c0, .int .i64 a1] w fun e w' => e = .returned (.bool r) ∧ Drawn0 w w' := by
  have HR0 := Aside0.mk hr0
  have HC0 := Aside0.mk hc0
  clear hr0 hc0
  have H : (spec_l4Has.l0 k l0 a1 0) = some r := h
  clear h
  have H' := Aside0.mk H
  clear H
  go_enter Try.func51, Try.ntmps51
  go_wp2
  go_loopg [5] k (fun kq v5 w' => ∃ (x5_1 : Int), v5 = .int .i64 x5_1 ∧ Aside0 (spec_l4Has.l0 kq l0 a1 x5_1 = some r) ∧ Aside0 (kq ≤ k) ∧ Drawn0 w w')
  case atStart => exact ⟨(0), (by first | rfl | (simp; done) | (simp [*]; done)), H', ⟨Nat.le_refl _⟩, by repeat (first | exact Drawn0.refl _ | apply Drawn0.step)⟩
  case round =>
    clear H'
    try clear p2
    obtain ⟨x5_1, rfl, HA, HK1, ⟨m1, rfl⟩⟩ := hrel
    cases gk with
    | zero => exact absurd HA.out (by simp [spec_l4Has.l0])
    | succ k1 =>
      have H := HA.out
      clear HA
      simp only [spec_l4Has.l0] at H
      by_cases c3 : x5_1 < (l0.length : Int)
      · rw [if_pos c3] at H
        have c3b0 : decide (x5_1 < (l0.length : Int)) = true := decide_eq_true c3
        clear c3
        by_cases c4 : 0 ≤ x5_1
        · rw [if_pos c4] at H
          have c4b0 : decide (0 ≤ x5_1) = true := decide_eq_true c4
          clear c4
          by_cases c5 : (rd l0 x5_1) = a1
          · rw [if_pos c5] at H
            have c5b0 : ((rd l0 x5_1) == a1) = true := beq_iff_eq.mpr c5
            have c5b1 : ((rd l0 x5_1) != a1) = false := bne_eq_false_iff_eq.mpr c5
            clear c5
            obtain rfl := Option.some.inj H
            have p114 : 0 ≤ (x5_1 : Int) := of_decide_eq_true (by first | (with_reducible assumption) | assumption)
            have q114 : x5_1 < (l0.length : Int) := of_decide_eq_true (by first | (with_reducible assumption) | assumption)
            obtain ⟨ad114, e114, hx114_0⟩ := Kd.at_int HR0.out x5_1 p114 q114
            cases e114
            replace p114 := eq_true p114
            replace q114 := eq_true q114
            go_wp2
            go_ret
            exact ⟨by first | rfl | (simp; done) | (simp [*]; done), by repeat (first | exact Drawn0.refl _ | apply Drawn0.step)⟩
          · rw [if_neg c5] at H
            have c5b0 : ((rd l0 x5_1) == a1) = false := beq_eq_false_iff_ne.mpr c5
            have c5b1 : ((rd l0 x5_1) != a1) = true := bne_iff_ne.mpr c5
            have H' := Aside0.mk H
            clear H
            have p114 : 0 ≤ (x5_1 : Int) := of_decide_eq_true (by first | (with_reducible assumption) | assumption)
            have q114 : x5_1 < (l0.length : Int) := of_decide_eq_true (by first | (with_reducible assumption) | assumption)
            obtain ⟨ad114, e114, hx114_0⟩ := Kd.at_int HR0.out x5_1 p114 q114
            cases e114
            replace p114 := eq_true p114
            replace q114 := eq_true q114
            go_wp2
            go_roundg k1
            case measure => have := HK1.out; omega
            case rel => exact ⟨(wrap64 (x5_1 + 1)), (by first | rfl | (simp; done) | (simp [*]; done)), H', ⟨by have := HK1.out; omega⟩, by repeat (first | exact Drawn0.refl _ | apply Drawn0.step)⟩
        · rw [if_neg c4] at H
          exact absurd H (by simp)
      · rw [if_neg c3] at H
        have c3b0 : decide (x5_1 < (l0.length : Int)) = false := decide_eq_false c3
        clear c3
        obtain rfl := Option.some.inj H
        go_wp2
        go_ret
        exact ⟨by first | rfl | (simp; done) | (simp [*]; done), by repeat (first | exact Drawn0.refl _ | apply Drawn0.step)⟩

end Go.Proofs.Ytoedcnhgobbnfaa.All

namespace Go.Proofs.Ytoedcnhgobbnfaa.All
open Go.RowKit Go.Proofs.YtoedcnhgobbnfaaW.PrintWords Go.Proofs.YtoedcnhgobbnfaaW.PrintLast Go.Proofs.YtoedcnhgobbnfaaW.PrintMore
attribute [local go_sem] max2_int min2_int max_two min_two max_three min_three max_four min_four   -- for this text's walks alone
set_option linter.unusedVariables false
set_option linter.unusedSimpArgs false

/-! ### spec_NextBlocks: function 17 -/
mutual
def spec_NextBlocks.j0 : Nat → Int → List Int → Bool → ByteArray → Int → List Int → Int → List (S62) → Option (List Int)
  | 0, _, _, _, _, _, _, _, _ => none
  | k + 1, x1, x5, x29, x116000, x116001, x116002, x116003, x116004 => if x29 = true then (some x5) else (if 0 ≤ x1 then (if x1 < (x116004.length : Int) then (if 0 ≤ (wrap64 ((((rd_T62 x116004 x1).f0).length : Int) - 1)) then (if (wrap64 ((((rd_T62 x116004 x1).f0).length : Int) - 1)) < (((rd_T62 x116004 x1).f0).length : Int) then (spec_NextBlocks.l0 k x5 0 x116000 x116001 x116002 x116003 x116004 ((rd_T66 ((rd_T62 x116004 x1).f0) (wrap64 ((((rd_T62 x116004 x1).f0).length : Int) - 1))).f0) ((rd_T66 ((rd_T62 x116004 x1).f0) (wrap64 ((((rd_T62 x116004 x1).f0).length : Int) - 1))).f1) ((rd_T66 ((rd_T62 x116004 x1).f0) (wrap64 ((((rd_T62 x116004 x1).f0).length : Int) - 1))).f2) ((rd_T66 ((rd_T62 x116004 x1).f0) (wrap64 ((((rd_T62 x116004 x1).f0).length : Int) - 1))).f3) ((rd_T66 ((rd_T62 x116004 x1).f0) (wrap64 ((((rd_T62 x116004 x1).f0).length : Int) - 1))).f4) ((rd_T66 ((rd_T62 x116004 x1).f0) (wrap64 ((((rd_T62 x116004 x1).f0).length : Int) - 1))).f5) ((rd_T66 ((rd_T62 x116004 x1).f0) (wrap64 ((((rd_T62 x116004 x1).f0).length : Int) - 1))).f6) ((rd_T66 ((rd_T62 x116004 x1).f0) (wrap64 ((((rd_T62 x116004 x1).f0).length : Int) - 1))).f7) ((rd_T66 ((rd_T62 x116004 x1).f0) (wrap64 ((((rd_T62 x116004 x1).f0).length : Int) - 1))).f8)) else (none)) else (none)) else (none)) else (none))
def spec_NextBlocks.l0 : Nat → List Int → Int → ByteArray → Int → List Int → Int → List (S62) → Int → Int → Int → Int → Int → Int → List (S75) → List Int → List Int → Option (List Int)
  | 0, _, _, _, _, _, _, _, _, _, _, _, _, _, _, _, _ => none
  | k + 1, x5, x8, x116000, x116001, x116002, x116003, x116004, x123000, x123001, x123002, x123003, x123004, x123005, x123006, x123007, x123008 => if x8 < (x123007.length : Int) then (if 0 ≤ x8 then (if (rd x123007 x8) ≥ 0 then (if (rd x123007 x8) < (x116004.length : Int) then ((spec_l4Has.f k x5 (rd x123007 x8)).bind fun t124 => (if t124 = true then (spec_NextBlocks.l0 k x5 (wrap64 (x8 + 1)) x116000 x116001 x116002 x116003 x116004 x123000 x123001 x123002 x123003 x123004 x123005 x123006 x123007 x123008) else (if x5.length < 17592186044416 then (spec_NextBlocks.l0 k (x5 ++ [rd x123007 x8]) (wrap64 (x8 + 1)) x116000 x116001 x116002 x116003 x116004 x123000 x123001 x123002 x123003 x123004 x123005 x123006 x123007 x123008) else (none)))) else (spec_NextBlocks.l0 k x5 (wrap64 (x8 + 1)) x116000 x116001 x116002 x116003 x116004 x123000 x123001 x123002 x123003 x123004 x123005 x123006 x123007 x123008)) else (spec_NextBlocks.l0 k x5 (wrap64 (x8 + 1)) x116000 x116001 x116002 x116003 x116004 x123000 x123001 x123002 x123003 x123004 x123005 x123006 x123007 x123008)) else (none)) else (some x5)
end
def spec_NextBlocks.f (k : Nat) (a0_0 : ByteArray) (a0_1 : Int) (l0_2 : List Int) (a0_3 : Int) (l0_4 : List (S62)) (a1 : Int) : Option (List Int) := (some (([] : List Int) : List Int)).bind fun y116 => (if a1 < 0 then (spec_NextBlocks.j0 k a1 y116 true a0_0 a0_1 l0_2 a0_3 l0_4) else (if a1 ≥ (l0_4.length : Int) then (spec_NextBlocks.j0 k a1 y116 true a0_0 a0_1 l0_2 a0_3 l0_4) else (if 0 ≤ a1 then (if a1 < (l0_4.length : Int) then (spec_NextBlocks.j0 k a1 y116 ((((rd_T62 l0_4 a1).f0).length : Int) == 0) a0_0 a0_1 l0_2 a0_3 l0_4) else (none)) else (none))))
set_option maxHeartbeats 8000000 in
set_option maxRecDepth 100000 in
theorem spec_NextBlocks.calls (k : Nat) (a0_0 : ByteArray) (a0_1 : Int) (A0_2 : Option Addr) (c0_2 : Nat) (l0_2 : List Int) (a0_3 : Int) (A0_4 : Option Addr) (c0_4 : Nat) (l0_4 : List (S62)) (a1 : Int) (r : List Int) (w : World) (hr0_2 : Kd.C (Kd.int .i64) w A0_2 l0_2.length l0_2) (hc0_2 : l0_2.length ≤ c0_2) (hr0_4 : Kd.C k62 w A0_4 l0_4.length l0_4) (hc0_4 : l0_4.length ≤ c0_4) (h : spec_NextBlocks.f k a0_0 a0_1 l0_2 a0_3 l0_4 a1 = some r) :
    Calls Try.prog 17 #[.agg #[.string a0_0, .int .i64 a0_1, .slice A0_2 l0_2.length c0_2, .int .i64 a0_3, .slice A0_4 l0_4.length c0_4], .int .i64 a1] w fun e w' => ∃ v0_ : Value, e = .returned (v0_) ∧ Kd.R (Kd.int .i64) 2 w' w.heap.size (fun _ => True) v0_ r ∧ Below w.heap.size w w' := by
  have hu30 := Try.underlying30
  have hu66 := Try.underlying66
  have HR0_2 := Aside0.mk hr0_2
  have HC0_2 := Aside0.mk hc0_2
  clear hr0_2 hc0_2
  have HR0_4 := Aside0.mk hr0_4
  have HC0_4 := Aside0.mk hc0_4
  clear hr0_4 hc0_4
  have HB := Aside0.mk (Below.refl w.heap.size w)
  have H : ((some (([] : List Int) : List Int)).bind fun y116 => (if a1 < 0 then (spec_NextBlocks.j0 k a1 y116 true a0_0 a0_1 l0_2 a0_3 l0_4) else (if a1 ≥ (l0_4.length : Int) then (spec_NextBlocks.j0 k a1 y116 true a0_0 a0_1 l0_2 a0_3 l0_4) else (if 0 ≤ a1 then (if a1 < (l0_4.length : Int) then (spec_NextBlocks.j0 k a1 y116 ((((rd_T62 l0_4 a1).f0).length : Int) == 0) a0_0 a0_1 l0_2 a0_3 l0_4) else (none)) else (none))))) = some r := h
  clear h
  obtain ⟨y116, hy116⟩ : ∃ y_ : List Int, y_ = (([] : List Int)) := ⟨_, rfl⟩
  replace H : (if a1 < 0 then (spec_NextBlocks.j0 k a1 y116 true a0_0 a0_1 l0_2 a0_3 l0_4) else (if a1 ≥ (l0_4.length : Int) then (spec_NextBlocks.j0 k a1 y116 true a0_0 a0_1 l0_2 a0_3 l0_4) else (if 0 ≤ a1 then (if a1 < (l0_4.length : Int) then (spec_NextBlocks.j0 k a1 y116 ((((rd_T62 l0_4 a1).f0).length : Int) == 0) a0_0 a0_1 l0_2 a0_3 l0_4) else (none)) else (none)))) = some r := by first | (rw [hy116]; with_reducible exact H) | (have H2_ := (Option.bind_some _ _).symm.trans H; rw [hy116]; with_reducible exact H2_) | (have H2_ := (Option.bind_some _ _).symm.trans H; with_reducible exact H2_) | with_reducible exact H | (rw [hy116]; exact H) | exact H
  have Ny116 := Aside0.mk hy116
  clear hy116
  have HC3 := Aside0.mk H
  clear H
  go_enter Try.func17, Try.ntmps17
  go_upto_region 2 with (first | ((with_reducible refine gate_dst (N := 2) rfl ?_); (try (refine gate_guard (by rfl) ?_; dsimp only)); refine box_event ?hg (N := 2) ?hd (cs := #[.string a0_0, .int .i64 a0_1, .slice A0_2 l0_2.length c0_2, .int .i64 a0_3, .slice A0_4 l0_4.length c0_4]) (t := 30) ?hr ?_; (case hd => rfl); (case hg => rfl); (case hr => first | (go_simp; done) | (go_simp; rfl)); intro gb115 hg w4 hbox hb; have n0_ := Aside0.mk (below_step (by repeat (first | (with_reducible first | exact HB.out | apply below_alloc | apply pw_below_drewN | apply below_drew1) | exact HB.out)) hb); have n1_ := Aside0.mk (hbox); have n2_ := Aside0.mk ((by rw [hg]; exact (below_size (by repeat (first | (with_reducible first | exact HB.out | apply below_alloc | apply pw_below_drewN | apply below_drew1) | exact HB.out))) : w.heap.size ≤ gb115)); have n3_ := Aside0.mk ((by rw [hg]; exact (below_size (by repeat (first | (with_reducible first | exact HB.out | apply below_alloc | apply pw_below_drewN | apply below_drew1) | exact HB.out))) : w.heap.size ≤ gb115)); clear HB; have HB := n0_; have BK115 := n1_; have GW115 := n2_; have GE115 := n3_; clear n0_ n1_ n2_ n3_; clear hb hbox hg) | ((with_reducible refine gate_dst (N := 10) rfl ?_); (try (refine gate_guard (by rfl) ?_; dsimp only)); refine Kd.R_lit (Kd.int .i64) _ 2 ?hg (N := 10) ?hd (xs := ([] : List Int)) (inner := []) (ok := fun _ => True) (okp := fun _ => True) ?hr ?hp (fun _ hk => hk) trivial (Below.refl _ _) (Nat.le_refl _) (by simp) ?_; (case hd => rfl); (case hg => rfl); (case hr => first | (go_simp; done) | (go_simp; rfl)); (case hp => exact (Reps.none _ _)); intro v117 w5 ho6 hb hg_ hnew_; clear hg_ hnew_; (first | rw [← Ny116.out] at ho6 | (simp only [Int.reduceToNat] at ho6; rw [← Ny116.out] at ho6)); have n0_ := Aside0.mk (Kd.R_lower ho6 (below_size (by repeat (first | (with_reducible first | exact HB.out | apply below_alloc | apply pw_below_drewN | apply below_drew1 | refine below_set ?_ GE115.out) | exact HB.out)))); have n1_ := Aside0.mk (blk_below (g := gb115) (o := .cells #[.string a0_0, .int .i64 a0_1, .slice A0_2 l0_2.length c0_2, .int .i64 a0_3, .slice A0_4 l0_4.length c0_4] 30 (0, 0)) (by (with_reducible repeat (first | refine blk_drewN ?_ _ | refine blk_drew ?_ | refine blk_alloc ?_ _)); exact BK115.out) hb); have n2_ := Aside0.mk (below_step (by repeat (first | (with_reducible first | exact HB.out | apply below_alloc | apply pw_below_drewN | apply below_drew1 | refine below_set ?_ GE115.out) | exact HB.out)) hb); clear BK115; clear HB; have HO118 := n0_; have BK115 := n1_; have HB := n2_; clear n0_ n1_ n2_; clear hb ho6))
  (try simp only [Act.put, List.setIfInBounds_toArray, List.set_cons_zero, List.set_cons_succ])
  go_cut [29] (fun v29 wc => ∃ (kq : Nat) (x29_2 : Bool), v29 = .bool x29_2 ∧ Aside0 (spec_NextBlocks.j0 kq a1 y116 x29_2 a0_0 a0_1 l0_2 a0_3 l0_4 = some r) ∧ Aside0 (kq ≤ k) ∧ Aside0 (Kd.R (Kd.int .i64) 2 wc w.heap.size (fun _ => True) v117 y116) ∧ Aside0 (wc.heap[gb115]? = some (.cells #[.string a0_0, .int .i64 a0_1, (.slice A0_2 l0_2.length c0_2), .int .i64 a0_3, (.slice A0_4 l0_4.length c0_4)] 30 (0, 0))) ∧ Aside0 (Below w.heap.size w wc))
  case first =>
    have H := HC3.out
    clear HC3
    by_cases c7 : a1 < 0
    · rw [if_pos c7] at H
      have c7b0 : decide (a1 < 0) = true := decide_eq_true c7
      clear c7
      (first | rw [c7b0] | (simp only [i64_w, i32_w]; rw [c7b0]) | skip)
      have H' := Aside0.mk H
      clear H
      go_wp2
      go_meet
      case rel => exact ⟨_, (true), (by first | rfl | (simp; done) | (simp [*]; done)), H', ⟨by first | omega | exact Nat.le_refl _⟩, ⟨by (with_reducible repeat (first | apply Kd.R_alloc | apply Kd.R_drewN | apply Kd.R_drew)); exact HO118.out⟩, ⟨by (with_reducible repeat (first | refine blk_drewN ?_ _ | refine blk_drew ?_ | refine blk_alloc ?_ _)); exact BK115.out⟩, ⟨by repeat (first | (with_reducible first | exact HB.out | apply below_alloc | apply pw_below_drewN | apply below_drew1 | refine below_set ?_ GE115.out) | exact HB.out)⟩⟩
    · rw [if_neg c7] at H
      have c7b0 : decide (a1 < 0) = false := decide_eq_false c7
      clear c7
      (first | rw [c7b0] | (simp only [i64_w, i32_w]; rw [c7b0]) | skip)
      by_cases c8 : a1 ≥ (l0_4.length : Int)
      · rw [if_pos c8] at H
        have c8b0 : decide ((l0_4.length : Int) ≤ a1) = true := decide_eq_true c8
        clear c8
        have H' := Aside0.mk H
        clear H
        have hcz9_0 : w5.cell? ⟨gb115, 0, none⟩ = some (.string a0_0) := (blk_cell BK115.out 0).trans rfl
        have hcz9_1 : w5.cell? ⟨gb115, 1, none⟩ = some (.int .i64 a0_1) := (blk_cell BK115.out 1).trans rfl
        have hcz9_2 : w5.cell? ⟨gb115, 2, none⟩ = some (.slice A0_2 l0_2.length c0_2) := (blk_cell BK115.out 2).trans rfl
        have hcz9_3 : w5.cell? ⟨gb115, 3, none⟩ = some (.int .i64 a0_3) := (blk_cell BK115.out 3).trans rfl
        have hcz9_4 : w5.cell? ⟨gb115, 4, none⟩ = some (.slice A0_4 l0_4.length c0_4) := (blk_cell BK115.out 4).trans rfl
        have hfz9_0 := blk_frozen BK115.out 0
        have hfz9_1 := blk_frozen BK115.out 1
        have hfz9_2 := blk_frozen BK115.out 2
        have hfz9_3 := blk_frozen BK115.out 3
        have hfz9_4 := blk_frozen BK115.out 4
        go_wp2
        go_meet
        case rel => exact ⟨_, (true), (by first | rfl | (simp; done) | (simp [*]; done)), H', ⟨by first | omega | exact Nat.le_refl _⟩, ⟨by (with_reducible repeat (first | apply Kd.R_alloc | apply Kd.R_drewN | apply Kd.R_drew)); exact HO118.out⟩, ⟨by (with_reducible repeat (first | refine blk_drewN ?_ _ | refine blk_drew ?_ | refine blk_alloc ?_ _)); exact BK115.out⟩, ⟨by repeat (first | (with_reducible first | exact HB.out | apply below_alloc | apply pw_below_drewN | apply below_drew1 | refine below_set ?_ GE115.out) | exact HB.out)⟩⟩
      · rw [if_neg c8] at H
        have c8b0 : decide ((l0_4.length : Int) ≤ a1) = false := decide_eq_false c8
        clear c8
        by_cases c10 : 0 ≤ a1
        · rw [if_pos c10] at H
          have c10b0 : decide (0 ≤ a1) = true := decide_eq_true c10
          clear c10
          by_cases c11 : a1 < (l0_4.length : Int)
          · rw [if_pos c11] at H
            have c11b0 : decide (a1 < (l0_4.length : Int)) = true := decide_eq_true c11
            clear c11
            have H' := Aside0.mk H
            clear H
            have hcz12_0 : w5.cell? ⟨gb115, 0, none⟩ = some (.string a0_0) := (blk_cell BK115.out 0).trans rfl
            have hcz12_1 : w5.cell? ⟨gb115, 1, none⟩ = some (.int .i64 a0_1) := (blk_cell BK115.out 1).trans rfl
            have hcz12_2 : w5.cell? ⟨gb115, 2, none⟩ = some (.slice A0_2 l0_2.length c0_2) := (blk_cell BK115.out 2).trans rfl
            have hcz12_3 : w5.cell? ⟨gb115, 3, none⟩ = some (.int .i64 a0_3) := (blk_cell BK115.out 3).trans rfl
            have hcz12_4 : w5.cell? ⟨gb115, 4, none⟩ = some (.slice A0_4 l0_4.length c0_4) := (blk_cell BK115.out 4).trans rfl
            have hfz12_0 := blk_frozen BK115.out 0
            have hfz12_1 := blk_frozen BK115.out 1
            have hfz12_2 := blk_frozen BK115.out 2
            have hfz12_3 := blk_frozen BK115.out 3
            have hfz12_4 := blk_frozen BK115.out 4
            have p119 : 0 ≤ (a1 : Int) := of_decide_eq_true (by first | (with_reducible assumption) | assumption)
            have q119 : a1 < (l0_4.length : Int) := of_decide_eq_true (by first | (with_reducible assumption) | assumption)
            obtain ⟨ad119, A119_0, c119_0, e119, hx119_0, hl119_0, hi119_0⟩ := at_T62 HR0_4.out a1 p119 q119
            cases e119
            replace hx119_0 := (HB.out.cell (World.block_lt_of_cell? w _ hx119_0)).trans hx119_0
            have HR119_0 := Aside0.mk hi119_0
            have HC119_0 := Aside0.mk hl119_0
            clear hi119_0 hl119_0
            replace p119 := eq_true p119
            replace q119 := eq_true q119
            go_wp2
            go_meet
            case rel => exact ⟨_, (((((rd_T62 l0_4 a1).f0).length : Int) == 0)), (by first | rfl | (simp; done) | (simp [*]; done)), H', ⟨by first | omega | exact Nat.le_refl _⟩, ⟨by (with_reducible repeat (first | apply Kd.R_alloc | apply Kd.R_drewN | apply Kd.R_drew)); exact HO118.out⟩, ⟨by (with_reducible repeat (first | refine blk_drewN ?_ _ | refine blk_drew ?_ | refine blk_alloc ?_ _)); exact BK115.out⟩, ⟨by repeat (first | (with_reducible first | exact HB.out | apply below_alloc | apply pw_below_drewN | apply below_drew1 | refine below_set ?_ GE115.out) | exact HB.out)⟩⟩
          · rw [if_neg c11] at H
            exact absurd H (by simp)
        · rw [if_neg c10] at H
          exact absurd H (by simp)
  case rest =>
    clear HC3
    try clear c1
    try clear p1
    try clear q1
    try clear hx1
    try clear p2
    try clear c7
    try clear c7b0
    try clear c8
    try clear c8b0
    try clear c10
    try clear c10b0
    try clear c11
    try clear c11b0
    try clear p11
    try clear q11
    try clear hx11
    try clear hcz12_0
    try clear hcz12_1
    try clear hcz12_2
    try clear hcz12_3
    try clear hcz12_4
    try clear hcz9_0
    try clear hcz9_1
    try clear hcz9_2
    try clear hcz9_3
    try clear hcz9_4
    try clear hfz12_0
    try clear hfz12_1
    try clear hfz12_2
    try clear hfz12_3
    try clear hfz12_4
    try clear hfz9_0
    try clear hfz9_1
    try clear hfz9_2
    try clear hfz9_3
    try clear hfz9_4
    try clear hx119_0
    try clear p119
    try clear q119
    obtain ⟨kq, x29_2, rfl, HA, HJ2, HO_5, BK115, HB⟩ := hcut
    cases kq with
    | zero => exact absurd HA.out (by simp [spec_NextBlocks.j0])
    | succ kj2 =>
      have H := HA.out
      clear HA
      simp only [spec_NextBlocks.j0] at H
      by_cases c13 : x29_2 = true
      · subst c13
        have H1 : (some y116) = some r := by rw [if_pos rfl] at H; exact H
        clear H
        have H := H1
        clear H1
        obtain rfl := Option.some.inj H
        go_wp2
        go_ret
        exact ⟨_, by first | rfl | (simp [errW_none, errW_some] <;> rfl) | (simp [*, errW_none, errW_some] <;> rfl), by (with_reducible repeat (first | apply Kd.R_alloc | apply Kd.R_drewN | apply Kd.R_drew)); exact HO_5.out, by repeat (first | (with_reducible first | exact HB.out | apply below_alloc | apply pw_below_drewN | apply below_drew1 | refine below_set ?_ GE115.out) | exact HB.out)⟩
      · replace c13 := Bool.eq_false_iff.mpr c13
        subst c13
        have H1 : (if 0 ≤ a1 then (if a1 < (l0_4.length : Int) then (if 0 ≤ (wrap64 ((((rd_T62 l0_4 a1).f0).length : Int) - 1)) then (if (wrap64 ((((rd_T62 l0_4 a1).f0).length : Int) - 1)) < (((rd_T62 l0_4 a1).f0).length : Int) then (spec_NextBlocks.l0 kj2 y116 0 a0_0 a0_1 l0_2 a0_3 l0_4 ((rd_T66 ((rd_T62 l0_4 a1).f0) (wrap64 ((((rd_T62 l0_4 a1).f0).length : Int) - 1))).f0) ((rd_T66 ((rd_T62 l0_4 a1).f0) (wrap64 ((((rd_T62 l0_4 a1).f0).length : Int) - 1))).f1) ((rd_T66 ((rd_T62 l0_4 a1).f0) (wrap64 ((((rd_T62 l0_4 a1).f0).length : Int) - 1))).f2) ((rd_T66 ((rd_T62 l0_4 a1).f0) (wrap64 ((((rd_T62 l0_4 a1).f0).length : Int) - 1))).f3) ((rd_T66 ((rd_T62 l0_4 a1).f0) (wrap64 ((((rd_T62 l0_4 a1).f0).length : Int) - 1))).f4) ((rd_T66 ((rd_T62 l0_4 a1).f0) (wrap64 ((((rd_T62 l0_4 a1).f0).length : Int) - 1))).f5) ((rd_T66 ((rd_T62 l0_4 a1).f0) (wrap64 ((((rd_T62 l0_4 a1).f0).length : Int) - 1))).f6) ((rd_T66 ((rd_T62 l0_4 a1).f0) (wrap64 ((((rd_T62 l0_4 a1).f0).length : Int) - 1))).f7) ((rd_T66 ((rd_T62 l0_4 a1).f0) (wrap64 ((((rd_T62 l0_4 a1).f0).length : Int) - 1))).f8)) else (none)) else (none)) else (none)) else (none)) = some r := by rw [if_neg (show ¬ (false = true) by decide)] at H; exact H
        clear H
        have H := H1
        clear H1
        by_cases c14 : 0 ≤ a1
        · rw [if_pos c14] at H
          have c14b0 : decide (0 ≤ a1) = true := decide_eq_true c14
          clear c14
          by_cases c15 : a1 < (l0_4.length : Int)
          · rw [if_pos c15] at H
            have c15b0 : decide (a1 < (l0_4.length : Int)) = true := decide_eq_true c15
            clear c15
            obtain ⟨ji16, hji16⟩ : ∃ j_ : Int, (wrap64 ((((rd_T62 l0_4 a1).f0).length : Int) - 1)) = j_ := ⟨_, rfl⟩
            replace H : (if 0 ≤ (ji16) then (if (ji16) < (((rd_T62 l0_4 a1).f0).length : Int) then (spec_NextBlocks.l0 kj2 y116 0 a0_0 a0_1 l0_2 a0_3 l0_4 ((rd_T66 ((rd_T62 l0_4 a1).f0) (ji16)).f0) ((rd_T66 ((rd_T62 l0_4 a1).f0) (ji16)).f1) ((rd_T66 ((rd_T62 l0_4 a1).f0) (ji16)).f2) ((rd_T66 ((rd_T62 l0_4 a1).f0) (ji16)).f3) ((rd_T66 ((rd_T62 l0_4 a1).f0) (ji16)).f4) ((rd_T66 ((rd_T62 l0_4 a1).f0) (ji16)).f5) ((rd_T66 ((rd_T62 l0_4 a1).f0) (ji16)).f6) ((rd_T66 ((rd_T62 l0_4 a1).f0) (ji16)).f7) ((rd_T66 ((rd_T62 l0_4 a1).f0) (ji16)).f8)) else (none)) else (none)) = some r := by first | (rw [hji16] at H; exact H) | (simp only [hji16] at H ⊢; exact H)
            have hji16w : (IntKind.i64.wrap ((((rd_T62 l0_4 a1).f0).length : Int) - 1)) = ji16 := (i64_w _).trans hji16
            by_cases c17 : 0 ≤ (ji16)
            · rw [if_pos c17] at H
              have c17b0 : decide (0 ≤ (ji16)) = true := decide_eq_true c17
              clear c17
              by_cases c18 : (ji16) < (((rd_T62 l0_4 a1).f0).length : Int)
              · rw [if_pos c18] at H
                have c18b0 : decide ((ji16) < (((rd_T62 l0_4 a1).f0).length : Int)) = true := decide_eq_true c18
                clear c18
                have H' := Aside0.mk H
                clear H
                have hcz19_0 : wc.cell? ⟨gb115, 0, none⟩ = some (.string a0_0) := (blk_cell BK115.out 0).trans rfl
                have hcz19_1 : wc.cell? ⟨gb115, 1, none⟩ = some (.int .i64 a0_1) := (blk_cell BK115.out 1).trans rfl
                have hcz19_2 : wc.cell? ⟨gb115, 2, none⟩ = some (.slice A0_2 l0_2.length c0_2) := (blk_cell BK115.out 2).trans rfl
                have hcz19_3 : wc.cell? ⟨gb115, 3, none⟩ = some (.int .i64 a0_3) := (blk_cell BK115.out 3).trans rfl
                have hcz19_4 : wc.cell? ⟨gb115, 4, none⟩ = some (.slice A0_4 l0_4.length c0_4) := (blk_cell BK115.out 4).trans rfl
                have hfz19_0 := blk_frozen BK115.out 0
                have hfz19_1 := blk_frozen BK115.out 1
                have hfz19_2 := blk_frozen BK115.out 2
                have hfz19_3 := blk_frozen BK115.out 3
                have hfz19_4 := blk_frozen BK115.out 4
                have p120 : 0 ≤ (a1 : Int) := of_decide_eq_true (by first | (with_reducible assumption) | assumption)
                have q120 : a1 < (l0_4.length : Int) := of_decide_eq_true (by first | (with_reducible assumption) | assumption)
                obtain ⟨ad120, A120_0, c120_0, e120, hx120_0, hl120_0, hi120_0⟩ := at_T62 HR0_4.out a1 p120 q120
                cases e120
                replace hx120_0 := (HB.out.cell (World.block_lt_of_cell? w _ hx120_0)).trans hx120_0
                have HR120_0 := Aside0.mk hi120_0
                have HC120_0 := Aside0.mk hl120_0
                clear hi120_0 hl120_0
                replace p120 := eq_true p120
                replace q120 := eq_true q120
                have p121 : 0 ≤ ((ji16) : Int) := of_decide_eq_true (by first | (with_reducible assumption) | assumption)
                have q121 : (ji16) < (((rd_T62 l0_4 a1).f0).length : Int) := of_decide_eq_true (by first | (with_reducible assumption) | assumption)
                obtain ⟨ad121, A121_6, c121_6, A121_7, c121_7, A121_8, c121_8, e121, hx121_0, hx121_1, hx121_2, hx121_3, hx121_4, hx121_5, hx121_6, hx121_7, hx121_8, hl121_6, hi121_6, hl121_7, hi121_7, hl121_8, hi121_8⟩ := at_T66 HR120_0.out (ji16) p121 q121
                cases e121
                replace hx121_0 := (HB.out.cell (World.block_lt_of_cell? w _ hx121_0)).trans hx121_0
                replace hx121_1 := (HB.out.cell (World.block_lt_of_cell? w _ hx121_1)).trans hx121_1
                replace hx121_2 := (HB.out.cell (World.block_lt_of_cell? w _ hx121_2)).trans hx121_2
                replace hx121_3 := (HB.out.cell (World.block_lt_of_cell? w _ hx121_3)).trans hx121_3
                replace hx121_4 := (HB.out.cell (World.block_lt_of_cell? w _ hx121_4)).trans hx121_4
                replace hx121_5 := (HB.out.cell (World.block_lt_of_cell? w _ hx121_5)).trans hx121_5
                replace hx121_6 := (HB.out.cell (World.block_lt_of_cell? w _ hx121_6)).trans hx121_6
                replace hx121_7 := (HB.out.cell (World.block_lt_of_cell? w _ hx121_7)).trans hx121_7
                replace hx121_8 := (HB.out.cell (World.block_lt_of_cell? w _ hx121_8)).trans hx121_8
                have HR121_6 := Aside0.mk hi121_6
                have HC121_6 := Aside0.mk hl121_6
                clear hi121_6 hl121_6
                have HR121_7 := Aside0.mk hi121_7
                have HC121_7 := Aside0.mk hl121_7
                clear hi121_7 hl121_7
                have HR121_8 := Aside0.mk hi121_8
                have HC121_8 := Aside0.mk hl121_8
                clear hi121_8 hl121_8
                replace p121 := eq_true p121
                replace q121 := eq_true q121
                go_wp2_with (first | ((with_reducible refine gate_dst (N := 7) rfl ?_); (try (refine gate_guard (by rfl) ?_; dsimp only)); refine box_event ?hg (N := 7) ?hd (cs := #[.int .i64 0, .int .i64 0, .int .i64 0, .int .i64 0, .int .i64 0, .int .i64 0, .slice none 0 0, .slice none 0 0, .slice none 0 0]) (t := 66) ?hr ?_; (case hd => rfl); (case hg => rfl); (case hr => first | (go_simp; done) | (go_simp; rfl)); intro gb122 hg w20 hbox hb; have n0_ := Aside0.mk (Kd.R_below (by (with_reducible repeat (first | apply Kd.R_alloc | apply Kd.R_drewN | apply Kd.R_drew)); exact HO_5.out) hb); have n1_ := Aside0.mk (blk_below (g := gb115) (o := .cells #[.string a0_0, .int .i64 a0_1, .slice A0_2 l0_2.length c0_2, .int .i64 a0_3, .slice (some ad120) l0_4.length c0_4] 30 (0, 0)) (by (with_reducible repeat (first | refine blk_drewN ?_ _ | refine blk_drew ?_ | refine blk_alloc ?_ _)); exact BK115.out) hb); have n2_ := Aside0.mk (below_step (by repeat (first | (with_reducible first | exact HB.out | apply below_alloc | apply pw_below_drewN | apply below_drew1 | refine below_set ?_ GE115.out) | exact HB.out)) hb); have n3_ := Aside0.mk (hbox); have n4_ := Aside0.mk ((by rw [hg]; exact (below_size (by repeat (first | (with_reducible first | exact HB.out | apply below_alloc | apply pw_below_drewN | apply below_drew1 | refine below_set ?_ GE115.out) | exact HB.out))) : w.heap.size ≤ gb122)); have n5_ := Aside0.mk ((by rw [hg]; exact (below_size (by repeat (first | (with_reducible first | exact HB.out | apply below_alloc | apply pw_below_drewN | apply below_drew1 | refine below_set ?_ GE115.out) | exact HB.out))) : w.heap.size ≤ gb122)); have n6_ := Aside0.mk ((by rw [hg]; exact Nat.ne_of_lt (blk_lt (g := gb115) (o := .cells #[.string a0_0, .int .i64 a0_1, .slice A0_2 l0_2.length c0_2, .int .i64 a0_3, .slice (some ad120) l0_4.length c0_4] 30 (0, 0)) (by (with_reducible repeat (first | refine blk_drewN ?_ _ | refine blk_drew ?_ | refine blk_alloc ?_ _)); exact BK115.out)) : gb115 ≠ gb122)); have n7_ := Aside0.mk ((by rw [hg]; exact Nat.ne_of_gt (blk_lt (g := gb115) (o := .cells #[.string a0_0, .int .i64 a0_1, .slice A0_2 l0_2.length c0_2, .int .i64 a0_3, .slice (some ad120) l0_4.length c0_4] 30 (0, 0)) (by (with_reducible repeat (first | refine blk_drewN ?_ _ | refine blk_drew ?_ | refine blk_alloc ?_ _)); exact BK115.out)) : gb122 ≠ gb115)); clear HO_5; clear BK115; clear HB; have HO_5 := n0_; have BK115 := n1_; have HB := n2_; have BK122 := n3_; have GW122 := n4_; have GE122 := n5_; have NB115_122 := n6_; have NB122_115 := n7_; clear n0_ n1_ n2_ n3_ n4_ n5_ n6_ n7_; clear hb hbox hg; have hnb21 := NB122_115.out; have hnc21 := NB115_122.out; have hcz22_0 : w20.cell? ⟨gb122, 0, none⟩ = some (.int .i64 0) := (blk_cell BK122.out 0).trans rfl; have hcz22_1 : w20.cell? ⟨gb122, 1, none⟩ = some (.int .i64 0) := (blk_cell BK122.out 1).trans rfl; have hcz22_2 : w20.cell? ⟨gb122, 2, none⟩ = some (.int .i64 0) := (blk_cell BK122.out 2).trans rfl; have hcz22_3 : w20.cell? ⟨gb122, 3, none⟩ = some (.int .i64 0) := (blk_cell BK122.out 3).trans rfl; have hcz22_4 : w20.cell? ⟨gb122, 4, none⟩ = some (.int .i64 0) := (blk_cell BK122.out 4).trans rfl; have hcz22_5 : w20.cell? ⟨gb122, 5, none⟩ = some (.int .i64 0) := (blk_cell BK122.out 5).trans rfl; have hcz22_6 : w20.cell? ⟨gb122, 6, none⟩ = some (.slice none 0 0) := (blk_cell BK122.out 6).trans rfl; have hcz22_7 : w20.cell? ⟨gb122, 7, none⟩ = some (.slice none 0 0) := (blk_cell BK122.out 7).trans rfl; have hcz22_8 : w20.cell? ⟨gb122, 8, none⟩ = some (.slice none 0 0) := (blk_cell BK122.out 8).trans rfl; have hfz22_0 := blk_frozen BK122.out 0; have hfz22_1 := blk_frozen BK122.out 1; have hfz22_2 := blk_frozen BK122.out 2; have hfz22_3 := blk_frozen BK122.out 3; have hfz22_4 := blk_frozen BK122.out 4; have hfz22_5 := blk_frozen BK122.out 5; have hfz22_6 := blk_frozen BK122.out 6; have hfz22_7 := blk_frozen BK122.out 7; have hfz22_8 := blk_frozen BK122.out 8))
                go_loopg [5, 8] kj2 (fun kq v5 v8 w' => ∃ (x5_2 : List Int) (x8_2 : Int), v8 = .int .i64 x8_2 ∧ Aside0 (spec_NextBlocks.l0 kq x5_2 x8_2 a0_0 a0_1 l0_2 a0_3 l0_4 ((rd_T66 ((rd_T62 l0_4 a1).f0) (ji16)).f0) ((rd_T66 ((rd_T62 l0_4 a1).f0) (ji16)).f1) ((rd_T66 ((rd_T62 l0_4 a1).f0) (ji16)).f2) ((rd_T66 ((rd_T62 l0_4 a1).f0) (ji16)).f3) ((rd_T66 ((rd_T62 l0_4 a1).f0) (ji16)).f4) ((rd_T66 ((rd_T62 l0_4 a1).f0) (ji16)).f5) ((rd_T66 ((rd_T62 l0_4 a1).f0) (ji16)).f6) ((rd_T66 ((rd_T62 l0_4 a1).f0) (ji16)).f7) ((rd_T66 ((rd_T62 l0_4 a1).f0) (ji16)).f8) = some r) ∧ Aside0 (kq ≤ kj2) ∧ Aside0 (Kd.R (Kd.int .i64) 2 w' w.heap.size (fun _ => True) v5 x5_2) ∧ Aside0 (w'.heap[gb115]? = some (.cells #[.string a0_0, .int .i64 a0_1, (.slice A0_2 l0_2.length c0_2), .int .i64 a0_3, (.slice (some ad120) l0_4.length c0_4)] 30 (0, 0))) ∧ Aside0 (w'.heap[gb122]? = some (.cells #[.int .i64 ((rd_T66 ((rd_T62 l0_4 a1).f0) (ji16)).f0), .int .i64 ((rd_T66 ((rd_T62 l0_4 a1).f0) (ji16)).f1), .int .i64 ((rd_T66 ((rd_T62 l0_4 a1).f0) (ji16)).f2), .int .i64 ((rd_T66 ((rd_T62 l0_4 a1).f0) (ji16)).f3), .int .i64 ((rd_T66 ((rd_T62 l0_4 a1).f0) (ji16)).f4), .int .i64 ((rd_T66 ((rd_T62 l0_4 a1).f0) (ji16)).f5), (.slice A121_6 ((rd_T66 ((rd_T62 l0_4 a1).f0) (ji16)).f6).length c121_6), (.slice A121_7 ((rd_T66 ((rd_T62 l0_4 a1).f0) (ji16)).f7).length c121_7), (.slice A121_8 ((rd_T66 ((rd_T62 l0_4 a1).f0) (ji16)).f8).length c121_8)] 66 (0, 0))) ∧ Aside0 (Below w.heap.size w w'))
                case atStart => exact ⟨(y116), (0), (by first | rfl | (simp; done) | (simp [*]; done)), H', ⟨Nat.le_refl _⟩, ⟨by (with_reducible repeat (first | apply Kd.R_alloc | apply Kd.R_drewN | apply Kd.R_drew)); exact Kd.R_mono (Kd.R_far (p := ⟨gb122, 8, none⟩) (Kd.R_far (p := ⟨gb122, 7, none⟩) (Kd.R_far (p := ⟨gb122, 6, none⟩) (Kd.R_far (p := ⟨gb122, 5, none⟩) (Kd.R_far (p := ⟨gb122, 4, none⟩) (Kd.R_far (p := ⟨gb122, 3, none⟩) (Kd.R_far (p := ⟨gb122, 2, none⟩) (Kd.R_far (p := ⟨gb122, 1, none⟩) (Kd.R_far (p := ⟨gb122, 0, none⟩) (Kd.R_types HO_5.out BK122.out (by decide)) (fun _ hk => hk.2) (.int .i64 ((rd_T66 ((rd_T62 l0_4 a1).f0) (ji16)).f0))) (fun _ hk => hk.2) (.int .i64 ((rd_T66 ((rd_T62 l0_4 a1).f0) (ji16)).f1))) (fun _ hk => hk.2) (.int .i64 ((rd_T66 ((rd_T62 l0_4 a1).f0) (ji16)).f2))) (fun _ hk => hk.2) (.int .i64 ((rd_T66 ((rd_T62 l0_4 a1).f0) (ji16)).f3))) (fun _ hk => hk.2) (.int .i64 ((rd_T66 ((rd_T62 l0_4 a1).f0) (ji16)).f4))) (fun _ hk => hk.2) (.int .i64 ((rd_T66 ((rd_T62 l0_4 a1).f0) (ji16)).f5))) (fun _ hk => hk.2) (.slice A121_6 ((rd_T66 ((rd_T62 l0_4 a1).f0) (ji16)).f6).length c121_6)) (fun _ hk => hk.2) (.slice A121_7 ((rd_T66 ((rd_T62 l0_4 a1).f0) (ji16)).f7).length c121_7)) (fun _ hk => hk.2) (.slice A121_8 ((rd_T66 ((rd_T62 l0_4 a1).f0) (ji16)).f8).length c121_8)) (fun _ hk => trivial)⟩, ⟨by (with_reducible repeat (first | refine blk_drewN ?_ _ | refine blk_drew ?_ | refine blk_alloc ?_ _)); refine blk_far ?_ NB115_122.out _; (with_reducible repeat (first | refine blk_drewN ?_ _ | refine blk_drew ?_ | refine blk_alloc ?_ _)); refine blk_far ?_ NB115_122.out _; (with_reducible repeat (first | refine blk_drewN ?_ _ | refine blk_drew ?_ | refine blk_alloc ?_ _)); refine blk_far ?_ NB115_122.out _; (with_reducible repeat (first | refine blk_drewN ?_ _ | refine blk_drew ?_ | refine blk_alloc ?_ _)); refine blk_far ?_ NB115_122.out _; (with_reducible repeat (first | refine blk_drewN ?_ _ | refine blk_drew ?_ | refine blk_alloc ?_ _)); refine blk_far ?_ NB115_122.out _; (with_reducible repeat (first | refine blk_drewN ?_ _ | refine blk_drew ?_ | refine blk_alloc ?_ _)); refine blk_far ?_ NB115_122.out _; (with_reducible repeat (first | refine blk_drewN ?_ _ | refine blk_drew ?_ | refine blk_alloc ?_ _)); refine blk_far ?_ NB115_122.out _; (with_reducible repeat (first | refine blk_drewN ?_ _ | refine blk_drew ?_ | refine blk_alloc ?_ _)); refine blk_far ?_ NB115_122.out _; (with_reducible repeat (first | refine blk_drewN ?_ _ | refine blk_drew ?_ | refine blk_alloc ?_ _)); refine blk_far ?_ NB115_122.out _; (with_reducible repeat (first | refine blk_drewN ?_ _ | refine blk_drew ?_ | refine blk_alloc ?_ _)); exact BK115.out⟩, ⟨by (with_reducible repeat (first | refine blk_drewN ?_ _ | refine blk_drew ?_ | refine blk_alloc ?_ _)); refine blk_put (cs := #[.int .i64 ((rd_T66 ((rd_T62 l0_4 a1).f0) (ji16)).f0), .int .i64 ((rd_T66 ((rd_T62 l0_4 a1).f0) (ji16)).f1), .int .i64 ((rd_T66 ((rd_T62 l0_4 a1).f0) (ji16)).f2), .int .i64 ((rd_T66 ((rd_T62 l0_4 a1).f0) (ji16)).f3), .int .i64 ((rd_T66 ((rd_T62 l0_4 a1).f0) (ji16)).f4), .int .i64 ((rd_T66 ((rd_T62 l0_4 a1).f0) (ji16)).f5), .slice A121_6 ((rd_T66 ((rd_T62 l0_4 a1).f0) (ji16)).f6).length c121_6, .slice A121_7 ((rd_T66 ((rd_T62 l0_4 a1).f0) (ji16)).f7).length c121_7, .slice none 0 0]) ?_ 8 _ rfl; (with_reducible repeat (first | refine blk_drewN ?_ _ | refine blk_drew ?_ | refine blk_alloc ?_ _)); refine blk_put (cs := #[.int .i64 ((rd_T66 ((rd_T62 l0_4 a1).f0) (ji16)).f0), .int .i64 ((rd_T66 ((rd_T62 l0_4 a1).f0) (ji16)).f1), .int .i64 ((rd_T66 ((rd_T62 l0_4 a1).f0) (ji16)).f2), .int .i64 ((rd_T66 ((rd_T62 l0_4 a1).f0) (ji16)).f3), .int .i64 ((rd_T66 ((rd_T62 l0_4 a1).f0) (ji16)).f4), .int .i64 ((rd_T66 ((rd_T62 l0_4 a1).f0) (ji16)).f5), .slice A121_6 ((rd_T66 ((rd_T62 l0_4 a1).f0) (ji16)).f6).length c121_6, .slice none 0 0, .slice none 0 0]) ?_ 7 _ rfl; (with_reducible repeat (first | refine blk_drewN ?_ _ | refine blk_drew ?_ | refine blk_alloc ?_ _)); refine blk_put (cs := #[.int .i64 ((rd_T66 ((rd_T62 l0_4 a1).f0) (ji16)).f0), .int .i64 ((rd_T66 ((rd_T62 l0_4 a1).f0) (ji16)).f1), .int .i64 ((rd_T66 ((rd_T62 l0_4 a1).f0) (ji16)).f2), .int .i64 ((rd_T66 ((rd_T62 l0_4 a1).f0) (ji16)).f3), .int .i64 ((rd_T66 ((rd_T62 l0_4 a1).f0) (ji16)).f4), .int .i64 ((rd_T66 ((rd_T62 l0_4 a1).f0) (ji16)).f5), .slice none 0 0, .slice none 0 0, .slice none 0 0]) ?_ 6 _ rfl; (with_reducible repeat (first | refine blk_drewN ?_ _ | refine blk_drew ?_ | refine blk_alloc ?_ _)); refine blk_put (cs := #[.int .i64 ((rd_T66 ((rd_T62 l0_4 a1).f0) (ji16)).f0), .int .i64 ((rd_T66 ((rd_T62 l0_4 a1).f0) (ji16)).f1), .int .i64 ((rd_T66 ((rd_T62 l0_4 a1).f0) (ji16)).f2), .int .i64 ((rd_T66 ((rd_T62 l0_4 a1).f0) (ji16)).f3), .int .i64 ((rd_T66 ((rd_T62 l0_4 a1).f0) (ji16)).f4), .int .i64 0, .slice none 0 0, .slice none 0 0, .slice none 0 0]) ?_ 5 _ rfl; (with_reducible repeat (first | refine blk_drewN ?_ _ | refine blk_drew ?_ | refine blk_alloc ?_ _)); refine blk_put (cs := #[.int .i64 ((rd_T66 ((rd_T62 l0_4 a1).f0) (ji16)).f0), .int .i64 ((rd_T66 ((rd_T62 l0_4 a1).f0) (ji16)).f1), .int .i64 ((rd_T66 ((rd_T62 l0_4 a1).f0) (ji16)).f2), .int .i64 ((rd_T66 ((rd_T62 l0_4 a1).f0) (ji16)).f3), .int .i64 0, .int .i64 0, .slice none 0 0, .slice none 0 0, .slice none 0 0]) ?_ 4 _ rfl; (with_reducible repeat (first | refine blk_drewN ?_ _ | refine blk_drew ?_ | refine blk_alloc ?_ _)); refine blk_put (cs := #[.int .i64 ((rd_T66 ((rd_T62 l0_4 a1).f0) (ji16)).f0), .int .i64 ((rd_T66 ((rd_T62 l0_4 a1).f0) (ji16)).f1), .int .i64 ((rd_T66 ((rd_T62 l0_4 a1).f0) (ji16)).f2), .int .i64 0, .int .i64 0, .int .i64 0, .slice none 0 0, .slice none 0 0, .slice none 0 0]) ?_ 3 _ rfl; (with_reducible repeat (first | refine blk_drewN ?_ _ | refine blk_drew ?_ | refine blk_alloc ?_ _)); refine blk_put (cs := #[.int .i64 ((rd_T66 ((rd_T62 l0_4 a1).f0) (ji16)).f0), .int .i64 ((rd_T66 ((rd_T62 l0_4 a1).f0) (ji16)).f1), .int .i64 0, .int .i64 0, .int .i64 0, .int .i64 0, .slice none 0 0, .slice none 0 0, .slice none 0 0]) ?_ 2 _ rfl; (with_reducible repeat (first | refine blk_drewN ?_ _ | refine blk_drew ?_ | refine blk_alloc ?_ _)); refine blk_put (cs := #[.int .i64 ((rd_T66 ((rd_T62 l0_4 a1).f0) (ji16)).f0), .int .i64 0, .int .i64 0, .int .i64 0, .int .i64 0, .int .i64 0, .slice none 0 0, .slice none 0 0, .slice none 0 0]) ?_ 1 _ rfl; (with_reducible repeat (first | refine blk_drewN ?_ _ | refine blk_drew ?_ | refine blk_alloc ?_ _)); refine blk_put (cs := #[.int .i64 0, .int .i64 0, .int .i64 0, .int .i64 0, .int .i64 0, .int .i64 0, .slice none 0 0, .slice none 0 0, .slice none 0 0]) ?_ 0 _ rfl; (with_reducible repeat (first | refine blk_drewN ?_ _ | refine blk_drew ?_ | refine blk_alloc ?_ _)); exact BK122.out⟩, ⟨by repeat (first | (with_reducible first | exact HB.out | apply below_alloc | apply pw_below_drewN | apply below_drew1 | refine below_set ?_ GE115.out | refine below_set ?_ GE122.out) | exact HB.out)⟩⟩
                case round =>
                  clear H'
                  try clear c1
                  try clear p1
                  try clear q1
                  try clear hx1
                  try clear c2
                  try clear p2
                  try clear p6
                  try clear c7
                  try clear c7b0
                  try clear c8
                  try clear c8b0
                  try clear c10
                  try clear c10b0
                  try clear c11
                  try clear c11b0
                  try clear p11
                  try clear q11
                  try clear hx11
                  try clear c12
                  try clear p12
                  try clear q12
                  try clear hx12
                  try clear c13
                  try clear c14
                  try clear c14b0
                  try clear c15
                  try clear c15b0
                  try clear c17
                  try clear c17b0
                  try clear c18
                  try clear c18b0
                  try clear c21
                  try clear hcz12_0
                  try clear hcz12_1
                  try clear hcz12_2
                  try clear hcz12_3
                  try clear hcz12_4
                  try clear hcz19_0
                  try clear hcz19_1
                  try clear hcz19_2
                  try clear hcz19_3
                  try clear hcz19_4
                  try clear hcz22_0
                  try clear hcz22_1
                  try clear hcz22_2
                  try clear hcz22_3
                  try clear hcz22_4
                  try clear hcz22_5
                  try clear hcz22_6
                  try clear hcz22_7
                  try clear hcz22_8
                  try clear hcz9_0
                  try clear hcz9_1
                  try clear hcz9_2
                  try clear hcz9_3
                  try clear hcz9_4
                  try clear hfz12_0
                  try clear hfz12_1
                  try clear hfz12_2
                  try clear hfz12_3
                  try clear hfz12_4
                  try clear hfz19_0
                  try clear hfz19_1
                  try clear hfz19_2
                  try clear hfz19_3
                  try clear hfz19_4
                  try clear hfz22_0
                  try clear hfz22_1
                  try clear hfz22_2
                  try clear hfz22_3
                  try clear hfz22_4
                  try clear hfz22_5
                  try clear hfz22_6
                  try clear hfz22_7
                  try clear hfz22_8
                  try clear hfz9_0
                  try clear hfz9_1
                  try clear hfz9_2
                  try clear hfz9_3
                  try clear hfz9_4
                  try clear hx119_0
                  try clear hx120_0
                  try clear hx121_0
                  try clear hx121_1
                  try clear hx121_2
                  try clear hx121_3
                  try clear hx121_4
                  try clear hx121_5
                  try clear hx121_6
                  try clear hx121_7
                  try clear hx121_8
                  try clear p1
                  try clear p11
                  try clear p119
                  try clear p120
                  try clear p121
                  try clear p2
                  try clear q1
                  try clear q11
                  try clear q119
                  try clear q120
                  try clear q121
                  obtain ⟨x5_2, x8_2, rfl, HA, HK2, HO_5, BK115, BK122, HB⟩ := hrel
                  cases gk with
                  | zero => exact absurd HA.out (by simp [spec_NextBlocks.l0])
                  | succ k2 =>
                    have H := HA.out
                    clear HA
                    simp only [spec_NextBlocks.l0] at H
                    by_cases c23 : x8_2 < (((rd_T66 ((rd_T62 l0_4 a1).f0) (ji16)).f7).length : Int)
                    · rw [if_pos c23] at H
                      have c23b0 : decide (x8_2 < (((rd_T66 ((rd_T62 l0_4 a1).f0) (ji16)).f7).length : Int)) = true := decide_eq_true c23
                      clear c23
                      by_cases c24 : 0 ≤ x8_2
                      · rw [if_pos c24] at H
                        have c24b0 : decide (0 ≤ x8_2) = true := decide_eq_true c24
                        clear c24
                        by_cases c25 : (rd ((rd_T66 ((rd_T62 l0_4 a1).f0) (ji16)).f7) x8_2) ≥ 0
                        · rw [if_pos c25] at H
                          have c25b0 : decide (0 ≤ (rd ((rd_T66 ((rd_T62 l0_4 a1).f0) (ji16)).f7) x8_2)) = true := decide_eq_true c25
                          clear c25
                          by_cases c26 : (rd ((rd_T66 ((rd_T62 l0_4 a1).f0) (ji16)).f7) x8_2) < (l0_4.length : Int)
                          · rw [if_pos c26] at H
                            have c26b0 : decide ((rd ((rd_T66 ((rd_T62 l0_4 a1).f0) (ji16)).f7) x8_2) < (l0_4.length : Int)) = true := decide_eq_true c26
                            clear c26
                            replace H := Option.bind_eq_some_iff.mp H
                            obtain ⟨t124, A270, H⟩ := H
                            replace H : (if t124 = true then (spec_NextBlocks.l0 k2 x5_2 (wrap64 (x8_2 + 1)) a0_0 a0_1 l0_2 a0_3 l0_4 ((rd_T66 ((rd_T62 l0_4 a1).f0) (ji16)).f0) ((rd_T66 ((rd_T62 l0_4 a1).f0) (ji16)).f1) ((rd_T66 ((rd_T62 l0_4 a1).f0) (ji16)).f2) ((rd_T66 ((rd_T62 l0_4 a1).f0) (ji16)).f3) ((rd_T66 ((rd_T62 l0_4 a1).f0) (ji16)).f4) ((rd_T66 ((rd_T62 l0_4 a1).f0) (ji16)).f5) ((rd_T66 ((rd_T62 l0_4 a1).f0) (ji16)).f6) ((rd_T66 ((rd_T62 l0_4 a1).f0) (ji16)).f7) ((rd_T66 ((rd_T62 l0_4 a1).f0) (ji16)).f8)) else (if x5_2.length < 17592186044416 then (spec_NextBlocks.l0 k2 (x5_2 ++ [rd ((rd_T66 ((rd_T62 l0_4 a1).f0) (ji16)).f7) x8_2]) (wrap64 (x8_2 + 1)) a0_0 a0_1 l0_2 a0_3 l0_4 ((rd_T66 ((rd_T62 l0_4 a1).f0) (ji16)).f0) ((rd_T66 ((rd_T62 l0_4 a1).f0) (ji16)).f1) ((rd_T66 ((rd_T62 l0_4 a1).f0) (ji16)).f2) ((rd_T66 ((rd_T62 l0_4 a1).f0) (ji16)).f3) ((rd_T66 ((rd_T62 l0_4 a1).f0) (ji16)).f4) ((rd_T66 ((rd_T62 l0_4 a1).f0) (ji16)).f5) ((rd_T66 ((rd_T62 l0_4 a1).f0) (ji16)).f6) ((rd_T66 ((rd_T62 l0_4 a1).f0) (ji16)).f7) ((rd_T66 ((rd_T62 l0_4 a1).f0) (ji16)).f8)) else (none))) = some r := H
                            have A27 := Aside0.mk A270
                            clear A270
                            by_cases c28 : t124 = true
                            · subst c28
                              have H1 : (spec_NextBlocks.l0 k2 x5_2 (wrap64 (x8_2 + 1)) a0_0 a0_1 l0_2 a0_3 l0_4 ((rd_T66 ((rd_T62 l0_4 a1).f0) (ji16)).f0) ((rd_T66 ((rd_T62 l0_4 a1).f0) (ji16)).f1) ((rd_T66 ((rd_T62 l0_4 a1).f0) (ji16)).f2) ((rd_T66 ((rd_T62 l0_4 a1).f0) (ji16)).f3) ((rd_T66 ((rd_T62 l0_4 a1).f0) (ji16)).f4) ((rd_T66 ((rd_T62 l0_4 a1).f0) (ji16)).f5) ((rd_T66 ((rd_T62 l0_4 a1).f0) (ji16)).f6) ((rd_T66 ((rd_T62 l0_4 a1).f0) (ji16)).f7) ((rd_T66 ((rd_T62 l0_4 a1).f0) (ji16)).f8)) = some r := by rw [if_pos rfl] at H; exact H
                              clear H
                              have H := H1
                              clear H1
                              have H' := Aside0.mk H
                              clear H
                              have hnb29 := NB122_115.out
                              have hnc29 := NB115_122.out
                              have hcz30_0 : wr.cell? ⟨gb122, 0, none⟩ = some (.int .i64 ((rd_T66 ((rd_T62 l0_4 a1).f0) (ji16)).f0)) := (blk_cell BK122.out 0).trans rfl
                              have hcz30_1 : wr.cell? ⟨gb122, 1, none⟩ = some (.int .i64 ((rd_T66 ((rd_T62 l0_4 a1).f0) (ji16)).f1)) := (blk_cell BK122.out 1).trans rfl
                              have hcz30_2 : wr.cell? ⟨gb122, 2, none⟩ = some (.int .i64 ((rd_T66 ((rd_T62 l0_4 a1).f0) (ji16)).f2)) := (blk_cell BK122.out 2).trans rfl
                              have hcz30_3 : wr.cell? ⟨gb122, 3, none⟩ = some (.int .i64 ((rd_T66 ((rd_T62 l0_4 a1).f0) (ji16)).f3)) := (blk_cell BK122.out 3).trans rfl
                              have hcz30_4 : wr.cell? ⟨gb122, 4, none⟩ = some (.int .i64 ((rd_T66 ((rd_T62 l0_4 a1).f0) (ji16)).f4)) := (blk_cell BK122.out 4).trans rfl
                              have hcz30_5 : wr.cell? ⟨gb122, 5, none⟩ = some (.int .i64 ((rd_T66 ((rd_T62 l0_4 a1).f0) (ji16)).f5)) := (blk_cell BK122.out 5).trans rfl
                              have hcz30_6 : wr.cell? ⟨gb122, 6, none⟩ = some (.slice A121_6 ((rd_T66 ((rd_T62 l0_4 a1).f0) (ji16)).f6).length c121_6) := (blk_cell BK122.out 6).trans rfl
                              have hcz30_7 : wr.cell? ⟨gb122, 7, none⟩ = some (.slice A121_7 ((rd_T66 ((rd_T62 l0_4 a1).f0) (ji16)).f7).length c121_7) := (blk_cell BK122.out 7).trans rfl
                              have hcz30_8 : wr.cell? ⟨gb122, 8, none⟩ = some (.slice A121_8 ((rd_T66 ((rd_T62 l0_4 a1).f0) (ji16)).f8).length c121_8) := (blk_cell BK122.out 8).trans rfl
                              have hfz30_0 := blk_frozen BK122.out 0
                              have hfz30_1 := blk_frozen BK122.out 1
                              have hfz30_2 := blk_frozen BK122.out 2
                              have hfz30_3 := blk_frozen BK122.out 3
                              have hfz30_4 := blk_frozen BK122.out 4
                              have hfz30_5 := blk_frozen BK122.out 5
                              have hfz30_6 := blk_frozen BK122.out 6
                              have hfz30_7 := blk_frozen BK122.out 7
                              have hfz30_8 := blk_frozen BK122.out 8
                              have p123 : 0 ≤ (x8_2 : Int) := of_decide_eq_true (by first | (with_reducible assumption) | assumption)
                              have q123 : x8_2 < (((rd_T66 ((rd_T62 l0_4 a1).f0) (ji16)).f7).length : Int) := of_decide_eq_true (by first | (with_reducible assumption) | assumption)
                              obtain ⟨ad123, e123, hx123_0⟩ := Kd.at_int HR121_7.out x8_2 p123 q123
                              cases e123
                              replace hx123_0 := (HB.out.cell (World.block_lt_of_cell? w _ hx123_0)).trans hx123_0
                              replace p123 := eq_true p123
                              replace q123 := eq_true q123
                              have hcz31_0 : wr.cell? ⟨gb115, 0, none⟩ = some (.string a0_0) := (blk_cell BK115.out 0).trans rfl
                              have hcz31_1 : wr.cell? ⟨gb115, 1, none⟩ = some (.int .i64 a0_1) := (blk_cell BK115.out 1).trans rfl
                              have hcz31_2 : wr.cell? ⟨gb115, 2, none⟩ = some (.slice A0_2 l0_2.length c0_2) := (blk_cell BK115.out 2).trans rfl
                              have hcz31_3 : wr.cell? ⟨gb115, 3, none⟩ = some (.int .i64 a0_3) := (blk_cell BK115.out 3).trans rfl
                              have hcz31_4 : wr.cell? ⟨gb115, 4, none⟩ = some (.slice (some ad120) l0_4.length c0_4) := (blk_cell BK115.out 4).trans rfl
                              have hfz31_0 := blk_frozen BK115.out 0
                              have hfz31_1 := blk_frozen BK115.out 1
                              have hfz31_2 := blk_frozen BK115.out 2
                              have hfz31_3 := blk_frozen BK115.out 3
                              have hfz31_4 := blk_frozen BK115.out 4
                              obtain ⟨Ao32, co32, eo32⟩ := Kd.R_slice HO_5.out
                              subst eo32
                              go_wp2_with (first | (go_at_call 51; (with_reducible refine (spec_l4Has.calls k2 _ _ x5_2 (rd ((rd_T66 ((rd_T62 l0_4 a1).f0) (ji16)).f7) x8_2) true _ ?side1 ?side2 A27.out).mono ?_); (case side1 => repeat (first | exact (Kd.R_reads' HO_5.out).2.2 | (with_reducible refine Kd.C_alloc ?_ _) | (with_reducible refine Kd.C_drewN ?_ _) | (with_reducible refine Kd.C_drew ?_))); (case side2 => exact (Kd.R_reads' HO_5.out).2.1); rintro e w' ⟨rfl, ⟨nd, rfl⟩⟩))
                              go_roundg k2
                              case measure => have := HJ2.out; have := HK2.out; omega
                              case rel => exact ⟨(x5_2), (wrap64 (x8_2 + 1)), (by first | rfl | (simp; done) | (simp [*]; done)), H', ⟨by have := HJ2.out; have := HK2.out; omega⟩, ⟨by (with_reducible repeat (first | apply Kd.R_alloc | apply Kd.R_drewN | apply Kd.R_drew)); exact HO_5.out⟩, ⟨by (with_reducible repeat (first | refine blk_drewN ?_ _ | refine blk_drew ?_ | refine blk_alloc ?_ _)); exact BK115.out⟩, ⟨by (with_reducible repeat (first | refine blk_drewN ?_ _ | refine blk_drew ?_ | refine blk_alloc ?_ _)); exact BK122.out⟩, ⟨by repeat (first | (with_reducible first | exact HB.out | apply below_alloc | apply pw_below_drewN | apply below_drew1 | refine below_set ?_ GE115.out | refine below_set ?_ GE122.out) | exact HB.out)⟩⟩
                            · replace c28 := Bool.eq_false_iff.mpr c28
                              subst c28
                              have H1 : (if x5_2.length < 17592186044416 then (spec_NextBlocks.l0 k2 (x5_2 ++ [rd ((rd_T66 ((rd_T62 l0_4 a1).f0) (ji16)).f7) x8_2]) (wrap64 (x8_2 + 1)) a0_0 a0_1 l0_2 a0_3 l0_4 ((rd_T66 ((rd_T62 l0_4 a1).f0) (ji16)).f0) ((rd_T66 ((rd_T62 l0_4 a1).f0) (ji16)).f1) ((rd_T66 ((rd_T62 l0_4 a1).f0) (ji16)).f2) ((rd_T66 ((rd_T62 l0_4 a1).f0) (ji16)).f3) ((rd_T66 ((rd_T62 l0_4 a1).f0) (ji16)).f4) ((rd_T66 ((rd_T62 l0_4 a1).f0) (ji16)).f5) ((rd_T66 ((rd_T62 l0_4 a1).f0) (ji16)).f6) ((rd_T66 ((rd_T62 l0_4 a1).f0) (ji16)).f7) ((rd_T66 ((rd_T62 l0_4 a1).f0) (ji16)).f8)) else (none)) = some r := by rw [if_neg (show ¬ (false = true) by decide)] at H; exact H
                              clear H
                              have H := H1
                              clear H1
                              by_cases c33 : x5_2.length < 17592186044416
                              · rw [if_pos c33] at H
                                have LMc33 := Aside0.mk c33
                                clear c33
                                obtain ⟨y125, hy125⟩ : ∃ y_ : List Int, y_ = (x5_2 ++ [rd ((rd_T66 ((rd_T62 l0_4 a1).f0) (ji16)).f7) x8_2]) := ⟨_, rfl⟩
                                replace H : (spec_NextBlocks.l0 k2 y125 (wrap64 (x8_2 + 1)) a0_0 a0_1 l0_2 a0_3 l0_4 ((rd_T66 ((rd_T62 l0_4 a1).f0) (ji16)).f0) ((rd_T66 ((rd_T62 l0_4 a1).f0) (ji16)).f1) ((rd_T66 ((rd_T62 l0_4 a1).f0) (ji16)).f2) ((rd_T66 ((rd_T62 l0_4 a1).f0) (ji16)).f3) ((rd_T66 ((rd_T62 l0_4 a1).f0) (ji16)).f4) ((rd_T66 ((rd_T62 l0_4 a1).f0) (ji16)).f5) ((rd_T66 ((rd_T62 l0_4 a1).f0) (ji16)).f6) ((rd_T66 ((rd_T62 l0_4 a1).f0) (ji16)).f7) ((rd_T66 ((rd_T62 l0_4 a1).f0) (ji16)).f8)) = some r := by first | (rw [hy125]; with_reducible exact H) | (have H2_ := (Option.bind_some _ _).symm.trans H; rw [hy125]; with_reducible exact H2_) | (have H2_ := (Option.bind_some _ _).symm.trans H; with_reducible exact H2_) | with_reducible exact H | (rw [hy125]; exact H) | exact H
                                have Ny125 := Aside0.mk hy125
                                clear hy125
                                have H' := Aside0.mk H
                                clear H
                                have hnb34 := NB122_115.out
                                have hnc34 := NB115_122.out
                                have hcz35_0 : wr.cell? ⟨gb122, 0, none⟩ = some (.int .i64 ((rd_T66 ((rd_T62 l0_4 a1).f0) (ji16)).f0)) := (blk_cell BK122.out 0).trans rfl
                                have hcz35_1 : wr.cell? ⟨gb122, 1, none⟩ = some (.int .i64 ((rd_T66 ((rd_T62 l0_4 a1).f0) (ji16)).f1)) := (blk_cell BK122.out 1).trans rfl
                                have hcz35_2 : wr.cell? ⟨gb122, 2, none⟩ = some (.int .i64 ((rd_T66 ((rd_T62 l0_4 a1).f0) (ji16)).f2)) := (blk_cell BK122.out 2).trans rfl
                                have hcz35_3 : wr.cell? ⟨gb122, 3, none⟩ = some (.int .i64 ((rd_T66 ((rd_T62 l0_4 a1).f0) (ji16)).f3)) := (blk_cell BK122.out 3).trans rfl
                                have hcz35_4 : wr.cell? ⟨gb122, 4, none⟩ = some (.int .i64 ((rd_T66 ((rd_T62 l0_4 a1).f0) (ji16)).f4)) := (blk_cell BK122.out 4).trans rfl
                                have hcz35_5 : wr.cell? ⟨gb122, 5, none⟩ = some (.int .i64 ((rd_T66 ((rd_T62 l0_4 a1).f0) (ji16)).f5)) := (blk_cell BK122.out 5).trans rfl
                                have hcz35_6 : wr.cell? ⟨gb122, 6, none⟩ = some (.slice A121_6 ((rd_T66 ((rd_T62 l0_4 a1).f0) (ji16)).f6).length c121_6) := (blk_cell BK122.out 6).trans rfl
                                have hcz35_7 : wr.cell? ⟨gb122, 7, none⟩ = some (.slice A121_7 ((rd_T66 ((rd_T62 l0_4 a1).f0) (ji16)).f7).length c121_7) := (blk_cell BK122.out 7).trans rfl
                                have hcz35_8 : wr.cell? ⟨gb122, 8, none⟩ = some (.slice A121_8 ((rd_T66 ((rd_T62 l0_4 a1).f0) (ji16)).f8).length c121_8) := (blk_cell BK122.out 8).trans rfl
                                have hfz35_0 := blk_frozen BK122.out 0
                                have hfz35_1 := blk_frozen BK122.out 1
                                have hfz35_2 := blk_frozen BK122.out 2
                                have hfz35_3 := blk_frozen BK122.out 3
                                have hfz35_4 := blk_frozen BK122.out 4
                                have hfz35_5 := blk_frozen BK122.out 5
                                have hfz35_6 := blk_frozen BK122.out 6
                                have hfz35_7 := blk_frozen BK122.out 7
                                have hfz35_8 := blk_frozen BK122.out 8
                                have p123 : 0 ≤ (x8_2 : Int) := of_decide_eq_true (by first | (with_reducible assumption) | assumption)
                                have q123 : x8_2 < (((rd_T66 ((rd_T62 l0_4 a1).f0) (ji16)).f7).length : Int) := of_decide_eq_true (by first | (with_reducible assumption) | assumption)
                                obtain ⟨ad123, e123, hx123_0⟩ := Kd.at_int HR121_7.out x8_2 p123 q123
                                cases e123
                                replace hx123_0 := (HB.out.cell (World.block_lt_of_cell? w _ hx123_0)).trans hx123_0
                                replace p123 := eq_true p123
                                replace q123 := eq_true q123
                                have hcz36_0 : wr.cell? ⟨gb115, 0, none⟩ = some (.string a0_0) := (blk_cell BK115.out 0).trans rfl
                                have hcz36_1 : wr.cell? ⟨gb115, 1, none⟩ = some (.int .i64 a0_1) := (blk_cell BK115.out 1).trans rfl
                                have hcz36_2 : wr.cell? ⟨gb115, 2, none⟩ = some (.slice A0_2 l0_2.length c0_2) := (blk_cell BK115.out 2).trans rfl
                                have hcz36_3 : wr.cell? ⟨gb115, 3, none⟩ = some (.int .i64 a0_3) := (blk_cell BK115.out 3).trans rfl
                                have hcz36_4 : wr.cell? ⟨gb115, 4, none⟩ = some (.slice (some ad120) l0_4.length c0_4) := (blk_cell BK115.out 4).trans rfl
                                have hfz36_0 := blk_frozen BK115.out 0
                                have hfz36_1 := blk_frozen BK115.out 1
                                have hfz36_2 := blk_frozen BK115.out 2
                                have hfz36_3 := blk_frozen BK115.out 3
                                have hfz36_4 := blk_frozen BK115.out 4
                                obtain ⟨Ao37, co37, eo37⟩ := Kd.R_slice HO_5.out
                                subst eo37
                                go_wp2_with (first | (go_at_call 51; (with_reducible refine (spec_l4Has.calls k2 _ _ x5_2 (rd ((rd_T66 ((rd_T62 l0_4 a1).f0) (ji16)).f7) x8_2) false _ ?side1 ?side2 A27.out).mono ?_); (case side1 => repeat (first | exact (Kd.R_reads' HO_5.out).2.2 | (with_reducible refine Kd.C_alloc ?_ _) | (with_reducible refine Kd.C_drewN ?_ _) | (with_reducible refine Kd.C_drew ?_))); (case side2 => exact (Kd.R_reads' HO_5.out).2.1); rintro e w' ⟨rfl, ⟨nd, rfl⟩⟩) | ((with_reducible refine gate_builtin (b := .append) (xs := #[.tmp 70, .tmp 72]) rfl ?_); (try (refine gate_guard (by rfl) ?_; dsimp only)); at_builtin; refine Kd.R_append (Kd.int .i64) (w0 := w) w.heap.size rfl (.tmp 70) (.tmp 72) 22 2 (.int .i64 0) 8 rfl Try.underlying22 info2 rfl (by decide) (by omega) (.slice Ao37 x5_2.length co37) x5_2 (rd ((rd_T66 ((rd_T62 l0_4 a1).f0) (ji16)).f7) x8_2) [.int .i64 (rd ((rd_T66 ((rd_T62 l0_4 a1).f0) (ji16)).f7) x8_2)] (fun _ => True) (fun _ => False) rfl rfl ?aP (fun _ hk => hk.elim) ?aF ?aO ?aB ?aS ?aL ?_; (case aP => exact rfl); (case aB => exact (by repeat (first | (with_reducible first | exact HB.out | apply below_alloc | apply pw_below_drewN | apply below_drew1 | refine below_set ?_ GE115.out | refine below_set ?_ GE122.out) | exact HB.out))); (case aF => exact (fun _ _ => trivial)); (case aO => exact (by (with_reducible repeat (first | apply Kd.R_alloc | apply Kd.R_drewN | apply Kd.R_drew)); exact HO_5.out)); (case aS => exact (below_size (by repeat (first | (with_reducible first | exact HB.out | apply below_alloc | apply pw_below_drewN | apply below_drew1 | refine below_set ?_ GE115.out | refine below_set ?_ GE122.out) | exact HB.out)))); (case aL => have := LMc33.out; omega); intro v126 w38 ho hb hg hat; rw [← Ny125.out] at ho; have n0_ := Aside0.mk (blk_grown (g := gb115) (o := .cells #[.string a0_0, .int .i64 a0_1, .slice A0_2 l0_2.length c0_2, .int .i64 a0_3, .slice (some ad120) l0_4.length c0_4] 30 (0, 0)) (by (with_reducible repeat (first | refine blk_drewN ?_ _ | refine blk_drew ?_ | refine blk_alloc ?_ _)); exact BK115.out) hg (Kd.R_ne HO_5.out BK115.out (by decide))); have n1_ := Aside0.mk (blk_grown (g := gb122) (o := .cells #[.int .i64 ((rd_T66 ((rd_T62 l0_4 a1).f0) (ji16)).f0), .int .i64 ((rd_T66 ((rd_T62 l0_4 a1).f0) (ji16)).f1), .int .i64 ((rd_T66 ((rd_T62 l0_4 a1).f0) (ji16)).f2), .int .i64 ((rd_T66 ((rd_T62 l0_4 a1).f0) (ji16)).f3), .int .i64 ((rd_T66 ((rd_T62 l0_4 a1).f0) (ji16)).f4), .int .i64 ((rd_T66 ((rd_T62 l0_4 a1).f0) (ji16)).f5), .slice A121_6 ((rd_T66 ((rd_T62 l0_4 a1).f0) (ji16)).f6).length c121_6, .slice (some ad123) ((rd_T66 ((rd_T62 l0_4 a1).f0) (ji16)).f7).length c121_7, .slice A121_8 ((rd_T66 ((rd_T62 l0_4 a1).f0) (ji16)).f8).length c121_8] 66 (0, 0)) (by (with_reducible repeat (first | refine blk_drewN ?_ _ | refine blk_drew ?_ | refine blk_alloc ?_ _)); exact BK122.out) hg (Kd.R_ne HO_5.out BK122.out (by decide))); have n2_ := Aside0.mk (hb); have n3_ := Aside0.mk (ho); clear BK115; clear BK122; clear HB; clear HO_5; have BK115 := n0_; have BK122 := n1_; have HB := n2_; have HO127 := n3_; clear n0_ n1_ n2_ n3_; clear ho hb hg hat))
                                go_roundg k2
                                case measure => have := HJ2.out; have := HK2.out; omega
                                case rel => exact ⟨(y125), (wrap64 (x8_2 + 1)), (by first | rfl | (simp; done) | (simp [*]; done)), H', ⟨by have := HJ2.out; have := HK2.out; omega⟩, ⟨by (with_reducible repeat (first | apply Kd.R_alloc | apply Kd.R_drewN | apply Kd.R_drew)); exact HO127.out⟩, ⟨by (with_reducible repeat (first | refine blk_drewN ?_ _ | refine blk_drew ?_ | refine blk_alloc ?_ _)); exact BK115.out⟩, ⟨by (with_reducible repeat (first | refine blk_drewN ?_ _ | refine blk_drew ?_ | refine blk_alloc ?_ _)); exact BK122.out⟩, ⟨by repeat (first | (with_reducible first | exact HB.out | apply below_alloc | apply pw_below_drewN | apply below_drew1 | refine below_set ?_ GE115.out | refine below_set ?_ GE122.out) | exact HB.out)⟩⟩
                              · rw [if_neg c33] at H
                                exact absurd H (by simp)
                          · rw [if_neg c26] at H
                            have c26b0 : decide ((rd ((rd_T66 ((rd_T62 l0_4 a1).f0) (ji16)).f7) x8_2) < (l0_4.length : Int)) = false := decide_eq_false c26
                            clear c26
                            have H' := Aside0.mk H
                            clear H
                            have hnb39 := NB122_115.out
                            have hnc39 := NB115_122.out
                            have hcz40_0 : wr.cell? ⟨gb122, 0, none⟩ = some (.int .i64 ((rd_T66 ((rd_T62 l0_4 a1).f0) (ji16)).f0)) := (blk_cell BK122.out 0).trans rfl
                            have hcz40_1 : wr.cell? ⟨gb122, 1, none⟩ = some (.int .i64 ((rd_T66 ((rd_T62 l0_4 a1).f0) (ji16)).f1)) := (blk_cell BK122.out 1).trans rfl
                            have hcz40_2 : wr.cell? ⟨gb122, 2, none⟩ = some (.int .i64 ((rd_T66 ((rd_T62 l0_4 a1).f0) (ji16)).f2)) := (blk_cell BK122.out 2).trans rfl
                            have hcz40_3 : wr.cell? ⟨gb122, 3, none⟩ = some (.int .i64 ((rd_T66 ((rd_T62 l0_4 a1).f0) (ji16)).f3)) := (blk_cell BK122.out 3).trans rfl
                            have hcz40_4 : wr.cell? ⟨gb122, 4, none⟩ = some (.int .i64 ((rd_T66 ((rd_T62 l0_4 a1).f0) (ji16)).f4)) := (blk_cell BK122.out 4).trans rfl
                            have hcz40_5 : wr.cell? ⟨gb122, 5, none⟩ = some (.int .i64 ((rd_T66 ((rd_T62 l0_4 a1).f0) (ji16)).f5)) := (blk_cell BK122.out 5).trans rfl
                            have hcz40_6 : wr.cell? ⟨gb122, 6, none⟩ = some (.slice A121_6 ((rd_T66 ((rd_T62 l0_4 a1).f0) (ji16)).f6).length c121_6) := (blk_cell BK122.out 6).trans rfl
                            have hcz40_7 : wr.cell? ⟨gb122, 7, none⟩ = some (.slice A121_7 ((rd_T66 ((rd_T62 l0_4 a1).f0) (ji16)).f7).length c121_7) := (blk_cell BK122.out 7).trans rfl
                            have hcz40_8 : wr.cell? ⟨gb122, 8, none⟩ = some (.slice A121_8 ((rd_T66 ((rd_T62 l0_4 a1).f0) (ji16)).f8).length c121_8) := (blk_cell BK122.out 8).trans rfl
                            have hfz40_0 := blk_frozen BK122.out 0
                            have hfz40_1 := blk_frozen BK122.out 1
                            have hfz40_2 := blk_frozen BK122.out 2
                            have hfz40_3 := blk_frozen BK122.out 3
                            have hfz40_4 := blk_frozen BK122.out 4
                            have hfz40_5 := blk_frozen BK122.out 5
                            have hfz40_6 := blk_frozen BK122.out 6
                            have hfz40_7 := blk_frozen BK122.out 7
                            have hfz40_8 := blk_frozen BK122.out 8
                            have p123 : 0 ≤ (x8_2 : Int) := of_decide_eq_true (by first | (with_reducible assumption) | assumption)
                            have q123 : x8_2 < (((rd_T66 ((rd_T62 l0_4 a1).f0) (ji16)).f7).length : Int) := of_decide_eq_true (by first | (with_reducible assumption) | assumption)
                            obtain ⟨ad123, e123, hx123_0⟩ := Kd.at_int HR121_7.out x8_2 p123 q123
                            cases e123
                            replace hx123_0 := (HB.out.cell (World.block_lt_of_cell? w _ hx123_0)).trans hx123_0
                            replace p123 := eq_true p123
                            replace q123 := eq_true q123
                            have hcz41_0 : wr.cell? ⟨gb115, 0, none⟩ = some (.string a0_0) := (blk_cell BK115.out 0).trans rfl
                            have hcz41_1 : wr.cell? ⟨gb115, 1, none⟩ = some (.int .i64 a0_1) := (blk_cell BK115.out 1).trans rfl
                            have hcz41_2 : wr.cell? ⟨gb115, 2, none⟩ = some (.slice A0_2 l0_2.length c0_2) := (blk_cell BK115.out 2).trans rfl
                            have hcz41_3 : wr.cell? ⟨gb115, 3, none⟩ = some (.int .i64 a0_3) := (blk_cell BK115.out 3).trans rfl
                            have hcz41_4 : wr.cell? ⟨gb115, 4, none⟩ = some (.slice (some ad120) l0_4.length c0_4) := (blk_cell BK115.out 4).trans rfl
                            have hfz41_0 := blk_frozen BK115.out 0
                            have hfz41_1 := blk_frozen BK115.out 1
                            have hfz41_2 := blk_frozen BK115.out 2
                            have hfz41_3 := blk_frozen BK115.out 3
                            have hfz41_4 := blk_frozen BK115.out 4
                            go_wp2
                            go_roundg k2
                            case measure => have := HJ2.out; have := HK2.out; omega
                            case rel => exact ⟨(x5_2), (wrap64 (x8_2 + 1)), (by first | rfl | (simp; done) | (simp [*]; done)), H', ⟨by have := HJ2.out; have := HK2.out; omega⟩, ⟨by (with_reducible repeat (first | apply Kd.R_alloc | apply Kd.R_drewN | apply Kd.R_drew)); exact HO_5.out⟩, ⟨by (with_reducible repeat (first | refine blk_drewN ?_ _ | refine blk_drew ?_ | refine blk_alloc ?_ _)); exact BK115.out⟩, ⟨by (with_reducible repeat (first | refine blk_drewN ?_ _ | refine blk_drew ?_ | refine blk_alloc ?_ _)); exact BK122.out⟩, ⟨by repeat (first | (with_reducible first | exact HB.out | apply below_alloc | apply pw_below_drewN | apply below_drew1 | refine below_set ?_ GE115.out | refine below_set ?_ GE122.out) | exact HB.out)⟩⟩
                        · rw [if_neg c25] at H
                          have c25b0 : decide (0 ≤ (rd ((rd_T66 ((rd_T62 l0_4 a1).f0) (ji16)).f7) x8_2)) = false := decide_eq_false c25
                          clear c25
                          have H' := Aside0.mk H
                          clear H
                          have hnb42 := NB122_115.out
                          have hnc42 := NB115_122.out
                          have hcz43_0 : wr.cell? ⟨gb122, 0, none⟩ = some (.int .i64 ((rd_T66 ((rd_T62 l0_4 a1).f0) (ji16)).f0)) := (blk_cell BK122.out 0).trans rfl
                          have hcz43_1 : wr.cell? ⟨gb122, 1, none⟩ = some (.int .i64 ((rd_T66 ((rd_T62 l0_4 a1).f0) (ji16)).f1)) := (blk_cell BK122.out 1).trans rfl
                          have hcz43_2 : wr.cell? ⟨gb122, 2, none⟩ = some (.int .i64 ((rd_T66 ((rd_T62 l0_4 a1).f0) (ji16)).f2)) := (blk_cell BK122.out 2).trans rfl
                          have hcz43_3 : wr.cell? ⟨gb122, 3, none⟩ = some (.int .i64 ((rd_T66 ((rd_T62 l0_4 a1).f0) (ji16)).f3)) := (blk_cell BK122.out 3).trans rfl
                          have hcz43_4 : wr.cell? ⟨gb122, 4, none⟩ = some (.int .i64 ((rd_T66 ((rd_T62 l0_4 a1).f0) (ji16)).f4)) := (blk_cell BK122.out 4).trans rfl
                          have hcz43_5 : wr.cell? ⟨gb122, 5, none⟩ = some (.int .i64 ((rd_T66 ((rd_T62 l0_4 a1).f0) (ji16)).f5)) := (blk_cell BK122.out 5).trans rfl
                          have hcz43_6 : wr.cell? ⟨gb122, 6, none⟩ = some (.slice A121_6 ((rd_T66 ((rd_T62 l0_4 a1).f0) (ji16)).f6).length c121_6) := (blk_cell BK122.out 6).trans rfl
                          have hcz43_7 : wr.cell? ⟨gb122, 7, none⟩ = some (.slice A121_7 ((rd_T66 ((rd_T62 l0_4 a1).f0) (ji16)).f7).length c121_7) := (blk_cell BK122.out 7).trans rfl
                          have hcz43_8 : wr.cell? ⟨gb122, 8, none⟩ = some (.slice A121_8 ((rd_T66 ((rd_T62 l0_4 a1).f0) (ji16)).f8).length c121_8) := (blk_cell BK122.out 8).trans rfl
                          have hfz43_0 := blk_frozen BK122.out 0
                          have hfz43_1 := blk_frozen BK122.out 1
                          have hfz43_2 := blk_frozen BK122.out 2
                          have hfz43_3 := blk_frozen BK122.out 3
                          have hfz43_4 := blk_frozen BK122.out 4
                          have hfz43_5 := blk_frozen BK122.out 5
                          have hfz43_6 := blk_frozen BK122.out 6
                          have hfz43_7 := blk_frozen BK122.out 7
                          have hfz43_8 := blk_frozen BK122.out 8
                          have p123 : 0 ≤ (x8_2 : Int) := of_decide_eq_true (by first | (with_reducible assumption) | assumption)
                          have q123 : x8_2 < (((rd_T66 ((rd_T62 l0_4 a1).f0) (ji16)).f7).length : Int) := of_decide_eq_true (by first | (with_reducible assumption) | assumption)
                          obtain ⟨ad123, e123, hx123_0⟩ := Kd.at_int HR121_7.out x8_2 p123 q123
                          cases e123
                          replace hx123_0 := (HB.out.cell (World.block_lt_of_cell? w _ hx123_0)).trans hx123_0
                          replace p123 := eq_true p123
                          replace q123 := eq_true q123
                          go_wp2
                          go_roundg k2
                          case measure => have := HJ2.out; have := HK2.out; omega
                          case rel => exact ⟨(x5_2), (wrap64 (x8_2 + 1)), (by first | rfl | (simp; done) | (simp [*]; done)), H', ⟨by have := HJ2.out; have := HK2.out; omega⟩, ⟨by (with_reducible repeat (first | apply Kd.R_alloc | apply Kd.R_drewN | apply Kd.R_drew)); exact HO_5.out⟩, ⟨by (with_reducible repeat (first | refine blk_drewN ?_ _ | refine blk_drew ?_ | refine blk_alloc ?_ _)); exact BK115.out⟩, ⟨by (with_reducible repeat (first | refine blk_drewN ?_ _ | refine blk_drew ?_ | refine blk_alloc ?_ _)); exact BK122.out⟩, ⟨by repeat (first | (with_reducible first | exact HB.out | apply below_alloc | apply pw_below_drewN | apply below_drew1 | refine below_set ?_ GE115.out | refine below_set ?_ GE122.out) | exact HB.out)⟩⟩
                      · rw [if_neg c24] at H
                        exact absurd H (by simp)
                    · rw [if_neg c23] at H
                      have c23b0 : decide (x8_2 < (((rd_T66 ((rd_T62 l0_4 a1).f0) (ji16)).f7).length : Int)) = false := decide_eq_false c23
                      clear c23
                      obtain rfl := Option.some.inj H
                      have hnb44 := NB122_115.out
                      have hnc44 := NB115_122.out
                      have hcz45_0 : wr.cell? ⟨gb122, 0, none⟩ = some (.int .i64 ((rd_T66 ((rd_T62 l0_4 a1).f0) (ji16)).f0)) := (blk_cell BK122.out 0).trans rfl
                      have hcz45_1 : wr.cell? ⟨gb122, 1, none⟩ = some (.int .i64 ((rd_T66 ((rd_T62 l0_4 a1).f0) (ji16)).f1)) := (blk_cell BK122.out 1).trans rfl
                      have hcz45_2 : wr.cell? ⟨gb122, 2, none⟩ = some (.int .i64 ((rd_T66 ((rd_T62 l0_4 a1).f0) (ji16)).f2)) := (blk_cell BK122.out 2).trans rfl
                      have hcz45_3 : wr.cell? ⟨gb122, 3, none⟩ = some (.int .i64 ((rd_T66 ((rd_T62 l0_4 a1).f0) (ji16)).f3)) := (blk_cell BK122.out 3).trans rfl
                      have hcz45_4 : wr.cell? ⟨gb122, 4, none⟩ = some (.int .i64 ((rd_T66 ((rd_T62 l0_4 a1).f0) (ji16)).f4)) := (blk_cell BK122.out 4).trans rfl
                      have hcz45_5 : wr.cell? ⟨gb122, 5, none⟩ = some (.int .i64 ((rd_T66 ((rd_T62 l0_4 a1).f0) (ji16)).f5)) := (blk_cell BK122.out 5).trans rfl
                      have hcz45_6 : wr.cell? ⟨gb122, 6, none⟩ = some (.slice A121_6 ((rd_T66 ((rd_T62 l0_4 a1).f0) (ji16)).f6).length c121_6) := (blk_cell BK122.out 6).trans rfl
                      have hcz45_7 : wr.cell? ⟨gb122, 7, none⟩ = some (.slice A121_7 ((rd_T66 ((rd_T62 l0_4 a1).f0) (ji16)).f7).length c121_7) := (blk_cell BK122.out 7).trans rfl
                      have hcz45_8 : wr.cell? ⟨gb122, 8, none⟩ = some (.slice A121_8 ((rd_T66 ((rd_T62 l0_4 a1).f0) (ji16)).f8).length c121_8) := (blk_cell BK122.out 8).trans rfl
                      have hfz45_0 := blk_frozen BK122.out 0
                      have hfz45_1 := blk_frozen BK122.out 1
                      have hfz45_2 := blk_frozen BK122.out 2
                      have hfz45_3 := blk_frozen BK122.out 3
                      have hfz45_4 := blk_frozen BK122.out 4
                      have hfz45_5 := blk_frozen BK122.out 5
                      have hfz45_6 := blk_frozen BK122.out 6
                      have hfz45_7 := blk_frozen BK122.out 7
                      have hfz45_8 := blk_frozen BK122.out 8
                      go_wp2
                      go_ret
                      exact ⟨_, by first | rfl | (simp [errW_none, errW_some] <;> rfl) | (simp only [← hji16]; first | rfl | (simp [errW_none, errW_some] <;> rfl)) | (simp [*, errW_none, errW_some] <;> rfl), by (with_reducible repeat (first | apply Kd.R_alloc | apply Kd.R_drewN | apply Kd.R_drew)); exact HO_5.out, by repeat (first | (with_reducible first | exact HB.out | apply below_alloc | apply pw_below_drewN | apply below_drew1 | refine below_set ?_ GE115.out | refine below_set ?_ GE122.out) | exact HB.out)⟩
              · rw [if_neg c18] at H
                exact absurd H (by simp)
            · rw [if_neg c17] at H
              exact absurd H (by simp)
          · rw [if_neg c15] at H
            exact absurd H (by simp)
        · rw [if_neg c14] at H
          exact absurd H (by simp)

end Go.Proofs.Ytoedcnhgobbnfaa.All

namespace Go.Proofs.Ytoedcnhgobbnfaa.All
open Go.RowKit Go.Proofs.YtoedcnhgobbnfaaW.PrintWords Go.Proofs.YtoedcnhgobbnfaaW.PrintLast Go.Proofs.YtoedcnhgobbnfaaW.PrintMore
attribute [local go_sem] max2_int min2_int max_two min_two max_three min_three max_four min_four   -- for this text's walks alone
set_option linter.unusedVariables false
set_option linter.unusedSimpArgs false

/-! ### laws_toInt64S: function 47 -/
def laws_toInt64S.l0 : Nat → List Int → List Int → Int → Option (List Int)
  | 0, _, _, _ => none
  | k + 1, x0, x3, x4 => if x4 < (x0.length : Int) then (if 0 ≤ x4 then (if x4 < (x3.length : Int) then (laws_toInt64S.l0 k x0 (x3.set (x4 : Int).toNat (rd x0 x4)) (wrap64 (x4 + 1))) else (none)) else (none)) else (some x3)
def laws_toInt64S.f (k : Nat) (l0 : List Int) : Option (List Int) := if 0 ≤ (l0.length : Int) then (if ((l0.length : Int) : Int).toNat ≤ 35184372088832 then (laws_toInt64S.l0 k l0 (List.replicate ((l0.length : Int) : Int).toNat 0) 0) else (none)) else (none)
set_option maxHeartbeats 8000000 in
set_option maxRecDepth 100000 in
theorem laws_toInt64S.calls (k : Nat) (A0 : Option Addr) (c0 : Nat) (l0 : List Int) (r : List Int) (w : World) (hr0 : Kd.C (Kd.int .i64) w A0 l0.length l0) (hc0 : l0.length ≤ c0) (h : laws_toInt64S.f k l0 = some r) :
    Calls Try.prog 47 #[.slice A0 l0.length c0] w fun e w' => ∃ v0_ : Value, e = .returned (v0_) ∧ Kd.R (Kd.int .i64) 2 w' w.heap.size (fun _ => True) v0_ r ∧ Below w.heap.size w w' := by
  have HR0 := Aside0.mk hr0
  have HC0 := Aside0.mk hc0
  clear hr0 hc0
  have HB := Aside0.mk (Below.refl w.heap.size w)
  have H : (if 0 ≤ (l0.length : Int) then (if ((l0.length : Int) : Int).toNat ≤ 35184372088832 then (laws_toInt64S.l0 k l0 (List.replicate ((l0.length : Int) : Int).toNat 0) 0) else (none)) else (none)) = some r := h
  clear h
  by_cases c2 : 0 ≤ (l0.length : Int)
  · rw [if_pos c2] at H
    have c2b0 := eq_true c2
    have c2b1 : decide (0 ≤ (l0.length : Int)) = true := decide_eq_true c2
    clear c2
    by_cases c3 : ((l0.length : Int) : Int).toNat ≤ 35184372088832
    · rw [if_pos c3] at H
      have c3b0 := eq_true c3
      have c3b1 : decide (((l0.length : Int) : Int).toNat ≤ 35184372088832) = true := decide_eq_true c3
      clear c3
      obtain ⟨y164, hy164⟩ : ∃ y_ : List Int, y_ = (List.replicate ((l0.length : Int) : Int).toNat 0) := ⟨_, rfl⟩
      replace H : (laws_toInt64S.l0 k l0 y164 0) = some r := by first | (rw [hy164]; with_reducible exact H) | (have H2_ := (Option.bind_some _ _).symm.trans H; rw [hy164]; with_reducible exact H2_) | (have H2_ := (Option.bind_some _ _).symm.trans H; with_reducible exact H2_) | with_reducible exact H | (rw [hy164]; exact H) | exact H
      have Ny164 := Aside0.mk hy164
      clear hy164
      have H' := Aside0.mk H
      clear H
      go_enter Try.func47, Try.ntmps47
      go_wp2_with (first | ((with_reducible refine gate_dst (N := 7) rfl ?_); refine Kd.R_make (Kd.int .i64) _ 2 rfl (N := 7) rfl 22 _ _ rfl (l0.length : Int) rfl rfl Try.underlying22 (.int .i64 0) 8 info2 rfl (by decide) (by omega) 0 (ok := fun _ => True) (okp := fun _ => True) rfl (fun _ hk => hk) trivial (of_decide_eq_true (by first | (with_reducible assumption) | assumption)) (Nat.le_trans (Nat.mul_le_mul_right _ (of_decide_eq_true (by first | (with_reducible assumption) | assumption) : (l0.length : Int).toNat ≤ 35184372088832)) (by omega)) (Below.refl _ _) (Nat.le_refl _) ?_; intro v165 w4 ho5 hb hg_ hnew_; clear hg_ hnew_; (first | rw [← Ny164.out] at ho5 | (simp only [Int.reduceToNat] at ho5; rw [← Ny164.out] at ho5)); have n0_ := Aside0.mk (Kd.R_lower ho5 (below_size (by repeat (first | (with_reducible first | exact HB.out | apply below_alloc | apply pw_below_drewN | apply below_drew1) | exact HB.out)))); have n1_ := Aside0.mk (below_step (by repeat (first | (with_reducible first | exact HB.out | apply below_alloc | apply pw_below_drewN | apply below_drew1) | exact HB.out)) hb); clear HB; have HO166 := n0_; have HB := n1_; clear n0_ n1_; clear hb ho5))
      go_loopg [4] k (fun kq v4 w' => ∃ (x3_1 : List Int) (x4_1 : Int), v4 = .int .i64 x4_1 ∧ Aside0 (laws_toInt64S.l0 kq l0 x3_1 x4_1 = some r) ∧ Aside0 (kq ≤ k) ∧ Aside0 (Kd.R (Kd.int .i64) 2 w' w.heap.size (fun _ => True) v165 x3_1) ∧ Aside0 (Below w.heap.size w w'))
      case atStart => exact ⟨(y164), (0), (by first | rfl | (simp; done) | (simp [*]; done)), H', ⟨Nat.le_refl _⟩, ⟨by (with_reducible repeat (first | apply Kd.R_alloc | apply Kd.R_drewN | apply Kd.R_drew)); exact HO166.out⟩, ⟨by repeat (first | (with_reducible first | exact HB.out | apply below_alloc | apply pw_below_drewN | apply below_drew1) | exact HB.out)⟩⟩
      case round =>
        clear H'
        try clear c2
        try clear c2b0
        try clear c2b1
        try clear p2
        try clear c3
        try clear c3b0
        try clear c3b1
        try clear c4
        obtain ⟨x3_1, x4_1, rfl, HA, HK1, HO_3, HB⟩ := hrel
        cases gk with
        | zero => exact absurd HA.out (by simp [laws_toInt64S.l0])
        | succ k1 =>
          have H := HA.out
          clear HA
          simp only [laws_toInt64S.l0] at H
          by_cases c6 : x4_1 < (l0.length : Int)
          · rw [if_pos c6] at H
            have c6b0 : decide (x4_1 < (l0.length : Int)) = true := decide_eq_true c6
            clear c6
            by_cases c7 : 0 ≤ x4_1
            · rw [if_pos c7] at H
              have c7b0 : decide (0 ≤ x4_1) = true := decide_eq_true c7
              clear c7
              by_cases c8 : x4_1 < (x3_1.length : Int)
              · rw [if_pos c8] at H
                have c8b0 : decide (x4_1 < (x3_1.length : Int)) = true := decide_eq_true c8
                clear c8
                obtain ⟨y168, hy168⟩ : ∃ y_ : List Int, y_ = (x3_1.set (x4_1 : Int).toNat (rd l0 x4_1)) := ⟨_, rfl⟩
                replace H : (laws_toInt64S.l0 k1 l0 y168 (wrap64 (x4_1 + 1))) = some r := by first | (rw [hy168]; with_reducible exact H) | (have H2_ := (Option.bind_some _ _).symm.trans H; rw [hy168]; with_reducible exact H2_) | (have H2_ := (Option.bind_some _ _).symm.trans H; with_reducible exact H2_) | with_reducible exact H | (rw [hy168]; exact H) | exact H
                have Ny168 := Aside0.mk hy168
                clear hy168
                have H' := Aside0.mk H
                clear H
                have p167 : 0 ≤ (x4_1 : Int) := of_decide_eq_true (by first | (with_reducible assumption) | assumption)
                have q167 : x4_1 < (l0.length : Int) := of_decide_eq_true (by first | (with_reducible assumption) | assumption)
                obtain ⟨ad167, e167, hx167_0⟩ := Kd.at_int HR0.out x4_1 p167 q167
                cases e167
                replace hx167_0 := (HB.out.cell (World.block_lt_of_cell? w _ hx167_0)).trans hx167_0
                replace p167 := eq_true p167
                replace q167 := eq_true q167
                have p9 : 0 ≤ (x4_1 : Int) := of_decide_eq_true (by first | (with_reducible assumption) | assumption)
                have q9 : (x4_1 : Int) < ((x3_1.length : Int) : Int) := of_decide_eq_true (by first | (with_reducible assumption) | assumption)
                obtain ⟨go9, co9, eo9, gb9, gl9, cl9, HG9⟩ := Kd.R_form HO_3.out (by omega)
                (first | cases eo9 | (injection eo9 with ea_ en_ ec_; (first | subst ea_ | (injection ea_ with ea_; subst ea_)); subst ec_; clear en_))
                have GB9 := Aside0.mk gb9
                have GG9 := Aside0.mk HG9
                clear gb9 gl9 HG9
                obtain ⟨hx9_0, hf9_0⟩ := Kd.R_celln 0 HO_3.out (x4_1 : Int) p9 q9
                replace p9 := eq_true p9
                replace q9 := eq_true q9
                have HP10 := Kd.R_putg HO_3.out (x4_1 : Int) (rd l0 x4_1)
                go_wp2_with (first | ((with_reducible refine gate_store (t := 2) (p := 20) rfl ?_); refine store_event (t := 2) (p := 20) (v := ?vo_w11) (w1 := (wr.setCell ⟨go9, (x4_1 : Int).toNat, none⟩ (.int .i64 (rd l0 x4_1)))) ?hg ?ho ?hn ?hr ?_; (case ho => rfl); (case hg => rfl); (case hn => rfl); (case hr => first | (go_simp; done) | (go_simp; rfl)); intro w11 hw; have hg : wr.grownBy w11 (some go9) := (by rw [hw]; exact HP10.2); have hp_ : Kd.R (Kd.int .i64) 2 w11 w.heap.size (fun _ => True) (.slice (some ⟨go9, 0, none⟩) x3_1.length co9) y168 := (by rw [hw, Ny168.out]; exact HP10.1); clear HP10; have n0_ := Aside0.mk (hp_); have n1_ := Aside0.mk ((by rw [hw]; exact below_set (HB.out) GB9.out : Below w.heap.size w w11)); clear HO_3; clear HB; have HO_3 := n0_; have HB := n1_; clear n0_ n1_; clear hg hw hp_))
                go_roundg k1
                case measure => have := HK1.out; omega
                case rel => exact ⟨(y168), (wrap64 (x4_1 + 1)), (by first | rfl | (simp; done) | (simp [*]; done)), H', ⟨by have := HK1.out; omega⟩, ⟨by (with_reducible repeat (first | apply Kd.R_alloc | apply Kd.R_drewN | apply Kd.R_drew)); exact HO_3.out⟩, ⟨by repeat (first | (with_reducible first | exact HB.out | apply below_alloc | apply pw_below_drewN | apply below_drew1) | exact HB.out)⟩⟩
              · rw [if_neg c8] at H
                exact absurd H (by simp)
            · rw [if_neg c7] at H
              exact absurd H (by simp)
          · rw [if_neg c6] at H
            have c6b0 : decide (x4_1 < (l0.length : Int)) = false := decide_eq_false c6
            clear c6
            obtain rfl := Option.some.inj H
            go_wp2
            go_ret
            exact ⟨_, by first | rfl | (simp [errW_none, errW_some] <;> rfl) | (simp [*, errW_none, errW_some] <;> rfl), by (with_reducible repeat (first | apply Kd.R_alloc | apply Kd.R_drewN | apply Kd.R_drew)); exact HO_3.out, by repeat (first | (with_reducible first | exact HB.out | apply below_alloc | apply pw_below_drewN | apply below_drew1) | exact HB.out)⟩
    · rw [if_neg c3] at H
      exact absurd H (by simp)
  · rw [if_neg c2] at H
    exact absurd H (by simp)

end Go.Proofs.Ytoedcnhgobbnfaa.All

namespace Go.Proofs.Ytoedcnhgobbnfaa.All
open Go.RowKit Go.Proofs.YtoedcnhgobbnfaaW.PrintWords Go.Proofs.YtoedcnhgobbnfaaW.PrintLast Go.Proofs.YtoedcnhgobbnfaaW.PrintMore
attribute [local go_sem] max2_int min2_int max_two min_two max_three min_three max_four min_four   -- for this text's walks alone
set_option linter.unusedVariables false
set_option linter.unusedSimpArgs false

/-! ### laws_toOperand: function 123 -/
def laws_toOperand.f (a0_0 : Int) (a0_1 : Int) (a0_2 : Int) (a0_3 : Int) : Option (Int × Int × Int × Int) := some (a0_0, a0_1, a0_2, a0_3)
set_option maxHeartbeats 8000000 in
set_option maxRecDepth 100000 in
theorem laws_toOperand.calls (a0_0 : Int) (a0_1 : Int) (a0_2 : Int) (a0_3 : Int) (r1 : Int) (r2 : Int) (r3 : Int) (r4 : Int) (w : World) (h : laws_toOperand.f a0_0 a0_1 a0_2 a0_3 = some (r1, r2, r3, r4)) :
    Calls Try.prog 123 #[.agg #[.int .i64 a0_0, .int .i64 a0_1, .int .i64 a0_2, .int .u64 a0_3]] w fun e w' => e = .returned (.agg #[.int .i64 r1, .int .i64 r2, .int .i64 r3, .int .u64 r4]) ∧ Below w.heap.size w w' := by
  have hu158 := Try.underlying158
  have hu75 := Try.underlying75
  have HB := Aside0.mk (Below.refl w.heap.size w)
  have H : (some (a0_0, a0_1, a0_2, a0_3)) = some (r1, r2, r3, r4) := h
  clear h
  simp only [Option.some.injEq, Prod.mk.injEq] at H
  obtain ⟨rfl, rfl, rfl, rfl⟩ := H
  go_enter Try.func123, Try.ntmps123
  go_wp2_with (first | ((with_reducible refine gate_dst (N := 1) rfl ?_); refine box_event ?hg (N := 1) ?hd (cs := #[.int .i64 a0_0, .int .i64 a0_1, .int .i64 a0_2, .int .u64 a0_3]) (t := 158) ?hr ?_; (case hd => rfl); (case hg => rfl); (case hr => first | (go_simp; done) | (go_simp; rfl)); intro gb169 hg w2 hbox hb; have n0_ := Aside0.mk (below_step (by repeat (first | (with_reducible first | exact HB.out | apply below_alloc | apply pw_below_drewN | apply below_drew1) | exact HB.out)) hb); have n1_ := Aside0.mk (hbox); have n2_ := Aside0.mk ((by rw [hg]; exact (below_size (by repeat (first | (with_reducible first | exact HB.out | apply below_alloc | apply pw_below_drewN | apply below_drew1) | exact HB.out))) : w.heap.size ≤ gb169)); have n3_ := Aside0.mk ((by rw [hg]; exact (below_size (by repeat (first | (with_reducible first | exact HB.out | apply below_alloc | apply pw_below_drewN | apply below_drew1) | exact HB.out))) : w.heap.size ≤ gb169)); clear HB; have HB := n0_; have BK169 := n1_; have GW169 := n2_; have GE169 := n3_; clear n0_ n1_ n2_ n3_; clear hb hbox hg) | ((with_reducible refine gate_dst (N := 2) rfl ?_); refine box_event ?hg (N := 2) ?hd (cs := #[.int .i64 0, .int .i64 0, .int .i64 0, .int .u64 0]) (t := 75) ?hr ?_; (case hd => rfl); (case hg => rfl); (case hr => first | (go_simp; done) | (go_simp; rfl)); intro gb170 hg w3 hbox hb; have n0_ := Aside0.mk (blk_below (g := gb169) (o := .cells #[.int .i64 a0_0, .int .i64 a0_1, .int .i64 a0_2, .int .u64 a0_3] 158 (0, 0)) (by (with_reducible repeat (first | refine blk_drewN ?_ _ | refine blk_drew ?_ | refine blk_alloc ?_ _)); exact BK169.out) hb); have n1_ := Aside0.mk (below_step (by repeat (first | (with_reducible first | exact HB.out | apply below_alloc | apply pw_below_drewN | apply below_drew1 | refine below_set ?_ GE169.out) | exact HB.out)) hb); have n2_ := Aside0.mk (hbox); have n3_ := Aside0.mk ((by rw [hg]; exact (below_size (by repeat (first | (with_reducible first | exact HB.out | apply below_alloc | apply pw_below_drewN | apply below_drew1 | refine below_set ?_ GE169.out) | exact HB.out))) : w.heap.size ≤ gb170)); have n4_ := Aside0.mk ((by rw [hg]; exact (below_size (by repeat (first | (with_reducible first | exact HB.out | apply below_alloc | apply pw_below_drewN | apply below_drew1 | refine below_set ?_ GE169.out) | exact HB.out))) : w.heap.size ≤ gb170)); have n5_ := Aside0.mk ((by rw [hg]; exact Nat.ne_of_lt (blk_lt (g := gb169) (o := .cells #[.int .i64 a0_0, .int .i64 a0_1, .int .i64 a0_2, .int .u64 a0_3] 158 (0, 0)) (by (with_reducible repeat (first | refine blk_drewN ?_ _ | refine blk_drew ?_ | refine blk_alloc ?_ _)); exact BK169.out)) : gb169 ≠ gb170)); have n6_ := Aside0.mk ((by rw [hg]; exact Nat.ne_of_gt (blk_lt (g := gb169) (o := .cells #[.int .i64 a0_0, .int .i64 a0_1, .int .i64 a0_2, .int .u64 a0_3] 158 (0, 0)) (by (with_reducible repeat (first | refine blk_drewN ?_ _ | refine blk_drew ?_ | refine blk_alloc ?_ _)); exact BK169.out)) : gb170 ≠ gb169)); clear BK169; clear HB; have BK169 := n0_; have HB := n1_; have BK170 := n2_; have GW170 := n3_; have GE170 := n4_; have NB169_170 := n5_; have NB170_169 := n6_; clear n0_ n1_ n2_ n3_ n4_ n5_ n6_; clear hb hbox hg) | ((with_reducible refine gate_dst (N := 3) rfl ?_); refine box_event ?hg (N := 3) ?hd (cs := #[.int .i64 0, .int .i64 0, .int .i64 0, .int .u64 0]) (t := 75) ?hr ?_; (case hd => rfl); (case hg => rfl); (case hr => first | (go_simp; done) | (go_simp; rfl)); intro gb171 hg w4 hbox hb; have n0_ := Aside0.mk (blk_below (g := gb169) (o := .cells #[.int .i64 a0_0, .int .i64 a0_1, .int .i64 a0_2, .int .u64 a0_3] 158 (0, 0)) (by (with_reducible repeat (first | refine blk_drewN ?_ _ | refine blk_drew ?_ | refine blk_alloc ?_ _)); exact BK169.out) hb); have n1_ := Aside0.mk (blk_below (g := gb170) (o := .cells #[.int .i64 0, .int .i64 0, .int .i64 0, .int .u64 0] 75 (0, 0)) (by (with_reducible repeat (first | refine blk_drewN ?_ _ | refine blk_drew ?_ | refine blk_alloc ?_ _)); exact BK170.out) hb); have n2_ := Aside0.mk (below_step (by repeat (first | (with_reducible first | exact HB.out | apply below_alloc | apply pw_below_drewN | apply below_drew1 | refine below_set ?_ GE169.out | refine below_set ?_ GE170.out) | exact HB.out)) hb); have n3_ := Aside0.mk (hbox); have n4_ := Aside0.mk ((by rw [hg]; exact (below_size (by repeat (first | (with_reducible first | exact HB.out | apply below_alloc | apply pw_below_drewN | apply below_drew1 | refine below_set ?_ GE169.out | refine below_set ?_ GE170.out) | exact HB.out))) : w.heap.size ≤ gb171)); have n5_ := Aside0.mk ((by rw [hg]; exact (below_size (by repeat (first | (with_reducible first | exact HB.out | apply below_alloc | apply pw_below_drewN | apply below_drew1 | refine below_set ?_ GE169.out | refine below_set ?_ GE170.out) | exact HB.out))) : w.heap.size ≤ gb171)); have n6_ := Aside0.mk ((by rw [hg]; exact Nat.ne_of_lt (blk_lt (g := gb169) (o := .cells #[.int .i64 a0_0, .int .i64 a0_1, .int .i64 a0_2, .int .u64 a0_3] 158 (0, 0)) (by (with_reducible repeat (first | refine blk_drewN ?_ _ | refine blk_drew ?_ | refine blk_alloc ?_ _)); exact BK169.out)) : gb169 ≠ gb171)); have n7_ := Aside0.mk ((by rw [hg]; exact Nat.ne_of_gt (blk_lt (g := gb169) (o := .cells #[.int .i64 a0_0, .int .i64 a0_1, .int .i64 a0_2, .int .u64 a0_3] 158 (0, 0)) (by (with_reducible repeat (first | refine blk_drewN ?_ _ | refine blk_drew ?_ | refine blk_alloc ?_ _)); exact BK169.out)) : gb171 ≠ gb169)); have n8_ := Aside0.mk ((by rw [hg]; exact Nat.ne_of_lt (blk_lt (g := gb170) (o := .cells #[.int .i64 0, .int .i64 0, .int .i64 0, .int .u64 0] 75 (0, 0)) (by (with_reducible repeat (first | refine blk_drewN ?_ _ | refine blk_drew ?_ | refine blk_alloc ?_ _)); exact BK170.out)) : gb170 ≠ gb171)); have n9_ := Aside0.mk ((by rw [hg]; exact Nat.ne_of_gt (blk_lt (g := gb170) (o := .cells #[.int .i64 0, .int .i64 0, .int .i64 0, .int .u64 0] 75 (0, 0)) (by (with_reducible repeat (first | refine blk_drewN ?_ _ | refine blk_drew ?_ | refine blk_alloc ?_ _)); exact BK170.out)) : gb171 ≠ gb170)); clear BK169; clear BK170; clear HB; have BK169 := n0_; have BK170 := n1_; have HB := n2_; have BK171 := n3_; have GW171 := n4_; have GE171 := n5_; have NB169_171 := n6_; have NB171_169 := n7_; have NB170_171 := n8_; have NB171_170 := n9_; clear n0_ n1_ n2_ n3_ n4_ n5_ n6_ n7_ n8_ n9_; clear hb hbox hg; have hnb5 := NB169_170.out; have hnc5 := NB170_169.out; have hnb6 := NB169_171.out; have hnc6 := NB171_169.out; have hcz7_0 : w4.cell? ⟨gb169, 0, none⟩ = some (.int .i64 a0_0) := (blk_cell BK169.out 0).trans rfl; have hcz7_1 : w4.cell? ⟨gb169, 1, none⟩ = some (.int .i64 a0_1) := (blk_cell BK169.out 1).trans rfl; have hcz7_2 : w4.cell? ⟨gb169, 2, none⟩ = some (.int .i64 a0_2) := (blk_cell BK169.out 2).trans rfl; have hcz7_3 : w4.cell? ⟨gb169, 3, none⟩ = some (.int .u64 a0_3) := (blk_cell BK169.out 3).trans rfl; have hfz7_0 := blk_frozen BK169.out 0; have hfz7_1 := blk_frozen BK169.out 1; have hfz7_2 := blk_frozen BK169.out 2; have hfz7_3 := blk_frozen BK169.out 3; have hnb8 := NB171_170.out; have hnc8 := NB170_171.out; have hcz9_0 : w4.cell? ⟨gb171, 0, none⟩ = some (.int .i64 0) := (blk_cell BK171.out 0).trans rfl; have hcz9_1 : w4.cell? ⟨gb171, 1, none⟩ = some (.int .i64 0) := (blk_cell BK171.out 1).trans rfl; have hcz9_2 : w4.cell? ⟨gb171, 2, none⟩ = some (.int .i64 0) := (blk_cell BK171.out 2).trans rfl; have hcz9_3 : w4.cell? ⟨gb171, 3, none⟩ = some (.int .u64 0) := (blk_cell BK171.out 3).trans rfl; have hfz9_0 := blk_frozen BK171.out 0; have hfz9_1 := blk_frozen BK171.out 1; have hfz9_2 := blk_frozen BK171.out 2; have hfz9_3 := blk_frozen BK171.out 3; have hcz10_0 : w4.cell? ⟨gb170, 0, none⟩ = some (.int .i64 0) := (blk_cell BK170.out 0).trans rfl; have hcz10_1 : w4.cell? ⟨gb170, 1, none⟩ = some (.int .i64 0) := (blk_cell BK170.out 1).trans rfl; have hcz10_2 : w4.cell? ⟨gb170, 2, none⟩ = some (.int .i64 0) := (blk_cell BK170.out 2).trans rfl; have hcz10_3 : w4.cell? ⟨gb170, 3, none⟩ = some (.int .u64 0) := (blk_cell BK170.out 3).trans rfl; have hfz10_0 := blk_frozen BK170.out 0; have hfz10_1 := blk_frozen BK170.out 1; have hfz10_2 := blk_frozen BK170.out 2; have hfz10_3 := blk_frozen BK170.out 3))
  refine bodyPost_ret (results_cell_row rfl _ _ gb170 75 #[.int .i64 a0_0, .int .i64 a0_1, .int .i64 a0_2, .int .u64 a0_3] (0, 0) _ rfl (by (with_reducible repeat (first | refine blk_drewN ?_ _ | refine blk_drew ?_ | refine blk_alloc ?_ _)); refine blk_put (cs := #[.int .i64 a0_0, .int .i64 a0_1, .int .i64 a0_2, .int .u64 0]) ?_ 3 _ rfl; (with_reducible repeat (first | refine blk_drewN ?_ _ | refine blk_drew ?_ | refine blk_alloc ?_ _)); refine blk_put (cs := #[.int .i64 a0_0, .int .i64 a0_1, .int .i64 0, .int .u64 0]) ?_ 2 _ rfl; (with_reducible repeat (first | refine blk_drewN ?_ _ | refine blk_drew ?_ | refine blk_alloc ?_ _)); refine blk_put (cs := #[.int .i64 a0_0, .int .i64 0, .int .i64 0, .int .u64 0]) ?_ 1 _ rfl; (with_reducible repeat (first | refine blk_drewN ?_ _ | refine blk_drew ?_ | refine blk_alloc ?_ _)); refine blk_put (cs := #[.int .i64 0, .int .i64 0, .int .i64 0, .int .u64 0]) ?_ 0 _ rfl; (with_reducible repeat (first | refine blk_drewN ?_ _ | refine blk_drew ?_ | refine blk_alloc ?_ _)); refine blk_far ?_ NB170_171.out _; (with_reducible repeat (first | refine blk_drewN ?_ _ | refine blk_drew ?_ | refine blk_alloc ?_ _)); refine blk_far ?_ NB170_171.out _; (with_reducible repeat (first | refine blk_drewN ?_ _ | refine blk_drew ?_ | refine blk_alloc ?_ _)); refine blk_far ?_ NB170_171.out _; (with_reducible repeat (first | refine blk_drewN ?_ _ | refine blk_drew ?_ | refine blk_alloc ?_ _)); refine blk_far ?_ NB170_171.out _; (with_reducible repeat (first | refine blk_drewN ?_ _ | refine blk_drew ?_ | refine blk_alloc ?_ _)); exact BK170.out) Try.underlying75 rfl (by kernel_rfl)) rfl ?_
  exact ⟨by first | rfl | (simp [errW_none, errW_some] <;> rfl) | (simp [*, errW_none, errW_some] <;> rfl), by repeat (first | (with_reducible first | exact HB.out | apply below_alloc | apply pw_below_drewN | apply below_drew1 | refine below_set ?_ GE169.out | refine below_set ?_ GE170.out | refine below_set ?_ GE171.out) | exact HB.out)⟩

end Go.Proofs.Ytoedcnhgobbnfaa.All

namespace Go.Proofs.Ytoedcnhgobbnfaa.All
open Go.RowKit Go.Proofs.YtoedcnhgobbnfaaW.PrintWords Go.Proofs.YtoedcnhgobbnfaaW.PrintLast Go.Proofs.YtoedcnhgobbnfaaW.PrintMore
attribute [local go_sem] max2_int min2_int max_two min_two max_three min_three max_four min_four   -- for this text's walks alone
set_option linter.unusedVariables false
set_option linter.unusedSimpArgs false

/-! ### laws_toOperandS: function 118 -/
def laws_toOperandS.l0 : Nat → List (S158) → List (S75) → Int → Option ((List (S75)))
  | 0, _, _, _ => none
  | k + 1, x0, x3, x4 => if x4 < (x0.length : Int) then (if 0 ≤ x4 then ((laws_toOperand.f ((rd_T158 x0 x4).f0) ((rd_T158 x0 x4).f1) ((rd_T158 x0 x4).f2) ((rd_T158 x0 x4).f3)).bind fun bt176 => (if x4 < (x3.length : Int) then (laws_toOperandS.l0 k x0 (x3.set (x4 : Int).toNat (⟨bt176.1, bt176.2.1, bt176.2.2.1, bt176.2.2.2⟩ : S75)) (wrap64 (x4 + 1))) else (none))) else (none)) else (some x3)
def laws_toOperandS.f (k : Nat) (l0 : List (S158)) : Option ((List (S75))) := if 0 ≤ (l0.length : Int) then (if ((l0.length : Int) : Int).toNat ≤ 8796093022208 then (laws_toOperandS.l0 k l0 (List.replicate ((l0.length : Int) : Int).toNat z75) 0) else (none)) else (none)
set_option maxHeartbeats 8000000 in
set_option maxRecDepth 100000 in
theorem laws_toOperandS.calls (k : Nat) (A0 : Option Addr) (c0 : Nat) (l0 : List (S158)) (r : List (S75)) (w : World) (hr0 : Kd.C k158 w A0 l0.length l0) (hc0 : l0.length ≤ c0) (h : laws_toOperandS.f k l0 = some r) :
    Calls Try.prog 118 #[.slice A0 l0.length c0] w fun e w' => ∃ v0_ : Value, e = .returned (v0_) ∧ Kd.R k75 75 w' w.heap.size (fun _ => True) v0_ r ∧ Below w.heap.size w w' := by
  have hu158 := Try.underlying158
  have hu75 := Try.underlying75
  have HR0 := Aside0.mk hr0
  have HC0 := Aside0.mk hc0
  clear hr0 hc0
  have HB := Aside0.mk (Below.refl w.heap.size w)
  have H : (if 0 ≤ (l0.length : Int) then (if ((l0.length : Int) : Int).toNat ≤ 8796093022208 then (laws_toOperandS.l0 k l0 (List.replicate ((l0.length : Int) : Int).toNat z75) 0) else (none)) else (none)) = some r := h
  clear h
  by_cases c2 : 0 ≤ (l0.length : Int)
  · rw [if_pos c2] at H
    have c2b0 := eq_true c2
    have c2b1 : decide (0 ≤ (l0.length : Int)) = true := decide_eq_true c2
    clear c2
    by_cases c3 : ((l0.length : Int) : Int).toNat ≤ 8796093022208
    · rw [if_pos c3] at H
      have c3b0 := eq_true c3
      have c3b1 : decide (((l0.length : Int) : Int).toNat ≤ 8796093022208) = true := decide_eq_true c3
      clear c3
      obtain ⟨y172, hy172⟩ : ∃ y_ : List (S75), y_ = (List.replicate ((l0.length : Int) : Int).toNat z75) := ⟨_, rfl⟩
      replace H : (laws_toOperandS.l0 k l0 y172 0) = some r := by first | (rw [hy172]; with_reducible exact H) | (have H2_ := (Option.bind_some _ _).symm.trans H; rw [hy172]; with_reducible exact H2_) | (have H2_ := (Option.bind_some _ _).symm.trans H; with_reducible exact H2_) | with_reducible exact H | (rw [hy172]; exact H) | exact H
      have Ny172 := Aside0.mk hy172
      clear hy172
      have H' := Aside0.mk H
      clear H
      go_enter Try.func118, Try.ntmps118
      go_wp2_with (first | ((with_reducible refine gate_dst (N := 7) rfl ?_); refine Kd.R_make k75 _ 75 rfl (N := 7) rfl 63 _ _ rfl (l0.length : Int) rfl rfl Try.underlying63 (.agg #[(.int .i64 0), (.int .i64 0), (.int .i64 0), (.int .u64 0)]) 32 info75 rfl (by decide) (by omega) z75 (ok := fun _ => True) (okp := fun _ => True) (k75_mkM _ _ _ z75 ) (fun _ hk => hk) trivial (of_decide_eq_true (by first | (with_reducible assumption) | assumption)) (Nat.le_trans (Nat.mul_le_mul_right _ (of_decide_eq_true (by first | (with_reducible assumption) | assumption) : (l0.length : Int).toNat ≤ 8796093022208)) (by omega)) (Below.refl _ _) (Nat.le_refl _) ?_; intro v173 w4 ho5 hb hg_ hnew_; clear hg_ hnew_; (first | rw [← Ny172.out] at ho5 | (simp only [Int.reduceToNat] at ho5; rw [← Ny172.out] at ho5)); have n0_ := Aside0.mk (Kd.R_lower ho5 (below_size (by repeat (first | (with_reducible first | exact HB.out | apply below_alloc | apply pw_below_drewN | apply below_drew1) | exact HB.out)))); have n1_ := Aside0.mk (below_step (by repeat (first | (with_reducible first | exact HB.out | apply below_alloc | apply pw_below_drewN | apply below_drew1) | exact HB.out)) hb); clear HB; have HO174 := n0_; have HB := n1_; clear n0_ n1_; clear hb ho5))
      go_loopg [4] k (fun kq v4 w' => ∃ (x3_1 : List (S75)) (x4_1 : Int), v4 = .int .i64 x4_1 ∧ Aside0 (laws_toOperandS.l0 kq l0 x3_1 x4_1 = some r) ∧ Aside0 (kq ≤ k) ∧ Aside0 (Kd.R k75 75 w' w.heap.size (fun _ => True) v173 x3_1) ∧ Aside0 (Below w.heap.size w w'))
      case atStart => exact ⟨(y172), (0), (by first | rfl | (simp; done) | (simp [*]; done)), H', ⟨Nat.le_refl _⟩, ⟨by (with_reducible repeat (first | apply Kd.R_alloc | apply Kd.R_drewN | apply Kd.R_drew)); exact HO174.out⟩, ⟨by repeat (first | (with_reducible first | exact HB.out | apply below_alloc | apply pw_below_drewN | apply below_drew1) | exact HB.out)⟩⟩
      case round =>
        clear H'
        try clear c1
        try clear c2
        try clear c2b0
        try clear c2b1
        try clear p2
        try clear c3
        try clear c3b0
        try clear c3b1
        obtain ⟨x3_1, x4_1, rfl, HA, HK1, HO_3, HB⟩ := hrel
        cases gk with
        | zero => exact absurd HA.out (by simp [laws_toOperandS.l0])
        | succ k1 =>
          have H := HA.out
          clear HA
          simp only [laws_toOperandS.l0] at H
          by_cases c6 : x4_1 < (l0.length : Int)
          · rw [if_pos c6] at H
            have c6b0 : decide (x4_1 < (l0.length : Int)) = true := decide_eq_true c6
            clear c6
            by_cases c7 : 0 ≤ x4_1
            · rw [if_pos c7] at H
              have c7b0 : decide (0 ≤ x4_1) = true := decide_eq_true c7
              clear c7
              replace H := Option.bind_eq_some_iff.mp H
              obtain ⟨⟨t176, t177, t178, t179⟩, A80, H⟩ := H
              replace H : (if x4_1 < (x3_1.length : Int) then (laws_toOperandS.l0 k1 l0 (x3_1.set (x4_1 : Int).toNat (⟨t176, t177, t178, t179⟩ : S75)) (wrap64 (x4_1 + 1))) else (none)) = some r := H
              have A8 := Aside0.mk A80
              clear A80
              by_cases c9 : x4_1 < (x3_1.length : Int)
              · rw [if_pos c9] at H
                have c9b0 : decide (x4_1 < (x3_1.length : Int)) = true := decide_eq_true c9
                clear c9
                obtain ⟨y180, hy180⟩ : ∃ y_ : List (S75), y_ = (x3_1.set (x4_1 : Int).toNat (⟨t176, t177, t178, t179⟩ : S75)) := ⟨_, rfl⟩
                replace H : (laws_toOperandS.l0 k1 l0 y180 (wrap64 (x4_1 + 1))) = some r := by first | (rw [hy180]; with_reducible exact H) | (have H2_ := (Option.bind_some _ _).symm.trans H; rw [hy180]; with_reducible exact H2_) | (have H2_ := (Option.bind_some _ _).symm.trans H; with_reducible exact H2_) | with_reducible exact H | (rw [hy180]; exact H) | exact H
                have Ny180 := Aside0.mk hy180
                clear hy180
                have H' := Aside0.mk H
                clear H
                have p175 : 0 ≤ (x4_1 : Int) := of_decide_eq_true (by first | (with_reducible assumption) | assumption)
                have q175 : x4_1 < (l0.length : Int) := of_decide_eq_true (by first | (with_reducible assumption) | assumption)
                obtain ⟨ad175, e175, hx175_0, hx175_1, hx175_2, hx175_3⟩ := at_T158 HR0.out x4_1 p175 q175
                cases e175
                replace hx175_0 := (HB.out.cell (World.block_lt_of_cell? w _ hx175_0)).trans hx175_0
                replace hx175_1 := (HB.out.cell (World.block_lt_of_cell? w _ hx175_1)).trans hx175_1
                replace hx175_2 := (HB.out.cell (World.block_lt_of_cell? w _ hx175_2)).trans hx175_2
                replace hx175_3 := (HB.out.cell (World.block_lt_of_cell? w _ hx175_3)).trans hx175_3
                replace p175 := eq_true p175
                replace q175 := eq_true q175
                go_wp2_with (first | ((with_reducible refine gate_callee (f := 123) rfl ?_); refine goesL_ (some 20) rfl rfl Try.func123 (by kernel_rfl) rfl #[.agg #[.int .i64 ((rd_T158 l0 x4_1).f0), .int .i64 ((rd_T158 l0 x4_1).f1), .int .i64 ((rd_T158 l0 x4_1).f2), .int .u64 ((rd_T158 l0 x4_1).f3)]] rfl (by (try simp only [List.map_toArray, List.map_cons, List.map_nil]); first | done | rfl | (simp only [List.length_drop, List.length_take]; rfl)) ?_; (with_reducible refine (laws_toOperand.calls ((rd_T158 l0 x4_1).f0) ((rd_T158 l0 x4_1).f1) ((rd_T158 l0 x4_1).f2) ((rd_T158 l0 x4_1).f3) t176 t177 t178 t179 _ A8.out).mono ?_); rintro e w11 ⟨rfl, hb⟩; refine ⟨_, rfl, ?_⟩; have n0_ := Aside0.mk (Kd.R_below (by (with_reducible repeat (first | apply Kd.R_alloc | apply Kd.R_drewN | apply Kd.R_drew)); exact HO_3.out) hb); have n1_ := Aside0.mk (below_step (by repeat (first | (with_reducible first | exact HB.out | apply below_alloc | apply pw_below_drewN | apply below_drew1) | exact HB.out)) hb); clear HO_3; clear HB; have HO_3 := n0_; have HB := n1_; clear n0_ n1_; (try clear hb); (try clear hb2); (try clear hk); (try clear hi); have p10 : 0 ≤ (x4_1 : Int) := of_decide_eq_true (by first | (with_reducible assumption) | assumption); have q10 : (x4_1 : Int) < ((x3_1.length : Int) : Int) := of_decide_eq_true (by first | (with_reducible assumption) | assumption); obtain ⟨go10, co10, eo10, gb10, gl10, cl10, HG10⟩ := Kd.R_form HO_3.out (by omega); (first | cases eo10 | (injection eo10 with ea_ en_ ec_; (first | subst ea_ | (injection ea_ with ea_; subst ea_)); subst ec_; clear en_)); have GB10 := Aside0.mk gb10; have GG10 := Aside0.mk HG10; clear gb10 gl10 HG10; obtain ⟨ce10, hcl10, hM10, hcc10, hfr10⟩ := Kd.R_elem HO_3.out z75 (x4_1 : Int) p10 q10; obtain rfl := k75_openM hM10; have hx10_0 : w11.cell? ⟨go10, (x4_1 : Int).toNat * 4, none⟩ = some (.int .i64 ((rd_T75 x3_1 x4_1).f0)) := hcc10 0 _ rfl; have hx10_1 : w11.cell? ⟨go10, (x4_1 : Int).toNat * 4 + 1, none⟩ = some (.int .i64 ((rd_T75 x3_1 x4_1).f1)) := hcc10 1 _ rfl; have hx10_2 : w11.cell? ⟨go10, (x4_1 : Int).toNat * 4 + 2, none⟩ = some (.int .i64 ((rd_T75 x3_1 x4_1).f2)) := hcc10 2 _ rfl; have hx10_3 : w11.cell? ⟨go10, (x4_1 : Int).toNat * 4 + 3, none⟩ = some (.int .u64 ((rd_T75 x3_1 x4_1).f3)) := hcc10 3 _ rfl; have hf10_0 : w11.frozen? ⟨go10, (x4_1 : Int).toNat * 4, none⟩ = false := hfr10 0; have hf10_1 : w11.frozen? ⟨go10, (x4_1 : Int).toNat * 4 + 1, none⟩ = false := hfr10 1; have hf10_2 : w11.frozen? ⟨go10, (x4_1 : Int).toNat * 4 + 2, none⟩ = false := hfr10 2; have hf10_3 : w11.frozen? ⟨go10, (x4_1 : Int).toNat * 4 + 3, none⟩ = false := hfr10 3; clear hcl10 hcc10 hfr10 hM10; replace p10 := eq_true p10; replace q10 := eq_true q10; have HX12 := Aside0.mk (show Kd.R k75 75 w11 w.heap.size (fun _ => True) (.slice (some ⟨go10, 0, none⟩) x3_1.length co10) x3_1 from (by (with_reducible repeat (first | apply Kd.R_alloc | apply Kd.R_drewN | apply Kd.R_drew)); exact HO_3.out)); obtain ⟨ce12, hcl12, hM12, hcc12, hfr12⟩ := Kd.R_elem HX12.out z75 (x4_1 : Int) (of_decide_eq_true (by first | (with_reducible assumption) | assumption)) (by have h_ : (x4_1 : Int) < ((x3_1.length : Int) : Int) := of_decide_eq_true (by first | (with_reducible assumption) | assumption); first | exact h_ | (have e_ := (Kd.R_reads' HO_3.out).1; omega) | simpa using h_); obtain rfl := k75_openM hM12; have HP12 := Kd.R_seg HX12.out (x4_1 : Int) (of_decide_eq_true (by first | (with_reducible assumption) | assumption)) (by have h_ : (x4_1 : Int) < ((x3_1.length : Int) : Int) := of_decide_eq_true (by first | (with_reducible assumption) | assumption); first | exact h_ | (have e_ := (Kd.R_reads' HO_3.out).1; omega) | simpa using h_) (seg := [.int .i64 t176, .int .i64 t177, .int .i64 t178, .int .u64 t179]) (j := 0) hcl12 hcc12 (show 4 ≤ 4 from by decide) (x' := (⟨t176, t177, t178, t179⟩ : S75)) (k75_mkM _ _ _ (⟨t176, t177, t178, t179⟩ : S75) ) (fun _ hk => hk); have hx12_0 := hcc12 0 _ rfl; (try simp only [show (k75).sz = 4 from rfl, Nat.mul_one, Nat.add_zero] at hx12_0); have hf12_0 := hfr12 0; (try simp only [show (k75).sz = 4 from rfl, Nat.mul_one, Nat.add_zero] at hf12_0); have hx12_1 := hcc12 1 _ rfl; (try simp only [show (k75).sz = 4 from rfl, Nat.mul_one, Nat.add_zero] at hx12_1); have hf12_1 := hfr12 1; (try simp only [show (k75).sz = 4 from rfl, Nat.mul_one, Nat.add_zero] at hf12_1); have hx12_2 := hcc12 2 _ rfl; (try simp only [show (k75).sz = 4 from rfl, Nat.mul_one, Nat.add_zero] at hx12_2); have hf12_2 := hfr12 2; (try simp only [show (k75).sz = 4 from rfl, Nat.mul_one, Nat.add_zero] at hf12_2); have hx12_3 := hcc12 3 _ rfl; (try simp only [show (k75).sz = 4 from rfl, Nat.mul_one, Nat.add_zero] at hx12_3); have hf12_3 := hfr12 3; (try simp only [show (k75).sz = 4 from rfl, Nat.mul_one, Nat.add_zero] at hf12_3); clear hcl12 hcc12 hfr12 hM12) | ((with_reducible refine gate_store (t := 75) (p := 21) rfl ?_); refine store_event (t := 75) (p := 21) (v := ?vo_w13) (w1 := ((((w11.setCell ⟨go10, (x4_1 : Int).toNat * 4, none⟩ (.int .i64 t176)).setCell ⟨go10, (x4_1 : Int).toNat * 4 + 1, none⟩ (.int .i64 t177)).setCell ⟨go10, (x4_1 : Int).toNat * 4 + 2, none⟩ (.int .i64 t178)).setCell ⟨go10, (x4_1 : Int).toNat * 4 + 3, none⟩ (.int .u64 t179))) ?hg ?ho ?hn ?hr ?_; (case ho => rfl); (case hg => rfl); (case hn => rfl); (case hr => first | (go_simp; done) | (go_simp; rfl)); intro w13 hw; have hg : w11.grownBy w13 (some go10) := (by rw [hw]; exact HP12.2); have hp_ : Kd.R k75 75 w13 w.heap.size (fun _ => True) (.slice (some ⟨go10, 0, none⟩) x3_1.length co10) y180 := (by rw [hw, Ny180.out]; exact HP12.1); clear HP12; have n0_ := Aside0.mk (hp_); have n1_ := Aside0.mk ((by rw [hw]; exact below_set (below_set (below_set (below_set (HB.out) GB10.out) GB10.out) GB10.out) GB10.out : Below w.heap.size w w13)); clear HO_3; clear HB; have HO_3 := n0_; have HB := n1_; clear n0_ n1_; clear hg hw hp_))
                go_roundg k1
                case measure => have := HK1.out; omega
                case rel => exact ⟨(y180), (wrap64 (x4_1 + 1)), (by first | rfl | (simp; done) | (simp [*]; done)), H', ⟨by have := HK1.out; omega⟩, ⟨by (with_reducible repeat (first | apply Kd.R_alloc | apply Kd.R_drewN | apply Kd.R_drew)); exact HO_3.out⟩, ⟨by repeat (first | (with_reducible first | exact HB.out | apply below_alloc | apply pw_below_drewN | apply below_drew1) | exact HB.out)⟩⟩
              · rw [if_neg c9] at H
                exact absurd H (by simp)
            · rw [if_neg c7] at H
              exact absurd H (by simp)
          · rw [if_neg c6] at H
            have c6b0 : decide (x4_1 < (l0.length : Int)) = false := decide_eq_false c6
            clear c6
            obtain rfl := Option.some.inj H
            go_wp2
            go_ret
            exact ⟨_, by first | rfl | (simp [errW_none, errW_some] <;> rfl) | (simp [*, errW_none, errW_some] <;> rfl), by (with_reducible repeat (first | apply Kd.R_alloc | apply Kd.R_drewN | apply Kd.R_drew)); exact HO_3.out, by repeat (first | (with_reducible first | exact HB.out | apply below_alloc | apply pw_below_drewN | apply below_drew1) | exact HB.out)⟩
    · rw [if_neg c3] at H
      exact absurd H (by simp)
  · rw [if_neg c2] at H
    exact absurd H (by simp)

end Go.Proofs.Ytoedcnhgobbnfaa.All

namespace Go.Proofs.Ytoedcnhgobbnfaa.All
open Go.RowKit Go.Proofs.YtoedcnhgobbnfaaW.PrintWords Go.Proofs.YtoedcnhgobbnfaaW.PrintLast Go.Proofs.YtoedcnhgobbnfaaW.PrintMore
attribute [local go_sem] max2_int min2_int max_two min_two max_three min_three max_four min_four   -- for this text's walks alone
set_option linter.unusedVariables false
set_option linter.unusedSimpArgs false

/-! ### laws_toUint64S: function 119 -/
def laws_toUint64S.l0 : Nat → List Int → List Int → Int → Option (List Int)
  | 0, _, _, _ => none
  | k + 1, x0, x3, x4 => if x4 < (x0.length : Int) then (if 0 ≤ x4 then (if x4 < (x3.length : Int) then (laws_toUint64S.l0 k x0 (x3.set (x4 : Int).toNat (rd x0 x4)) (wrap64 (x4 + 1))) else (none)) else (none)) else (some x3)
def laws_toUint64S.f (k : Nat) (l0 : List Int) : Option (List Int) := if 0 ≤ (l0.length : Int) then (if ((l0.length : Int) : Int).toNat ≤ 35184372088832 then (laws_toUint64S.l0 k l0 (List.replicate ((l0.length : Int) : Int).toNat 0) 0) else (none)) else (none)
set_option maxHeartbeats 8000000 in
set_option maxRecDepth 100000 in
theorem laws_toUint64S.calls (k : Nat) (A0 : Option Addr) (c0 : Nat) (l0 : List Int) (r : List Int) (w : World) (hr0 : Kd.C (Kd.int .u64) w A0 l0.length l0) (hc0 : l0.length ≤ c0) (h : laws_toUint64S.f k l0 = some r) :
    Calls Try.prog 119 #[.slice A0 l0.length c0] w fun e w' => ∃ v0_ : Value, e = .returned (v0_) ∧ Kd.R (Kd.int .u64) 73 w' w.heap.size (fun _ => True) v0_ r ∧ Below w.heap.size w w' := by
  have HR0 := Aside0.mk hr0
  have HC0 := Aside0.mk hc0
  clear hr0 hc0
  have HB := Aside0.mk (Below.refl w.heap.size w)
  have H : (if 0 ≤ (l0.length : Int) then (if ((l0.length : Int) : Int).toNat ≤ 35184372088832 then (laws_toUint64S.l0 k l0 (List.replicate ((l0.length : Int) : Int).toNat 0) 0) else (none)) else (none)) = some r := h
  clear h
  by_cases c2 : 0 ≤ (l0.length : Int)
  · rw [if_pos c2] at H
    have c2b0 := eq_true c2
    have c2b1 : decide (0 ≤ (l0.length : Int)) = true := decide_eq_true c2
    clear c2
    by_cases c3 : ((l0.length : Int) : Int).toNat ≤ 35184372088832
    · rw [if_pos c3] at H
      have c3b0 := eq_true c3
      have c3b1 : decide (((l0.length : Int) : Int).toNat ≤ 35184372088832) = true := decide_eq_true c3
      clear c3
      obtain ⟨y181, hy181⟩ : ∃ y_ : List Int, y_ = (List.replicate ((l0.length : Int) : Int).toNat 0) := ⟨_, rfl⟩
      replace H : (laws_toUint64S.l0 k l0 y181 0) = some r := by first | (rw [hy181]; with_reducible exact H) | (have H2_ := (Option.bind_some _ _).symm.trans H; rw [hy181]; with_reducible exact H2_) | (have H2_ := (Option.bind_some _ _).symm.trans H; with_reducible exact H2_) | with_reducible exact H | (rw [hy181]; exact H) | exact H
      have Ny181 := Aside0.mk hy181
      clear hy181
      have H' := Aside0.mk H
      clear H
      go_enter Try.func119, Try.ntmps119
      go_wp2_with (first | ((with_reducible refine gate_dst (N := 7) rfl ?_); refine Kd.R_make (Kd.int .u64) _ 73 rfl (N := 7) rfl 64 _ _ rfl (l0.length : Int) rfl rfl Try.underlying64 (.int .u64 0) 8 info73 rfl (by decide) (by omega) 0 (ok := fun _ => True) (okp := fun _ => True) rfl (fun _ hk => hk) trivial (of_decide_eq_true (by first | (with_reducible assumption) | assumption)) (Nat.le_trans (Nat.mul_le_mul_right _ (of_decide_eq_true (by first | (with_reducible assumption) | assumption) : (l0.length : Int).toNat ≤ 35184372088832)) (by omega)) (Below.refl _ _) (Nat.le_refl _) ?_; intro v182 w4 ho5 hb hg_ hnew_; clear hg_ hnew_; (first | rw [← Ny181.out] at ho5 | (simp only [Int.reduceToNat] at ho5; rw [← Ny181.out] at ho5)); have n0_ := Aside0.mk (Kd.R_lower ho5 (below_size (by repeat (first | (with_reducible first | exact HB.out | apply below_alloc | apply pw_below_drewN | apply below_drew1) | exact HB.out)))); have n1_ := Aside0.mk (below_step (by repeat (first | (with_reducible first | exact HB.out | apply below_alloc | apply pw_below_drewN | apply below_drew1) | exact HB.out)) hb); clear HB; have HO183 := n0_; have HB := n1_; clear n0_ n1_; clear hb ho5))
      go_loopg [4] k (fun kq v4 w' => ∃ (x3_1 : List Int) (x4_1 : Int), v4 = .int .i64 x4_1 ∧ Aside0 (laws_toUint64S.l0 kq l0 x3_1 x4_1 = some r) ∧ Aside0 (kq ≤ k) ∧ Aside0 (Kd.R (Kd.int .u64) 73 w' w.heap.size (fun _ => True) v182 x3_1) ∧ Aside0 (Below w.heap.size w w'))
      case atStart => exact ⟨(y181), (0), (by first | rfl | (simp; done) | (simp [*]; done)), H', ⟨Nat.le_refl _⟩, ⟨by (with_reducible repeat (first | apply Kd.R_alloc | apply Kd.R_drewN | apply Kd.R_drew)); exact HO183.out⟩, ⟨by repeat (first | (with_reducible first | exact HB.out | apply below_alloc | apply pw_below_drewN | apply below_drew1) | exact HB.out)⟩⟩
      case round =>
        clear H'
        try clear c1
        try clear c2
        try clear c2b0
        try clear c2b1
        try clear p2
        try clear c3
        try clear c3b0
        try clear c3b1
        obtain ⟨x3_1, x4_1, rfl, HA, HK1, HO_3, HB⟩ := hrel
        cases gk with
        | zero => exact absurd HA.out (by simp [laws_toUint64S.l0])
        | succ k1 =>
          have H := HA.out
          clear HA
          simp only [laws_toUint64S.l0] at H
          by_cases c6 : x4_1 < (l0.length : Int)
          · rw [if_pos c6] at H
            have c6b0 : decide (x4_1 < (l0.length : Int)) = true := decide_eq_true c6
            clear c6
            by_cases c7 : 0 ≤ x4_1
            · rw [if_pos c7] at H
              have c7b0 : decide (0 ≤ x4_1) = true := decide_eq_true c7
              clear c7
              by_cases c8 : x4_1 < (x3_1.length : Int)
              · rw [if_pos c8] at H
                have c8b0 : decide (x4_1 < (x3_1.length : Int)) = true := decide_eq_true c8
                clear c8
                obtain ⟨y185, hy185⟩ : ∃ y_ : List Int, y_ = (x3_1.set (x4_1 : Int).toNat (rd l0 x4_1)) := ⟨_, rfl⟩
                replace H : (laws_toUint64S.l0 k1 l0 y185 (wrap64 (x4_1 + 1))) = some r := by first | (rw [hy185]; with_reducible exact H) | (have H2_ := (Option.bind_some _ _).symm.trans H; rw [hy185]; with_reducible exact H2_) | (have H2_ := (Option.bind_some _ _).symm.trans H; with_reducible exact H2_) | with_reducible exact H | (rw [hy185]; exact H) | exact H
                have Ny185 := Aside0.mk hy185
                clear hy185
                have H' := Aside0.mk H
                clear H
                have p184 : 0 ≤ (x4_1 : Int) := of_decide_eq_true (by first | (with_reducible assumption) | assumption)
                have q184 : x4_1 < (l0.length : Int) := of_decide_eq_true (by first | (with_reducible assumption) | assumption)
                obtain ⟨ad184, e184, hx184_0⟩ := Kd.at_int HR0.out x4_1 p184 q184
                cases e184
                replace hx184_0 := (HB.out.cell (World.block_lt_of_cell? w _ hx184_0)).trans hx184_0
                replace p184 := eq_true p184
                replace q184 := eq_true q184
                have p9 : 0 ≤ (x4_1 : Int) := of_decide_eq_true (by first | (with_reducible assumption) | assumption)
                have q9 : (x4_1 : Int) < ((x3_1.length : Int) : Int) := of_decide_eq_true (by first | (with_reducible assumption) | assumption)
                obtain ⟨go9, co9, eo9, gb9, gl9, cl9, HG9⟩ := Kd.R_form HO_3.out (by omega)
                (first | cases eo9 | (injection eo9 with ea_ en_ ec_; (first | subst ea_ | (injection ea_ with ea_; subst ea_)); subst ec_; clear en_))
                have GB9 := Aside0.mk gb9
                have GG9 := Aside0.mk HG9
                clear gb9 gl9 HG9
                obtain ⟨hx9_0, hf9_0⟩ := Kd.R_celln 0 HO_3.out (x4_1 : Int) p9 q9
                replace p9 := eq_true p9
                replace q9 := eq_true q9
                have HP10 := Kd.R_putg HO_3.out (x4_1 : Int) (rd l0 x4_1)
                go_wp2_with (first | ((with_reducible refine gate_store (t := 73) (p := 20) rfl ?_); refine store_event (t := 73) (p := 20) (v := ?vo_w11) (w1 := (wr.setCell ⟨go9, (x4_1 : Int).toNat, none⟩ (.int .u64 (rd l0 x4_1)))) ?hg ?ho ?hn ?hr ?_; (case ho => rfl); (case hg => rfl); (case hn => rfl); (case hr => first | (go_simp; done) | (go_simp; rfl)); intro w11 hw; have hg : wr.grownBy w11 (some go9) := (by rw [hw]; exact HP10.2); have hp_ : Kd.R (Kd.int .u64) 73 w11 w.heap.size (fun _ => True) (.slice (some ⟨go9, 0, none⟩) x3_1.length co9) y185 := (by rw [hw, Ny185.out]; exact HP10.1); clear HP10; have n0_ := Aside0.mk (hp_); have n1_ := Aside0.mk ((by rw [hw]; exact below_set (HB.out) GB9.out : Below w.heap.size w w11)); clear HO_3; clear HB; have HO_3 := n0_; have HB := n1_; clear n0_ n1_; clear hg hw hp_))
                go_roundg k1
                case measure => have := HK1.out; omega
                case rel => exact ⟨(y185), (wrap64 (x4_1 + 1)), (by first | rfl | (simp; done) | (simp [*]; done)), H', ⟨by have := HK1.out; omega⟩, ⟨by (with_reducible repeat (first | apply Kd.R_alloc | apply Kd.R_drewN | apply Kd.R_drew)); exact HO_3.out⟩, ⟨by repeat (first | (with_reducible first | exact HB.out | apply below_alloc | apply pw_below_drewN | apply below_drew1) | exact HB.out)⟩⟩
              · rw [if_neg c8] at H
                exact absurd H (by simp)
            · rw [if_neg c7] at H
              exact absurd H (by simp)
          · rw [if_neg c6] at H
            have c6b0 : decide (x4_1 < (l0.length : Int)) = false := decide_eq_false c6
            clear c6
            obtain rfl := Option.some.inj H
            go_wp2
            go_ret
            exact ⟨_, by first | rfl | (simp [errW_none, errW_some] <;> rfl) | (simp [*, errW_none, errW_some] <;> rfl), by (with_reducible repeat (first | apply Kd.R_alloc | apply Kd.R_drewN | apply Kd.R_drew)); exact HO_3.out, by repeat (first | (with_reducible first | exact HB.out | apply below_alloc | apply pw_below_drewN | apply below_drew1) | exact HB.out)⟩
    · rw [if_neg c3] at H
      exact absurd H (by simp)
  · rw [if_neg c2] at H
    exact absurd H (by simp)

end Go.Proofs.Ytoedcnhgobbnfaa.All
