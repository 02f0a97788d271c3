/- Part 1 of the proof of FnExactDominates: functions of the translation with what they return, and plain laws of these. Written by programs of this session over the kit's print, and by hand. -/
import Derived.Test.YtoedcnhgobbnfaaProg
import Derived.Test.YtoedcnhgobbnfaaCFnExactDominatesWApart
import Derived.Test.YtoedcnhgobbnfaaCFnExactDominatesWArr
import Derived.Test.YtoedcnhgobbnfaaCFnExactDominatesWFoot
import Derived.Test.YtoedcnhgobbnfaaCFnExactDominatesWGuard
import Derived.Test.YtoedcnhgobbnfaaCFnExactDominatesWKept
import Derived.Test.YtoedcnhgobbnfaaCFnExactDominatesWLast
import Derived.Test.YtoedcnhgobbnfaaCFnExactDominatesWMore
import Derived.Test.YtoedcnhgobbnfaaCFnExactDominatesWN
import Derived.Test.YtoedcnhgobbnfaaCFnExactDominatesWNEv
import Derived.Test.YtoedcnhgobbnfaaCFnExactDominatesWQPut
import Derived.Test.YtoedcnhgobbnfaaCFnExactDominatesWRepsOne
import Derived.Test.YtoedcnhgobbnfaaCFnExactDominatesWShare
import Derived.Test.YtoedcnhgobbnfaaCFnExactDominatesWTab
import Derived.Test.YtoedcnhgobbnfaaCFnExactDominatesWWords
import Derived.Test.YtoedcnhgobbnfaaCFnExactDominatesWZeros
import Derived.Below
import Derived.Deep.Draws
import Derived.Deep.AppendLies
import Derived.Maps.AppendAt
import Derived.OwnWalk
import Derived.Laws.BytesArg
import Derived.Laws.MakeOwn
import Derived.Laws.OwnMore
import Derived.Deep.OwnRows
import Derived.Tactics
import Derived.Lib.ConvBytes
import Derived.Laws.Slices
import Derived.WalkKit
import Derived.KernelRfl
import Derived.RowKit3
import Derived.Deep.LoopGhost
import Derived.Deep.QuietTactic
import Derived.BigQuiet
import Derived.WideLaws
import Derived.Deep.DeepCutAuto
import Derived.Deep.CutBlock
import Derived.Deep.RegionHeld3
import Derived.Laws.Rows
import Derived.Lib.AppendStr
import Derived.ArgAppend
import Derived.Laws.IdiomCopy
import Derived.OrdersHeld
import Derived.Laws.BitsLemmas
import Derived.RowKit
import Derived.Maps.OwnSet
import Derived.Maps.OwnOps
import Derived.Deep.Slices
import Derived.ChangeArms
import Derived.ProofKit
import Derived.OpenShut
import Derived.ShutString
import Derived.ChangeOld
import Derived.SizedLaws
namespace Go.Proofs.Ytoedcnhgobbnfaa.All
open Go.RowKit Go.Proofs.YtoedcnhgobbnfaaW.PrintWords Go.Proofs.YtoedcnhgobbnfaaW.PrintLast Go.Proofs.YtoedcnhgobbnfaaW.PrintMore
attribute [local go_sem] max2_int min2_int max_two min_two max_three min_three max_four min_four   -- for this text's walks alone
set_option linter.unusedVariables false
set_option linter.unusedSimpArgs false



def errW : Option Int → Value
  | none => .nilIface
  | some c => .iface 0 (.int .i64 c)
theorem errW_none : errW none = .nilIface := rfl
theorem errW_some (c : Int) : errW (some c) = .iface 0 (.int .i64 c) := rfl

theorem info2 : (Try.prog.info? 2).map (fun i => (i.zero, i.size, i.bytes)) = some (some (.int .i64 0), 1, 8) := by kernel_rfl
theorem info4 : (Try.prog.info? 4).map (fun i => (i.zero, i.size, i.bytes)) = some (some (.bool false), 1, 1) := by kernel_rfl
theorem info62 : (Try.prog.info? 62).map (fun i => (i.zero, i.size, i.bytes)) = some (some (.agg #[(.slice none 0 0)]), 1, 24) := by kernel_rfl
theorem info66 : (Try.prog.info? 66).map (fun i => (i.zero, i.size, i.bytes)) = some (some (.agg #[(.int .i64 0), (.int .i64 0), (.int .i64 0), (.int .i64 0), (.int .i64 0), (.int .i64 0), (.slice none 0 0), (.slice none 0 0), (.slice none 0 0)]), 9, 120) := by kernel_rfl
theorem info73 : (Try.prog.info? 73).map (fun i => (i.zero, i.size, i.bytes)) = some (some (.int .u64 0), 1, 8) := by kernel_rfl
theorem info75 : (Try.prog.info? 75).map (fun i => (i.zero, i.size, i.bytes)) = some (some (.agg #[(.int .i64 0), (.int .i64 0), (.int .i64 0), (.int .u64 0)]), 4, 32) := by kernel_rfl
-- the values' own types
/-! #### struct type 158 -/
structure S158 where
  f0 : Int
  f1 : Int
  f2 : Int
  f3 : Int
def z158 : S158 := ⟨(0 : Int), (0 : Int), (0 : Int), (0 : Int)⟩
def k158 : Kd S158 := Kd.iso (Kd.pair (Kd.int .i64) (Kd.pair (Kd.int .i64) (Kd.pair (Kd.int .i64) (Kd.int .u64)))) (fun x : S158 => (x.f0, x.f1, x.f2, x.f3))
theorem k158_open {w : World} {x : S158} {cs : List Value} (h : k158.K w x cs) : cs = [.int .i64 x.f0, .int .i64 x.f1, .int .i64 x.f2, .int .u64 x.f3] := by
  obtain ⟨_, _, rfl, rfl, ⟨_, _, rfl, rfl, ⟨_, _, rfl, rfl, rfl⟩⟩⟩ := h
  exact rfl
def rd_T158 (xs : List S158) (i : Int) : S158 := xs.getD i.toNat z158
theorem at_T158 {w : World} {A : Option Addr} {n : Nat} {xs : List S158} (h : Kd.C k158 w A n xs) (i : Int) (h0 : 0 ≤ i) (h1 : i < n) : ∃ ad , A = some ad ∧ w.cell? (ad.add (i.toNat * 4)) = some (.int .i64 (rd_T158 xs i).f0) ∧ w.cell? ⟨(ad.add (i.toNat * 4)).block, (ad.add (i.toNat * 4)).off + 1, none⟩ = some (.int .i64 (rd_T158 xs i).f1) ∧ w.cell? ⟨(ad.add (i.toNat * 4)).block, (ad.add (i.toNat * 4)).off + 2, none⟩ = some (.int .i64 (rd_T158 xs i).f2) ∧ w.cell? ⟨(ad.add (i.toNat * 4)).block, (ad.add (i.toNat * 4)).off + 3, none⟩ = some (.int .u64 (rd_T158 xs i).f3) := by
  obtain ⟨ad, c, e, _, hK, hc0⟩ := Kd.C_get h z158 i h0 h1
  have hc : ∀ j u, c[j]? = some u → w.cell? (ad.add (i.toNat * 4 + j)) = some u := hc0
  obtain rfl := k158_open hK
  exact ⟨ad, e, hc 0 _ rfl, by rw [← add_field _ _ 1 (by omega)]; exact hc 1 _ rfl, by rw [← add_field _ _ 2 (by omega)]; exact hc 2 _ rfl, by rw [← add_field _ _ 3 (by omega)]; exact hc 3 _ rfl⟩

def rd_L4 (xs : List (List Int)) (i : Int) : (List Int) := xs.getD i.toNat ([] : List Int)
theorem at_L4 {w : World} {A : Option Addr} {n : Nat} {xs : List (List Int)} (h : Kd.C (Kd.slice 2 (Kd.int .i64)) w A n xs) (i : Int) (h0 : 0 ≤ i) (h1 : i < n) : ∃ ad A0 c0, A = some ad ∧ w.cell? (ad.add i.toNat) = some (.slice A0 (rd_L4 xs i).length c0) ∧ (rd_L4 xs i).length ≤ c0 ∧ (Kd.int .i64).C w A0 (rd_L4 xs i).length (rd_L4 xs i) := by
  obtain ⟨ad, c, e, _, hK, hc0⟩ := Kd.C_get h ([] : List Int) i h0 h1
  have hc : ∀ j u, c[j]? = some u → w.cell? (ad.add (i.toNat * 1 + j)) = some u := hc0
  obtain ⟨A0, c0, rfl, l0, g0⟩ := hK
  exact ⟨ad, A0, c0, e, by have hq := hc 0 _ rfl; rwa [Nat.mul_one, Nat.add_zero] at hq, l0, g0⟩

/-! #### struct type 140 -/
structure S140 where
  f0 : Int
  f1 : Int
  f2 : Int
  f3 : Int
  f4 : Int
  f5 : Int
  f6 : (List S158)
  f7 : (List Int)
  f8 : (List Int)
def z140 : S140 := ⟨(0 : Int), (0 : Int), (0 : Int), (0 : Int), (0 : Int), (0 : Int), ([] : List S158), ([] : List Int), ([] : List Int)⟩
def k140 : Kd S140 := Kd.iso (Kd.pair (Kd.int .i64) (Kd.pair (Kd.int .i64) (Kd.pair (Kd.int .i64) (Kd.pair (Kd.int .i64) (Kd.pair (Kd.int .i64) (Kd.pair (Kd.int .i64) (Kd.pair (Kd.slice 158 k158) (Kd.pair (Kd.slice 2 (Kd.int .i64)) (Kd.slice 73 (Kd.int .u64)))))))))) (fun x : S140 => (x.f0, x.f1, x.f2, x.f3, x.f4, x.f5, x.f6, x.f7, x.f8))
theorem k140_open {w : World} {x : S140} {cs : List Value} (h : k140.K w x cs) : ∃ A6 c6 A7 c7 A8 c8, cs = [.int .i64 x.f0, .int .i64 x.f1, .int .i64 x.f2, .int .i64 x.f3, .int .i64 x.f4, .int .i64 x.f5, .slice A6 x.f6.length c6, .slice A7 x.f7.length c7, .slice A8 x.f8.length c8] ∧ x.f6.length ≤ c6 ∧ k158.C w A6 x.f6.length x.f6 ∧ x.f7.length ≤ c7 ∧ (Kd.int .i64).C w A7 x.f7.length x.f7 ∧ x.f8.length ≤ c8 ∧ (Kd.int .u64).C w A8 x.f8.length x.f8 := by
  obtain ⟨_, _, rfl, rfl, ⟨_, _, rfl, rfl, ⟨_, _, rfl, rfl, ⟨_, _, rfl, rfl, ⟨_, _, rfl, rfl, ⟨_, _, rfl, rfl, ⟨_, _, rfl, ⟨A6, c6, rfl, l6, g6⟩, ⟨_, _, rfl, ⟨A7, c7, rfl, l7, g7⟩, ⟨A8, c8, rfl, l8, g8⟩⟩⟩⟩⟩⟩⟩⟩⟩ := h
  exact ⟨A6, c6, A7, c7, A8, c8, rfl, l6, g6, l7, g7, l8, g8⟩
def rd_T140 (xs : List S140) (i : Int) : S140 := xs.getD i.toNat z140
theorem at_T140 {w : World} {A : Option Addr} {n : Nat} {xs : List S140} (h : Kd.C k140 w A n xs) (i : Int) (h0 : 0 ≤ i) (h1 : i < n) : ∃ ad A6 c6 A7 c7 A8 c8, A = some ad ∧ w.cell? (ad.add (i.toNat * 9)) = some (.int .i64 (rd_T140 xs i).f0) ∧ w.cell? ⟨(ad.add (i.toNat * 9)).block, (ad.add (i.toNat * 9)).off + 1, none⟩ = some (.int .i64 (rd_T140 xs i).f1) ∧ w.cell? ⟨(ad.add (i.toNat * 9)).block, (ad.add (i.toNat * 9)).off + 2, none⟩ = some (.int .i64 (rd_T140 xs i).f2) ∧ w.cell? ⟨(ad.add (i.toNat * 9)).block, (ad.add (i.toNat * 9)).off + 3, none⟩ = some (.int .i64 (rd_T140 xs i).f3) ∧ w.cell? ⟨(ad.add (i.toNat * 9)).block, (ad.add (i.toNat * 9)).off + 4, none⟩ = some (.int .i64 (rd_T140 xs i).f4) ∧ w.cell? ⟨(ad.add (i.toNat * 9)).block, (ad.add (i.toNat * 9)).off + 5, none⟩ = some (.int .i64 (rd_T140 xs i).f5) ∧ w.cell? ⟨(ad.add (i.toNat * 9)).block, (ad.add (i.toNat * 9)).off + 6, none⟩ = some (.slice A6 (rd_T140 xs i).f6.length c6) ∧ w.cell? ⟨(ad.add (i.toNat * 9)).block, (ad.add (i.toNat * 9)).off + 7, none⟩ = some (.slice A7 (rd_T140 xs i).f7.length c7) ∧ w.cell? ⟨(ad.add (i.toNat * 9)).block, (ad.add (i.toNat * 9)).off + 8, none⟩ = some (.slice A8 (rd_T140 xs i).f8.length c8) ∧ (rd_T140 xs i).f6.length ≤ c6 ∧ k158.C w A6 (rd_T140 xs i).f6.length (rd_T140 xs i).f6 ∧ (rd_T140 xs i).f7.length ≤ c7 ∧ (Kd.int .i64).C w A7 (rd_T140 xs i).f7.length (rd_T140 xs i).f7 ∧ (rd_T140 xs i).f8.length ≤ c8 ∧ (Kd.int .u64).C w A8 (rd_T140 xs i).f8.length (rd_T140 xs i).f8 := by
  obtain ⟨ad, c, e, _, hK, hc0⟩ := Kd.C_get h z140 i h0 h1
  have hc : ∀ j u, c[j]? = some u → w.cell? (ad.add (i.toNat * 9 + j)) = some u := hc0
  obtain ⟨A6, c6, A7, c7, A8, c8, rfl, l6, g6, l7, g7, l8, g8⟩ := k140_open hK
  exact ⟨ad, A6, c6, A7, c7, A8, c8, e, hc 0 _ rfl, by rw [← add_field _ _ 1 (by omega)]; exact hc 1 _ rfl, by rw [← add_field _ _ 2 (by omega)]; exact hc 2 _ rfl, by rw [← add_field _ _ 3 (by omega)]; exact hc 3 _ rfl, by rw [← add_field _ _ 4 (by omega)]; exact hc 4 _ rfl, by rw [← add_field _ _ 5 (by omega)]; exact hc 5 _ rfl, by rw [← add_field _ _ 6 (by omega)]; exact hc 6 _ rfl, by rw [← add_field _ _ 7 (by omega)]; exact hc 7 _ rfl, by rw [← add_field _ _ 8 (by omega)]; exact hc 8 _ rfl, l6, g6, l7, g7, l8, g8⟩

/-! #### struct type 96 -/
structure S96 where
  f0 : (List S140)
def z96 : S96 := ⟨([] : List S140)⟩
def k96 : Kd S96 := Kd.iso (Kd.slice 140 k140) (fun x : S96 => x.f0)
theorem k96_open {w : World} {x : S96} {cs : List Value} (h : k96.K w x cs) : ∃ A0 c0, cs = [.slice A0 x.f0.length c0] ∧ x.f0.length ≤ c0 ∧ k140.C w A0 x.f0.length x.f0 := by
  obtain ⟨A0, c0, rfl, l0, g0⟩ := h
  exact ⟨A0, c0, rfl, l0, g0⟩
def rd_T96 (xs : List S96) (i : Int) : S96 := xs.getD i.toNat z96
theorem at_T96 {w : World} {A : Option Addr} {n : Nat} {xs : List S96} (h : Kd.C k96 w A n xs) (i : Int) (h0 : 0 ≤ i) (h1 : i < n) : ∃ ad A0 c0, A = some ad ∧ w.cell? (ad.add i.toNat) = some (.slice A0 (rd_T96 xs i).f0.length c0) ∧ (rd_T96 xs i).f0.length ≤ c0 ∧ k140.C w A0 (rd_T96 xs i).f0.length (rd_T96 xs i).f0 := by
  obtain ⟨ad, c, e, _, hK, hc0⟩ := Kd.C_get h z96 i h0 h1
  have hc : ∀ j u, c[j]? = some u → w.cell? (ad.add (i.toNat * 1 + j)) = some u := hc0
  obtain ⟨A0, c0, rfl, l0, g0⟩ := k96_open hK
  exact ⟨ad, A0, c0, e, by have hq := hc 0 _ rfl; rwa [Nat.mul_one, Nat.add_zero] at hq, l0, g0⟩

/-! #### struct type 75 -/
structure S75 where
  f0 : Int
  f1 : Int
  f2 : Int
  f3 : Int
def z75 : S75 := ⟨(0 : Int), (0 : Int), (0 : Int), (0 : Int)⟩
def k75 : Kd S75 := Kd.iso (Kd.pair (Kd.int .i64) (Kd.pair (Kd.int .i64) (Kd.pair (Kd.int .i64) (Kd.int .u64)))) (fun x : S75 => (x.f0, x.f1, x.f2, x.f3))
theorem k75_open {w : World} {x : S75} {cs : List Value} (h : k75.K w x cs) : cs = [.int .i64 x.f0, .int .i64 x.f1, .int .i64 x.f2, .int .u64 x.f3] := by
  obtain ⟨_, _, rfl, rfl, ⟨_, _, rfl, rfl, ⟨_, _, rfl, rfl, rfl⟩⟩⟩ := h
  exact rfl
theorem k75_openM {w : World} {base : Nat} {ok : Nat → Prop} {x : S75} {cs : List Value} (h : k75.M w base ok x cs) : cs = [.int .i64 x.f0, .int .i64 x.f1, .int .i64 x.f2, .int .u64 x.f3] := by
  obtain ⟨_, _, rfl, rfl, ⟨_, _, rfl, rfl, ⟨_, _, rfl, rfl, rfl⟩⟩⟩ := h
  exact rfl
theorem k75_mkM (w : World) (base : Nat) (ok : Nat → Prop) (x : S75)  : k75.M w base ok x [.int .i64 x.f0, .int .i64 x.f1, .int .i64 x.f2, .int .u64 x.f3] := ⟨[.int .i64 x.f0], [.int .i64 x.f1, .int .i64 x.f2, .int .u64 x.f3], rfl, rfl, ⟨[.int .i64 x.f1], [.int .i64 x.f2, .int .u64 x.f3], rfl, rfl, ⟨[.int .i64 x.f2], [.int .u64 x.f3], rfl, rfl, rfl⟩⟩⟩
def rd_T75 (xs : List S75) (i : Int) : S75 := xs.getD i.toNat z75
theorem at_T75 {w : World} {A : Option Addr} {n : Nat} {xs : List S75} (h : Kd.C k75 w A n xs) (i : Int) (h0 : 0 ≤ i) (h1 : i < n) : ∃ ad , A = some ad ∧ w.cell? (ad.add (i.toNat * 4)) = some (.int .i64 (rd_T75 xs i).f0) ∧ w.cell? ⟨(ad.add (i.toNat * 4)).block, (ad.add (i.toNat * 4)).off + 1, none⟩ = some (.int .i64 (rd_T75 xs i).f1) ∧ w.cell? ⟨(ad.add (i.toNat * 4)).block, (ad.add (i.toNat * 4)).off + 2, none⟩ = some (.int .i64 (rd_T75 xs i).f2) ∧ w.cell? ⟨(ad.add (i.toNat * 4)).block, (ad.add (i.toNat * 4)).off + 3, none⟩ = some (.int .u64 (rd_T75 xs i).f3) := by
  obtain ⟨ad, c, e, _, hK, hc0⟩ := Kd.C_get h z75 i h0 h1
  have hc : ∀ j u, c[j]? = some u → w.cell? (ad.add (i.toNat * 4 + j)) = some u := hc0
  obtain rfl := k75_open hK
  exact ⟨ad, e, hc 0 _ rfl, by rw [← add_field _ _ 1 (by omega)]; exact hc 1 _ rfl, by rw [← add_field _ _ 2 (by omega)]; exact hc 2 _ rfl, by rw [← add_field _ _ 3 (by omega)]; exact hc 3 _ rfl⟩

/-! #### struct type 66 -/
structure S66 where
  f0 : Int
  f1 : Int
  f2 : Int
  f3 : Int
  f4 : Int
  f5 : Int
  f6 : (List S75)
  f7 : (List Int)
  f8 : (List Int)
def z66 : S66 := ⟨(0 : Int), (0 : Int), (0 : Int), (0 : Int), (0 : Int), (0 : Int), ([] : List S75), ([] : List Int), ([] : List Int)⟩
def k66 : Kd S66 := Kd.iso (Kd.pair (Kd.int .i64) (Kd.pair (Kd.int .i64) (Kd.pair (Kd.int .i64) (Kd.pair (Kd.int .i64) (Kd.pair (Kd.int .i64) (Kd.pair (Kd.int .i64) (Kd.pair (Kd.slice 75 k75) (Kd.pair (Kd.slice 2 (Kd.int .i64)) (Kd.slice 73 (Kd.int .u64)))))))))) (fun x : S66 => (x.f0, x.f1, x.f2, x.f3, x.f4, x.f5, x.f6, x.f7, x.f8))
theorem k66_open {w : World} {x : S66} {cs : List Value} (h : k66.K w x cs) : ∃ A6 c6 A7 c7 A8 c8, cs = [.int .i64 x.f0, .int .i64 x.f1, .int .i64 x.f2, .int .i64 x.f3, .int .i64 x.f4, .int .i64 x.f5, .slice A6 x.f6.length c6, .slice A7 x.f7.length c7, .slice A8 x.f8.length c8] ∧ x.f6.length ≤ c6 ∧ k75.C w A6 x.f6.length x.f6 ∧ x.f7.length ≤ c7 ∧ (Kd.int .i64).C w A7 x.f7.length x.f7 ∧ x.f8.length ≤ c8 ∧ (Kd.int .u64).C w A8 x.f8.length x.f8 := by
  obtain ⟨_, _, rfl, rfl, ⟨_, _, rfl, rfl, ⟨_, _, rfl, rfl, ⟨_, _, rfl, rfl, ⟨_, _, rfl, rfl, ⟨_, _, rfl, rfl, ⟨_, _, rfl, ⟨A6, c6, rfl, l6, g6⟩, ⟨_, _, rfl, ⟨A7, c7, rfl, l7, g7⟩, ⟨A8, c8, rfl, l8, g8⟩⟩⟩⟩⟩⟩⟩⟩⟩ := h
  exact ⟨A6, c6, A7, c7, A8, c8, rfl, l6, g6, l7, g7, l8, g8⟩
theorem k66_openM {w : World} {base : Nat} {ok : Nat → Prop} {x : S66} {cs : List Value} (h : k66.M w base ok x cs) : ∃ v6 v7 v8, cs = [.int .i64 x.f0, .int .i64 x.f1, .int .i64 x.f2, .int .i64 x.f3, .int .i64 x.f4, .int .i64 x.f5, v6, v7, v8] ∧ k75.R 75 w base ok v6 x.f6 ∧ (Kd.int .i64).R 2 w base ok v7 x.f7 ∧ (Kd.int .u64).R 73 w base ok v8 x.f8 := by
  obtain ⟨_, _, rfl, rfl, ⟨_, _, rfl, rfl, ⟨_, _, rfl, rfl, ⟨_, _, rfl, rfl, ⟨_, _, rfl, rfl, ⟨_, _, rfl, rfl, ⟨_, _, rfl, ⟨v6, rfl, g6⟩, ⟨_, _, rfl, ⟨v7, rfl, g7⟩, ⟨v8, rfl, g8⟩⟩⟩⟩⟩⟩⟩⟩⟩ := h
  exact ⟨v6, v7, v8, rfl, g6, g7, g8⟩
theorem k66_mkM (w : World) (base : Nat) (ok : Nat → Prop) (x : S66) {v6 : Value} (g6 : k75.R 75 w base ok v6 x.f6) {v7 : Value} (g7 : (Kd.int .i64).R 2 w base ok v7 x.f7) {v8 : Value} (g8 : (Kd.int .u64).R 73 w base ok v8 x.f8) : k66.M w base ok x [.int .i64 x.f0, .int .i64 x.f1, .int .i64 x.f2, .int .i64 x.f3, .int .i64 x.f4, .int .i64 x.f5, v6, v7, v8] := ⟨[.int .i64 x.f0], [.int .i64 x.f1, .int .i64 x.f2, .int .i64 x.f3, .int .i64 x.f4, .int .i64 x.f5, v6, v7, v8], rfl, rfl, ⟨[.int .i64 x.f1], [.int .i64 x.f2, .int .i64 x.f3, .int .i64 x.f4, .int .i64 x.f5, v6, v7, v8], rfl, rfl, ⟨[.int .i64 x.f2], [.int .i64 x.f3, .int .i64 x.f4, .int .i64 x.f5, v6, v7, v8], rfl, rfl, ⟨[.int .i64 x.f3], [.int .i64 x.f4, .int .i64 x.f5, v6, v7, v8], rfl, rfl, ⟨[.int .i64 x.f4], [.int .i64 x.f5, v6, v7, v8], rfl, rfl, ⟨[.int .i64 x.f5], [v6, v7, v8], rfl, rfl, ⟨[v6], [v7, v8], rfl, ⟨v6, rfl, g6⟩, ⟨[v7], [v8], rfl, ⟨v7, rfl, g7⟩, ⟨v8, rfl, g8⟩⟩⟩⟩⟩⟩⟩⟩⟩
def rd_T66 (xs : List S66) (i : Int) : S66 := xs.getD i.toNat z66
theorem at_T66 {w : World} {A : Option Addr} {n : Nat} {xs : List S66} (h : Kd.C k66 w A n xs) (i : Int) (h0 : 0 ≤ i) (h1 : i < n) : ∃ ad A6 c6 A7 c7 A8 c8, A = some ad ∧ w.cell? (ad.add (i.toNat * 9)) = some (.int .i64 (rd_T66 xs i).f0) ∧ w.cell? ⟨(ad.add (i.toNat * 9)).block, (ad.add (i.toNat * 9)).off + 1, none⟩ = some (.int .i64 (rd_T66 xs i).f1) ∧ w.cell? ⟨(ad.add (i.toNat * 9)).block, (ad.add (i.toNat * 9)).off + 2, none⟩ = some (.int .i64 (rd_T66 xs i).f2) ∧ w.cell? ⟨(ad.add (i.toNat * 9)).block, (ad.add (i.toNat * 9)).off + 3, none⟩ = some (.int .i64 (rd_T66 xs i).f3) ∧ w.cell? ⟨(ad.add (i.toNat * 9)).block, (ad.add (i.toNat * 9)).off + 4, none⟩ = some (.int .i64 (rd_T66 xs i).f4) ∧ w.cell? ⟨(ad.add (i.toNat * 9)).block, (ad.add (i.toNat * 9)).off + 5, none⟩ = some (.int .i64 (rd_T66 xs i).f5) ∧ w.cell? ⟨(ad.add (i.toNat * 9)).block, (ad.add (i.toNat * 9)).off + 6, none⟩ = some (.slice A6 (rd_T66 xs i).f6.length c6) ∧ w.cell? ⟨(ad.add (i.toNat * 9)).block, (ad.add (i.toNat * 9)).off + 7, none⟩ = some (.slice A7 (rd_T66 xs i).f7.length c7) ∧ w.cell? ⟨(ad.add (i.toNat * 9)).block, (ad.add (i.toNat * 9)).off + 8, none⟩ = some (.slice A8 (rd_T66 xs i).f8.length c8) ∧ (rd_T66 xs i).f6.length ≤ c6 ∧ k75.C w A6 (rd_T66 xs i).f6.length (rd_T66 xs i).f6 ∧ (rd_T66 xs i).f7.length ≤ c7 ∧ (Kd.int .i64).C w A7 (rd_T66 xs i).f7.length (rd_T66 xs i).f7 ∧ (rd_T66 xs i).f8.length ≤ c8 ∧ (Kd.int .u64).C w A8 (rd_T66 xs i).f8.length (rd_T66 xs i).f8 := by
  obtain ⟨ad, c, e, _, hK, hc0⟩ := Kd.C_get h z66 i h0 h1
  have hc : ∀ j u, c[j]? = some u → w.cell? (ad.add (i.toNat * 9 + j)) = some u := hc0
  obtain ⟨A6, c6, A7, c7, A8, c8, rfl, l6, g6, l7, g7, l8, g8⟩ := k66_open hK
  exact ⟨ad, A6, c6, A7, c7, A8, c8, e, hc 0 _ rfl, by rw [← add_field _ _ 1 (by omega)]; exact hc 1 _ rfl, by rw [← add_field _ _ 2 (by omega)]; exact hc 2 _ rfl, by rw [← add_field _ _ 3 (by omega)]; exact hc 3 _ rfl, by rw [← add_field _ _ 4 (by omega)]; exact hc 4 _ rfl, by rw [← add_field _ _ 5 (by omega)]; exact hc 5 _ rfl, by rw [← add_field _ _ 6 (by omega)]; exact hc 6 _ rfl, by rw [← add_field _ _ 7 (by omega)]; exact hc 7 _ rfl, by rw [← add_field _ _ 8 (by omega)]; exact hc 8 _ rfl, l6, g6, l7, g7, l8, g8⟩

/-! #### struct type 62 -/
structure S62 where
  f0 : (List S66)
def z62 : S62 := ⟨([] : List S66)⟩
def k62 : Kd S62 := Kd.iso (Kd.slice 66 k66) (fun x : S62 => x.f0)
theorem k62_open {w : World} {x : S62} {cs : List Value} (h : k62.K w x cs) : ∃ A0 c0, cs = [.slice A0 x.f0.length c0] ∧ x.f0.length ≤ c0 ∧ k66.C w A0 x.f0.length x.f0 := by
  obtain ⟨A0, c0, rfl, l0, g0⟩ := h
  exact ⟨A0, c0, rfl, l0, g0⟩
theorem k62_openM {w : World} {base : Nat} {ok : Nat → Prop} {x : S62} {cs : List Value} (h : k62.M w base ok x cs) : ∃ v0, cs = [v0] ∧ k66.R 66 w base ok v0 x.f0 := by
  obtain ⟨v0, rfl, g0⟩ := h
  exact ⟨v0, rfl, g0⟩
theorem k62_mkM (w : World) (base : Nat) (ok : Nat → Prop) (x : S62) {v0 : Value} (g0 : k66.R 66 w base ok v0 x.f0) : k62.M w base ok x [v0] := ⟨v0, rfl, g0⟩
def rd_T62 (xs : List S62) (i : Int) : S62 := xs.getD i.toNat z62
theorem at_T62 {w : World} {A : Option Addr} {n : Nat} {xs : List S62} (h : Kd.C k62 w A n xs) (i : Int) (h0 : 0 ≤ i) (h1 : i < n) : ∃ ad A0 c0, A = some ad ∧ w.cell? (ad.add i.toNat) = some (.slice A0 (rd_T62 xs i).f0.length c0) ∧ (rd_T62 xs i).f0.length ≤ c0 ∧ k66.C w A0 (rd_T62 xs i).f0.length (rd_T62 xs i).f0 := by
  obtain ⟨ad, c, e, _, hK, hc0⟩ := Kd.C_get h z62 i h0 h1
  have hc : ∀ j u, c[j]? = some u → w.cell? (ad.add (i.toNat * 1 + j)) = some u := hc0
  obtain ⟨A0, c0, rfl, l0, g0⟩ := k62_open hK
  exact ⟨ad, A0, c0, e, by have hq := hc 0 _ rfl; rwa [Nat.mul_one, Nat.add_zero] at hq, l0, g0⟩

/-! #### struct type 86 -/
structure S86 where
  f0 : Int
  f1 : (List Int)
/-! #### struct type 72 -/
structure S72 where
  f0 : Int
  f1 : Int
end Go.Proofs.Ytoedcnhgobbnfaa.All


namespace Go.Proofs.Ytoedcnhgobbnfaa.All
open Go.RowKit Go.Proofs.YtoedcnhgobbnfaaW.PrintWords Go.Proofs.YtoedcnhgobbnfaaW.PrintLast Go.Proofs.YtoedcnhgobbnfaaW.PrintMore
attribute [local go_sem] max2_int min2_int max_two min_two max_three min_three max_four min_four   -- for this text's walks alone
set_option linter.unusedVariables false
set_option linter.unusedSimpArgs false

/-! ### laws_szInt64S: function 43 -/
def laws_szInt64S.f (l0 : List Int) (a1 : Int) : Option (Int) := if (wrap64 (a1 - (l0.length : Int))) < 0 then (some (-1)) else (some (wrap64 (a1 - (l0.length : Int))))
set_option maxHeartbeats 8000000 in
set_option maxRecDepth 100000 in
theorem laws_szInt64S.calls (A0 : Option Addr) (c0 : Nat) (l0 : List Int) (a1 : Int) (r : Int) (w : World) (hr0 : Kd.C (Kd.int .i64) w A0 l0.length l0) (hc0 : l0.length ≤ c0) (h : laws_szInt64S.f l0 a1 = some r) :
 Calls Try.prog 43 #[.slice A0 l0.length c0, .int .i64 a1] w fun e w' => e = .returned (.int .i64 r) ∧ Drawn0 w w' := by
 have HR0 := Aside0.mk hr0
 have HC0 := Aside0.mk hc0
 clear hr0 hc0
 have H : (if (wrap64 (a1 - (l0.length : Int))) < 0 then (some (-1)) else (some (wrap64 (a1 - (l0.length : Int))))) = some r := h
 clear h
 by_cases c3 : (wrap64 (a1 - (l0.length : Int))) < 0
 · rw [if_pos c3] at H
   have c3b0 : decide ((wrap64 (a1 - (l0.length : Int))) < 0) = true := decide_eq_true c3
   clear c3
   obtain rfl := Option.some.inj H
   go_enter Try.func43, Try.ntmps43
   go_wp2
   go_ret
   exact ⟨by first | rfl | (simp; done) | (simp [*]; done), by repeat (first | exact Drawn0.refl _ | apply Drawn0.step)⟩
 · rw [if_neg c3] at H
   have c3b0 : decide ((wrap64 (a1 - (l0.length : Int))) < 0) = false := decide_eq_false c3
   clear c3
   obtain rfl := Option.some.inj H
   go_enter Try.func43, Try.ntmps43
   go_wp2
   go_ret
   exact ⟨by first | rfl | (simp; done) | (simp [*]; done), by repeat (first | exact Drawn0.refl _ | apply Drawn0.step)⟩

end Go.Proofs.Ytoedcnhgobbnfaa.All


namespace Go.Proofs.Ytoedcnhgobbnfaa.All
open Go.RowKit Go.Proofs.YtoedcnhgobbnfaaW.PrintWords Go.Proofs.YtoedcnhgobbnfaaW.PrintLast Go.Proofs.YtoedcnhgobbnfaaW.PrintMore
attribute [local go_sem] max2_int min2_int max_two min_two max_three min_three max_four min_four   -- for this text's walks alone
set_option linter.unusedVariables false
set_option linter.unusedSimpArgs false

/-! ### laws_szOperandS: function 116 -/
def laws_szOperandS.f (l0 : List (S158)) (a1 : Int) : Option (Int) := if (wrap64 (a1 - (l0.length : Int))) < 0 then (some (-1)) else (some (wrap64 (a1 - (l0.length : Int))))
set_option maxHeartbeats 8000000 in
set_option maxRecDepth 100000 in
theorem laws_szOperandS.calls (A0 : Option Addr) (c0 : Nat) (l0 : List (S158)) (a1 : Int) (r : Int) (w : World) (hr0 : Kd.C k158 w A0 l0.length l0) (hc0 : l0.length ≤ c0) (h : laws_szOperandS.f l0 a1 = some r) :
 Calls Try.prog 116 #[.slice A0 l0.length c0, .int .i64 a1] w fun e w' => e = .returned (.int .i64 r) ∧ Drawn0 w w' := by
 have HR0 := Aside0.mk hr0
 have HC0 := Aside0.mk hc0
 clear hr0 hc0
 have H : (if (wrap64 (a1 - (l0.length : Int))) < 0 then (some (-1)) else (some (wrap64 (a1 - (l0.length : Int))))) = some r := h
 clear h
 by_cases c3 : (wrap64 (a1 - (l0.length : Int))) < 0
 · rw [if_pos c3] at H
   have c3b0 : decide ((wrap64 (a1 - (l0.length : Int))) < 0) = true := decide_eq_true c3
   clear c3
   obtain rfl := Option.some.inj H
   go_enter Try.func116, Try.ntmps116
   go_wp2
   go_ret
   exact ⟨by first | rfl | (simp; done) | (simp [*]; done), by repeat (first | exact Drawn0.refl _ | apply Drawn0.step)⟩
 · rw [if_neg c3] at H
   have c3b0 : decide ((wrap64 (a1 - (l0.length : Int))) < 0) = false := decide_eq_false c3
   clear c3
   obtain rfl := Option.some.inj H
   go_enter Try.func116, Try.ntmps116
   go_wp2
   go_ret
   exact ⟨by first | rfl | (simp; done) | (simp [*]; done), by repeat (first | exact Drawn0.refl _ | apply Drawn0.step)⟩

end Go.Proofs.Ytoedcnhgobbnfaa.All


namespace Go.Proofs.Ytoedcnhgobbnfaa.All
open Go.RowKit Go.Proofs.YtoedcnhgobbnfaaW.PrintWords Go.Proofs.YtoedcnhgobbnfaaW.PrintLast Go.Proofs.YtoedcnhgobbnfaaW.PrintMore
attribute [local go_sem] max2_int min2_int max_two min_two max_three min_three max_four min_four   -- for this text's walks alone
set_option linter.unusedVariables false
set_option linter.unusedSimpArgs false

/-! ### laws_szUint64S: function 117 -/
def laws_szUint64S.f (l0 : List Int) (a1 : Int) : Option (Int) := if (wrap64 (a1 - (l0.length : Int))) < 0 then (some (-1)) else (some (wrap64 (a1 - (l0.length : Int))))
set_option maxHeartbeats 8000000 in
set_option maxRecDepth 100000 in
theorem laws_szUint64S.calls (A0 : Option Addr) (c0 : Nat) (l0 : List Int) (a1 : Int) (r : Int) (w : World) (hr0 : Kd.C (Kd.int .u64) w A0 l0.length l0) (hc0 : l0.length ≤ c0) (h : laws_szUint64S.f l0 a1 = some r) :
 Calls Try.prog 117 #[.slice A0 l0.length c0, .int .i64 a1] w fun e w' => e = .returned (.int .i64 r) ∧ Drawn0 w w' := by
 have HR0 := Aside0.mk hr0
 have HC0 := Aside0.mk hc0
 clear hr0 hc0
 have H : (if (wrap64 (a1 - (l0.length : Int))) < 0 then (some (-1)) else (some (wrap64 (a1 - (l0.length : Int))))) = some r := h
 clear h
 by_cases c3 : (wrap64 (a1 - (l0.length : Int))) < 0
 · rw [if_pos c3] at H
   have c3b0 : decide ((wrap64 (a1 - (l0.length : Int))) < 0) = true := decide_eq_true c3
   clear c3
   obtain rfl := Option.some.inj H
   go_enter Try.func117, Try.ntmps117
   go_wp2
   go_ret
   exact ⟨by first | rfl | (simp; done) | (simp [*]; done), by repeat (first | exact Drawn0.refl _ | apply Drawn0.step)⟩
 · rw [if_neg c3] at H
   have c3b0 : decide ((wrap64 (a1 - (l0.length : Int))) < 0) = false := decide_eq_false c3
   clear c3
   obtain rfl := Option.some.inj H
   go_enter Try.func117, Try.ntmps117
   go_wp2
   go_ret
   exact ⟨by first | rfl | (simp; done) | (simp [*]; done), by repeat (first | exact Drawn0.refl _ | apply Drawn0.step)⟩

end Go.Proofs.Ytoedcnhgobbnfaa.All


namespace Go.Proofs.Ytoedcnhgobbnfaa.All
open Go.RowKit Go.Proofs.YtoedcnhgobbnfaaW.PrintWords Go.Proofs.YtoedcnhgobbnfaaW.PrintLast Go.Proofs.YtoedcnhgobbnfaaW.PrintMore
attribute [local go_sem] max2_int min2_int max_two min_two max_three min_three max_four min_four   -- for this text's walks alone
set_option linter.unusedVariables false
set_option linter.unusedSimpArgs false

/-! ### laws_szInstr: function 107 -/
def laws_szInstr.f (a0_0 : Int) (a0_1 : Int) (a0_2 : Int) (a0_3 : Int) (a0_4 : Int) (a0_5 : Int) (l0_6 : List (S158)) (l0_7 : List Int) (l0_8 : List Int) (a1 : Int) : Option (Int) := (laws_szOperandS.f l0_6 a1).bind fun t102 => (if t102 < 0 then (some (-1)) else ((laws_szInt64S.f l0_7 t102).bind fun t103 => (if t103 < 0 then (some (-1)) else ((laws_szUint64S.f l0_8 t103).bind fun t104 => (if t104 < 0 then (some (-1)) else (some t104))))))
set_option maxHeartbeats 8000000 in
set_option maxRecDepth 100000 in
theorem laws_szInstr.calls (a0_0 : Int) (a0_1 : Int) (a0_2 : Int) (a0_3 : Int) (a0_4 : Int) (a0_5 : Int) (A0_6 : Option Addr) (c0_6 : Nat) (l0_6 : List (S158)) (A0_7 : Option Addr) (c0_7 : Nat) (l0_7 : List Int) (A0_8 : Option Addr) (c0_8 : Nat) (l0_8 : List Int) (a1 : Int) (r : Int) (w : World) (hr0_6 : Kd.C k158 w A0_6 l0_6.length l0_6) (hc0_6 : l0_6.length ≤ c0_6) (hr0_7 : Kd.C (Kd.int .i64) w A0_7 l0_7.length l0_7) (hc0_7 : l0_7.length ≤ c0_7) (hr0_8 : Kd.C (Kd.int .u64) w A0_8 l0_8.length l0_8) (hc0_8 : l0_8.length ≤ c0_8) (h : laws_szInstr.f a0_0 a0_1 a0_2 a0_3 a0_4 a0_5 l0_6 l0_7 l0_8 a1 = some r) :
 Calls Try.prog 107 #[.agg #[.int .i64 a0_0, .int .i64 a0_1, .int .i64 a0_2, .int .i64 a0_3, .int .i64 a0_4, .int .i64 a0_5, .slice A0_6 l0_6.length c0_6, .slice A0_7 l0_7.length c0_7, .slice A0_8 l0_8.length c0_8], .int .i64 a1] w fun e w' => e = .returned (.int .i64 r) ∧ Below w.heap.size w w' := by
 have hu140 := Try.underlying140
 have HR0_6 := Aside0.mk hr0_6
 have HC0_6 := Aside0.mk hc0_6
 clear hr0_6 hc0_6
 have HR0_7 := Aside0.mk hr0_7
 have HC0_7 := Aside0.mk hc0_7
 clear hr0_7 hc0_7
 have HR0_8 := Aside0.mk hr0_8
 have HC0_8 := Aside0.mk hc0_8
 clear hr0_8 hc0_8
 have HB := Aside0.mk (Below.refl w.heap.size w)
 have H : ((laws_szOperandS.f l0_6 a1).bind fun t102 => (if t102 < 0 then (some (-1)) else ((laws_szInt64S.f l0_7 t102).bind fun t103 => (if t103 < 0 then (some (-1)) else ((laws_szUint64S.f l0_8 t103).bind fun t104 => (if t104 < 0 then (some (-1)) else (some t104))))))) = some r := h
 clear h
 replace H := Option.bind_eq_some_iff.mp H
 obtain ⟨t102, A30, H⟩ := H
 replace H : (if t102 < 0 then (some (-1)) else ((laws_szInt64S.f l0_7 t102).bind fun t103 => (if t103 < 0 then (some (-1)) else ((laws_szUint64S.f l0_8 t103).bind fun t104 => (if t104 < 0 then (some (-1)) else (some t104)))))) = some r := H
 have A3 := Aside0.mk A30
 clear A30
 by_cases c4 : t102 < 0
 · rw [if_pos c4] at H
   have c4b0 : decide (t102 < 0) = true := decide_eq_true c4
   clear c4
   obtain rfl := Option.some.inj H
   go_enter Try.func107, Try.ntmps107
   go_wp2_with (first | ((with_reducible refine gate_dst (N := 2) rfl ?_); refine box_event ?hg (N := 2) ?hd (cs := #[.int .i64 a0_0, .int .i64 a0_1, .int .i64 a0_2, .int .i64 a0_3, .int .i64 a0_4, .int .i64 a0_5, .slice A0_6 l0_6.length c0_6, .slice A0_7 l0_7.length c0_7, .slice A0_8 l0_8.length c0_8]) (t := 140) ?hr ?_; (case hd => rfl); (case hg => rfl); (case hr => first | (go_simp; done) | (go_simp; rfl)); intro gb101 hg w5 hbox hb; have n0_ := Aside0.mk (below_step (by repeat (first | (with_reducible first | exact HB.out | apply below_alloc | apply pw_below_drewN | apply below_drew1) | exact HB.out)) hb); have n1_ := Aside0.mk (hbox); have n2_ := Aside0.mk ((by rw [hg]; exact (below_size (by repeat (first | (with_reducible first | exact HB.out | apply below_alloc | apply pw_below_drewN | apply below_drew1) | exact HB.out))) : w.heap.size ≤ gb101)); have n3_ := Aside0.mk ((by rw [hg]; exact (below_size (by repeat (first | (with_reducible first | exact HB.out | apply below_alloc | apply pw_below_drewN | apply below_drew1) | exact HB.out))) : w.heap.size ≤ gb101)); clear HB; have HB := n0_; have BK101 := n1_; have GW101 := n2_; have GE101 := n3_; clear n0_ n1_ n2_ n3_; clear hb hbox hg; have hcz6_0 : w5.cell? ⟨gb101, 0, none⟩ = some (.int .i64 a0_0) := (blk_cell BK101.out 0).trans rfl; have hcz6_1 : w5.cell? ⟨gb101, 1, none⟩ = some (.int .i64 a0_1) := (blk_cell BK101.out 1).trans rfl; have hcz6_2 : w5.cell? ⟨gb101, 2, none⟩ = some (.int .i64 a0_2) := (blk_cell BK101.out 2).trans rfl; have hcz6_3 : w5.cell? ⟨gb101, 3, none⟩ = some (.int .i64 a0_3) := (blk_cell BK101.out 3).trans rfl; have hcz6_4 : w5.cell? ⟨gb101, 4, none⟩ = some (.int .i64 a0_4) := (blk_cell BK101.out 4).trans rfl; have hcz6_5 : w5.cell? ⟨gb101, 5, none⟩ = some (.int .i64 a0_5) := (blk_cell BK101.out 5).trans rfl; have hcz6_6 : w5.cell? ⟨gb101, 6, none⟩ = some (.slice A0_6 l0_6.length c0_6) := (blk_cell BK101.out 6).trans rfl; have hcz6_7 : w5.cell? ⟨gb101, 7, none⟩ = some (.slice A0_7 l0_7.length c0_7) := (blk_cell BK101.out 7).trans rfl; have hcz6_8 : w5.cell? ⟨gb101, 8, none⟩ = some (.slice A0_8 l0_8.length c0_8) := (blk_cell BK101.out 8).trans rfl; have hfz6_0 := blk_frozen BK101.out 0; have hfz6_1 := blk_frozen BK101.out 1; have hfz6_2 := blk_frozen BK101.out 2; have hfz6_3 := blk_frozen BK101.out 3; have hfz6_4 := blk_frozen BK101.out 4; have hfz6_5 := blk_frozen BK101.out 5; have hfz6_6 := blk_frozen BK101.out 6; have hfz6_7 := blk_frozen BK101.out 7; have hfz6_8 := blk_frozen BK101.out 8) | ((with_reducible refine gate_callee (f := 116) rfl ?_); refine goesL_ (some 8) rfl rfl Try.func116 (by kernel_rfl) rfl #[.slice A0_6 l0_6.length c0_6, .int .i64 a1] rfl (by (try simp only [List.map_toArray, List.map_cons, List.map_nil]); first | done | rfl | (simp only [List.length_drop, List.length_take]; rfl)) ?_; (with_reducible refine (laws_szOperandS.calls _ _ l0_6 a1 t102 _ ?side1 ?side2 A3.out).mono ?_); (case side1 => repeat (first | exact (Kd.C_below HR0_6.out HB.out) | (with_reducible refine Kd.C_alloc ?_ _) | (with_reducible refine Kd.C_drewN ?_ _) | (with_reducible refine Kd.C_drew ?_))); (case side2 => exact HC0_6.out); rintro e w' ⟨rfl, ⟨nd, rfl⟩⟩; refine ⟨_, rfl, ?_⟩))
   go_ret
   exact ⟨by first | rfl | (simp [errW_none, errW_some] <;> rfl) | (simp [*, errW_none, errW_some] <;> rfl), by repeat (first | (with_reducible first | exact HB.out | apply below_alloc | apply pw_below_drewN | apply below_drew1 | refine below_set ?_ GE101.out) | exact HB.out)⟩
 · rw [if_neg c4] at H
   have c4b0 : decide (t102 < 0) = false := decide_eq_false c4
   clear c4
   replace H := Option.bind_eq_some_iff.mp H
   obtain ⟨t103, A70, H⟩ := H
   replace H : (if t103 < 0 then (some (-1)) else ((laws_szUint64S.f l0_8 t103).bind fun t104 => (if t104 < 0 then (some (-1)) else (some t104)))) = some r := H
   have A7 := Aside0.mk A70
   clear A70
   by_cases c8 : t103 < 0
   · rw [if_pos c8] at H
     have c8b0 : decide (t103 < 0) = true := decide_eq_true c8
     clear c8
     obtain rfl := Option.some.inj H
     go_enter Try.func107, Try.ntmps107
     go_wp2_with (first | ((with_reducible refine gate_dst (N := 2) rfl ?_); refine box_event ?hg (N := 2) ?hd (cs := #[.int .i64 a0_0, .int .i64 a0_1, .int .i64 a0_2, .int .i64 a0_3, .int .i64 a0_4, .int .i64 a0_5, .slice A0_6 l0_6.length c0_6, .slice A0_7 l0_7.length c0_7, .slice A0_8 l0_8.length c0_8]) (t := 140) ?hr ?_; (case hd => rfl); (case hg => rfl); (case hr => first | (go_simp; done) | (go_simp; rfl)); intro gb101 hg w9 hbox hb; have n0_ := Aside0.mk (below_step (by repeat (first | (with_reducible first | exact HB.out | apply below_alloc | apply pw_below_drewN | apply below_drew1) | exact HB.out)) hb); have n1_ := Aside0.mk (hbox); have n2_ := Aside0.mk ((by rw [hg]; exact (below_size (by repeat (first | (with_reducible first | exact HB.out | apply below_alloc | apply pw_below_drewN | apply below_drew1) | exact HB.out))) : w.heap.size ≤ gb101)); have n3_ := Aside0.mk ((by rw [hg]; exact (below_size (by repeat (first | (with_reducible first | exact HB.out | apply below_alloc | apply pw_below_drewN | apply below_drew1) | exact HB.out))) : w.heap.size ≤ gb101)); clear HB; have HB := n0_; have BK101 := n1_; have GW101 := n2_; have GE101 := n3_; clear n0_ n1_ n2_ n3_; clear hb hbox hg; have hcz10_0 : w9.cell? ⟨gb101, 0, none⟩ = some (.int .i64 a0_0) := (blk_cell BK101.out 0).trans rfl; have hcz10_1 : w9.cell? ⟨gb101, 1, none⟩ = some (.int .i64 a0_1) := (blk_cell BK101.out 1).trans rfl; have hcz10_2 : w9.cell? ⟨gb101, 2, none⟩ = some (.int .i64 a0_2) := (blk_cell BK101.out 2).trans rfl; have hcz10_3 : w9.cell? ⟨gb101, 3, none⟩ = some (.int .i64 a0_3) := (blk_cell BK101.out 3).trans rfl; have hcz10_4 : w9.cell? ⟨gb101, 4, none⟩ = some (.int .i64 a0_4) := (blk_cell BK101.out 4).trans rfl; have hcz10_5 : w9.cell? ⟨gb101, 5, none⟩ = some (.int .i64 a0_5) := (blk_cell BK101.out 5).trans rfl; have hcz10_6 : w9.cell? ⟨gb101, 6, none⟩ = some (.slice A0_6 l0_6.length c0_6) := (blk_cell BK101.out 6).trans rfl; have hcz10_7 : w9.cell? ⟨gb101, 7, none⟩ = some (.slice A0_7 l0_7.length c0_7) := (blk_cell BK101.out 7).trans rfl; have hcz10_8 : w9.cell? ⟨gb101, 8, none⟩ = some (.slice A0_8 l0_8.length c0_8) := (blk_cell BK101.out 8).trans rfl; have hfz10_0 := blk_frozen BK101.out 0; have hfz10_1 := blk_frozen BK101.out 1; have hfz10_2 := blk_frozen BK101.out 2; have hfz10_3 := blk_frozen BK101.out 3; have hfz10_4 := blk_frozen BK101.out 4; have hfz10_5 := blk_frozen BK101.out 5; have hfz10_6 := blk_frozen BK101.out 6; have hfz10_7 := blk_frozen BK101.out 7; have hfz10_8 := blk_frozen BK101.out 8) | ((with_reducible refine gate_callee (f := 116) rfl ?_); refine goesL_ (some 8) rfl rfl Try.func116 (by kernel_rfl) rfl #[.slice A0_6 l0_6.length c0_6, .int .i64 a1] rfl (by (try simp only [List.map_toArray, List.map_cons, List.map_nil]); first | done | rfl | (simp only [List.length_drop, List.length_take]; rfl)) ?_; (with_reducible refine (laws_szOperandS.calls _ _ l0_6 a1 t102 _ ?side1 ?side2 A3.out).mono ?_); (case side1 => repeat (first | exact (Kd.C_below HR0_6.out HB.out) | (with_reducible refine Kd.C_alloc ?_ _) | (with_reducible refine Kd.C_drewN ?_ _) | (with_reducible refine Kd.C_drew ?_))); (case side2 => exact HC0_6.out); rintro e w' ⟨rfl, ⟨nd, rfl⟩⟩; refine ⟨_, rfl, ?_⟩) | ((with_reducible refine gate_callee (f := 43) rfl ?_); refine goesL_ (some 14) rfl rfl Try.func43 (by kernel_rfl) rfl #[.slice A0_7 l0_7.length c0_7, .int .i64 t102] rfl (by (try simp only [List.map_toArray, List.map_cons, List.map_nil]); first | done | rfl | (simp only [List.length_drop, List.length_take]; rfl)) ?_; (with_reducible refine (laws_szInt64S.calls _ _ l0_7 t102 t103 _ ?side1 ?side2 A7.out).mono ?_); (case side1 => repeat (first | exact (Kd.C_below HR0_7.out (by repeat (first | (with_reducible first | exact HB.out | apply below_alloc | apply pw_below_drewN | apply below_drew1 | refine below_set ?_ GE101.out) | exact HB.out))) | (with_reducible refine Kd.C_alloc ?_ _) | (with_reducible refine Kd.C_drewN ?_ _) | (with_reducible refine Kd.C_drew ?_))); (case side2 => exact HC0_7.out); rintro e w' ⟨rfl, ⟨nd, rfl⟩⟩; refine ⟨_, rfl, ?_⟩))
     go_ret
     exact ⟨by first | rfl | (simp [errW_none, errW_some] <;> rfl) | (simp [*, errW_none, errW_some] <;> rfl), by repeat (first | (with_reducible first | exact HB.out | apply below_alloc | apply pw_below_drewN | apply below_drew1 | refine below_set ?_ GE101.out) | exact HB.out)⟩
   · rw [if_neg c8] at H
     have c8b0 : decide (t103 < 0) = false := decide_eq_false c8
     clear c8
     replace H := Option.bind_eq_some_iff.mp H
     obtain ⟨t104, A110, H⟩ := H
     replace H : (if t104 < 0 then (some (-1)) else (some t104)) = some r := H
     have A11 := Aside0.mk A110
     clear A110
     by_cases c12 : t104 < 0
     · rw [if_pos c12] at H
       have c12b0 : decide (t104 < 0) = true := decide_eq_true c12
       clear c12
       obtain rfl := Option.some.inj H
       go_enter Try.func107, Try.ntmps107
       go_wp2_with (first | ((with_reducible refine gate_dst (N := 2) rfl ?_); refine box_event ?hg (N := 2) ?hd (cs := #[.int .i64 a0_0, .int .i64 a0_1, .int .i64 a0_2, .int .i64 a0_3, .int .i64 a0_4, .int .i64 a0_5, .slice A0_6 l0_6.length c0_6, .slice A0_7 l0_7.length c0_7, .slice A0_8 l0_8.length c0_8]) (t := 140) ?hr ?_; (case hd => rfl); (case hg => rfl); (case hr => first | (go_simp; done) | (go_simp; rfl)); intro gb101 hg w13 hbox hb; have n0_ := Aside0.mk (below_step (by repeat (first | (with_reducible first | exact HB.out | apply below_alloc | apply pw_below_drewN | apply below_drew1) | exact HB.out)) hb); have n1_ := Aside0.mk (hbox); have n2_ := Aside0.mk ((by rw [hg]; exact (below_size (by repeat (first | (with_reducible first | exact HB.out | apply below_alloc | apply pw_below_drewN | apply below_drew1) | exact HB.out))) : w.heap.size ≤ gb101)); have n3_ := Aside0.mk ((by rw [hg]; exact (below_size (by repeat (first | (with_reducible first | exact HB.out | apply below_alloc | apply pw_below_drewN | apply below_drew1) | exact HB.out))) : w.heap.size ≤ gb101)); clear HB; have HB := n0_; have BK101 := n1_; have GW101 := n2_; have GE101 := n3_; clear n0_ n1_ n2_ n3_; clear hb hbox hg; have hcz14_0 : w13.cell? ⟨gb101, 0, none⟩ = some (.int .i64 a0_0) := (blk_cell BK101.out 0).trans rfl; have hcz14_1 : w13.cell? ⟨gb101, 1, none⟩ = some (.int .i64 a0_1) := (blk_cell BK101.out 1).trans rfl; have hcz14_2 : w13.cell? ⟨gb101, 2, none⟩ = some (.int .i64 a0_2) := (blk_cell BK101.out 2).trans rfl; have hcz14_3 : w13.cell? ⟨gb101, 3, none⟩ = some (.int .i64 a0_3) := (blk_cell BK101.out 3).trans rfl; have hcz14_4 : w13.cell? ⟨gb101, 4, none⟩ = some (.int .i64 a0_4) := (blk_cell BK101.out 4).trans rfl; have hcz14_5 : w13.cell? ⟨gb101, 5, none⟩ = some (.int .i64 a0_5) := (blk_cell BK101.out 5).trans rfl; have hcz14_6 : w13.cell? ⟨gb101, 6, none⟩ = some (.slice A0_6 l0_6.length c0_6) := (blk_cell BK101.out 6).trans rfl; have hcz14_7 : w13.cell? ⟨gb101, 7, none⟩ = some (.slice A0_7 l0_7.length c0_7) := (blk_cell BK101.out 7).trans rfl; have hcz14_8 : w13.cell? ⟨gb101, 8, none⟩ = some (.slice A0_8 l0_8.length c0_8) := (blk_cell BK101.out 8).trans rfl; have hfz14_0 := blk_frozen BK101.out 0; have hfz14_1 := blk_frozen BK101.out 1; have hfz14_2 := blk_frozen BK101.out 2; have hfz14_3 := blk_frozen BK101.out 3; have hfz14_4 := blk_frozen BK101.out 4; have hfz14_5 := blk_frozen BK101.out 5; have hfz14_6 := blk_frozen BK101.out 6; have hfz14_7 := blk_frozen BK101.out 7; have hfz14_8 := blk_frozen BK101.out 8) | ((with_reducible refine gate_callee (f := 116) rfl ?_); refine goesL_ (some 8) rfl rfl Try.func116 (by kernel_rfl) rfl #[.slice A0_6 l0_6.length c0_6, .int .i64 a1] rfl (by (try simp only [List.map_toArray, List.map_cons, List.map_nil]); first | done | rfl | (simp only [List.length_drop, List.length_take]; rfl)) ?_; (with_reducible refine (laws_szOperandS.calls _ _ l0_6 a1 t102 _ ?side1 ?side2 A3.out).mono ?_); (case side1 => repeat (first | exact (Kd.C_below HR0_6.out HB.out) | (with_reducible refine Kd.C_alloc ?_ _) | (with_reducible refine Kd.C_drewN ?_ _) | (with_reducible refine Kd.C_drew ?_))); (case side2 => exact HC0_6.out); rintro e w' ⟨rfl, ⟨nd, rfl⟩⟩; refine ⟨_, rfl, ?_⟩) | ((with_reducible refine gate_callee (f := 43) rfl ?_); refine goesL_ (some 14) rfl rfl Try.func43 (by kernel_rfl) rfl #[.slice A0_7 l0_7.length c0_7, .int .i64 t102] rfl (by (try simp only [List.map_toArray, List.map_cons, List.map_nil]); first | done | rfl | (simp only [List.length_drop, List.length_take]; rfl)) ?_; (with_reducible refine (laws_szInt64S.calls _ _ l0_7 t102 t103 _ ?side1 ?side2 A7.out).mono ?_); (case side1 => repeat (first | exact (Kd.C_below HR0_7.out (by repeat (first | (with_reducible first | exact HB.out | apply below_alloc | apply pw_below_drewN | apply below_drew1 | refine below_set ?_ GE101.out) | exact HB.out))) | (with_reducible refine Kd.C_alloc ?_ _) | (with_reducible refine Kd.C_drewN ?_ _) | (with_reducible refine Kd.C_drew ?_))); (case side2 => exact HC0_7.out); rintro e w' ⟨rfl, ⟨nd, rfl⟩⟩; refine ⟨_, rfl, ?_⟩) | ((with_reducible refine gate_callee (f := 117) rfl ?_); refine goesL_ (some 20) rfl rfl Try.func117 (by kernel_rfl) rfl #[.slice A0_8 l0_8.length c0_8, .int .i64 t103] rfl (by (try simp only [List.map_toArray, List.map_cons, List.map_nil]); first | done | rfl | (simp only [List.length_drop, List.length_take]; rfl)) ?_; (with_reducible refine (laws_szUint64S.calls _ _ l0_8 t103 t104 _ ?side1 ?side2 A11.out).mono ?_); (case side1 => repeat (first | exact (Kd.C_below HR0_8.out (by repeat (first | (with_reducible first | exact HB.out | apply below_alloc | apply pw_below_drewN | apply below_drew1 | refine below_set ?_ GE101.out) | exact HB.out))) | (with_reducible refine Kd.C_alloc ?_ _) | (with_reducible refine Kd.C_drewN ?_ _) | (with_reducible refine Kd.C_drew ?_))); (case side2 => exact HC0_8.out); rintro e w' ⟨rfl, ⟨nd, rfl⟩⟩; refine ⟨_, rfl, ?_⟩))
       go_ret
       exact ⟨by first | rfl | (simp [errW_none, errW_some] <;> rfl) | (simp [*, errW_none, errW_some] <;> rfl), by repeat (first | (with_reducible first | exact HB.out | apply below_alloc | apply pw_below_drewN | apply below_drew1 | refine below_set ?_ GE101.out) | exact HB.out)⟩
     · rw [if_neg c12] at H
       have c12b0 : decide (t104 < 0) = false := decide_eq_false c12
       clear c12
       obtain rfl := Option.some.inj H
       go_enter Try.func107, Try.ntmps107
       go_wp2_with (first | ((with_reducible refine gate_dst (N := 2) rfl ?_); refine box_event ?hg (N := 2) ?hd (cs := #[.int .i64 a0_0, .int .i64 a0_1, .int .i64 a0_2, .int .i64 a0_3, .int .i64 a0_4, .int .i64 a0_5, .slice A0_6 l0_6.length c0_6, .slice A0_7 l0_7.length c0_7, .slice A0_8 l0_8.length c0_8]) (t := 140) ?hr ?_; (case hd => rfl); (case hg => rfl); (case hr => first | (go_simp; done) | (go_simp; rfl)); intro gb101 hg w15 hbox hb; have n0_ := Aside0.mk (below_step (by repeat (first | (with_reducible first | exact HB.out | apply below_alloc | apply pw_below_drewN | apply below_drew1) | exact HB.out)) hb); have n1_ := Aside0.mk (hbox); have n2_ := Aside0.mk ((by rw [hg]; exact (below_size (by repeat (first | (with_reducible first | exact HB.out | apply below_alloc | apply pw_below_drewN | apply below_drew1) | exact HB.out))) : w.heap.size ≤ gb101)); have n3_ := Aside0.mk ((by rw [hg]; exact (below_size (by repeat (first | (with_reducible first | exact HB.out | apply below_alloc | apply pw_below_drewN | apply below_drew1) | exact HB.out))) : w.heap.size ≤ gb101)); clear HB; have HB := n0_; have BK101 := n1_; have GW101 := n2_; have GE101 := n3_; clear n0_ n1_ n2_ n3_; clear hb hbox hg; have hcz16_0 : w15.cell? ⟨gb101, 0, none⟩ = some (.int .i64 a0_0) := (blk_cell BK101.out 0).trans rfl; have hcz16_1 : w15.cell? ⟨gb101, 1, none⟩ = some (.int .i64 a0_1) := (blk_cell BK101.out 1).trans rfl; have hcz16_2 : w15.cell? ⟨gb101, 2, none⟩ = some (.int .i64 a0_2) := (blk_cell BK101.out 2).trans rfl; have hcz16_3 : w15.cell? ⟨gb101, 3, none⟩ = some (.int .i64 a0_3) := (blk_cell BK101.out 3).trans rfl; have hcz16_4 : w15.cell? ⟨gb101, 4, none⟩ = some (.int .i64 a0_4) := (blk_cell BK101.out 4).trans rfl; have hcz16_5 : w15.cell? ⟨gb101, 5, none⟩ = some (.int .i64 a0_5) := (blk_cell BK101.out 5).trans rfl; have hcz16_6 : w15.cell? ⟨gb101, 6, none⟩ = some (.slice A0_6 l0_6.length c0_6) := (blk_cell BK101.out 6).trans rfl; have hcz16_7 : w15.cell? ⟨gb101, 7, none⟩ = some (.slice A0_7 l0_7.length c0_7) := (blk_cell BK101.out 7).trans rfl; have hcz16_8 : w15.cell? ⟨gb101, 8, none⟩ = some (.slice A0_8 l0_8.length c0_8) := (blk_cell BK101.out 8).trans rfl; have hfz16_0 := blk_frozen BK101.out 0; have hfz16_1 := blk_frozen BK101.out 1; have hfz16_2 := blk_frozen BK101.out 2; have hfz16_3 := blk_frozen BK101.out 3; have hfz16_4 := blk_frozen BK101.out 4; have hfz16_5 := blk_frozen BK101.out 5; have hfz16_6 := blk_frozen BK101.out 6; have hfz16_7 := blk_frozen BK101.out 7; have hfz16_8 := blk_frozen BK101.out 8) | ((with_reducible refine gate_callee (f := 116) rfl ?_); refine goesL_ (some 8) rfl rfl Try.func116 (by kernel_rfl) rfl #[.slice A0_6 l0_6.length c0_6, .int .i64 a1] rfl (by (try simp only [List.map_toArray, List.map_cons, List.map_nil]); first | done | rfl | (simp only [List.length_drop, List.length_take]; rfl)) ?_; (with_reducible refine (laws_szOperandS.calls _ _ l0_6 a1 t102 _ ?side1 ?side2 A3.out).mono ?_); (case side1 => repeat (first | exact (Kd.C_below HR0_6.out HB.out) | (with_reducible refine Kd.C_alloc ?_ _) | (with_reducible refine Kd.C_drewN ?_ _) | (with_reducible refine Kd.C_drew ?_))); (case side2 => exact HC0_6.out); rintro e w' ⟨rfl, ⟨nd, rfl⟩⟩; refine ⟨_, rfl, ?_⟩) | ((with_reducible refine gate_callee (f := 43) rfl ?_); refine goesL_ (some 14) rfl rfl Try.func43 (by kernel_rfl) rfl #[.slice A0_7 l0_7.length c0_7, .int .i64 t102] rfl (by (try simp only [List.map_toArray, List.map_cons, List.map_nil]); first | done | rfl | (simp only [List.length_drop, List.length_take]; rfl)) ?_; (with_reducible refine (laws_szInt64S.calls _ _ l0_7 t102 t103 _ ?side1 ?side2 A7.out).mono ?_); (case side1 => repeat (first | exact (Kd.C_below HR0_7.out (by repeat (first | (with_reducible first | exact HB.out | apply below_alloc | apply pw_below_drewN | apply below_drew1 | refine below_set ?_ GE101.out) | exact HB.out))) | (with_reducible refine Kd.C_alloc ?_ _) | (with_reducible refine Kd.C_drewN ?_ _) | (with_reducible refine Kd.C_drew ?_))); (case side2 => exact HC0_7.out); rintro e w' ⟨rfl, ⟨nd, rfl⟩⟩; refine ⟨_, rfl, ?_⟩) | ((with_reducible refine gate_callee (f := 117) rfl ?_); refine goesL_ (some 20) rfl rfl Try.func117 (by kernel_rfl) rfl #[.slice A0_8 l0_8.length c0_8, .int .i64 t103] rfl (by (try simp only [List.map_toArray, List.map_cons, List.map_nil]); first | done | rfl | (simp only [List.length_drop, List.length_take]; rfl)) ?_; (with_reducible refine (laws_szUint64S.calls _ _ l0_8 t103 t104 _ ?side1 ?side2 A11.out).mono ?_); (case side1 => repeat (first | exact (Kd.C_below HR0_8.out (by repeat (first | (with_reducible first | exact HB.out | apply below_alloc | apply pw_below_drewN | apply below_drew1 | refine below_set ?_ GE101.out) | exact HB.out))) | (with_reducible refine Kd.C_alloc ?_ _) | (with_reducible refine Kd.C_drewN ?_ _) | (with_reducible refine Kd.C_drew ?_))); (case side2 => exact HC0_8.out); rintro e w' ⟨rfl, ⟨nd, rfl⟩⟩; refine ⟨_, rfl, ?_⟩))
       go_ret
       exact ⟨by first | rfl | (simp [errW_none, errW_some] <;> rfl) | (simp [*, errW_none, errW_some] <;> rfl), by repeat (first | (with_reducible first | exact HB.out | apply below_alloc | apply pw_below_drewN | apply below_drew1 | refine below_set ?_ GE101.out) | exact HB.out)⟩

end Go.Proofs.Ytoedcnhgobbnfaa.All


namespace Go.Proofs.Ytoedcnhgobbnfaa.All
open Go.RowKit Go.Proofs.YtoedcnhgobbnfaaW.PrintWords Go.Proofs.YtoedcnhgobbnfaaW.PrintLast Go.Proofs.YtoedcnhgobbnfaaW.PrintMore
attribute [local go_sem] max2_int min2_int max_two min_two max_three min_three max_four min_four   -- for this text's walks alone
set_option linter.unusedVariables false
set_option linter.unusedSimpArgs false

/-! ### laws_szInstrS: function 81 -/
def laws_szInstrS.l0 : Nat → List (S140) → Int → Int → Option (Int)
 | 0, _, _, _ => none
 | k + 1, x0, x1, x5 => if x5 < (x0.length : Int) then (if 0 ≤ x5 then ((laws_szInstr.f ((rd_T140 x0 x5).f0) ((rd_T140 x0 x5).f1) ((rd_T140 x0 x5).f2) ((rd_T140 x0 x5).f3) ((rd_T140 x0 x5).f4) ((rd_T140 x0 x5).f5) ((rd_T140 x0 x5).f6) ((rd_T140 x0 x5).f7) ((rd_T140 x0 x5).f8) x1).bind fun t106 => (if t106 < 0 then (some (-1)) else (laws_szInstrS.l0 k x0 t106 (wrap64 (x5 + 1))))) else (none)) else (some x1)
def laws_szInstrS.f (k : Nat) (l0 : List (S140)) (a1 : Int) : Option (Int) := if (wrap64 (a1 - (l0.length : Int))) < 0 then (some (-1)) else (laws_szInstrS.l0 k l0 (wrap64 (a1 - (l0.length : Int))) 0)
set_option maxHeartbeats 8000000 in
set_option maxRecDepth 100000 in
theorem laws_szInstrS.calls (k : Nat) (A0 : Option Addr) (c0 : Nat) (l0 : List (S140)) (a1 : Int) (r : Int) (w : World) (hr0 : Kd.C k140 w A0 l0.length l0) (hc0 : l0.length ≤ c0) (h : laws_szInstrS.f k l0 a1 = some r) :
 Calls Try.prog 81 #[.slice A0 l0.length c0, .int .i64 a1] w fun e w' => e = .returned (.int .i64 r) ∧ Below w.heap.size w w' := by
 have hu140 := Try.underlying140
 have HR0 := Aside0.mk hr0
 have HC0 := Aside0.mk hc0
 clear hr0 hc0
 have HB := Aside0.mk (Below.refl w.heap.size w)
 have H : (if (wrap64 (a1 - (l0.length : Int))) < 0 then (some (-1)) else (laws_szInstrS.l0 k l0 (wrap64 (a1 - (l0.length : Int))) 0)) = some r := h
 clear h
 by_cases c3 : (wrap64 (a1 - (l0.length : Int))) < 0
 · rw [if_pos c3] at H
   have c3b0 : decide ((wrap64 (a1 - (l0.length : Int))) < 0) = true := decide_eq_true c3
   clear c3
   obtain rfl := Option.some.inj H
   go_enter Try.func81, Try.ntmps81
   go_wp2
   go_ret
   exact ⟨by first | rfl | (simp [errW_none, errW_some] <;> rfl) | (simp [*, errW_none, errW_some] <;> rfl), by repeat (first | (with_reducible first | exact HB.out | apply below_alloc | apply pw_below_drewN | apply below_drew1) | exact HB.out)⟩
 · rw [if_neg c3] at H
   have c3b0 : decide ((wrap64 (a1 - (l0.length : Int))) < 0) = false := decide_eq_false c3
   clear c3
   have H' := Aside0.mk H
   clear H
   go_enter Try.func81, Try.ntmps81
   go_wp2
   go_loopg [1, 5] k (fun kq v1 v5 w' => ∃ (x1_1 : Int) (x5_1 : Int), v1 = .int .i64 x1_1 ∧ v5 = .int .i64 x5_1 ∧ Aside0 (laws_szInstrS.l0 kq l0 x1_1 x5_1 = some r) ∧ Aside0 (kq ≤ k) ∧ Aside0 (Below w.heap.size w w'))
   case atStart => exact ⟨(wrap64 (a1 - (l0.length : Int))), (0), (by first | rfl | (simp; done) | (simp [*]; done)), (by first | rfl | (simp; done) | (simp [*]; done)), H', ⟨Nat.le_refl _⟩, ⟨by repeat (first | (with_reducible first | exact HB.out | apply below_alloc | apply pw_below_drewN | apply below_drew1) | exact HB.out)⟩⟩
   case round =>
    clear H'
    try clear p2
    try clear c3
    try clear c3b0
    obtain ⟨x1_1, x5_1, rfl, rfl, HA, HK1, HB⟩ := hrel
    cases gk with
    | zero => exact absurd HA.out (by simp [laws_szInstrS.l0])
    | succ k1 =>
     have H := HA.out
     clear HA
     simp only [laws_szInstrS.l0] at H
     by_cases c4 : x5_1 < (l0.length : Int)
     · rw [if_pos c4] at H
       have c4b0 : decide (x5_1 < (l0.length : Int)) = true := decide_eq_true c4
       clear c4
       by_cases c5 : 0 ≤ x5_1
       · rw [if_pos c5] at H
         have c5b0 : decide (0 ≤ x5_1) = true := decide_eq_true c5
         clear c5
         replace H := Option.bind_eq_some_iff.mp H
         obtain ⟨t106, A60, H⟩ := H
         replace H : (if t106 < 0 then (some (-1)) else (laws_szInstrS.l0 k1 l0 t106 (wrap64 (x5_1 + 1)))) = some r := H
         have A6 := Aside0.mk A60
         clear A60
         by_cases c7 : t106 < 0
         · rw [if_pos c7] at H
           have c7b0 : decide (t106 < 0) = true := decide_eq_true c7
           clear c7
           obtain rfl := Option.some.inj H
           have p105 : 0 ≤ (x5_1 : Int) := of_decide_eq_true (by first | (with_reducible assumption) | assumption)
           have q105 : x5_1 < (l0.length : Int) := of_decide_eq_true (by first | (with_reducible assumption) | assumption)
           obtain ⟨ad105, A105_6, c105_6, A105_7, c105_7, A105_8, c105_8, e105, hx105_0, hx105_1, hx105_2, hx105_3, hx105_4, hx105_5, hx105_6, hx105_7, hx105_8, hl105_6, hi105_6, hl105_7, hi105_7, hl105_8, hi105_8⟩ := at_T140 HR0.out x5_1 p105 q105
           cases e105
           replace hx105_0 := (HB.out.cell (World.block_lt_of_cell? w _ hx105_0)).trans hx105_0
           replace hx105_1 := (HB.out.cell (World.block_lt_of_cell? w _ hx105_1)).trans hx105_1
           replace hx105_2 := (HB.out.cell (World.block_lt_of_cell? w _ hx105_2)).trans hx105_2
           replace hx105_3 := (HB.out.cell (World.block_lt_of_cell? w _ hx105_3)).trans hx105_3
           replace hx105_4 := (HB.out.cell (World.block_lt_of_cell? w _ hx105_4)).trans hx105_4
           replace hx105_5 := (HB.out.cell (World.block_lt_of_cell? w _ hx105_5)).trans hx105_5
           replace hx105_6 := (HB.out.cell (World.block_lt_of_cell? w _ hx105_6)).trans hx105_6
           replace hx105_7 := (HB.out.cell (World.block_lt_of_cell? w _ hx105_7)).trans hx105_7
           replace hx105_8 := (HB.out.cell (World.block_lt_of_cell? w _ hx105_8)).trans hx105_8
           have HR105_6 := Aside0.mk hi105_6
           have HC105_6 := Aside0.mk hl105_6
           clear hi105_6 hl105_6
           have HR105_7 := Aside0.mk hi105_7
           have HC105_7 := Aside0.mk hl105_7
           clear hi105_7 hl105_7
           have HR105_8 := Aside0.mk hi105_8
           have HC105_8 := Aside0.mk hl105_8
           clear hi105_8 hl105_8
           replace p105 := eq_true p105
           replace q105 := eq_true q105
           go_wp2_with (first | ((with_reducible refine gate_callee (f := 107) rfl ?_); refine goesL_ (some 23) rfl rfl Try.func107 (by kernel_rfl) rfl #[.agg #[.int .i64 ((rd_T140 l0 x5_1).f0), .int .i64 ((rd_T140 l0 x5_1).f1), .int .i64 ((rd_T140 l0 x5_1).f2), .int .i64 ((rd_T140 l0 x5_1).f3), .int .i64 ((rd_T140 l0 x5_1).f4), .int .i64 ((rd_T140 l0 x5_1).f5), .slice A105_6 ((rd_T140 l0 x5_1).f6).length c105_6, .slice A105_7 ((rd_T140 l0 x5_1).f7).length c105_7, .slice A105_8 ((rd_T140 l0 x5_1).f8).length c105_8], .int .i64 x1_1] rfl (by (try simp only [List.map_toArray, List.map_cons, List.map_nil]); first | done | rfl | (simp only [List.length_drop, List.length_take]; rfl)) ?_; (with_reducible refine (laws_szInstr.calls ((rd_T140 l0 x5_1).f0) ((rd_T140 l0 x5_1).f1) ((rd_T140 l0 x5_1).f2) ((rd_T140 l0 x5_1).f3) ((rd_T140 l0 x5_1).f4) ((rd_T140 l0 x5_1).f5) _ _ ((rd_T140 l0 x5_1).f6) _ _ ((rd_T140 l0 x5_1).f7) _ _ ((rd_T140 l0 x5_1).f8) x1_1 t106 _ ?side1 ?side2 ?side3 ?side4 ?side5 ?side6 A6.out).mono ?_); (case side1 => repeat (first | exact (Kd.C_below HR105_6.out HB.out) | (with_reducible refine Kd.C_alloc ?_ _) | (with_reducible refine Kd.C_drewN ?_ _) | (with_reducible refine Kd.C_drew ?_))); (case side2 => exact HC105_6.out); (case side3 => repeat (first | exact (Kd.C_below HR105_7.out HB.out) | (with_reducible refine Kd.C_alloc ?_ _) | (with_reducible refine Kd.C_drewN ?_ _) | (with_reducible refine Kd.C_drew ?_))); (case side4 => exact HC105_7.out); (case side5 => repeat (first | exact (Kd.C_below HR105_8.out HB.out) | (with_reducible refine Kd.C_alloc ?_ _) | (with_reducible refine Kd.C_drewN ?_ _) | (with_reducible refine Kd.C_drew ?_))); (case side6 => exact HC105_8.out); rintro e w8 ⟨rfl, hb⟩; refine ⟨_, rfl, ?_⟩; have n0_ := Aside0.mk (below_step (by repeat (first | (with_reducible first | exact HB.out | apply below_alloc | apply pw_below_drewN | apply below_drew1) | exact HB.out)) hb); clear HB; have HB := n0_; clear n0_; (try clear hb); (try clear hb2); (try clear hk); (try clear hi)))
           go_ret
           exact ⟨by first | rfl | (simp [errW_none, errW_some] <;> rfl) | (simp [*, errW_none, errW_some] <;> rfl), by repeat (first | (with_reducible first | exact HB.out | apply below_alloc | apply pw_below_drewN | apply below_drew1) | exact HB.out)⟩
         · rw [if_neg c7] at H
           have c7b0 : decide (t106 < 0) = false := decide_eq_false c7
           clear c7
           have H' := Aside0.mk H
           clear H
           have p105 : 0 ≤ (x5_1 : Int) := of_decide_eq_true (by first | (with_reducible assumption) | assumption)
           have q105 : x5_1 < (l0.length : Int) := of_decide_eq_true (by first | (with_reducible assumption) | assumption)
           obtain ⟨ad105, A105_6, c105_6, A105_7, c105_7, A105_8, c105_8, e105, hx105_0, hx105_1, hx105_2, hx105_3, hx105_4, hx105_5, hx105_6, hx105_7, hx105_8, hl105_6, hi105_6, hl105_7, hi105_7, hl105_8, hi105_8⟩ := at_T140 HR0.out x5_1 p105 q105
           cases e105
           replace hx105_0 := (HB.out.cell (World.block_lt_of_cell? w _ hx105_0)).trans hx105_0
           replace hx105_1 := (HB.out.cell (World.block_lt_of_cell? w _ hx105_1)).trans hx105_1
           replace hx105_2 := (HB.out.cell (World.block_lt_of_cell? w _ hx105_2)).trans hx105_2
           replace hx105_3 := (HB.out.cell (World.block_lt_of_cell? w _ hx105_3)).trans hx105_3
           replace hx105_4 := (HB.out.cell (World.block_lt_of_cell? w _ hx105_4)).trans hx105_4
           replace hx105_5 := (HB.out.cell (World.block_lt_of_cell? w _ hx105_5)).trans hx105_5
           replace hx105_6 := (HB.out.cell (World.block_lt_of_cell? w _ hx105_6)).trans hx105_6
           replace hx105_7 := (HB.out.cell (World.block_lt_of_cell? w _ hx105_7)).trans hx105_7
           replace hx105_8 := (HB.out.cell (World.block_lt_of_cell? w _ hx105_8)).trans hx105_8
           have HR105_6 := Aside0.mk hi105_6
           have HC105_6 := Aside0.mk hl105_6
           clear hi105_6 hl105_6
           have HR105_7 := Aside0.mk hi105_7
           have HC105_7 := Aside0.mk hl105_7
           clear hi105_7 hl105_7
           have HR105_8 := Aside0.mk hi105_8
           have HC105_8 := Aside0.mk hl105_8
           clear hi105_8 hl105_8
           replace p105 := eq_true p105
           replace q105 := eq_true q105
           go_wp2_with (first | ((with_reducible refine gate_callee (f := 107) rfl ?_); refine goesL_ (some 23) rfl rfl Try.func107 (by kernel_rfl) rfl #[.agg #[.int .i64 ((rd_T140 l0 x5_1).f0), .int .i64 ((rd_T140 l0 x5_1).f1), .int .i64 ((rd_T140 l0 x5_1).f2), .int .i64 ((rd_T140 l0 x5_1).f3), .int .i64 ((rd_T140 l0 x5_1).f4), .int .i64 ((rd_T140 l0 x5_1).f5), .slice A105_6 ((rd_T140 l0 x5_1).f6).length c105_6, .slice A105_7 ((rd_T140 l0 x5_1).f7).length c105_7, .slice A105_8 ((rd_T140 l0 x5_1).f8).length c105_8], .int .i64 x1_1] rfl (by (try simp only [List.map_toArray, List.map_cons, List.map_nil]); first | done | rfl | (simp only [List.length_drop, List.length_take]; rfl)) ?_; (with_reducible refine (laws_szInstr.calls ((rd_T140 l0 x5_1).f0) ((rd_T140 l0 x5_1).f1) ((rd_T140 l0 x5_1).f2) ((rd_T140 l0 x5_1).f3) ((rd_T140 l0 x5_1).f4) ((rd_T140 l0 x5_1).f5) _ _ ((rd_T140 l0 x5_1).f6) _ _ ((rd_T140 l0 x5_1).f7) _ _ ((rd_T140 l0 x5_1).f8) x1_1 t106 _ ?side1 ?side2 ?side3 ?side4 ?side5 ?side6 A6.out).mono ?_); (case side1 => repeat (first | exact (Kd.C_below HR105_6.out HB.out) | (with_reducible refine Kd.C_alloc ?_ _) | (with_reducible refine Kd.C_drewN ?_ _) | (with_reducible refine Kd.C_drew ?_))); (case side2 => exact HC105_6.out); (case side3 => repeat (first | exact (Kd.C_below HR105_7.out HB.out) | (with_reducible refine Kd.C_alloc ?_ _) | (with_reducible refine Kd.C_drewN ?_ _) | (with_reducible refine Kd.C_drew ?_))); (case side4 => exact HC105_7.out); (case side5 => repeat (first | exact (Kd.C_below HR105_8.out HB.out) | (with_reducible refine Kd.C_alloc ?_ _) | (with_reducible refine Kd.C_drewN ?_ _) | (with_reducible refine Kd.C_drew ?_))); (case side6 => exact HC105_8.out); rintro e w9 ⟨rfl, hb⟩; refine ⟨_, rfl, ?_⟩; have n0_ := Aside0.mk (below_step (by repeat (first | (with_reducible first | exact HB.out | apply below_alloc | apply pw_below_drewN | apply below_drew1) | exact HB.out)) hb); clear HB; have HB := n0_; clear n0_; (try clear hb); (try clear hb2); (try clear hk); (try clear hi)))
           go_roundg k1
           case measure => have := HK1.out; omega
           case rel => exact ⟨(t106), (wrap64 (x5_1 + 1)), (by first | rfl | (simp; done) | (simp [*]; done)), (by first | rfl | (simp; done) | (simp [*]; done)), H', ⟨by have := HK1.out; omega⟩, ⟨by repeat (first | (with_reducible first | exact HB.out | apply below_alloc | apply pw_below_drewN | apply below_drew1) | exact HB.out)⟩⟩
       · rw [if_neg c5] at H
         exact absurd H (by simp)
     · rw [if_neg c4] at H
       have c4b0 : decide (x5_1 < (l0.length : Int)) = false := decide_eq_false c4
       clear c4
       obtain rfl := Option.some.inj H
       go_wp2
       go_ret
       exact ⟨by first | rfl | (simp [errW_none, errW_some] <;> rfl) | (simp [*, errW_none, errW_some] <;> rfl), by repeat (first | (with_reducible first | exact HB.out | apply below_alloc | apply pw_below_drewN | apply below_drew1) | exact HB.out)⟩

end Go.Proofs.Ytoedcnhgobbnfaa.All


namespace Go.Proofs.Ytoedcnhgobbnfaa.All
open Go.RowKit Go.Proofs.YtoedcnhgobbnfaaW.PrintWords Go.Proofs.YtoedcnhgobbnfaaW.PrintLast Go.Proofs.YtoedcnhgobbnfaaW.PrintMore
attribute [local go_sem] max2_int min2_int max_two min_two max_three min_three max_four min_four   -- for this text's walks alone
set_option linter.unusedVariables false
set_option linter.unusedSimpArgs false

/-! ### laws_szBlock: function 69 -/
def laws_szBlock.f (k : Nat) (l0_0 : List (S140)) (a1 : Int) : Option (Int) := (laws_szInstrS.f k l0_0 a1).bind fun t108 => (if t108 < 0 then (some (-1)) else (some t108))
set_option maxHeartbeats 8000000 in
set_option maxRecDepth 100000 in
theorem laws_szBlock.calls (k : Nat) (A0_0 : Option Addr) (c0_0 : Nat) (l0_0 : List (S140)) (a1 : Int) (r : Int) (w : World) (hr0_0 : Kd.C k140 w A0_0 l0_0.length l0_0) (hc0_0 : l0_0.length ≤ c0_0) (h : laws_szBlock.f k l0_0 a1 = some r) :
 Calls Try.prog 69 #[.agg #[.slice A0_0 l0_0.length c0_0], .int .i64 a1] w fun e w' => e = .returned (.int .i64 r) ∧ Below w.heap.size w w' := by
 have hu96 := Try.underlying96
 have HR0_0 := Aside0.mk hr0_0
 have HC0_0 := Aside0.mk hc0_0
 clear hr0_0 hc0_0
 have HB := Aside0.mk (Below.refl w.heap.size w)
 have H : ((laws_szInstrS.f k l0_0 a1).bind fun t108 => (if t108 < 0 then (some (-1)) else (some t108))) = some r := h
 clear h
 replace H := Option.bind_eq_some_iff.mp H
 obtain ⟨t108, A30, H⟩ := H
 replace H : (if t108 < 0 then (some (-1)) else (some t108)) = some r := H
 have A3 := Aside0.mk A30
 clear A30
 by_cases c4 : t108 < 0
 · rw [if_pos c4] at H
   have c4b0 : decide (t108 < 0) = true := decide_eq_true c4
   clear c4
   obtain rfl := Option.some.inj H
   go_enter Try.func69, Try.ntmps69
   go_wp2_with (first | ((with_reducible refine gate_dst (N := 2) rfl ?_); refine box_event ?hg (N := 2) ?hd (cs := #[.slice A0_0 l0_0.length c0_0]) (t := 96) ?hr ?_; (case hd => rfl); (case hg => rfl); (case hr => first | (go_simp; done) | (go_simp; rfl)); intro gb107 hg w5 hbox hb; have n0_ := Aside0.mk (below_step (by repeat (first | (with_reducible first | exact HB.out | apply below_alloc | apply pw_below_drewN | apply below_drew1) | exact HB.out)) hb); have n1_ := Aside0.mk (hbox); have n2_ := Aside0.mk ((by rw [hg]; exact (below_size (by repeat (first | (with_reducible first | exact HB.out | apply below_alloc | apply pw_below_drewN | apply below_drew1) | exact HB.out))) : w.heap.size ≤ gb107)); have n3_ := Aside0.mk ((by rw [hg]; exact (below_size (by repeat (first | (with_reducible first | exact HB.out | apply below_alloc | apply pw_below_drewN | apply below_drew1) | exact HB.out))) : w.heap.size ≤ gb107)); clear HB; have HB := n0_; have BK107 := n1_; have GW107 := n2_; have GE107 := n3_; clear n0_ n1_ n2_ n3_; clear hb hbox hg; have hcz6_0 : w5.cell? ⟨gb107, 0, none⟩ = some (.slice A0_0 l0_0.length c0_0) := (blk_cell BK107.out 0).trans rfl; have hfz6_0 := blk_frozen BK107.out 0) | ((with_reducible refine gate_callee (f := 81) rfl ?_); refine goesL_ (some 8) rfl rfl Try.func81 (by kernel_rfl) rfl #[.slice A0_0 l0_0.length c0_0, .int .i64 a1] rfl (by (try simp only [List.map_toArray, List.map_cons, List.map_nil]); first | done | rfl | (simp only [List.length_drop, List.length_take]; rfl)) ?_; (with_reducible refine (laws_szInstrS.calls k _ _ l0_0 a1 t108 _ ?side1 ?side2 A3.out).mono ?_); (case side1 => repeat (first | exact (Kd.C_below HR0_0.out HB.out) | (with_reducible refine Kd.C_alloc ?_ _) | (with_reducible refine Kd.C_drewN ?_ _) | (with_reducible refine Kd.C_drew ?_))); (case side2 => exact HC0_0.out); rintro e w7 ⟨rfl, hb⟩; refine ⟨_, rfl, ?_⟩; have n0_ := Aside0.mk (blk_below (g := gb107) (o := .cells #[.slice A0_0 l0_0.length c0_0] 96 (0, 0)) (by (with_reducible repeat (first | refine blk_drewN ?_ _ | refine blk_drew ?_ | refine blk_alloc ?_ _)); exact BK107.out) hb); have n1_ := Aside0.mk (below_step (by repeat (first | (with_reducible first | exact HB.out | apply below_alloc | apply pw_below_drewN | apply below_drew1 | refine below_set ?_ GE107.out) | exact HB.out)) hb); clear BK107; clear HB; have BK107 := n0_; have HB := n1_; clear n0_ n1_; (try clear hb); (try clear hb2); (try clear hk); (try clear hi)))
   go_ret
   exact ⟨by first | rfl | (simp [errW_none, errW_some] <;> rfl) | (simp [*, errW_none, errW_some] <;> rfl), by repeat (first | (with_reducible first | exact HB.out | apply below_alloc | apply pw_below_drewN | apply below_drew1 | refine below_set ?_ GE107.out) | exact HB.out)⟩
 · rw [if_neg c4] at H
   have c4b0 : decide (t108 < 0) = false := decide_eq_false c4
   clear c4
   obtain rfl := Option.some.inj H
   go_enter Try.func69, Try.ntmps69
   go_wp2_with (first | ((with_reducible refine gate_dst (N := 2) rfl ?_); refine box_event ?hg (N := 2) ?hd (cs := #[.slice A0_0 l0_0.length c0_0]) (t := 96) ?hr ?_; (case hd => rfl); (case hg => rfl); (case hr => first | (go_simp; done) | (go_simp; rfl)); intro gb107 hg w8 hbox hb; have n0_ := Aside0.mk (below_step (by repeat (first | (with_reducible first | exact HB.out | apply below_alloc | apply pw_below_drewN | apply below_drew1) | exact HB.out)) hb); have n1_ := Aside0.mk (hbox); have n2_ := Aside0.mk ((by rw [hg]; exact (below_size (by repeat (first | (with_reducible first | exact HB.out | apply below_alloc | apply pw_below_drewN | apply below_drew1) | exact HB.out))) : w.heap.size ≤ gb107)); have n3_ := Aside0.mk ((by rw [hg]; exact (below_size (by repeat (first | (with_reducible first | exact HB.out | apply below_alloc | apply pw_below_drewN | apply below_drew1) | exact HB.out))) : w.heap.size ≤ gb107)); clear HB; have HB := n0_; have BK107 := n1_; have GW107 := n2_; have GE107 := n3_; clear n0_ n1_ n2_ n3_; clear hb hbox hg; have hcz9_0 : w8.cell? ⟨gb107, 0, none⟩ = some (.slice A0_0 l0_0.length c0_0) := (blk_cell BK107.out 0).trans rfl; have hfz9_0 := blk_frozen BK107.out 0) | ((with_reducible refine gate_callee (f := 81) rfl ?_); refine goesL_ (some 8) rfl rfl Try.func81 (by kernel_rfl) rfl #[.slice A0_0 l0_0.length c0_0, .int .i64 a1] rfl (by (try simp only [List.map_toArray, List.map_cons, List.map_nil]); first | done | rfl | (simp only [List.length_drop, List.length_take]; rfl)) ?_; (with_reducible refine (laws_szInstrS.calls k _ _ l0_0 a1 t108 _ ?side1 ?side2 A3.out).mono ?_); (case side1 => repeat (first | exact (Kd.C_below HR0_0.out HB.out) | (with_reducible refine Kd.C_alloc ?_ _) | (with_reducible refine Kd.C_drewN ?_ _) | (with_reducible refine Kd.C_drew ?_))); (case side2 => exact HC0_0.out); rintro e w10 ⟨rfl, hb⟩; refine ⟨_, rfl, ?_⟩; have n0_ := Aside0.mk (blk_below (g := gb107) (o := .cells #[.slice A0_0 l0_0.length c0_0] 96 (0, 0)) (by (with_reducible repeat (first | refine blk_drewN ?_ _ | refine blk_drew ?_ | refine blk_alloc ?_ _)); exact BK107.out) hb); have n1_ := Aside0.mk (below_step (by repeat (first | (with_reducible first | exact HB.out | apply below_alloc | apply pw_below_drewN | apply below_drew1 | refine below_set ?_ GE107.out) | exact HB.out)) hb); clear BK107; clear HB; have BK107 := n0_; have HB := n1_; clear n0_ n1_; (try clear hb); (try clear hb2); (try clear hk); (try clear hi)))
   go_ret
   exact ⟨by first | rfl | (simp [errW_none, errW_some] <;> rfl) | (simp [*, errW_none, errW_some] <;> rfl), by repeat (first | (with_reducible first | exact HB.out | apply below_alloc | apply pw_below_drewN | apply below_drew1 | refine below_set ?_ GE107.out) | exact HB.out)⟩

end Go.Proofs.Ytoedcnhgobbnfaa.All


namespace Go.Proofs.Ytoedcnhgobbnfaa.All
open Go.RowKit Go.Proofs.YtoedcnhgobbnfaaW.PrintWords Go.Proofs.YtoedcnhgobbnfaaW.PrintLast Go.Proofs.YtoedcnhgobbnfaaW.PrintMore
attribute [local go_sem] max2_int min2_int max_two min_two max_three min_three max_four min_four   -- for this text's walks alone
set_option linter.unusedVariables false
set_option linter.unusedSimpArgs false

/-! ### laws_szBlockS: function 44 -/
def laws_szBlockS.l0 : Nat → List (S96) → Int → Int → Option (Int)
 | 0, _, _, _ => none
 | k + 1, x0, x1, x5 => if x5 < (x0.length : Int) then (if 0 ≤ x5 then ((laws_szBlock.f k ((rd_T96 x0 x5).f0) x1).bind fun t110 => (if t110 < 0 then (some (-1)) else (laws_szBlockS.l0 k x0 t110 (wrap64 (x5 + 1))))) else (none)) else (some x1)
def laws_szBlockS.f (k : Nat) (l0 : List (S96)) (a1 : Int) : Option (Int) := if (wrap64 (a1 - (l0.length : Int))) < 0 then (some (-1)) else (laws_szBlockS.l0 k l0 (wrap64 (a1 - (l0.length : Int))) 0)
set_option maxHeartbeats 8000000 in
set_option maxRecDepth 100000 in
theorem laws_szBlockS.calls (k : Nat) (A0 : Option Addr) (c0 : Nat) (l0 : List (S96)) (a1 : Int) (r : Int) (w : World) (hr0 : Kd.C k96 w A0 l0.length l0) (hc0 : l0.length ≤ c0) (h : laws_szBlockS.f k l0 a1 = some r) :
 Calls Try.prog 44 #[.slice A0 l0.length c0, .int .i64 a1] w fun e w' => e = .returned (.int .i64 r) ∧ Below w.heap.size w w' := by
 have hu96 := Try.underlying96
 have HR0 := Aside0.mk hr0
 have HC0 := Aside0.mk hc0
 clear hr0 hc0
 have HB := Aside0.mk (Below.refl w.heap.size w)
 have H : (if (wrap64 (a1 - (l0.length : Int))) < 0 then (some (-1)) else (laws_szBlockS.l0 k l0 (wrap64 (a1 - (l0.length : Int))) 0)) = some r := h
 clear h
 by_cases c3 : (wrap64 (a1 - (l0.length : Int))) < 0
 · rw [if_pos c3] at H
   have c3b0 : decide ((wrap64 (a1 - (l0.length : Int))) < 0) = true := decide_eq_true c3
   clear c3
   obtain rfl := Option.some.inj H
   go_enter Try.func44, Try.ntmps44
   go_wp2
   go_ret
   exact ⟨by first | rfl | (simp [errW_none, errW_some] <;> rfl) | (simp [*, errW_none, errW_some] <;> rfl), by repeat (first | (with_reducible first | exact HB.out | apply below_alloc | apply pw_below_drewN | apply below_drew1) | exact HB.out)⟩
 · rw [if_neg c3] at H
   have c3b0 : decide ((wrap64 (a1 - (l0.length : Int))) < 0) = false := decide_eq_false c3
   clear c3
   have H' := Aside0.mk H
   clear H
   go_enter Try.func44, Try.ntmps44
   go_wp2
   go_loopg [1, 5] k (fun kq v1 v5 w' => ∃ (x1_1 : Int) (x5_1 : Int), v1 = .int .i64 x1_1 ∧ v5 = .int .i64 x5_1 ∧ Aside0 (laws_szBlockS.l0 kq l0 x1_1 x5_1 = some r) ∧ Aside0 (kq ≤ k) ∧ Aside0 (Below w.heap.size w w'))
   case atStart => exact ⟨(wrap64 (a1 - (l0.length : Int))), (0), (by first | rfl | (simp; done) | (simp [*]; done)), (by first | rfl | (simp; done) | (simp [*]; done)), H', ⟨Nat.le_refl _⟩, ⟨by repeat (first | (with_reducible first | exact HB.out | apply below_alloc | apply pw_below_drewN | apply below_drew1) | exact HB.out)⟩⟩
   case round =>
    clear H'
    try clear p2
    try clear c3
    try clear c3b0
    obtain ⟨x1_1, x5_1, rfl, rfl, HA, HK1, HB⟩ := hrel
    cases gk with
    | zero => exact absurd HA.out (by simp [laws_szBlockS.l0])
    | succ k1 =>
     have H := HA.out
     clear HA
     simp only [laws_szBlockS.l0] at H
     by_cases c4 : x5_1 < (l0.length : Int)
     · rw [if_pos c4] at H
       have c4b0 : decide (x5_1 < (l0.length : Int)) = true := decide_eq_true c4
       clear c4
       by_cases c5 : 0 ≤ x5_1
       · rw [if_pos c5] at H
         have c5b0 : decide (0 ≤ x5_1) = true := decide_eq_true c5
         clear c5
         replace H := Option.bind_eq_some_iff.mp H
         obtain ⟨t110, A60, H⟩ := H
         replace H : (if t110 < 0 then (some (-1)) else (laws_szBlockS.l0 k1 l0 t110 (wrap64 (x5_1 + 1)))) = some r := H
         have A6 := Aside0.mk A60
         clear A60
         by_cases c7 : t110 < 0
         · rw [if_pos c7] at H
           have c7b0 : decide (t110 < 0) = true := decide_eq_true c7
           clear c7
           obtain rfl := Option.some.inj H
           have p109 : 0 ≤ (x5_1 : Int) := of_decide_eq_true (by first | (with_reducible assumption) | assumption)
           have q109 : x5_1 < (l0.length : Int) := of_decide_eq_true (by first | (with_reducible assumption) | assumption)
           obtain ⟨ad109, A109_0, c109_0, e109, hx109_0, hl109_0, hi109_0⟩ := at_T96 HR0.out x5_1 p109 q109
           cases e109
           replace hx109_0 := (HB.out.cell (World.block_lt_of_cell? w _ hx109_0)).trans hx109_0
           have HR109_0 := Aside0.mk hi109_0
           have HC109_0 := Aside0.mk hl109_0
           clear hi109_0 hl109_0
           replace p109 := eq_true p109
           replace q109 := eq_true q109
           go_wp2_with (first | ((with_reducible refine gate_callee (f := 69) rfl ?_); refine goesL_ (some 23) rfl rfl Try.func69 (by kernel_rfl) rfl #[.agg #[.slice A109_0 ((rd_T96 l0 x5_1).f0).length c109_0], .int .i64 x1_1] rfl (by (try simp only [List.map_toArray, List.map_cons, List.map_nil]); first | done | rfl | (simp only [List.length_drop, List.length_take]; rfl)) ?_; (with_reducible refine (laws_szBlock.calls k1 _ _ ((rd_T96 l0 x5_1).f0) x1_1 t110 _ ?side1 ?side2 A6.out).mono ?_); (case side1 => repeat (first | exact (Kd.C_below HR109_0.out HB.out) | (with_reducible refine Kd.C_alloc ?_ _) | (with_reducible refine Kd.C_drewN ?_ _) | (with_reducible refine Kd.C_drew ?_))); (case side2 => exact HC109_0.out); rintro e w8 ⟨rfl, hb⟩; refine ⟨_, rfl, ?_⟩; have n0_ := Aside0.mk (below_step (by repeat (first | (with_reducible first | exact HB.out | apply below_alloc | apply pw_below_drewN | apply below_drew1) | exact HB.out)) hb); clear HB; have HB := n0_; clear n0_; (try clear hb); (try clear hb2); (try clear hk); (try clear hi)))
           go_ret
           exact ⟨by first | rfl | (simp [errW_none, errW_some] <;> rfl) | (simp [*, errW_none, errW_some] <;> rfl), by repeat (first | (with_reducible first | exact HB.out | apply below_alloc | apply pw_below_drewN | apply below_drew1) | exact HB.out)⟩
         · rw [if_neg c7] at H
           have c7b0 : decide (t110 < 0) = false := decide_eq_false c7
           clear c7
           have H' := Aside0.mk H
           clear H
           have p109 : 0 ≤ (x5_1 : Int) := of_decide_eq_true (by first | (with_reducible assumption) | assumption)
           have q109 : x5_1 < (l0.length : Int) := of_decide_eq_true (by first | (with_reducible assumption) | assumption)
           obtain ⟨ad109, A109_0, c109_0, e109, hx109_0, hl109_0, hi109_0⟩ := at_T96 HR0.out x5_1 p109 q109
           cases e109
           replace hx109_0 := (HB.out.cell (World.block_lt_of_cell? w _ hx109_0)).trans hx109_0
           have HR109_0 := Aside0.mk hi109_0
           have HC109_0 := Aside0.mk hl109_0
           clear hi109_0 hl109_0
           replace p109 := eq_true p109
           replace q109 := eq_true q109
           go_wp2_with (first | ((with_reducible refine gate_callee (f := 69) rfl ?_); refine goesL_ (some 23) rfl rfl Try.func69 (by kernel_rfl) rfl #[.agg #[.slice A109_0 ((rd_T96 l0 x5_1).f0).length c109_0], .int .i64 x1_1] rfl (by (try simp only [List.map_toArray, List.map_cons, List.map_nil]); first | done | rfl | (simp only [List.length_drop, List.length_take]; rfl)) ?_; (with_reducible refine (laws_szBlock.calls k1 _ _ ((rd_T96 l0 x5_1).f0) x1_1 t110 _ ?side1 ?side2 A6.out).mono ?_); (case side1 => repeat (first | exact (Kd.C_below HR109_0.out HB.out) | (with_reducible refine Kd.C_alloc ?_ _) | (with_reducible refine Kd.C_drewN ?_ _) | (with_reducible refine Kd.C_drew ?_))); (case side2 => exact HC109_0.out); rintro e w9 ⟨rfl, hb⟩; refine ⟨_, rfl, ?_⟩; have n0_ := Aside0.mk (below_step (by repeat (first | (with_reducible first | exact HB.out | apply below_alloc | apply pw_below_drewN | apply below_drew1) | exact HB.out)) hb); clear HB; have HB := n0_; clear n0_; (try clear hb); (try clear hb2); (try clear hk); (try clear hi)))
           go_roundg k1
           case measure => have := HK1.out; omega
           case rel => exact ⟨(t110), (wrap64 (x5_1 + 1)), (by first | rfl | (simp; done) | (simp [*]; done)), (by first | rfl | (simp; done) | (simp [*]; done)), H', ⟨by have := HK1.out; omega⟩, ⟨by repeat (first | (with_reducible first | exact HB.out | apply below_alloc | apply pw_below_drewN | apply below_drew1) | exact HB.out)⟩⟩
       · rw [if_neg c5] at H
         exact absurd H (by simp)
     · rw [if_neg c4] at H
       have c4b0 : decide (x5_1 < (l0.length : Int)) = false := decide_eq_false c4
       clear c4
       obtain rfl := Option.some.inj H
       go_wp2
       go_ret
       exact ⟨by first | rfl | (simp [errW_none, errW_some] <;> rfl) | (simp [*, errW_none, errW_some] <;> rfl), by repeat (first | (with_reducible first | exact HB.out | apply below_alloc | apply pw_below_drewN | apply below_drew1) | exact HB.out)⟩

end Go.Proofs.Ytoedcnhgobbnfaa.All


namespace Go.Proofs.Ytoedcnhgobbnfaa.All
open Go.RowKit Go.Proofs.YtoedcnhgobbnfaaW.PrintWords Go.Proofs.YtoedcnhgobbnfaaW.PrintLast Go.Proofs.YtoedcnhgobbnfaaW.PrintMore
attribute [local go_sem] max2_int min2_int max_two min_two max_three min_three max_four min_four   -- for this text's walks alone
set_option linter.unusedVariables false
set_option linter.unusedSimpArgs false

/-! ### laws_szFunc: function 12 -/
def laws_szFunc.f (k : Nat) (a0_0 : ByteArray) (a0_1 : Int) (l0_2 : List Int) (a0_3 : Int) (l0_4 : List (S96)) (a1 : Int) : Option (Int) := if (wrap64 (a1 - (a0_0.size : Int))) < 0 then (some (-1)) else ((laws_szInt64S.f l0_2 (wrap64 (a1 - (a0_0.size : Int)))).bind fun t112 => (if t112 < 0 then (some (-1)) else ((laws_szBlockS.f k l0_4 t112).bind fun t113 => (if t113 < 0 then (some (-1)) else (some t113)))))
set_option maxHeartbeats 8000000 in
set_option maxRecDepth 100000 in
theorem laws_szFunc.calls (k : Nat) (a0_0 : ByteArray) (a0_1 : Int) (A0_2 : Option Addr) (c0_2 : Nat) (l0_2 : List Int) (a0_3 : Int) (A0_4 : Option Addr) (c0_4 : Nat) (l0_4 : List (S96)) (a1 : Int) (r : Int) (w : World) (hr0_2 : Kd.C (Kd.int .i64) w A0_2 l0_2.length l0_2) (hc0_2 : l0_2.length ≤ c0_2) (hr0_4 : Kd.C k96 w A0_4 l0_4.length l0_4) (hc0_4 : l0_4.length ≤ c0_4) (h : laws_szFunc.f k a0_0 a0_1 l0_2 a0_3 l0_4 a1 = some r) :
 Calls Try.prog 12 #[.agg #[.string a0_0, .int .i64 a0_1, .slice A0_2 l0_2.length c0_2, .int .i64 a0_3, .slice A0_4 l0_4.length c0_4], .int .i64 a1] w fun e w' => e = .returned (.int .i64 r) ∧ Below w.heap.size w w' := by
 have hu25 := Try.underlying25
 have HR0_2 := Aside0.mk hr0_2
 have HC0_2 := Aside0.mk hc0_2
 clear hr0_2 hc0_2
 have HR0_4 := Aside0.mk hr0_4
 have HC0_4 := Aside0.mk hc0_4
 clear hr0_4 hc0_4
 have HB := Aside0.mk (Below.refl w.heap.size w)
 have H : (if (wrap64 (a1 - (a0_0.size : Int))) < 0 then (some (-1)) else ((laws_szInt64S.f l0_2 (wrap64 (a1 - (a0_0.size : Int)))).bind fun t112 => (if t112 < 0 then (some (-1)) else ((laws_szBlockS.f k l0_4 t112).bind fun t113 => (if t113 < 0 then (some (-1)) else (some t113)))))) = some r := h
 clear h
 by_cases c3 : (wrap64 (a1 - (a0_0.size : Int))) < 0
 · rw [if_pos c3] at H
   have c3b0 : decide ((wrap64 (a1 - (a0_0.size : Int))) < 0) = true := decide_eq_true c3
   clear c3
   obtain rfl := Option.some.inj H
   go_enter Try.func12, Try.ntmps12
   go_wp2_with (first | ((with_reducible refine gate_dst (N := 2) rfl ?_); refine box_event ?hg (N := 2) ?hd (cs := #[.string a0_0, .int .i64 a0_1, .slice A0_2 l0_2.length c0_2, .int .i64 a0_3, .slice A0_4 l0_4.length c0_4]) (t := 25) ?hr ?_; (case hd => rfl); (case hg => rfl); (case hr => first | (go_simp; done) | (go_simp; rfl)); intro gb111 hg w4 hbox hb; have n0_ := Aside0.mk (below_step (by repeat (first | (with_reducible first | exact HB.out | apply below_alloc | apply pw_below_drewN | apply below_drew1) | exact HB.out)) hb); have n1_ := Aside0.mk (hbox); have n2_ := Aside0.mk ((by rw [hg]; exact (below_size (by repeat (first | (with_reducible first | exact HB.out | apply below_alloc | apply pw_below_drewN | apply below_drew1) | exact HB.out))) : w.heap.size ≤ gb111)); have n3_ := Aside0.mk ((by rw [hg]; exact (below_size (by repeat (first | (with_reducible first | exact HB.out | apply below_alloc | apply pw_below_drewN | apply below_drew1) | exact HB.out))) : w.heap.size ≤ gb111)); clear HB; have HB := n0_; have BK111 := n1_; have GW111 := n2_; have GE111 := n3_; clear n0_ n1_ n2_ n3_; clear hb hbox hg; have hcz5_0 : w4.cell? ⟨gb111, 0, none⟩ = some (.string a0_0) := (blk_cell BK111.out 0).trans rfl; have hcz5_1 : w4.cell? ⟨gb111, 1, none⟩ = some (.int .i64 a0_1) := (blk_cell BK111.out 1).trans rfl; have hcz5_2 : w4.cell? ⟨gb111, 2, none⟩ = some (.slice A0_2 l0_2.length c0_2) := (blk_cell BK111.out 2).trans rfl; have hcz5_3 : w4.cell? ⟨gb111, 3, none⟩ = some (.int .i64 a0_3) := (blk_cell BK111.out 3).trans rfl; have hcz5_4 : w4.cell? ⟨gb111, 4, none⟩ = some (.slice A0_4 l0_4.length c0_4) := (blk_cell BK111.out 4).trans rfl; have hfz5_0 := blk_frozen BK111.out 0; have hfz5_1 := blk_frozen BK111.out 1; have hfz5_2 := blk_frozen BK111.out 2; have hfz5_3 := blk_frozen BK111.out 3; have hfz5_4 := blk_frozen BK111.out 4))
   go_ret
   exact ⟨by first | rfl | (simp [errW_none, errW_some] <;> rfl) | (simp [*, errW_none, errW_some] <;> rfl), by repeat (first | (with_reducible first | exact HB.out | apply below_alloc | apply pw_below_drewN | apply below_drew1 | refine below_set ?_ GE111.out) | exact HB.out)⟩
 · rw [if_neg c3] at H
   have c3b0 : decide ((wrap64 (a1 - (a0_0.size : Int))) < 0) = false := decide_eq_false c3
   clear c3
   replace H := Option.bind_eq_some_iff.mp H
   obtain ⟨t112, A60, H⟩ := H
   replace H : (if t112 < 0 then (some (-1)) else ((laws_szBlockS.f k l0_4 t112).bind fun t113 => (if t113 < 0 then (some (-1)) else (some t113)))) = some r := H
   have A6 := Aside0.mk A60
   clear A60
   by_cases c7 : t112 < 0
   · rw [if_pos c7] at H
     have c7b0 : decide (t112 < 0) = true := decide_eq_true c7
     clear c7
     obtain rfl := Option.some.inj H
     go_enter Try.func12, Try.ntmps12
     go_wp2_with (first | ((with_reducible refine gate_dst (N := 2) rfl ?_); refine box_event ?hg (N := 2) ?hd (cs := #[.string a0_0, .int .i64 a0_1, .slice A0_2 l0_2.length c0_2, .int .i64 a0_3, .slice A0_4 l0_4.length c0_4]) (t := 25) ?hr ?_; (case hd => rfl); (case hg => rfl); (case hr => first | (go_simp; done) | (go_simp; rfl)); intro gb111 hg w8 hbox hb; have n0_ := Aside0.mk (below_step (by repeat (first | (with_reducible first | exact HB.out | apply below_alloc | apply pw_below_drewN | apply below_drew1) | exact HB.out)) hb); have n1_ := Aside0.mk (hbox); have n2_ := Aside0.mk ((by rw [hg]; exact (below_size (by repeat (first | (with_reducible first | exact HB.out | apply below_alloc | apply pw_below_drewN | apply below_drew1) | exact HB.out))) : w.heap.size ≤ gb111)); have n3_ := Aside0.mk ((by rw [hg]; exact (below_size (by repeat (first | (with_reducible first | exact HB.out | apply below_alloc | apply pw_below_drewN | apply below_drew1) | exact HB.out))) : w.heap.size ≤ gb111)); clear HB; have HB := n0_; have BK111 := n1_; have GW111 := n2_; have GE111 := n3_; clear n0_ n1_ n2_ n3_; clear hb hbox hg; have hcz9_0 : w8.cell? ⟨gb111, 0, none⟩ = some (.string a0_0) := (blk_cell BK111.out 0).trans rfl; have hcz9_1 : w8.cell? ⟨gb111, 1, none⟩ = some (.int .i64 a0_1) := (blk_cell BK111.out 1).trans rfl; have hcz9_2 : w8.cell? ⟨gb111, 2, none⟩ = some (.slice A0_2 l0_2.length c0_2) := (blk_cell BK111.out 2).trans rfl; have hcz9_3 : w8.cell? ⟨gb111, 3, none⟩ = some (.int .i64 a0_3) := (blk_cell BK111.out 3).trans rfl; have hcz9_4 : w8.cell? ⟨gb111, 4, none⟩ = some (.slice A0_4 l0_4.length c0_4) := (blk_cell BK111.out 4).trans rfl; have hfz9_0 := blk_frozen BK111.out 0; have hfz9_1 := blk_frozen BK111.out 1; have hfz9_2 := blk_frozen BK111.out 2; have hfz9_3 := blk_frozen BK111.out 3; have hfz9_4 := blk_frozen BK111.out 4) | ((with_reducible refine gate_callee (f := 43) rfl ?_); refine goesL_ (some 15) rfl rfl Try.func43 (by kernel_rfl) rfl #[.slice A0_2 l0_2.length c0_2, .int .i64 (wrap64 (a1 - (a0_0.size : Int)))] rfl (by (try simp only [List.map_toArray, List.map_cons, List.map_nil]); first | done | rfl | (simp only [List.length_drop, List.length_take]; rfl)) ?_; (with_reducible refine (laws_szInt64S.calls _ _ l0_2 (wrap64 (a1 - (a0_0.size : Int))) t112 _ ?side1 ?side2 A6.out).mono ?_); (case side1 => repeat (first | exact (Kd.C_below HR0_2.out HB.out) | (with_reducible refine Kd.C_alloc ?_ _) | (with_reducible refine Kd.C_drewN ?_ _) | (with_reducible refine Kd.C_drew ?_))); (case side2 => exact HC0_2.out); rintro e w' ⟨rfl, ⟨nd, rfl⟩⟩; refine ⟨_, rfl, ?_⟩))
     go_ret
     exact ⟨by first | rfl | (simp [errW_none, errW_some] <;> rfl) | (simp [*, errW_none, errW_some] <;> rfl), by repeat (first | (with_reducible first | exact HB.out | apply below_alloc | apply pw_below_drewN | apply below_drew1 | refine below_set ?_ GE111.out) | exact HB.out)⟩
   · rw [if_neg c7] at H
     have c7b0 : decide (t112 < 0) = false := decide_eq_false c7
     clear c7
     replace H := Option.bind_eq_some_iff.mp H
     obtain ⟨t113, A100, H⟩ := H
     replace H : (if t113 < 0 then (some (-1)) else (some t113)) = some r := H
     have A10 := Aside0.mk A100
     clear A100
     by_cases c11 : t113 < 0
     · rw [if_pos c11] at H
       have c11b0 : decide (t113 < 0) = true := decide_eq_true c11
       clear c11
       obtain rfl := Option.some.inj H
       go_enter Try.func12, Try.ntmps12
       go_wp2_with (first | ((with_reducible refine gate_dst (N := 2) rfl ?_); refine box_event ?hg (N := 2) ?hd (cs := #[.string a0_0, .int .i64 a0_1, .slice A0_2 l0_2.length c0_2, .int .i64 a0_3, .slice A0_4 l0_4.length c0_4]) (t := 25) ?hr ?_; (case hd => rfl); (case hg => rfl); (case hr => first | (go_simp; done) | (go_simp; rfl)); intro gb111 hg w12 hbox hb; have n0_ := Aside0.mk (below_step (by repeat (first | (with_reducible first | exact HB.out | apply below_alloc | apply pw_below_drewN | apply below_drew1) | exact HB.out)) hb); have n1_ := Aside0.mk (hbox); have n2_ := Aside0.mk ((by rw [hg]; exact (below_size (by repeat (first | (with_reducible first | exact HB.out | apply below_alloc | apply pw_below_drewN | apply below_drew1) | exact HB.out))) : w.heap.size ≤ gb111)); have n3_ := Aside0.mk ((by rw [hg]; exact (below_size (by repeat (first | (with_reducible first | exact HB.out | apply below_alloc | apply pw_below_drewN | apply below_drew1) | exact HB.out))) : w.heap.size ≤ gb111)); clear HB; have HB := n0_; have BK111 := n1_; have GW111 := n2_; have GE111 := n3_; clear n0_ n1_ n2_ n3_; clear hb hbox hg; have hcz13_0 : w12.cell? ⟨gb111, 0, none⟩ = some (.string a0_0) := (blk_cell BK111.out 0).trans rfl; have hcz13_1 : w12.cell? ⟨gb111, 1, none⟩ = some (.int .i64 a0_1) := (blk_cell BK111.out 1).trans rfl; have hcz13_2 : w12.cell? ⟨gb111, 2, none⟩ = some (.slice A0_2 l0_2.length c0_2) := (blk_cell BK111.out 2).trans rfl; have hcz13_3 : w12.cell? ⟨gb111, 3, none⟩ = some (.int .i64 a0_3) := (blk_cell BK111.out 3).trans rfl; have hcz13_4 : w12.cell? ⟨gb111, 4, none⟩ = some (.slice A0_4 l0_4.length c0_4) := (blk_cell BK111.out 4).trans rfl; have hfz13_0 := blk_frozen BK111.out 0; have hfz13_1 := blk_frozen BK111.out 1; have hfz13_2 := blk_frozen BK111.out 2; have hfz13_3 := blk_frozen BK111.out 3; have hfz13_4 := blk_frozen BK111.out 4) | ((with_reducible refine gate_callee (f := 43) rfl ?_); refine goesL_ (some 15) rfl rfl Try.func43 (by kernel_rfl) rfl #[.slice A0_2 l0_2.length c0_2, .int .i64 (wrap64 (a1 - (a0_0.size : Int)))] rfl (by (try simp only [List.map_toArray, List.map_cons, List.map_nil]); first | done | rfl | (simp only [List.length_drop, List.length_take]; rfl)) ?_; (with_reducible refine (laws_szInt64S.calls _ _ l0_2 (wrap64 (a1 - (a0_0.size : Int))) t112 _ ?side1 ?side2 A6.out).mono ?_); (case side1 => repeat (first | exact (Kd.C_below HR0_2.out HB.out) | (with_reducible refine Kd.C_alloc ?_ _) | (with_reducible refine Kd.C_drewN ?_ _) | (with_reducible refine Kd.C_drew ?_))); (case side2 => exact HC0_2.out); rintro e w' ⟨rfl, ⟨nd, rfl⟩⟩; refine ⟨_, rfl, ?_⟩) | ((with_reducible refine gate_callee (f := 44) rfl ?_); refine goesL_ (some 21) rfl rfl Try.func44 (by kernel_rfl) rfl #[.slice A0_4 l0_4.length c0_4, .int .i64 t112] rfl (by (try simp only [List.map_toArray, List.map_cons, List.map_nil]); first | done | rfl | (simp only [List.length_drop, List.length_take]; rfl)) ?_; (with_reducible refine (laws_szBlockS.calls k _ _ l0_4 t112 t113 _ ?side1 ?side2 A10.out).mono ?_); (case side1 => repeat (first | exact (Kd.C_below HR0_4.out (by repeat (first | (with_reducible first | exact HB.out | apply below_alloc | apply pw_below_drewN | apply below_drew1 | refine below_set ?_ GE111.out) | exact HB.out))) | (with_reducible refine Kd.C_alloc ?_ _) | (with_reducible refine Kd.C_drewN ?_ _) | (with_reducible refine Kd.C_drew ?_))); (case side2 => exact HC0_4.out); rintro e w14 ⟨rfl, hb⟩; refine ⟨_, rfl, ?_⟩; have n0_ := Aside0.mk (blk_below (g := gb111) (o := .cells #[.string a0_0, .int .i64 a0_1, .slice A0_2 l0_2.length c0_2, .int .i64 a0_3, .slice A0_4 l0_4.length c0_4] 25 (0, 0)) (by (with_reducible repeat (first | refine blk_drewN ?_ _ | refine blk_drew ?_ | refine blk_alloc ?_ _)); exact BK111.out) hb); have n1_ := Aside0.mk (below_step (by repeat (first | (with_reducible first | exact HB.out | apply below_alloc | apply pw_below_drewN | apply below_drew1 | refine below_set ?_ GE111.out) | exact HB.out)) hb); clear BK111; clear HB; have BK111 := n0_; have HB := n1_; clear n0_ n1_; (try clear hb); (try clear hb2); (try clear hk); (try clear hi)))
       go_ret
       exact ⟨by first | rfl | (simp [errW_none, errW_some] <;> rfl) | (simp [*, errW_none, errW_some] <;> rfl), by repeat (first | (with_reducible first | exact HB.out | apply below_alloc | apply pw_below_drewN | apply below_drew1 | refine below_set ?_ GE111.out) | exact HB.out)⟩
     · rw [if_neg c11] at H
       have c11b0 : decide (t113 < 0) = false := decide_eq_false c11
       clear c11
       obtain rfl := Option.some.inj H
       go_enter Try.func12, Try.ntmps12
       go_wp2_with (first | ((with_reducible refine gate_dst (N := 2) rfl ?_); refine box_event ?hg (N := 2) ?hd (cs := #[.string a0_0, .int .i64 a0_1, .slice A0_2 l0_2.length c0_2, .int .i64 a0_3, .slice A0_4 l0_4.length c0_4]) (t := 25) ?hr ?_; (case hd => rfl); (case hg => rfl); (case hr => first | (go_simp; done) | (go_simp; rfl)); intro gb111 hg w15 hbox hb; have n0_ := Aside0.mk (below_step (by repeat (first | (with_reducible first | exact HB.out | apply below_alloc | apply pw_below_drewN | apply below_drew1) | exact HB.out)) hb); have n1_ := Aside0.mk (hbox); have n2_ := Aside0.mk ((by rw [hg]; exact (below_size (by repeat (first | (with_reducible first | exact HB.out | apply below_alloc | apply pw_below_drewN | apply below_drew1) | exact HB.out))) : w.heap.size ≤ gb111)); have n3_ := Aside0.mk ((by rw [hg]; exact (below_size (by repeat (first | (with_reducible first | exact HB.out | apply below_alloc | apply pw_below_drewN | apply below_drew1) | exact HB.out))) : w.heap.size ≤ gb111)); clear HB; have HB := n0_; have BK111 := n1_; have GW111 := n2_; have GE111 := n3_; clear n0_ n1_ n2_ n3_; clear hb hbox hg; have hcz16_0 : w15.cell? ⟨gb111, 0, none⟩ = some (.string a0_0) := (blk_cell BK111.out 0).trans rfl; have hcz16_1 : w15.cell? ⟨gb111, 1, none⟩ = some (.int .i64 a0_1) := (blk_cell BK111.out 1).trans rfl; have hcz16_2 : w15.cell? ⟨gb111, 2, none⟩ = some (.slice A0_2 l0_2.length c0_2) := (blk_cell BK111.out 2).trans rfl; have hcz16_3 : w15.cell? ⟨gb111, 3, none⟩ = some (.int .i64 a0_3) := (blk_cell BK111.out 3).trans rfl; have hcz16_4 : w15.cell? ⟨gb111, 4, none⟩ = some (.slice A0_4 l0_4.length c0_4) := (blk_cell BK111.out 4).trans rfl; have hfz16_0 := blk_frozen BK111.out 0; have hfz16_1 := blk_frozen BK111.out 1; have hfz16_2 := blk_frozen BK111.out 2; have hfz16_3 := blk_frozen BK111.out 3; have hfz16_4 := blk_frozen BK111.out 4) | ((with_reducible refine gate_callee (f := 43) rfl ?_); refine goesL_ (some 15) rfl rfl Try.func43 (by kernel_rfl) rfl #[.slice A0_2 l0_2.length c0_2, .int .i64 (wrap64 (a1 - (a0_0.size : Int)))] rfl (by (try simp only [List.map_toArray, List.map_cons, List.map_nil]); first | done | rfl | (simp only [List.length_drop, List.length_take]; rfl)) ?_; (with_reducible refine (laws_szInt64S.calls _ _ l0_2 (wrap64 (a1 - (a0_0.size : Int))) t112 _ ?side1 ?side2 A6.out).mono ?_); (case side1 => repeat (first | exact (Kd.C_below HR0_2.out HB.out) | (with_reducible refine Kd.C_alloc ?_ _) | (with_reducible refine Kd.C_drewN ?_ _) | (with_reducible refine Kd.C_drew ?_))); (case side2 => exact HC0_2.out); rintro e w' ⟨rfl, ⟨nd, rfl⟩⟩; refine ⟨_, rfl, ?_⟩) | ((with_reducible refine gate_callee (f := 44) rfl ?_); refine goesL_ (some 21) rfl rfl Try.func44 (by kernel_rfl) rfl #[.slice A0_4 l0_4.length c0_4, .int .i64 t112] rfl (by (try simp only [List.map_toArray, List.map_cons, List.map_nil]); first | done | rfl | (simp only [List.length_drop, List.length_take]; rfl)) ?_; (with_reducible refine (laws_szBlockS.calls k _ _ l0_4 t112 t113 _ ?side1 ?side2 A10.out).mono ?_); (case side1 => repeat (first | exact (Kd.C_below HR0_4.out (by repeat (first | (with_reducible first | exact HB.out | apply below_alloc | apply pw_below_drewN | apply below_drew1 | refine below_set ?_ GE111.out) | exact HB.out))) | (with_reducible refine Kd.C_alloc ?_ _) | (with_reducible refine Kd.C_drewN ?_ _) | (with_reducible refine Kd.C_drew ?_))); (case side2 => exact HC0_4.out); rintro e w17 ⟨rfl, hb⟩; refine ⟨_, rfl, ?_⟩; have n0_ := Aside0.mk (blk_below (g := gb111) (o := .cells #[.string a0_0, .int .i64 a0_1, .slice A0_2 l0_2.length c0_2, .int .i64 a0_3, .slice A0_4 l0_4.length c0_4] 25 (0, 0)) (by (with_reducible repeat (first | refine blk_drewN ?_ _ | refine blk_drew ?_ | refine blk_alloc ?_ _)); exact BK111.out) hb); have n1_ := Aside0.mk (below_step (by repeat (first | (with_reducible first | exact HB.out | apply below_alloc | apply pw_below_drewN | apply below_drew1 | refine below_set ?_ GE111.out) | exact HB.out)) hb); clear BK111; clear HB; have BK111 := n0_; have HB := n1_; clear n0_ n1_; (try clear hb); (try clear hb2); (try clear hk); (try clear hi)))
       go_ret
       exact ⟨by first | rfl | (simp [errW_none, errW_some] <;> rfl) | (simp [*, errW_none, errW_some] <;> rfl), by repeat (first | (with_reducible first | exact HB.out | apply below_alloc | apply pw_below_drewN | apply below_drew1 | refine below_set ?_ GE111.out) | exact HB.out)⟩

end Go.Proofs.Ytoedcnhgobbnfaa.All


namespace Go.Proofs.Ytoedcnhgobbnfaa.All
open Go.RowKit Go.Proofs.YtoedcnhgobbnfaaW.PrintWords Go.Proofs.YtoedcnhgobbnfaaW.PrintLast Go.Proofs.YtoedcnhgobbnfaaW.PrintMore
attribute [local go_sem] max2_int min2_int max_two min_two max_three min_three max_four min_four   -- for this text's walks alone
set_option linter.unusedVariables false
set_option linter.unusedSimpArgs false

/-! ### spec_l4Has: function 51 -/
def spec_l4Has.l0 : Nat → List Int → Int → Int → Option (Bool)
 | 0, _, _, _ => none
 | k + 1, x0, x1, x5 => if x5 < (x0.length : Int) then (if 0 ≤ x5 then (if (rd x0 x5) = x1 then (some true) else (spec_l4Has.l0 k x0 x1 (wrap64 (x5 + 1)))) else (none)) else (some false)
def spec_l4Has.f (k : Nat) (l0 : List Int) (a1 : Int) : Option (Bool) := spec_l4Has.l0 k l0 a1 0
set_option maxHeartbeats 8000000 in
set_option maxRecDepth 100000 in
theorem spec_l4Has.calls (k : Nat) (A0 : Option Addr) (c0 : Nat) (l0 : List Int) (a1 : Int) (r : Bool) (w : World) (hr0 : Kd.C (Kd.int .i64) w A0 l0.length l0) (hc0 : l0.length ≤ c0) (h : spec_l4Has.f k l0 a1 = some r) :
 Calls Try.prog 51 #[.slice A0 l0.length c0, .int .i64 a1] w fun e w' => e = .returned (.bool r) ∧ Drawn0 w w' := by
 have HR0 := Aside0.mk hr0
 have HC0 := Aside0.mk hc0
 clear hr0 hc0
 have H : (spec_l4Has.l0 k l0 a1 0) = some r := h
 clear h
 have H' := Aside0.mk H
 clear H
 go_enter Try.func51, Try.ntmps51
 go_wp2
 go_loopg [5] k (fun kq v5 w' => ∃ (x5_1 : Int), v5 = .int .i64 x5_1 ∧ Aside0 (spec_l4Has.l0 kq l0 a1 x5_1 = some r) ∧ Aside0 (kq ≤ k) ∧ Drawn0 w w')
 case atStart => exact ⟨(0), (by first | rfl | (simp; done) | (simp [*]; done)), H', ⟨Nat.le_refl _⟩, by repeat (first | exact Drawn0.refl _ | apply Drawn0.step)⟩
 case round =>
  clear H'
  try clear p2
  obtain ⟨x5_1, rfl, HA, HK1, ⟨m1, rfl⟩⟩ := hrel
  cases gk with
  | zero => exact absurd HA.out (by simp [spec_l4Has.l0])
  | succ k1 =>
   have H := HA.out
   clear HA
   simp only [spec_l4Has.l0] at H
   by_cases c3 : x5_1 < (l0.length : Int)
   · rw [if_pos c3] at H
     have c3b0 : decide (x5_1 < (l0.length : Int)) = true := decide_eq_true c3
     clear c3
     by_cases c4 : 0 ≤ x5_1
     · rw [if_pos c4] at H
       have c4b0 : decide (0 ≤ x5_1) = true := decide_eq_true c4
       clear c4
       by_cases c5 : (rd l0 x5_1) = a1
       · rw [if_pos c5] at H
         have c5b0 : ((rd l0 x5_1) == a1) = true := beq_iff_eq.mpr c5
         have c5b1 : ((rd l0 x5_1) != a1) = false := bne_eq_false_iff_eq.mpr c5
         clear c5
         obtain rfl := Option.some.inj H
         have p114 : 0 ≤ (x5_1 : Int) := of_decide_eq_true (by first | (with_reducible assumption) | assumption)
         have q114 : x5_1 < (l0.length : Int) := of_decide_eq_true (by first | (with_reducible assumption) | assumption)
         obtain ⟨ad114, e114, hx114_0⟩ := Kd.at_int HR0.out x5_1 p114 q114
         cases e114
         replace p114 := eq_true p114
         replace q114 := eq_true q114
         go_wp2
         go_ret
         exact ⟨by first | rfl | (simp; done) | (simp [*]; done), by repeat (first | exact Drawn0.refl _ | apply Drawn0.step)⟩
       · rw [if_neg c5] at H
         have c5b0 : ((rd l0 x5_1) == a1) = false := beq_eq_false_iff_ne.mpr c5
         have c5b1 : ((rd l0 x5_1) != a1) = true := bne_iff_ne.mpr c5
         have H' := Aside0.mk H
         clear H
         have p114 : 0 ≤ (x5_1 : Int) := of_decide_eq_true (by first | (with_reducible assumption) | assumption)
         have q114 : x5_1 < (l0.length : Int) := of_decide_eq_true (by first | (with_reducible assumption) | assumption)
         obtain ⟨ad114, e114, hx114_0⟩ := Kd.at_int HR0.out x5_1 p114 q114
         cases e114
         replace p114 := eq_true p114
         replace q114 := eq_true q114
         go_wp2
         go_roundg k1
         case measure => have := HK1.out; omega
         case rel => exact ⟨(wrap64 (x5_1 + 1)), (by first | rfl | (simp; done) | (simp [*]; done)), H', ⟨by have := HK1.out; omega⟩, by repeat (first | exact Drawn0.refl _ | apply Drawn0.step)⟩
     · rw [if_neg c4] at H
       exact absurd H (by simp)
   · rw [if_neg c3] at H
     have c3b0 : decide (x5_1 < (l0.length : Int)) = false := decide_eq_false c3
     clear c3
     obtain rfl := Option.some.inj H
     go_wp2
     go_ret
     exact ⟨by first | rfl | (simp; done) | (simp [*]; done), by repeat (first | exact Drawn0.refl _ | apply Drawn0.step)⟩

end Go.Proofs.Ytoedcnhgobbnfaa.All


namespace Go.Proofs.Ytoedcnhgobbnfaa.All
open Go.RowKit Go.Proofs.YtoedcnhgobbnfaaW.PrintWords Go.Proofs.YtoedcnhgobbnfaaW.PrintLast Go.Proofs.YtoedcnhgobbnfaaW.PrintMore
attribute [local go_sem] max2_int min2_int max_two min_two max_three min_three max_four min_four   -- for this text's walks alone
set_option linter.unusedVariables false
set_option linter.unusedSimpArgs false

/-! ### spec_NextBlocks: function 17 -/
mutual
def spec_NextBlocks.j0 : Nat → Int → List Int → Bool → ByteArray → Int → List Int → Int → List (S62) → Option (List Int)
 | 0, _, _, _, _, _, _, _, _ => none
 | k + 1, x1, x5, x29, x116000, x116001, x116002, x116003, x116004 => if x29 = true then (some x5) else (if 0 ≤ x1 then (if x1 < (x116004.length : Int) then (if 0 ≤ (wrap64 ((((rd_T62 x116004 x1).f0).length : Int) - 1)) then (if (wrap64 ((((rd_T62 x116004 x1).f0).length : Int) - 1)) < (((rd_T62 x116004 x1).f0).length : Int) then (spec_NextBlocks.l0 k x5 0 x116000 x116001 x116002 x116003 x116004 ((rd_T66 ((rd_T62 x116004 x1).f0) (wrap64 ((((rd_T62 x116004 x1).f0).length : Int) - 1))).f0) ((rd_T66 ((rd_T62 x116004 x1).f0) (wrap64 ((((rd_T62 x116004 x1).f0).length : Int) - 1))).f1) ((rd_T66 ((rd_T62 x116004 x1).f0) (wrap64 ((((rd_T62 x116004 x1).f0).length : Int) - 1))).f2) ((rd_T66 ((rd_T62 x116004 x1).f0) (wrap64 ((((rd_T62 x116004 x1).f0).length : Int) - 1))).f3) ((rd_T66 ((rd_T62 x116004 x1).f0) (wrap64 ((((rd_T62 x116004 x1).f0).length : Int) - 1))).f4) ((rd_T66 ((rd_T62 x116004 x1).f0) (wrap64 ((((rd_T62 x116004 x1).f0).length : Int) - 1))).f5) ((rd_T66 ((rd_T62 x116004 x1).f0) (wrap64 ((((rd_T62 x116004 x1).f0).length : Int) - 1))).f6) ((rd_T66 ((rd_T62 x116004 x1).f0) (wrap64 ((((rd_T62 x116004 x1).f0).length : Int) - 1))).f7) ((rd_T66 ((rd_T62 x116004 x1).f0) (wrap64 ((((rd_T62 x116004 x1).f0).length : Int) - 1))).f8)) else (none)) else (none)) else (none)) else (none))
def spec_NextBlocks.l0 : Nat → List Int → Int → ByteArray → Int → List Int → Int → List (S62) → Int → Int → Int → Int → Int → Int → List (S75) → List Int → List Int → Option (List Int)
 | 0, _, _, _, _, _, _, _, _, _, _, _, _, _, _, _, _ => none
 | k + 1, x5, x8, x116000, x116001, x116002, x116003, x116004, x123000, x123001, x123002, x123003, x123004, x123005, x123006, x123007, x123008 => if x8 < (x123007.length : Int) then (if 0 ≤ x8 then (if (rd x123007 x8) ≥ 0 then (if (rd x123007 x8) < (x116004.length : Int) then ((spec_l4Has.f k x5 (rd x123007 x8)).bind fun t124 => (if t124 = true then (spec_NextBlocks.l0 k x5 (wrap64 (x8 + 1)) x116000 x116001 x116002 x116003 x116004 x123000 x123001 x123002 x123003 x123004 x123005 x123006 x123007 x123008) else (if x5.length < 17592186044416 then (spec_NextBlocks.l0 k (x5 ++ [rd x123007 x8]) (wrap64 (x8 + 1)) x116000 x116001 x116002 x116003 x116004 x123000 x123001 x123002 x123003 x123004 x123005 x123006 x123007 x123008) else (none)))) else (spec_NextBlocks.l0 k x5 (wrap64 (x8 + 1)) x116000 x116001 x116002 x116003 x116004 x123000 x123001 x123002 x123003 x123004 x123005 x123006 x123007 x123008)) else (spec_NextBlocks.l0 k x5 (wrap64 (x8 + 1)) x116000 x116001 x116002 x116003 x116004 x123000 x123001 x123002 x123003 x123004 x123005 x123006 x123007 x123008)) else (none)) else (some x5)
end
def spec_NextBlocks.f (k : Nat) (a0_0 : ByteArray) (a0_1 : Int) (l0_2 : List Int) (a0_3 : Int) (l0_4 : List (S62)) (a1 : Int) : Option (List Int) := (some (([] : List Int) : List Int)).bind fun y116 => (if a1 < 0 then (spec_NextBlocks.j0 k a1 y116 true a0_0 a0_1 l0_2 a0_3 l0_4) else (if a1 ≥ (l0_4.length : Int) then (spec_NextBlocks.j0 k a1 y116 true a0_0 a0_1 l0_2 a0_3 l0_4) else (if 0 ≤ a1 then (if a1 < (l0_4.length : Int) then (spec_NextBlocks.j0 k a1 y116 ((((rd_T62 l0_4 a1).f0).length : Int) == 0) a0_0 a0_1 l0_2 a0_3 l0_4) else (none)) else (none))))
set_option maxHeartbeats 8000000 in
set_option maxRecDepth 100000 in
theorem spec_NextBlocks.calls (k : Nat) (a0_0 : ByteArray) (a0_1 : Int) (A0_2 : Option Addr) (c0_2 : Nat) (l0_2 : List Int) (a0_3 : Int) (A0_4 : Option Addr) (c0_4 : Nat) (l0_4 : List (S62)) (a1 : Int) (r : List Int) (w : World) (hr0_2 : Kd.C (Kd.int .i64) w A0_2 l0_2.length l0_2) (hc0_2 : l0_2.length ≤ c0_2) (hr0_4 : Kd.C k62 w A0_4 l0_4.length l0_4) (hc0_4 : l0_4.length ≤ c0_4) (h : spec_NextBlocks.f k a0_0 a0_1 l0_2 a0_3 l0_4 a1 = some r) :
 Calls Try.prog 17 #[.agg #[.string a0_0, .int .i64 a0_1, .slice A0_2 l0_2.length c0_2, .int .i64 a0_3, .slice A0_4 l0_4.length c0_4], .int .i64 a1] w fun e w' => ∃ v0_ : Value, e = .returned (v0_) ∧ Kd.R (Kd.int .i64) 2 w' w.heap.size (fun _ => True) v0_ r ∧ Below w.heap.size w w' := by
 have hu30 := Try.underlying30
 have hu66 := Try.underlying66
 have HR0_2 := Aside0.mk hr0_2
 have HC0_2 := Aside0.mk hc0_2
 clear hr0_2 hc0_2
 have HR0_4 := Aside0.mk hr0_4
 have HC0_4 := Aside0.mk hc0_4
 clear hr0_4 hc0_4
 have HB := Aside0.mk (Below.refl w.heap.size w)
 have H : ((some (([] : List Int) : List Int)).bind fun y116 => (if a1 < 0 then (spec_NextBlocks.j0 k a1 y116 true a0_0 a0_1 l0_2 a0_3 l0_4) else (if a1 ≥ (l0_4.length : Int) then (spec_NextBlocks.j0 k a1 y116 true a0_0 a0_1 l0_2 a0_3 l0_4) else (if 0 ≤ a1 then (if a1 < (l0_4.length : Int) then (spec_NextBlocks.j0 k a1 y116 ((((rd_T62 l0_4 a1).f0).length : Int) == 0) a0_0 a0_1 l0_2 a0_3 l0_4) else (none)) else (none))))) = some r := h
 clear h
 obtain ⟨y116, hy116⟩ : ∃ y_ : List Int, y_ = (([] : List Int)) := ⟨_, rfl⟩
 replace H : (if a1 < 0 then (spec_NextBlocks.j0 k a1 y116 true a0_0 a0_1 l0_2 a0_3 l0_4) else (if a1 ≥ (l0_4.length : Int) then (spec_NextBlocks.j0 k a1 y116 true a0_0 a0_1 l0_2 a0_3 l0_4) else (if 0 ≤ a1 then (if a1 < (l0_4.length : Int) then (spec_NextBlocks.j0 k a1 y116 ((((rd_T62 l0_4 a1).f0).length : Int) == 0) a0_0 a0_1 l0_2 a0_3 l0_4) else (none)) else (none)))) = some r := by first | (rw [hy116]; with_reducible exact H) | (have H2_ := (Option.bind_some _ _).symm.trans H; rw [hy116]; with_reducible exact H2_) | (have H2_ := (Option.bind_some _ _).symm.trans H; with_reducible exact H2_) | with_reducible exact H | (rw [hy116]; exact H) | exact H
 have Ny116 := Aside0.mk hy116
 clear hy116
 have HC3 := Aside0.mk H
 clear H
 go_enter Try.func17, Try.ntmps17
 go_upto_region 2 with (first | ((with_reducible refine gate_dst (N := 2) rfl ?_); (try (refine gate_guard (by rfl) ?_; dsimp only)); refine box_event ?hg (N := 2) ?hd (cs := #[.string a0_0, .int .i64 a0_1, .slice A0_2 l0_2.length c0_2, .int .i64 a0_3, .slice A0_4 l0_4.length c0_4]) (t := 30) ?hr ?_; (case hd => rfl); (case hg => rfl); (case hr => first | (go_simp; done) | (go_simp; rfl)); intro gb115 hg w4 hbox hb; have n0_ := Aside0.mk (below_step (by repeat (first | (with_reducible first | exact HB.out | apply below_alloc | apply pw_below_drewN | apply below_drew1) | exact HB.out)) hb); have n1_ := Aside0.mk (hbox); have n2_ := Aside0.mk ((by rw [hg]; exact (below_size (by repeat (first | (with_reducible first | exact HB.out | apply below_alloc | apply pw_below_drewN | apply below_drew1) | exact HB.out))) : w.heap.size ≤ gb115)); have n3_ := Aside0.mk ((by rw [hg]; exact (below_size (by repeat (first | (with_reducible first | exact HB.out | apply below_alloc | apply pw_below_drewN | apply below_drew1) | exact HB.out))) : w.heap.size ≤ gb115)); clear HB; have HB := n0_; have BK115 := n1_; have GW115 := n2_; have GE115 := n3_; clear n0_ n1_ n2_ n3_; clear hb hbox hg) | ((with_reducible refine gate_dst (N := 10) rfl ?_); (try (refine gate_guard (by rfl) ?_; dsimp only)); refine Kd.R_lit (Kd.int .i64) _ 2 ?hg (N := 10) ?hd (xs := ([] : List Int)) (inner := []) (ok := fun _ => True) (okp := fun _ => True) ?hr ?hp (fun _ hk => hk) trivial (Below.refl _ _) (Nat.le_refl _) (by simp) ?_; (case hd => rfl); (case hg => rfl); (case hr => first | (go_simp; done) | (go_simp; rfl)); (case hp => exact (Reps.none _ _)); intro v117 w5 ho6 hb hg_ hnew_; clear hg_ hnew_; (first | rw [← Ny116.out] at ho6 | (simp only [Int.reduceToNat] at ho6; rw [← Ny116.out] at ho6)); have n0_ := Aside0.mk (Kd.R_lower ho6 (below_size (by repeat (first | (with_reducible first | exact HB.out | apply below_alloc | apply pw_below_drewN | apply below_drew1 | refine below_set ?_ GE115.out) | exact HB.out)))); have n1_ := Aside0.mk (blk_below (g := gb115) (o := .cells #[.string a0_0, .int .i64 a0_1, .slice A0_2 l0_2.length c0_2, .int .i64 a0_3, .slice A0_4 l0_4.length c0_4] 30 (0, 0)) (by (with_reducible repeat (first | refine blk_drewN ?_ _ | refine blk_drew ?_ | refine blk_alloc ?_ _)); exact BK115.out) hb); have n2_ := Aside0.mk (below_step (by repeat (first | (with_reducible first | exact HB.out | apply below_alloc | apply pw_below_drewN | apply below_drew1 | refine below_set ?_ GE115.out) | exact HB.out)) hb); clear BK115; clear HB; have HO118 := n0_; have BK115 := n1_; have HB := n2_; clear n0_ n1_ n2_; clear hb ho6))
 (try simp only [Act.put, List.setIfInBounds_toArray, List.set_cons_zero, List.set_cons_succ])
 go_cut [29] (fun v29 wc => ∃ (kq : Nat) (x29_2 : Bool), v29 = .bool x29_2 ∧ Aside0 (spec_NextBlocks.j0 kq a1 y116 x29_2 a0_0 a0_1 l0_2 a0_3 l0_4 = some r) ∧ Aside0 (kq ≤ k) ∧ Aside0 (Kd.R (Kd.int .i64) 2 wc w.heap.size (fun _ => True) v117 y116) ∧ Aside0 (wc.heap[gb115]? = some (.cells #[.string a0_0, .int .i64 a0_1, (.slice A0_2 l0_2.length c0_2), .int .i64 a0_3, (.slice A0_4 l0_4.length c0_4)] 30 (0, 0))) ∧ Aside0 (Below w.heap.size w wc))
 case first =>
  have H := HC3.out
  clear HC3
  by_cases c7 : a1 < 0
  · rw [if_pos c7] at H
    have c7b0 : decide (a1 < 0) = true := decide_eq_true c7
    clear c7
    (first | rw [c7b0] | (simp only [i64_w, i32_w]; rw [c7b0]) | skip)
    have H' := Aside0.mk H
    clear H
    go_wp2
    go_meet
    case rel => exact ⟨_, (true), (by first | rfl | (simp; done) | (simp [*]; done)), H', ⟨by first | omega | exact Nat.le_refl _⟩, ⟨by (with_reducible repeat (first | apply Kd.R_alloc | apply Kd.R_drewN | apply Kd.R_drew)); exact HO118.out⟩, ⟨by (with_reducible repeat (first | refine blk_drewN ?_ _ | refine blk_drew ?_ | refine blk_alloc ?_ _)); exact BK115.out⟩, ⟨by repeat (first | (with_reducible first | exact HB.out | apply below_alloc | apply pw_below_drewN | apply below_drew1 | refine below_set ?_ GE115.out) | exact HB.out)⟩⟩
  · rw [if_neg c7] at H
    have c7b0 : decide (a1 < 0) = false := decide_eq_false c7
    clear c7
    (first | rw [c7b0] | (simp only [i64_w, i32_w]; rw [c7b0]) | skip)
    by_cases c8 : a1 ≥ (l0_4.length : Int)
    · rw [if_pos c8] at H
      have c8b0 : decide ((l0_4.length : Int) ≤ a1) = true := decide_eq_true c8
      clear c8
      have H' := Aside0.mk H
      clear H
      have hcz9_0 : w5.cell? ⟨gb115, 0, none⟩ = some (.string a0_0) := (blk_cell BK115.out 0).trans rfl
      have hcz9_1 : w5.cell? ⟨gb115, 1, none⟩ = some (.int .i64 a0_1) := (blk_cell BK115.out 1).trans rfl
      have hcz9_2 : w5.cell? ⟨gb115, 2, none⟩ = some (.slice A0_2 l0_2.length c0_2) := (blk_cell BK115.out 2).trans rfl
      have hcz9_3 : w5.cell? ⟨gb115, 3, none⟩ = some (.int .i64 a0_3) := (blk_cell BK115.out 3).trans rfl
      have hcz9_4 : w5.cell? ⟨gb115, 4, none⟩ = some (.slice A0_4 l0_4.length c0_4) := (blk_cell BK115.out 4).trans rfl
      have hfz9_0 := blk_frozen BK115.out 0
      have hfz9_1 := blk_frozen BK115.out 1
      have hfz9_2 := blk_frozen BK115.out 2
      have hfz9_3 := blk_frozen BK115.out 3
      have hfz9_4 := blk_frozen BK115.out 4
      go_wp2
      go_meet
      case rel => exact ⟨_, (true), (by first | rfl | (simp; done) | (simp [*]; done)), H', ⟨by first | omega | exact Nat.le_refl _⟩, ⟨by (with_reducible repeat (first | apply Kd.R_alloc | apply Kd.R_drewN | apply Kd.R_drew)); exact HO118.out⟩, ⟨by (with_reducible repeat (first | refine blk_drewN ?_ _ | refine blk_drew ?_ | refine blk_alloc ?_ _)); exact BK115.out⟩, ⟨by repeat (first | (with_reducible first | exact HB.out | apply below_alloc | apply pw_below_drewN | apply below_drew1 | refine below_set ?_ GE115.out) | exact HB.out)⟩⟩
    · rw [if_neg c8] at H
      have c8b0 : decide ((l0_4.length : Int) ≤ a1) = false := decide_eq_false c8
      clear c8
      by_cases c10 : 0 ≤ a1
      · rw [if_pos c10] at H
        have c10b0 : decide (0 ≤ a1) = true := decide_eq_true c10
        clear c10
        by_cases c11 : a1 < (l0_4.length : Int)
        · rw [if_pos c11] at H
          have c11b0 : decide (a1 < (l0_4.length : Int)) = true := decide_eq_true c11
          clear c11
          have H' := Aside0.mk H
          clear H
          have hcz12_0 : w5.cell? ⟨gb115, 0, none⟩ = some (.string a0_0) := (blk_cell BK115.out 0).trans rfl
          have hcz12_1 : w5.cell? ⟨gb115, 1, none⟩ = some (.int .i64 a0_1) := (blk_cell BK115.out 1).trans rfl
          have hcz12_2 : w5.cell? ⟨gb115, 2, none⟩ = some (.slice A0_2 l0_2.length c0_2) := (blk_cell BK115.out 2).trans rfl
          have hcz12_3 : w5.cell? ⟨gb115, 3, none⟩ = some (.int .i64 a0_3) := (blk_cell BK115.out 3).trans rfl
          have hcz12_4 : w5.cell? ⟨gb115, 4, none⟩ = some (.slice A0_4 l0_4.length c0_4) := (blk_cell BK115.out 4).trans rfl
          have hfz12_0 := blk_frozen BK115.out 0
          have hfz12_1 := blk_frozen BK115.out 1
          have hfz12_2 := blk_frozen BK115.out 2
          have hfz12_3 := blk_frozen BK115.out 3
          have hfz12_4 := blk_frozen BK115.out 4
          have p119 : 0 ≤ (a1 : Int) := of_decide_eq_true (by first | (with_reducible assumption) | assumption)
          have q119 : a1 < (l0_4.length : Int) := of_decide_eq_true (by first | (with_reducible assumption) | assumption)
          obtain ⟨ad119, A119_0, c119_0, e119, hx119_0, hl119_0, hi119_0⟩ := at_T62 HR0_4.out a1 p119 q119
          cases e119
          replace hx119_0 := (HB.out.cell (World.block_lt_of_cell? w _ hx119_0)).trans hx119_0
          have HR119_0 := Aside0.mk hi119_0
          have HC119_0 := Aside0.mk hl119_0
          clear hi119_0 hl119_0
          replace p119 := eq_true p119
          replace q119 := eq_true q119
          go_wp2
          go_meet
          case rel => exact ⟨_, (((((rd_T62 l0_4 a1).f0).length : Int) == 0)), (by first | rfl | (simp; done) | (simp [*]; done)), H', ⟨by first | omega | exact Nat.le_refl _⟩, ⟨by (with_reducible repeat (first | apply Kd.R_alloc | apply Kd.R_drewN | apply Kd.R_drew)); exact HO118.out⟩, ⟨by (with_reducible repeat (first | refine blk_drewN ?_ _ | refine blk_drew ?_ | refine blk_alloc ?_ _)); exact BK115.out⟩, ⟨by repeat (first | (with_reducible first | exact HB.out | apply below_alloc | apply pw_below_drewN | apply below_drew1 | refine below_set ?_ GE115.out) | exact HB.out)⟩⟩
        · rw [if_neg c11] at H
          exact absurd H (by simp)
      · rw [if_neg c10] at H
        exact absurd H (by simp)
 case rest =>
  clear HC3
  try clear c1
  try clear p1
  try clear q1
  try clear hx1
  try clear p2
  try clear c7
  try clear c7b0
  try clear c8
  try clear c8b0
  try clear c10
  try clear c10b0
  try clear c11
  try clear c11b0
  try clear p11
  try clear q11
  try clear hx11
  try clear hcz12_0
  try clear hcz12_1
  try clear hcz12_2
  try clear hcz12_3
  try clear hcz12_4
  try clear hcz9_0
  try clear hcz9_1
  try clear hcz9_2
  try clear hcz9_3
  try clear hcz9_4
  try clear hfz12_0
  try clear hfz12_1
  try clear hfz12_2
  try clear hfz12_3
  try clear hfz12_4
  try clear hfz9_0
  try clear hfz9_1
  try clear hfz9_2
  try clear hfz9_3
  try clear hfz9_4
  try clear hx119_0
  try clear p119
  try clear q119
  obtain ⟨kq, x29_2, rfl, HA, HJ2, HO_5, BK115, HB⟩ := hcut
  cases kq with
  | zero => exact absurd HA.out (by simp [spec_NextBlocks.j0])
  | succ kj2 =>
   have H := HA.out
   clear HA
   simp only [spec_NextBlocks.j0] at H
   by_cases c13 : x29_2 = true
   · subst c13
     have H1 : (some y116) = some r := by rw [if_pos rfl] at H; exact H
     clear H
     have H := H1
     clear H1
     obtain rfl := Option.some.inj H
     go_wp2
     go_ret
     exact ⟨_, by first | rfl | (simp [errW_none, errW_some] <;> rfl) | (simp [*, errW_none, errW_some] <;> rfl), by (with_reducible repeat (first | apply Kd.R_alloc | apply Kd.R_drewN | apply Kd.R_drew)); exact HO_5.out, by repeat (first | (with_reducible first | exact HB.out | apply below_alloc | apply pw_below_drewN | apply below_drew1 | refine below_set ?_ GE115.out) | exact HB.out)⟩
   · replace c13 := Bool.eq_false_iff.mpr c13
     subst c13
     have H1 : (if 0 ≤ a1 then (if a1 < (l0_4.length : Int) then (if 0 ≤ (wrap64 ((((rd_T62 l0_4 a1).f0).length : Int) - 1)) then (if (wrap64 ((((rd_T62 l0_4 a1).f0).length : Int) - 1)) < (((rd_T62 l0_4 a1).f0).length : Int) then (spec_NextBlocks.l0 kj2 y116 0 a0_0 a0_1 l0_2 a0_3 l0_4 ((rd_T66 ((rd_T62 l0_4 a1).f0) (wrap64 ((((rd_T62 l0_4 a1).f0).length : Int) - 1))).f0) ((rd_T66 ((rd_T62 l0_4 a1).f0) (wrap64 ((((rd_T62 l0_4 a1).f0).length : Int) - 1))).f1) ((rd_T66 ((rd_T62 l0_4 a1).f0) (wrap64 ((((rd_T62 l0_4 a1).f0).length : Int) - 1))).f2) ((rd_T66 ((rd_T62 l0_4 a1).f0) (wrap64 ((((rd_T62 l0_4 a1).f0).length : Int) - 1))).f3) ((rd_T66 ((rd_T62 l0_4 a1).f0) (wrap64 ((((rd_T62 l0_4 a1).f0).length : Int) - 1))).f4) ((rd_T66 ((rd_T62 l0_4 a1).f0) (wrap64 ((((rd_T62 l0_4 a1).f0).length : Int) - 1))).f5) ((rd_T66 ((rd_T62 l0_4 a1).f0) (wrap64 ((((rd_T62 l0_4 a1).f0).length : Int) - 1))).f6) ((rd_T66 ((rd_T62 l0_4 a1).f0) (wrap64 ((((rd_T62 l0_4 a1).f0).length : Int) - 1))).f7) ((rd_T66 ((rd_T62 l0_4 a1).f0) (wrap64 ((((rd_T62 l0_4 a1).f0).length : Int) - 1))).f8)) else (none)) else (none)) else (none)) else (none)) = some r := by rw [if_neg (show ¬ (false = true) by decide)] at H; exact H
     clear H
     have H := H1
     clear H1
     by_cases c14 : 0 ≤ a1
     · rw [if_pos c14] at H
       have c14b0 : decide (0 ≤ a1) = true := decide_eq_true c14
       clear c14
       by_cases c15 : a1 < (l0_4.length : Int)
       · rw [if_pos c15] at H
         have c15b0 : decide (a1 < (l0_4.length : Int)) = true := decide_eq_true c15
         clear c15
         obtain ⟨ji16, hji16⟩ : ∃ j_ : Int, (wrap64 ((((rd_T62 l0_4 a1).f0).length : Int) - 1)) = j_ := ⟨_, rfl⟩
         replace H : (if 0 ≤ (ji16) then (if (ji16) < (((rd_T62 l0_4 a1).f0).length : Int) then (spec_NextBlocks.l0 kj2 y116 0 a0_0 a0_1 l0_2 a0_3 l0_4 ((rd_T66 ((rd_T62 l0_4 a1).f0) (ji16)).f0) ((rd_T66 ((rd_T62 l0_4 a1).f0) (ji16)).f1) ((rd_T66 ((rd_T62 l0_4 a1).f0) (ji16)).f2) ((rd_T66 ((rd_T62 l0_4 a1).f0) (ji16)).f3) ((rd_T66 ((rd_T62 l0_4 a1).f0) (ji16)).f4) ((rd_T66 ((rd_T62 l0_4 a1).f0) (ji16)).f5) ((rd_T66 ((rd_T62 l0_4 a1).f0) (ji16)).f6) ((rd_T66 ((rd_T62 l0_4 a1).f0) (ji16)).f7) ((rd_T66 ((rd_T62 l0_4 a1).f0) (ji16)).f8)) else (none)) else (none)) = some r := by first | (rw [hji16] at H; exact H) | (simp only [hji16] at H ⊢; exact H)
         have hji16w : (IntKind.i64.wrap ((((rd_T62 l0_4 a1).f0).length : Int) - 1)) = ji16 := (i64_w _).trans hji16
         by_cases c17 : 0 ≤ (ji16)
         · rw [if_pos c17] at H
           have c17b0 : decide (0 ≤ (ji16)) = true := decide_eq_true c17
           clear c17
           by_cases c18 : (ji16) < (((rd_T62 l0_4 a1).f0).length : Int)
           · rw [if_pos c18] at H
             have c18b0 : decide ((ji16) < (((rd_T62 l0_4 a1).f0).length : Int)) = true := decide_eq_true c18
             clear c18
             have H' := Aside0.mk H
             clear H
             have hcz19_0 : wc.cell? ⟨gb115, 0, none⟩ = some (.string a0_0) := (blk_cell BK115.out 0).trans rfl
             have hcz19_1 : wc.cell? ⟨gb115, 1, none⟩ = some (.int .i64 a0_1) := (blk_cell BK115.out 1).trans rfl
             have hcz19_2 : wc.cell? ⟨gb115, 2, none⟩ = some (.slice A0_2 l0_2.length c0_2) := (blk_cell BK115.out 2).trans rfl
             have hcz19_3 : wc.cell? ⟨gb115, 3, none⟩ = some (.int .i64 a0_3) := (blk_cell BK115.out 3).trans rfl
             have hcz19_4 : wc.cell? ⟨gb115, 4, none⟩ = some (.slice A0_4 l0_4.length c0_4) := (blk_cell BK115.out 4).trans rfl
             have hfz19_0 := blk_frozen BK115.out 0
             have hfz19_1 := blk_frozen BK115.out 1
             have hfz19_2 := blk_frozen BK115.out 2
             have hfz19_3 := blk_frozen BK115.out 3
             have hfz19_4 := blk_frozen BK115.out 4
             have p120 : 0 ≤ (a1 : Int) := of_decide_eq_true (by first | (with_reducible assumption) | assumption)
             have q120 : a1 < (l0_4.length : Int) := of_decide_eq_true (by first | (with_reducible assumption) | assumption)
             obtain ⟨ad120, A120_0, c120_0, e120, hx120_0, hl120_0, hi120_0⟩ := at_T62 HR0_4.out a1 p120 q120
             cases e120
             replace hx120_0 := (HB.out.cell (World.block_lt_of_cell? w _ hx120_0)).trans hx120_0
             have HR120_0 := Aside0.mk hi120_0
             have HC120_0 := Aside0.mk hl120_0
             clear hi120_0 hl120_0
             replace p120 := eq_true p120
             replace q120 := eq_true q120
             have p121 : 0 ≤ ((ji16) : Int) := of_decide_eq_true (by first | (with_reducible assumption) | assumption)
             have q121 : (ji16) < (((rd_T62 l0_4 a1).f0).length : Int) := of_decide_eq_true (by first | (with_reducible assumption) | assumption)
             obtain ⟨ad121, A121_6, c121_6, A121_7, c121_7, A121_8, c121_8, e121, hx121_0, hx121_1, hx121_2, hx121_3, hx121_4, hx121_5, hx121_6, hx121_7, hx121_8, hl121_6, hi121_6, hl121_7, hi121_7, hl121_8, hi121_8⟩ := at_T66 HR120_0.out (ji16) p121 q121
             cases e121
             replace hx121_0 := (HB.out.cell (World.block_lt_of_cell? w _ hx121_0)).trans hx121_0
             replace hx121_1 := (HB.out.cell (World.block_lt_of_cell? w _ hx121_1)).trans hx121_1
             replace hx121_2 := (HB.out.cell (World.block_lt_of_cell? w _ hx121_2)).trans hx121_2
             replace hx121_3 := (HB.out.cell (World.block_lt_of_cell? w _ hx121_3)).trans hx121_3
             replace hx121_4 := (HB.out.cell (World.block_lt_of_cell? w _ hx121_4)).trans hx121_4
             replace hx121_5 := (HB.out.cell (World.block_lt_of_cell? w _ hx121_5)).trans hx121_5
             replace hx121_6 := (HB.out.cell (World.block_lt_of_cell? w _ hx121_6)).trans hx121_6
             replace hx121_7 := (HB.out.cell (World.block_lt_of_cell? w _ hx121_7)).trans hx121_7
             replace hx121_8 := (HB.out.cell (World.block_lt_of_cell? w _ hx121_8)).trans hx121_8
             have HR121_6 := Aside0.mk hi121_6
             have HC121_6 := Aside0.mk hl121_6
             clear hi121_6 hl121_6
             have HR121_7 := Aside0.mk hi121_7
             have HC121_7 := Aside0.mk hl121_7
             clear hi121_7 hl121_7
             have HR121_8 := Aside0.mk hi121_8
             have HC121_8 := Aside0.mk hl121_8
             clear hi121_8 hl121_8
             replace p121 := eq_true p121
             replace q121 := eq_true q121
             go_wp2_with (first | ((with_reducible refine gate_dst (N := 7) rfl ?_); (try (refine gate_guard (by rfl) ?_; dsimp only)); refine box_event ?hg (N := 7) ?hd (cs := #[.int .i64 0, .int .i64 0, .int .i64 0, .int .i64 0, .int .i64 0, .int .i64 0, .slice none 0 0, .slice none 0 0, .slice none 0 0]) (t := 66) ?hr ?_; (case hd => rfl); (case hg => rfl); (case hr => first | (go_simp; done) | (go_simp; rfl)); intro gb122 hg w20 hbox hb; have n0_ := Aside0.mk (Kd.R_below (by (with_reducible repeat (first | apply Kd.R_alloc | apply Kd.R_drewN | apply Kd.R_drew)); exact HO_5.out) hb); have n1_ := Aside0.mk (blk_below (g := gb115) (o := .cells #[.string a0_0, .int .i64 a0_1, .slice A0_2 l0_2.length c0_2, .int .i64 a0_3, .slice (some ad120) l0_4.length c0_4] 30 (0, 0)) (by (with_reducible repeat (first | refine blk_drewN ?_ _ | refine blk_drew ?_ | refine blk_alloc ?_ _)); exact BK115.out) hb); have n2_ := Aside0.mk (below_step (by repeat (first | (with_reducible first | exact HB.out | apply below_alloc | apply pw_below_drewN | apply below_drew1 | refine below_set ?_ GE115.out) | exact HB.out)) hb); have n3_ := Aside0.mk (hbox); have n4_ := Aside0.mk ((by rw [hg]; exact (below_size (by repeat (first | (with_reducible first | exact HB.out | apply below_alloc | apply pw_below_drewN | apply below_drew1 | refine below_set ?_ GE115.out) | exact HB.out))) : w.heap.size ≤ gb122)); have n5_ := Aside0.mk ((by rw [hg]; exact (below_size (by repeat (first | (with_reducible first | exact HB.out | apply below_alloc | apply pw_below_drewN | apply below_drew1 | refine below_set ?_ GE115.out) | exact HB.out))) : w.heap.size ≤ gb122)); have n6_ := Aside0.mk ((by rw [hg]; exact Nat.ne_of_lt (blk_lt (g := gb115) (o := .cells #[.string a0_0, .int .i64 a0_1, .slice A0_2 l0_2.length c0_2, .int .i64 a0_3, .slice (some ad120) l0_4.length c0_4] 30 (0, 0)) (by (with_reducible repeat (first | refine blk_drewN ?_ _ | refine blk_drew ?_ | refine blk_alloc ?_ _)); exact BK115.out)) : gb115 ≠ gb122)); have n7_ := Aside0.mk ((by rw [hg]; exact Nat.ne_of_gt (blk_lt (g := gb115) (o := .cells #[.string a0_0, .int .i64 a0_1, .slice A0_2 l0_2.length c0_2, .int .i64 a0_3, .slice (some ad120) l0_4.length c0_4] 30 (0, 0)) (by (with_reducible repeat (first | refine blk_drewN ?_ _ | refine blk_drew ?_ | refine blk_alloc ?_ _)); exact BK115.out)) : gb122 ≠ gb115)); clear HO_5; clear BK115; clear HB; have HO_5 := n0_; have BK115 := n1_; have HB := n2_; have BK122 := n3_; have GW122 := n4_; have GE122 := n5_; have NB115_122 := n6_; have NB122_115 := n7_; clear n0_ n1_ n2_ n3_ n4_ n5_ n6_ n7_; clear hb hbox hg; have hnb21 := NB122_115.out; have hnc21 := NB115_122.out; have hcz22_0 : w20.cell? ⟨gb122, 0, none⟩ = some (.int .i64 0) := (blk_cell BK122.out 0).trans rfl; have hcz22_1 : w20.cell? ⟨gb122, 1, none⟩ = some (.int .i64 0) := (blk_cell BK122.out 1).trans rfl; have hcz22_2 : w20.cell? ⟨gb122, 2, none⟩ = some (.int .i64 0) := (blk_cell BK122.out 2).trans rfl; have hcz22_3 : w20.cell? ⟨gb122, 3, none⟩ = some (.int .i64 0) := (blk_cell BK122.out 3).trans rfl; have hcz22_4 : w20.cell? ⟨gb122, 4, none⟩ = some (.int .i64 0) := (blk_cell BK122.out 4).trans rfl; have hcz22_5 : w20.cell? ⟨gb122, 5, none⟩ = some (.int .i64 0) := (blk_cell BK122.out 5).trans rfl; have hcz22_6 : w20.cell? ⟨gb122, 6, none⟩ = some (.slice none 0 0) := (blk_cell BK122.out 6).trans rfl; have hcz22_7 : w20.cell? ⟨gb122, 7, none⟩ = some (.slice none 0 0) := (blk_cell BK122.out 7).trans rfl; have hcz22_8 : w20.cell? ⟨gb122, 8, none⟩ = some (.slice none 0 0) := (blk_cell BK122.out 8).trans rfl; have hfz22_0 := blk_frozen BK122.out 0; have hfz22_1 := blk_frozen BK122.out 1; have hfz22_2 := blk_frozen BK122.out 2; have hfz22_3 := blk_frozen BK122.out 3; have hfz22_4 := blk_frozen BK122.out 4; have hfz22_5 := blk_frozen BK122.out 5; have hfz22_6 := blk_frozen BK122.out 6; have hfz22_7 := blk_frozen BK122.out 7; have hfz22_8 := blk_frozen BK122.out 8))
             go_loopg [5, 8] kj2 (fun kq v5 v8 w' => ∃ (x5_2 : List Int) (x8_2 : Int), v8 = .int .i64 x8_2 ∧ Aside0 (spec_NextBlocks.l0 kq x5_2 x8_2 a0_0 a0_1 l0_2 a0_3 l0_4 ((rd_T66 ((rd_T62 l0_4 a1).f0) (ji16)).f0) ((rd_T66 ((rd_T62 l0_4 a1).f0) (ji16)).f1) ((rd_T66 ((rd_T62 l0_4 a1).f0) (ji16)).f2) ((rd_T66 ((rd_T62 l0_4 a1).f0) (ji16)).f3) ((rd_T66 ((rd_T62 l0_4 a1).f0) (ji16)).f4) ((rd_T66 ((rd_T62 l0_4 a1).f0) (ji16)).f5) ((rd_T66 ((rd_T62 l0_4 a1).f0) (ji16)).f6) ((rd_T66 ((rd_T62 l0_4 a1).f0) (ji16)).f7) ((rd_T66 ((rd_T62 l0_4 a1).f0) (ji16)).f8) = some r) ∧ Aside0 (kq ≤ kj2) ∧ Aside0 (Kd.R (Kd.int .i64) 2 w' w.heap.size (fun _ => True) v5 x5_2) ∧ Aside0 (w'.heap[gb115]? = some (.cells #[.string a0_0, .int .i64 a0_1, (.slice A0_2 l0_2.length c0_2), .int .i64 a0_3, (.slice (some ad120) l0_4.length c0_4)] 30 (0, 0))) ∧ Aside0 (w'.heap[gb122]? = some (.cells #[.int .i64 ((rd_T66 ((rd_T62 l0_4 a1).f0) (ji16)).f0), .int .i64 ((rd_T66 ((rd_T62 l0_4 a1).f0) (ji16)).f1), .int .i64 ((rd_T66 ((rd_T62 l0_4 a1).f0) (ji16)).f2), .int .i64 ((rd_T66 ((rd_T62 l0_4 a1).f0) (ji16)).f3), .int .i64 ((rd_T66 ((rd_T62 l0_4 a1).f0) (ji16)).f4), .int .i64 ((rd_T66 ((rd_T62 l0_4 a1).f0) (ji16)).f5), (.slice A121_6 ((rd_T66 ((rd_T62 l0_4 a1).f0) (ji16)).f6).length c121_6), (.slice A121_7 ((rd_T66 ((rd_T62 l0_4 a1).f0) (ji16)).f7).length c121_7), (.slice A121_8 ((rd_T66 ((rd_T62 l0_4 a1).f0) (ji16)).f8).length c121_8)] 66 (0, 0))) ∧ Aside0 (Below w.heap.size w w'))
             case atStart => exact ⟨(y116), (0), (by first | rfl | (simp; done) | (simp [*]; done)), H', ⟨Nat.le_refl _⟩, ⟨by (with_reducible repeat (first | apply Kd.R_alloc | apply Kd.R_drewN | apply Kd.R_drew)); exact Kd.R_mono (Kd.R_far (p := ⟨gb122, 8, none⟩) (Kd.R_far (p := ⟨gb122, 7, none⟩) (Kd.R_far (p := ⟨gb122, 6, none⟩) (Kd.R_far (p := ⟨gb122, 5, none⟩) (Kd.R_far (p := ⟨gb122, 4, none⟩) (Kd.R_far (p := ⟨gb122, 3, none⟩) (Kd.R_far (p := ⟨gb122, 2, none⟩) (Kd.R_far (p := ⟨gb122, 1, none⟩) (Kd.R_far (p := ⟨gb122, 0, none⟩) (Kd.R_types HO_5.out BK122.out (by decide)) (fun _ hk => hk.2) (.int .i64 ((rd_T66 ((rd_T62 l0_4 a1).f0) (ji16)).f0))) (fun _ hk => hk.2) (.int .i64 ((rd_T66 ((rd_T62 l0_4 a1).f0) (ji16)).f1))) (fun _ hk => hk.2) (.int .i64 ((rd_T66 ((rd_T62 l0_4 a1).f0) (ji16)).f2))) (fun _ hk => hk.2) (.int .i64 ((rd_T66 ((rd_T62 l0_4 a1).f0) (ji16)).f3))) (fun _ hk => hk.2) (.int .i64 ((rd_T66 ((rd_T62 l0_4 a1).f0) (ji16)).f4))) (fun _ hk => hk.2) (.int .i64 ((rd_T66 ((rd_T62 l0_4 a1).f0) (ji16)).f5))) (fun _ hk => hk.2) (.slice A121_6 ((rd_T66 ((rd_T62 l0_4 a1).f0) (ji16)).f6).length c121_6)) (fun _ hk => hk.2) (.slice A121_7 ((rd_T66 ((rd_T62 l0_4 a1).f0) (ji16)).f7).length c121_7)) (fun _ hk => hk.2) (.slice A121_8 ((rd_T66 ((rd_T62 l0_4 a1).f0) (ji16)).f8).length c121_8)) (fun _ hk => trivial)⟩, ⟨by (with_reducible repeat (first | refine blk_drewN ?_ _ | refine blk_drew ?_ | refine blk_alloc ?_ _)); refine blk_far ?_ NB115_122.out _; (with_reducible repeat (first | refine blk_drewN ?_ _ | refine blk_drew ?_ | refine blk_alloc ?_ _)); refine blk_far ?_ NB115_122.out _; (with_reducible repeat (first | refine blk_drewN ?_ _ | refine blk_drew ?_ | refine blk_alloc ?_ _)); refine blk_far ?_ NB115_122.out _; (with_reducible repeat (first | refine blk_drewN ?_ _ | refine blk_drew ?_ | refine blk_alloc ?_ _)); refine blk_far ?_ NB115_122.out _; (with_reducible repeat (first | refine blk_drewN ?_ _ | refine blk_drew ?_ | refine blk_alloc ?_ _)); refine blk_far ?_ NB115_122.out _; (with_reducible repeat (first | refine blk_drewN ?_ _ | refine blk_drew ?_ | refine blk_alloc ?_ _)); refine blk_far ?_ NB115_122.out _; (with_reducible repeat (first | refine blk_drewN ?_ _ | refine blk_drew ?_ | refine blk_alloc ?_ _)); refine blk_far ?_ NB115_122.out _; (with_reducible repeat (first | refine blk_drewN ?_ _ | refine blk_drew ?_ | refine blk_alloc ?_ _)); refine blk_far ?_ NB115_122.out _; (with_reducible repeat (first | refine blk_drewN ?_ _ | refine blk_drew ?_ | refine blk_alloc ?_ _)); refine blk_far ?_ NB115_122.out _; (with_reducible repeat (first | refine blk_drewN ?_ _ | refine blk_drew ?_ | refine blk_alloc ?_ _)); exact BK115.out⟩, ⟨by (with_reducible repeat (first | refine blk_drewN ?_ _ | refine blk_drew ?_ | refine blk_alloc ?_ _)); refine blk_put (cs := #[.int .i64 ((rd_T66 ((rd_T62 l0_4 a1).f0) (ji16)).f0), .int .i64 ((rd_T66 ((rd_T62 l0_4 a1).f0) (ji16)).f1), .int .i64 ((rd_T66 ((rd_T62 l0_4 a1).f0) (ji16)).f2), .int .i64 ((rd_T66 ((rd_T62 l0_4 a1).f0) (ji16)).f3), .int .i64 ((rd_T66 ((rd_T62 l0_4 a1).f0) (ji16)).f4), .int .i64 ((rd_T66 ((rd_T62 l0_4 a1).f0) (ji16)).f5), .slice A121_6 ((rd_T66 ((rd_T62 l0_4 a1).f0) (ji16)).f6).length c121_6, .slice A121_7 ((rd_T66 ((rd_T62 l0_4 a1).f0) (ji16)).f7).length c121_7, .slice none 0 0]) ?_ 8 _ rfl; (with_reducible repeat (first | refine blk_drewN ?_ _ | refine blk_drew ?_ | refine blk_alloc ?_ _)); refine blk_put (cs := #[.int .i64 ((rd_T66 ((rd_T62 l0_4 a1).f0) (ji16)).f0), .int .i64 ((rd_T66 ((rd_T62 l0_4 a1).f0) (ji16)).f1), .int .i64 ((rd_T66 ((rd_T62 l0_4 a1).f0) (ji16)).f2), .int .i64 ((rd_T66 ((rd_T62 l0_4 a1).f0) (ji16)).f3), .int .i64 ((rd_T66 ((rd_T62 l0_4 a1).f0) (ji16)).f4), .int .i64 ((rd_T66 ((rd_T62 l0_4 a1).f0) (ji16)).f5), .slice A121_6 ((rd_T66 ((rd_T62 l0_4 a1).f0) (ji16)).f6).length c121_6, .slice none 0 0, .slice none 0 0]) ?_ 7 _ rfl; (with_reducible repeat (first | refine blk_drewN ?_ _ | refine blk_drew ?_ | refine blk_alloc ?_ _)); refine blk_put (cs := #[.int .i64 ((rd_T66 ((rd_T62 l0_4 a1).f0) (ji16)).f0), .int .i64 ((rd_T66 ((rd_T62 l0_4 a1).f0) (ji16)).f1), .int .i64 ((rd_T66 ((rd_T62 l0_4 a1).f0) (ji16)).f2), .int .i64 ((rd_T66 ((rd_T62 l0_4 a1).f0) (ji16)).f3), .int .i64 ((rd_T66 ((rd_T62 l0_4 a1).f0) (ji16)).f4), .int .i64 ((rd_T66 ((rd_T62 l0_4 a1).f0) (ji16)).f5), .slice none 0 0, .slice none 0 0, .slice none 0 0]) ?_ 6 _ rfl; (with_reducible repeat (first | refine blk_drewN ?_ _ | refine blk_drew ?_ | refine blk_alloc ?_ _)); refine blk_put (cs := #[.int .i64 ((rd_T66 ((rd_T62 l0_4 a1).f0) (ji16)).f0), .int .i64 ((rd_T66 ((rd_T62 l0_4 a1).f0) (ji16)).f1), .int .i64 ((rd_T66 ((rd_T62 l0_4 a1).f0) (ji16)).f2), .int .i64 ((rd_T66 ((rd_T62 l0_4 a1).f0) (ji16)).f3), .int .i64 ((rd_T66 ((rd_T62 l0_4 a1).f0) (ji16)).f4), .int .i64 0, .slice none 0 0, .slice none 0 0, .slice none 0 0]) ?_ 5 _ rfl; (with_reducible repeat (first | refine blk_drewN ?_ _ | refine blk_drew ?_ | refine blk_alloc ?_ _)); refine blk_put (cs := #[.int .i64 ((rd_T66 ((rd_T62 l0_4 a1).f0) (ji16)).f0), .int .i64 ((rd_T66 ((rd_T62 l0_4 a1).f0) (ji16)).f1), .int .i64 ((rd_T66 ((rd_T62 l0_4 a1).f0) (ji16)).f2), .int .i64 ((rd_T66 ((rd_T62 l0_4 a1).f0) (ji16)).f3), .int .i64 0, .int .i64 0, .slice none 0 0, .slice none 0 0, .slice none 0 0]) ?_ 4 _ rfl; (with_reducible repeat (first | refine blk_drewN ?_ _ | refine blk_drew ?_ | refine blk_alloc ?_ _)); refine blk_put (cs := #[.int .i64 ((rd_T66 ((rd_T62 l0_4 a1).f0) (ji16)).f0), .int .i64 ((rd_T66 ((rd_T62 l0_4 a1).f0) (ji16)).f1), .int .i64 ((rd_T66 ((rd_T62 l0_4 a1).f0) (ji16)).f2), .int .i64 0, .int .i64 0, .int .i64 0, .slice none 0 0, .slice none 0 0, .slice none 0 0]) ?_ 3 _ rfl; (with_reducible repeat (first | refine blk_drewN ?_ _ | refine blk_drew ?_ | refine blk_alloc ?_ _)); refine blk_put (cs := #[.int .i64 ((rd_T66 ((rd_T62 l0_4 a1).f0) (ji16)).f0), .int .i64 ((rd_T66 ((rd_T62 l0_4 a1).f0) (ji16)).f1), .int .i64 0, .int .i64 0, .int .i64 0, .int .i64 0, .slice none 0 0, .slice none 0 0, .slice none 0 0]) ?_ 2 _ rfl; (with_reducible repeat (first | refine blk_drewN ?_ _ | refine blk_drew ?_ | refine blk_alloc ?_ _)); refine blk_put (cs := #[.int .i64 ((rd_T66 ((rd_T62 l0_4 a1).f0) (ji16)).f0), .int .i64 0, .int .i64 0, .int .i64 0, .int .i64 0, .int .i64 0, .slice none 0 0, .slice none 0 0, .slice none 0 0]) ?_ 1 _ rfl; (with_reducible repeat (first | refine blk_drewN ?_ _ | refine blk_drew ?_ | refine blk_alloc ?_ _)); refine blk_put (cs := #[.int .i64 0, .int .i64 0, .int .i64 0, .int .i64 0, .int .i64 0, .int .i64 0, .slice none 0 0, .slice none 0 0, .slice none 0 0]) ?_ 0 _ rfl; (with_reducible repeat (first | refine blk_drewN ?_ _ | refine blk_drew ?_ | refine blk_alloc ?_ _)); exact BK122.out⟩, ⟨by repeat (first | (with_reducible first | exact HB.out | apply below_alloc | apply pw_below_drewN | apply below_drew1 | refine below_set ?_ GE115.out | refine below_set ?_ GE122.out) | exact HB.out)⟩⟩
             case round =>
              clear H'
              try clear c1
              try clear p1
              try clear q1
              try clear hx1
              try clear c2
              try clear p2
              try clear p6
              try clear c7
              try clear c7b0
              try clear c8
              try clear c8b0
              try clear c10
              try clear c10b0
              try clear c11
              try clear c11b0
              try clear p11
              try clear q11
              try clear hx11
              try clear c12
              try clear p12
              try clear q12
              try clear hx12
              try clear c13
              try clear c14
              try clear c14b0
              try clear c15
              try clear c15b0
              try clear c17
              try clear c17b0
              try clear c18
              try clear c18b0
              try clear c21
              try clear hcz12_0
              try clear hcz12_1
              try clear hcz12_2
              try clear hcz12_3
              try clear hcz12_4
              try clear hcz19_0
              try clear hcz19_1
              try clear hcz19_2
              try clear hcz19_3
              try clear hcz19_4
              try clear hcz22_0
              try clear hcz22_1
              try clear hcz22_2
              try clear hcz22_3
              try clear hcz22_4
              try clear hcz22_5
              try clear hcz22_6
              try clear hcz22_7
              try clear hcz22_8
              try clear hcz9_0
              try clear hcz9_1
              try clear hcz9_2
              try clear hcz9_3
              try clear hcz9_4
              try clear hfz12_0
              try clear hfz12_1
              try clear hfz12_2
              try clear hfz12_3
              try clear hfz12_4
              try clear hfz19_0
              try clear hfz19_1
              try clear hfz19_2
              try clear hfz19_3
              try clear hfz19_4
              try clear hfz22_0
              try clear hfz22_1
              try clear hfz22_2
              try clear hfz22_3
              try clear hfz22_4
              try clear hfz22_5
              try clear hfz22_6
              try clear hfz22_7
              try clear hfz22_8
              try clear hfz9_0
              try clear hfz9_1
              try clear hfz9_2
              try clear hfz9_3
              try clear hfz9_4
              try clear hx119_0
              try clear hx120_0
              try clear hx121_0
              try clear hx121_1
              try clear hx121_2
              try clear hx121_3
              try clear hx121_4
              try clear hx121_5
              try clear hx121_6
              try clear hx121_7
              try clear hx121_8
              try clear p1
              try clear p11
              try clear p119
              try clear p120
              try clear p121
              try clear p2
              try clear q1
              try clear q11
              try clear q119
              try clear q120
              try clear q121
              obtain ⟨x5_2, x8_2, rfl, HA, HK2, HO_5, BK115, BK122, HB⟩ := hrel
              cases gk with
              | zero => exact absurd HA.out (by simp [spec_NextBlocks.l0])
              | succ k2 =>
               have H := HA.out
               clear HA
               simp only [spec_NextBlocks.l0] at H
               by_cases c23 : x8_2 < (((rd_T66 ((rd_T62 l0_4 a1).f0) (ji16)).f7).length : Int)
               · rw [if_pos c23] at H
                 have c23b0 : decide (x8_2 < (((rd_T66 ((rd_T62 l0_4 a1).f0) (ji16)).f7).length : Int)) = true := decide_eq_true c23
                 clear c23
                 by_cases c24 : 0 ≤ x8_2
                 · rw [if_pos c24] at H
                   have c24b0 : decide (0 ≤ x8_2) = true := decide_eq_true c24
                   clear c24
                   by_cases c25 : (rd ((rd_T66 ((rd_T62 l0_4 a1).f0) (ji16)).f7) x8_2) ≥ 0
                   · rw [if_pos c25] at H
                     have c25b0 : decide (0 ≤ (rd ((rd_T66 ((rd_T62 l0_4 a1).f0) (ji16)).f7) x8_2)) = true := decide_eq_true c25
                     clear c25
                     by_cases c26 : (rd ((rd_T66 ((rd_T62 l0_4 a1).f0) (ji16)).f7) x8_2) < (l0_4.length : Int)
                     · rw [if_pos c26] at H
                       have c26b0 : decide ((rd ((rd_T66 ((rd_T62 l0_4 a1).f0) (ji16)).f7) x8_2) < (l0_4.length : Int)) = true := decide_eq_true c26
                       clear c26
                       replace H := Option.bind_eq_some_iff.mp H
                       obtain ⟨t124, A270, H⟩ := H
                       replace H : (if t124 = true then (spec_NextBlocks.l0 k2 x5_2 (wrap64 (x8_2 + 1)) a0_0 a0_1 l0_2 a0_3 l0_4 ((rd_T66 ((rd_T62 l0_4 a1).f0) (ji16)).f0) ((rd_T66 ((rd_T62 l0_4 a1).f0) (ji16)).f1) ((rd_T66 ((rd_T62 l0_4 a1).f0) (ji16)).f2) ((rd_T66 ((rd_T62 l0_4 a1).f0) (ji16)).f3) ((rd_T66 ((rd_T62 l0_4 a1).f0) (ji16)).f4) ((rd_T66 ((rd_T62 l0_4 a1).f0) (ji16)).f5) ((rd_T66 ((rd_T62 l0_4 a1).f0) (ji16)).f6) ((rd_T66 ((rd_T62 l0_4 a1).f0) (ji16)).f7) ((rd_T66 ((rd_T62 l0_4 a1).f0) (ji16)).f8)) else (if x5_2.length < 17592186044416 then (spec_NextBlocks.l0 k2 (x5_2 ++ [rd ((rd_T66 ((rd_T62 l0_4 a1).f0) (ji16)).f7) x8_2]) (wrap64 (x8_2 + 1)) a0_0 a0_1 l0_2 a0_3 l0_4 ((rd_T66 ((rd_T62 l0_4 a1).f0) (ji16)).f0) ((rd_T66 ((rd_T62 l0_4 a1).f0) (ji16)).f1) ((rd_T66 ((rd_T62 l0_4 a1).f0) (ji16)).f2) ((rd_T66 ((rd_T62 l0_4 a1).f0) (ji16)).f3) ((rd_T66 ((rd_T62 l0_4 a1).f0) (ji16)).f4) ((rd_T66 ((rd_T62 l0_4 a1).f0) (ji16)).f5) ((rd_T66 ((rd_T62 l0_4 a1).f0) (ji16)).f6) ((rd_T66 ((rd_T62 l0_4 a1).f0) (ji16)).f7) ((rd_T66 ((rd_T62 l0_4 a1).f0) (ji16)).f8)) else (none))) = some r := H
                       have A27 := Aside0.mk A270
                       clear A270
                       by_cases c28 : t124 = true
                       · subst c28
                         have H1 : (spec_NextBlocks.l0 k2 x5_2 (wrap64 (x8_2 + 1)) a0_0 a0_1 l0_2 a0_3 l0_4 ((rd_T66 ((rd_T62 l0_4 a1).f0) (ji16)).f0) ((rd_T66 ((rd_T62 l0_4 a1).f0) (ji16)).f1) ((rd_T66 ((rd_T62 l0_4 a1).f0) (ji16)).f2) ((rd_T66 ((rd_T62 l0_4 a1).f0) (ji16)).f3) ((rd_T66 ((rd_T62 l0_4 a1).f0) (ji16)).f4) ((rd_T66 ((rd_T62 l0_4 a1).f0) (ji16)).f5) ((rd_T66 ((rd_T62 l0_4 a1).f0) (ji16)).f6) ((rd_T66 ((rd_T62 l0_4 a1).f0) (ji16)).f7) ((rd_T66 ((rd_T62 l0_4 a1).f0) (ji16)).f8)) = some r := by rw [if_pos rfl] at H; exact H
                         clear H
                         have H := H1
                         clear H1
                         have H' := Aside0.mk H
                         clear H
                         have hnb29 := NB122_115.out
                         have hnc29 := NB115_122.out
                         have hcz30_0 : wr.cell? ⟨gb122, 0, none⟩ = some (.int .i64 ((rd_T66 ((rd_T62 l0_4 a1).f0) (ji16)).f0)) := (blk_cell BK122.out 0).trans rfl
                         have hcz30_1 : wr.cell? ⟨gb122, 1, none⟩ = some (.int .i64 ((rd_T66 ((rd_T62 l0_4 a1).f0) (ji16)).f1)) := (blk_cell BK122.out 1).trans rfl
                         have hcz30_2 : wr.cell? ⟨gb122, 2, none⟩ = some (.int .i64 ((rd_T66 ((rd_T62 l0_4 a1).f0) (ji16)).f2)) := (blk_cell BK122.out 2).trans rfl
                         have hcz30_3 : wr.cell? ⟨gb122, 3, none⟩ = some (.int .i64 ((rd_T66 ((rd_T62 l0_4 a1).f0) (ji16)).f3)) := (blk_cell BK122.out 3).trans rfl
                         have hcz30_4 : wr.cell? ⟨gb122, 4, none⟩ = some (.int .i64 ((rd_T66 ((rd_T62 l0_4 a1).f0) (ji16)).f4)) := (blk_cell BK122.out 4).trans rfl
                         have hcz30_5 : wr.cell? ⟨gb122, 5, none⟩ = some (.int .i64 ((rd_T66 ((rd_T62 l0_4 a1).f0) (ji16)).f5)) := (blk_cell BK122.out 5).trans rfl
                         have hcz30_6 : wr.cell? ⟨gb122, 6, none⟩ = some (.slice A121_6 ((rd_T66 ((rd_T62 l0_4 a1).f0) (ji16)).f6).length c121_6) := (blk_cell BK122.out 6).trans rfl
                         have hcz30_7 : wr.cell? ⟨gb122, 7, none⟩ = some (.slice A121_7 ((rd_T66 ((rd_T62 l0_4 a1).f0) (ji16)).f7).length c121_7) := (blk_cell BK122.out 7).trans rfl
                         have hcz30_8 : wr.cell? ⟨gb122, 8, none⟩ = some (.slice A121_8 ((rd_T66 ((rd_T62 l0_4 a1).f0) (ji16)).f8).length c121_8) := (blk_cell BK122.out 8).trans rfl
                         have hfz30_0 := blk_frozen BK122.out 0
                         have hfz30_1 := blk_frozen BK122.out 1
                         have hfz30_2 := blk_frozen BK122.out 2
                         have hfz30_3 := blk_frozen BK122.out 3
                         have hfz30_4 := blk_frozen BK122.out 4
                         have hfz30_5 := blk_frozen BK122.out 5
                         have hfz30_6 := blk_frozen BK122.out 6
                         have hfz30_7 := blk_frozen BK122.out 7
                         have hfz30_8 := blk_frozen BK122.out 8
                         have p123 : 0 ≤ (x8_2 : Int) := of_decide_eq_true (by first | (with_reducible assumption) | assumption)
                         have q123 : x8_2 < (((rd_T66 ((rd_T62 l0_4 a1).f0) (ji16)).f7).length : Int) := of_decide_eq_true (by first | (with_reducible assumption) | assumption)
                         obtain ⟨ad123, e123, hx123_0⟩ := Kd.at_int HR121_7.out x8_2 p123 q123
                         cases e123
                         replace hx123_0 := (HB.out.cell (World.block_lt_of_cell? w _ hx123_0)).trans hx123_0
                         replace p123 := eq_true p123
                         replace q123 := eq_true q123
                         have hcz31_0 : wr.cell? ⟨gb115, 0, none⟩ = some (.string a0_0) := (blk_cell BK115.out 0).trans rfl
                         have hcz31_1 : wr.cell? ⟨gb115, 1, none⟩ = some (.int .i64 a0_1) := (blk_cell BK115.out 1).trans rfl
                         have hcz31_2 : wr.cell? ⟨gb115, 2, none⟩ = some (.slice A0_2 l0_2.length c0_2) := (blk_cell BK115.out 2).trans rfl
                         have hcz31_3 : wr.cell? ⟨gb115, 3, none⟩ = some (.int .i64 a0_3) := (blk_cell BK115.out 3).trans rfl
                         have hcz31_4 : wr.cell? ⟨gb115, 4, none⟩ = some (.slice (some ad120) l0_4.length c0_4) := (blk_cell BK115.out 4).trans rfl
                         have hfz31_0 := blk_frozen BK115.out 0
                         have hfz31_1 := blk_frozen BK115.out 1
                         have hfz31_2 := blk_frozen BK115.out 2
                         have hfz31_3 := blk_frozen BK115.out 3
                         have hfz31_4 := blk_frozen BK115.out 4
                         obtain ⟨Ao32, co32, eo32⟩ := Kd.R_slice HO_5.out
                         subst eo32
                         go_wp2_with (first | (go_at_call 51; (with_reducible refine (spec_l4Has.calls k2 _ _ x5_2 (rd ((rd_T66 ((rd_T62 l0_4 a1).f0) (ji16)).f7) x8_2) true _ ?side1 ?side2 A27.out).mono ?_); (case side1 => repeat (first | exact (Kd.R_reads' HO_5.out).2.2 | (with_reducible refine Kd.C_alloc ?_ _) | (with_reducible refine Kd.C_drewN ?_ _) | (with_reducible refine Kd.C_drew ?_))); (case side2 => exact (Kd.R_reads' HO_5.out).2.1); rintro e w' ⟨rfl, ⟨nd, rfl⟩⟩))
                         go_roundg k2
                         case measure => have := HJ2.out; have := HK2.out; omega
                         case rel => exact ⟨(x5_2), (wrap64 (x8_2 + 1)), (by first | rfl | (simp; done) | (simp [*]; done)), H', ⟨by have := HJ2.out; have := HK2.out; omega⟩, ⟨by (with_reducible repeat (first | apply Kd.R_alloc | apply Kd.R_drewN | apply Kd.R_drew)); exact HO_5.out⟩, ⟨by (with_reducible repeat (first | refine blk_drewN ?_ _ | refine blk_drew ?_ | refine blk_alloc ?_ _)); exact BK115.out⟩, ⟨by (with_reducible repeat (first | refine blk_drewN ?_ _ | refine blk_drew ?_ | refine blk_alloc ?_ _)); exact BK122.out⟩, ⟨by repeat (first | (with_reducible first | exact HB.out | apply below_alloc | apply pw_below_drewN | apply below_drew1 | refine below_set ?_ GE115.out | refine below_set ?_ GE122.out) | exact HB.out)⟩⟩
                       · replace c28 := Bool.eq_false_iff.mpr c28
                         subst c28
                         have H1 : (if x5_2.length < 17592186044416 then (spec_NextBlocks.l0 k2 (x5_2 ++ [rd ((rd_T66 ((rd_T62 l0_4 a1).f0) (ji16)).f7) x8_2]) (wrap64 (x8_2 + 1)) a0_0 a0_1 l0_2 a0_3 l0_4 ((rd_T66 ((rd_T62 l0_4 a1).f0) (ji16)).f0) ((rd_T66 ((rd_T62 l0_4 a1).f0) (ji16)).f1) ((rd_T66 ((rd_T62 l0_4 a1).f0) (ji16)).f2) ((rd_T66 ((rd_T62 l0_4 a1).f0) (ji16)).f3) ((rd_T66 ((rd_T62 l0_4 a1).f0) (ji16)).f4) ((rd_T66 ((rd_T62 l0_4 a1).f0) (ji16)).f5) ((rd_T66 ((rd_T62 l0_4 a1).f0) (ji16)).f6) ((rd_T66 ((rd_T62 l0_4 a1).f0) (ji16)).f7) ((rd_T66 ((rd_T62 l0_4 a1).f0) (ji16)).f8)) else (none)) = some r := by rw [if_neg (show ¬ (false = true) by decide)] at H; exact H
                         clear H
                         have H := H1
                         clear H1
                         by_cases c33 : x5_2.length < 17592186044416
                         · rw [if_pos c33] at H
                           have LMc33 := Aside0.mk c33
                           clear c33
                           obtain ⟨y125, hy125⟩ : ∃ y_ : List Int, y_ = (x5_2 ++ [rd ((rd_T66 ((rd_T62 l0_4 a1).f0) (ji16)).f7) x8_2]) := ⟨_, rfl⟩
                           replace H : (spec_NextBlocks.l0 k2 y125 (wrap64 (x8_2 + 1)) a0_0 a0_1 l0_2 a0_3 l0_4 ((rd_T66 ((rd_T62 l0_4 a1).f0) (ji16)).f0) ((rd_T66 ((rd_T62 l0_4 a1).f0) (ji16)).f1) ((rd_T66 ((rd_T62 l0_4 a1).f0) (ji16)).f2) ((rd_T66 ((rd_T62 l0_4 a1).f0) (ji16)).f3) ((rd_T66 ((rd_T62 l0_4 a1).f0) (ji16)).f4) ((rd_T66 ((rd_T62 l0_4 a1).f0) (ji16)).f5) ((rd_T66 ((rd_T62 l0_4 a1).f0) (ji16)).f6) ((rd_T66 ((rd_T62 l0_4 a1).f0) (ji16)).f7) ((rd_T66 ((rd_T62 l0_4 a1).f0) (ji16)).f8)) = some r := by first | (rw [hy125]; with_reducible exact H) | (have H2_ := (Option.bind_some _ _).symm.trans H; rw [hy125]; with_reducible exact H2_) | (have H2_ := (Option.bind_some _ _).symm.trans H; with_reducible exact H2_) | with_reducible exact H | (rw [hy125]; exact H) | exact H
                           have Ny125 := Aside0.mk hy125
                           clear hy125
                           have H' := Aside0.mk H
                           clear H
                           have hnb34 := NB122_115.out
                           have hnc34 := NB115_122.out
                           have hcz35_0 : wr.cell? ⟨gb122, 0, none⟩ = some (.int .i64 ((rd_T66 ((rd_T62 l0_4 a1).f0) (ji16)).f0)) := (blk_cell BK122.out 0).trans rfl
                           have hcz35_1 : wr.cell? ⟨gb122, 1, none⟩ = some (.int .i64 ((rd_T66 ((rd_T62 l0_4 a1).f0) (ji16)).f1)) := (blk_cell BK122.out 1).trans rfl
                           have hcz35_2 : wr.cell? ⟨gb122, 2, none⟩ = some (.int .i64 ((rd_T66 ((rd_T62 l0_4 a1).f0) (ji16)).f2)) := (blk_cell BK122.out 2).trans rfl
                           have hcz35_3 : wr.cell? ⟨gb122, 3, none⟩ = some (.int .i64 ((rd_T66 ((rd_T62 l0_4 a1).f0) (ji16)).f3)) := (blk_cell BK122.out 3).trans rfl
                           have hcz35_4 : wr.cell? ⟨gb122, 4, none⟩ = some (.int .i64 ((rd_T66 ((rd_T62 l0_4 a1).f0) (ji16)).f4)) := (blk_cell BK122.out 4).trans rfl
                           have hcz35_5 : wr.cell? ⟨gb122, 5, none⟩ = some (.int .i64 ((rd_T66 ((rd_T62 l0_4 a1).f0) (ji16)).f5)) := (blk_cell BK122.out 5).trans rfl
                           have hcz35_6 : wr.cell? ⟨gb122, 6, none⟩ = some (.slice A121_6 ((rd_T66 ((rd_T62 l0_4 a1).f0) (ji16)).f6).length c121_6) := (blk_cell BK122.out 6).trans rfl
                           have hcz35_7 : wr.cell? ⟨gb122, 7, none⟩ = some (.slice A121_7 ((rd_T66 ((rd_T62 l0_4 a1).f0) (ji16)).f7).length c121_7) := (blk_cell BK122.out 7).trans rfl
                           have hcz35_8 : wr.cell? ⟨gb122, 8, none⟩ = some (.slice A121_8 ((rd_T66 ((rd_T62 l0_4 a1).f0) (ji16)).f8).length c121_8) := (blk_cell BK122.out 8).trans rfl
                           have hfz35_0 := blk_frozen BK122.out 0
                           have hfz35_1 := blk_frozen BK122.out 1
                           have hfz35_2 := blk_frozen BK122.out 2
                           have hfz35_3 := blk_frozen BK122.out 3
                           have hfz35_4 := blk_frozen BK122.out 4
                           have hfz35_5 := blk_frozen BK122.out 5
                           have hfz35_6 := blk_frozen BK122.out 6
                           have hfz35_7 := blk_frozen BK122.out 7
                           have hfz35_8 := blk_frozen BK122.out 8
                           have p123 : 0 ≤ (x8_2 : Int) := of_decide_eq_true (by first | (with_reducible assumption) | assumption)
                           have q123 : x8_2 < (((rd_T66 ((rd_T62 l0_4 a1).f0) (ji16)).f7).length : Int) := of_decide_eq_true (by first | (with_reducible assumption) | assumption)
                           obtain ⟨ad123, e123, hx123_0⟩ := Kd.at_int HR121_7.out x8_2 p123 q123
                           cases e123
                           replace hx123_0 := (HB.out.cell (World.block_lt_of_cell? w _ hx123_0)).trans hx123_0
                           replace p123 := eq_true p123
                           replace q123 := eq_true q123
                           have hcz36_0 : wr.cell? ⟨gb115, 0, none⟩ = some (.string a0_0) := (blk_cell BK115.out 0).trans rfl
                           have hcz36_1 : wr.cell? ⟨gb115, 1, none⟩ = some (.int .i64 a0_1) := (blk_cell BK115.out 1).trans rfl
                           have hcz36_2 : wr.cell? ⟨gb115, 2, none⟩ = some (.slice A0_2 l0_2.length c0_2) := (blk_cell BK115.out 2).trans rfl
                           have hcz36_3 : wr.cell? ⟨gb115, 3, none⟩ = some (.int .i64 a0_3) := (blk_cell BK115.out 3).trans rfl
                           have hcz36_4 : wr.cell? ⟨gb115, 4, none⟩ = some (.slice (some ad120) l0_4.length c0_4) := (blk_cell BK115.out 4).trans rfl
                           have hfz36_0 := blk_frozen BK115.out 0
                           have hfz36_1 := blk_frozen BK115.out 1
                           have hfz36_2 := blk_frozen BK115.out 2
                           have hfz36_3 := blk_frozen BK115.out 3
                           have hfz36_4 := blk_frozen BK115.out 4
                           obtain ⟨Ao37, co37, eo37⟩ := Kd.R_slice HO_5.out
                           subst eo37
                           go_wp2_with (first | (go_at_call 51; (with_reducible refine (spec_l4Has.calls k2 _ _ x5_2 (rd ((rd_T66 ((rd_T62 l0_4 a1).f0) (ji16)).f7) x8_2) false _ ?side1 ?side2 A27.out).mono ?_); (case side1 => repeat (first | exact (Kd.R_reads' HO_5.out).2.2 | (with_reducible refine Kd.C_alloc ?_ _) | (with_reducible refine Kd.C_drewN ?_ _) | (with_reducible refine Kd.C_drew ?_))); (case side2 => exact (Kd.R_reads' HO_5.out).2.1); rintro e w' ⟨rfl, ⟨nd, rfl⟩⟩) | ((with_reducible refine gate_builtin (b := .append) (xs := #[.tmp 70, .tmp 72]) rfl ?_); (try (refine gate_guard (by rfl) ?_; dsimp only)); at_builtin; refine Kd.R_append (Kd.int .i64) (w0 := w) w.heap.size rfl (.tmp 70) (.tmp 72) 22 2 (.int .i64 0) 8 rfl Try.underlying22 info2 rfl (by decide) (by omega) (.slice Ao37 x5_2.length co37) x5_2 (rd ((rd_T66 ((rd_T62 l0_4 a1).f0) (ji16)).f7) x8_2) [.int .i64 (rd ((rd_T66 ((rd_T62 l0_4 a1).f0) (ji16)).f7) x8_2)] (fun _ => True) (fun _ => False) rfl rfl ?aP (fun _ hk => hk.elim) ?aF ?aO ?aB ?aS ?aL ?_; (case aP => exact rfl); (case aB => exact (by repeat (first | (with_reducible first | exact HB.out | apply below_alloc | apply pw_below_drewN | apply below_drew1 | refine below_set ?_ GE115.out | refine below_set ?_ GE122.out) | exact HB.out))); (case aF => exact (fun _ _ => trivial)); (case aO => exact (by (with_reducible repeat (first | apply Kd.R_alloc | apply Kd.R_drewN | apply Kd.R_drew)); exact HO_5.out)); (case aS => exact (below_size (by repeat (first | (with_reducible first | exact HB.out | apply below_alloc | apply pw_below_drewN | apply below_drew1 | refine below_set ?_ GE115.out | refine below_set ?_ GE122.out) | exact HB.out)))); (case aL => have := LMc33.out; omega); intro v126 w38 ho hb hg hat; rw [← Ny125.out] at ho; have n0_ := Aside0.mk (blk_grown (g := gb115) (o := .cells #[.string a0_0, .int .i64 a0_1, .slice A0_2 l0_2.length c0_2, .int .i64 a0_3, .slice (some ad120) l0_4.length c0_4] 30 (0, 0)) (by (with_reducible repeat (first | refine blk_drewN ?_ _ | refine blk_drew ?_ | refine blk_alloc ?_ _)); exact BK115.out) hg (Kd.R_ne HO_5.out BK115.out (by decide))); have n1_ := Aside0.mk (blk_grown (g := gb122) (o := .cells #[.int .i64 ((rd_T66 ((rd_T62 l0_4 a1).f0) (ji16)).f0), .int .i64 ((rd_T66 ((rd_T62 l0_4 a1).f0) (ji16)).f1), .int .i64 ((rd_T66 ((rd_T62 l0_4 a1).f0) (ji16)).f2), .int .i64 ((rd_T66 ((rd_T62 l0_4 a1).f0) (ji16)).f3), .int .i64 ((rd_T66 ((rd_T62 l0_4 a1).f0) (ji16)).f4), .int .i64 ((rd_T66 ((rd_T62 l0_4 a1).f0) (ji16)).f5), .slice A121_6 ((rd_T66 ((rd_T62 l0_4 a1).f0) (ji16)).f6).length c121_6, .slice (some ad123) ((rd_T66 ((rd_T62 l0_4 a1).f0) (ji16)).f7).length c121_7, .slice A121_8 ((rd_T66 ((rd_T62 l0_4 a1).f0) (ji16)).f8).length c121_8] 66 (0, 0)) (by (with_reducible repeat (first | refine blk_drewN ?_ _ | refine blk_drew ?_ | refine blk_alloc ?_ _)); exact BK122.out) hg (Kd.R_ne HO_5.out BK122.out (by decide))); have n2_ := Aside0.mk (hb); have n3_ := Aside0.mk (ho); clear BK115; clear BK122; clear HB; clear HO_5; have BK115 := n0_; have BK122 := n1_; have HB := n2_; have HO127 := n3_; clear n0_ n1_ n2_ n3_; clear ho hb hg hat))
                           go_roundg k2
                           case measure => have := HJ2.out; have := HK2.out; omega
                           case rel => exact ⟨(y125), (wrap64 (x8_2 + 1)), (by first | rfl | (simp; done) | (simp [*]; done)), H', ⟨by have := HJ2.out; have := HK2.out; omega⟩, ⟨by (with_reducible repeat (first | apply Kd.R_alloc | apply Kd.R_drewN | apply Kd.R_drew)); exact HO127.out⟩, ⟨by (with_reducible repeat (first | refine blk_drewN ?_ _ | refine blk_drew ?_ | refine blk_alloc ?_ _)); exact BK115.out⟩, ⟨by (with_reducible repeat (first | refine blk_drewN ?_ _ | refine blk_drew ?_ | refine blk_alloc ?_ _)); exact BK122.out⟩, ⟨by repeat (first | (with_reducible first | exact HB.out | apply below_alloc | apply pw_below_drewN | apply below_drew1 | refine below_set ?_ GE115.out | refine below_set ?_ GE122.out) | exact HB.out)⟩⟩
                         · rw [if_neg c33] at H
                           exact absurd H (by simp)
                     · rw [if_neg c26] at H
                       have c26b0 : decide ((rd ((rd_T66 ((rd_T62 l0_4 a1).f0) (ji16)).f7) x8_2) < (l0_4.length : Int)) = false := decide_eq_false c26
                       clear c26
                       have H' := Aside0.mk H
                       clear H
                       have hnb39 := NB122_115.out
                       have hnc39 := NB115_122.out
                       have hcz40_0 : wr.cell? ⟨gb122, 0, none⟩ = some (.int .i64 ((rd_T66 ((rd_T62 l0_4 a1).f0) (ji16)).f0)) := (blk_cell BK122.out 0).trans rfl
                       have hcz40_1 : wr.cell? ⟨gb122, 1, none⟩ = some (.int .i64 ((rd_T66 ((rd_T62 l0_4 a1).f0) (ji16)).f1)) := (blk_cell BK122.out 1).trans rfl
                       have hcz40_2 : wr.cell? ⟨gb122, 2, none⟩ = some (.int .i64 ((rd_T66 ((rd_T62 l0_4 a1).f0) (ji16)).f2)) := (blk_cell BK122.out 2).trans rfl
                       have hcz40_3 : wr.cell? ⟨gb122, 3, none⟩ = some (.int .i64 ((rd_T66 ((rd_T62 l0_4 a1).f0) (ji16)).f3)) := (blk_cell BK122.out 3).trans rfl
                       have hcz40_4 : wr.cell? ⟨gb122, 4, none⟩ = some (.int .i64 ((rd_T66 ((rd_T62 l0_4 a1).f0) (ji16)).f4)) := (blk_cell BK122.out 4).trans rfl
                       have hcz40_5 : wr.cell? ⟨gb122, 5, none⟩ = some (.int .i64 ((rd_T66 ((rd_T62 l0_4 a1).f0) (ji16)).f5)) := (blk_cell BK122.out 5).trans rfl
                       have hcz40_6 : wr.cell? ⟨gb122, 6, none⟩ = some (.slice A121_6 ((rd_T66 ((rd_T62 l0_4 a1).f0) (ji16)).f6).length c121_6) := (blk_cell BK122.out 6).trans rfl
                       have hcz40_7 : wr.cell? ⟨gb122, 7, none⟩ = some (.slice A121_7 ((rd_T66 ((rd_T62 l0_4 a1).f0) (ji16)).f7).length c121_7) := (blk_cell BK122.out 7).trans rfl
                       have hcz40_8 : wr.cell? ⟨gb122, 8, none⟩ = some (.slice A121_8 ((rd_T66 ((rd_T62 l0_4 a1).f0) (ji16)).f8).length c121_8) := (blk_cell BK122.out 8).trans rfl
                       have hfz40_0 := blk_frozen BK122.out 0
                       have hfz40_1 := blk_frozen BK122.out 1
                       have hfz40_2 := blk_frozen BK122.out 2
                       have hfz40_3 := blk_frozen BK122.out 3
                       have hfz40_4 := blk_frozen BK122.out 4
                       have hfz40_5 := blk_frozen BK122.out 5
                       have hfz40_6 := blk_frozen BK122.out 6
                       have hfz40_7 := blk_frozen BK122.out 7
                       have hfz40_8 := blk_frozen BK122.out 8
                       have p123 : 0 ≤ (x8_2 : Int) := of_decide_eq_true (by first | (with_reducible assumption) | assumption)
                       have q123 : x8_2 < (((rd_T66 ((rd_T62 l0_4 a1).f0) (ji16)).f7).length : Int) := of_decide_eq_true (by first | (with_reducible assumption) | assumption)
                       obtain ⟨ad123, e123, hx123_0⟩ := Kd.at_int HR121_7.out x8_2 p123 q123
                       cases e123
                       replace hx123_0 := (HB.out.cell (World.block_lt_of_cell? w _ hx123_0)).trans hx123_0
                       replace p123 := eq_true p123
                       replace q123 := eq_true q123
                       have hcz41_0 : wr.cell? ⟨gb115, 0, none⟩ = some (.string a0_0) := (blk_cell BK115.out 0).trans rfl
                       have hcz41_1 : wr.cell? ⟨gb115, 1, none⟩ = some (.int .i64 a0_1) := (blk_cell BK115.out 1).trans rfl
                       have hcz41_2 : wr.cell? ⟨gb115, 2, none⟩ = some (.slice A0_2 l0_2.length c0_2) := (blk_cell BK115.out 2).trans rfl
                       have hcz41_3 : wr.cell? ⟨gb115, 3, none⟩ = some (.int .i64 a0_3) := (blk_cell BK115.out 3).trans rfl
                       have hcz41_4 : wr.cell? ⟨gb115, 4, none⟩ = some (.slice (some ad120) l0_4.length c0_4) := (blk_cell BK115.out 4).trans rfl
                       have hfz41_0 := blk_frozen BK115.out 0
                       have hfz41_1 := blk_frozen BK115.out 1
                       have hfz41_2 := blk_frozen BK115.out 2
                       have hfz41_3 := blk_frozen BK115.out 3
                       have hfz41_4 := blk_frozen BK115.out 4
                       go_wp2
                       go_roundg k2
                       case measure => have := HJ2.out; have := HK2.out; omega
                       case rel => exact ⟨(x5_2), (wrap64 (x8_2 + 1)), (by first | rfl | (simp; done) | (simp [*]; done)), H', ⟨by have := HJ2.out; have := HK2.out; omega⟩, ⟨by (with_reducible repeat (first | apply Kd.R_alloc | apply Kd.R_drewN | apply Kd.R_drew)); exact HO_5.out⟩, ⟨by (with_reducible repeat (first | refine blk_drewN ?_ _ | refine blk_drew ?_ | refine blk_alloc ?_ _)); exact BK115.out⟩, ⟨by (with_reducible repeat (first | refine blk_drewN ?_ _ | refine blk_drew ?_ | refine blk_alloc ?_ _)); exact BK122.out⟩, ⟨by repeat (first | (with_reducible first | exact HB.out | apply below_alloc | apply pw_below_drewN | apply below_drew1 | refine below_set ?_ GE115.out | refine below_set ?_ GE122.out) | exact HB.out)⟩⟩
                   · rw [if_neg c25] at H
                     have c25b0 : decide (0 ≤ (rd ((rd_T66 ((rd_T62 l0_4 a1).f0) (ji16)).f7) x8_2)) = false := decide_eq_false c25
                     clear c25
                     have H' := Aside0.mk H
                     clear H
                     have hnb42 := NB122_115.out
                     have hnc42 := NB115_122.out
                     have hcz43_0 : wr.cell? ⟨gb122, 0, none⟩ = some (.int .i64 ((rd_T66 ((rd_T62 l0_4 a1).f0) (ji16)).f0)) := (blk_cell BK122.out 0).trans rfl
                     have hcz43_1 : wr.cell? ⟨gb122, 1, none⟩ = some (.int .i64 ((rd_T66 ((rd_T62 l0_4 a1).f0) (ji16)).f1)) := (blk_cell BK122.out 1).trans rfl
                     have hcz43_2 : wr.cell? ⟨gb122, 2, none⟩ = some (.int .i64 ((rd_T66 ((rd_T62 l0_4 a1).f0) (ji16)).f2)) := (blk_cell BK122.out 2).trans rfl
                     have hcz43_3 : wr.cell? ⟨gb122, 3, none⟩ = some (.int .i64 ((rd_T66 ((rd_T62 l0_4 a1).f0) (ji16)).f3)) := (blk_cell BK122.out 3).trans rfl
                     have hcz43_4 : wr.cell? ⟨gb122, 4, none⟩ = some (.int .i64 ((rd_T66 ((rd_T62 l0_4 a1).f0) (ji16)).f4)) := (blk_cell BK122.out 4).trans rfl
                     have hcz43_5 : wr.cell? ⟨gb122, 5, none⟩ = some (.int .i64 ((rd_T66 ((rd_T62 l0_4 a1).f0) (ji16)).f5)) := (blk_cell BK122.out 5).trans rfl
                     have hcz43_6 : wr.cell? ⟨gb122, 6, none⟩ = some (.slice A121_6 ((rd_T66 ((rd_T62 l0_4 a1).f0) (ji16)).f6).length c121_6) := (blk_cell BK122.out 6).trans rfl
                     have hcz43_7 : wr.cell? ⟨gb122, 7, none⟩ = some (.slice A121_7 ((rd_T66 ((rd_T62 l0_4 a1).f0) (ji16)).f7).length c121_7) := (blk_cell BK122.out 7).trans rfl
                     have hcz43_8 : wr.cell? ⟨gb122, 8, none⟩ = some (.slice A121_8 ((rd_T66 ((rd_T62 l0_4 a1).f0) (ji16)).f8).length c121_8) := (blk_cell BK122.out 8).trans rfl
                     have hfz43_0 := blk_frozen BK122.out 0
                     have hfz43_1 := blk_frozen BK122.out 1
                     have hfz43_2 := blk_frozen BK122.out 2
                     have hfz43_3 := blk_frozen BK122.out 3
                     have hfz43_4 := blk_frozen BK122.out 4
                     have hfz43_5 := blk_frozen BK122.out 5
                     have hfz43_6 := blk_frozen BK122.out 6
                     have hfz43_7 := blk_frozen BK122.out 7
                     have hfz43_8 := blk_frozen BK122.out 8
                     have p123 : 0 ≤ (x8_2 : Int) := of_decide_eq_true (by first | (with_reducible assumption) | assumption)
                     have q123 : x8_2 < (((rd_T66 ((rd_T62 l0_4 a1).f0) (ji16)).f7).length : Int) := of_decide_eq_true (by first | (with_reducible assumption) | assumption)
                     obtain ⟨ad123, e123, hx123_0⟩ := Kd.at_int HR121_7.out x8_2 p123 q123
                     cases e123
                     replace hx123_0 := (HB.out.cell (World.block_lt_of_cell? w _ hx123_0)).trans hx123_0
                     replace p123 := eq_true p123
                     replace q123 := eq_true q123
                     go_wp2
                     go_roundg k2
                     case measure => have := HJ2.out; have := HK2.out; omega
                     case rel => exact ⟨(x5_2), (wrap64 (x8_2 + 1)), (by first | rfl | (simp; done) | (simp [*]; done)), H', ⟨by have := HJ2.out; have := HK2.out; omega⟩, ⟨by (with_reducible repeat (first | apply Kd.R_alloc | apply Kd.R_drewN | apply Kd.R_drew)); exact HO_5.out⟩, ⟨by (with_reducible repeat (first | refine blk_drewN ?_ _ | refine blk_drew ?_ | refine blk_alloc ?_ _)); exact BK115.out⟩, ⟨by (with_reducible repeat (first | refine blk_drewN ?_ _ | refine blk_drew ?_ | refine blk_alloc ?_ _)); exact BK122.out⟩, ⟨by repeat (first | (with_reducible first | exact HB.out | apply below_alloc | apply pw_below_drewN | apply below_drew1 | refine below_set ?_ GE115.out | refine below_set ?_ GE122.out) | exact HB.out)⟩⟩
                 · rw [if_neg c24] at H
                   exact absurd H (by simp)
               · rw [if_neg c23] at H
                 have c23b0 : decide (x8_2 < (((rd_T66 ((rd_T62 l0_4 a1).f0) (ji16)).f7).length : Int)) = false := decide_eq_false c23
                 clear c23
                 obtain rfl := Option.some.inj H
                 have hnb44 := NB122_115.out
                 have hnc44 := NB115_122.out
                 have hcz45_0 : wr.cell? ⟨gb122, 0, none⟩ = some (.int .i64 ((rd_T66 ((rd_T62 l0_4 a1).f0) (ji16)).f0)) := (blk_cell BK122.out 0).trans rfl
                 have hcz45_1 : wr.cell? ⟨gb122, 1, none⟩ = some (.int .i64 ((rd_T66 ((rd_T62 l0_4 a1).f0) (ji16)).f1)) := (blk_cell BK122.out 1).trans rfl
                 have hcz45_2 : wr.cell? ⟨gb122, 2, none⟩ = some (.int .i64 ((rd_T66 ((rd_T62 l0_4 a1).f0) (ji16)).f2)) := (blk_cell BK122.out 2).trans rfl
                 have hcz45_3 : wr.cell? ⟨gb122, 3, none⟩ = some (.int .i64 ((rd_T66 ((rd_T62 l0_4 a1).f0) (ji16)).f3)) := (blk_cell BK122.out 3).trans rfl
                 have hcz45_4 : wr.cell? ⟨gb122, 4, none⟩ = some (.int .i64 ((rd_T66 ((rd_T62 l0_4 a1).f0) (ji16)).f4)) := (blk_cell BK122.out 4).trans rfl
                 have hcz45_5 : wr.cell? ⟨gb122, 5, none⟩ = some (.int .i64 ((rd_T66 ((rd_T62 l0_4 a1).f0) (ji16)).f5)) := (blk_cell BK122.out 5).trans rfl
                 have hcz45_6 : wr.cell? ⟨gb122, 6, none⟩ = some (.slice A121_6 ((rd_T66 ((rd_T62 l0_4 a1).f0) (ji16)).f6).length c121_6) := (blk_cell BK122.out 6).trans rfl
                 have hcz45_7 : wr.cell? ⟨gb122, 7, none⟩ = some (.slice A121_7 ((rd_T66 ((rd_T62 l0_4 a1).f0) (ji16)).f7).length c121_7) := (blk_cell BK122.out 7).trans rfl
                 have hcz45_8 : wr.cell? ⟨gb122, 8, none⟩ = some (.slice A121_8 ((rd_T66 ((rd_T62 l0_4 a1).f0) (ji16)).f8).length c121_8) := (blk_cell BK122.out 8).trans rfl
                 have hfz45_0 := blk_frozen BK122.out 0
                 have hfz45_1 := blk_frozen BK122.out 1
                 have hfz45_2 := blk_frozen BK122.out 2
                 have hfz45_3 := blk_frozen BK122.out 3
                 have hfz45_4 := blk_frozen BK122.out 4
                 have hfz45_5 := blk_frozen BK122.out 5
                 have hfz45_6 := blk_frozen BK122.out 6
                 have hfz45_7 := blk_frozen BK122.out 7
                 have hfz45_8 := blk_frozen BK122.out 8
                 go_wp2
                 go_ret
                 exact ⟨_, by first | rfl | (simp [errW_none, errW_some] <;> rfl) | (simp only [← hji16]; first | rfl | (simp [errW_none, errW_some] <;> rfl)) | (simp [*, errW_none, errW_some] <;> rfl), by (with_reducible repeat (first | apply Kd.R_alloc | apply Kd.R_drewN | apply Kd.R_drew)); exact HO_5.out, by repeat (first | (with_reducible first | exact HB.out | apply below_alloc | apply pw_below_drewN | apply below_drew1 | refine below_set ?_ GE115.out | refine below_set ?_ GE122.out) | exact HB.out)⟩
           · rw [if_neg c18] at H
             exact absurd H (by simp)
         · rw [if_neg c17] at H
           exact absurd H (by simp)
       · rw [if_neg c15] at H
         exact absurd H (by simp)
     · rw [if_neg c14] at H
       exact absurd H (by simp)

end Go.Proofs.Ytoedcnhgobbnfaa.All


/- A graph's rows of rows: where each block goes and whence it is come to, worked out once. -/
namespace Go.Proofs.Ytoedcnhgobbnfaa.All
open Go.RowKit Go.Proofs.YtoedcnhgobbnfaaW.PrintWords Go.Proofs.YtoedcnhgobbnfaaW.PrintLast Go.Proofs.YtoedcnhgobbnfaaW.PrintMore
set_option linter.unusedVariables false
set_option linter.unusedSimpArgs false
/-- b is put behind the rows that ts names. -/
def pushB (prev : List (List Int)) (b : Int) (ts : List Int) : List (List Int) := ts.foldl (fun p t => p.set t.toNat (p.getD t.toNat [] ++ [b])) prev
def prevUp (rows : List (List Int)) : Nat → List (List Int)
  | 0 => List.replicate rows.length []
  | m + 1 => pushB (prevUp rows m) (m : Int) (rows.getD m [])
def rowsOf (F : Int → Option (List Int)) : Nat → Option (List (List Int))
  | 0 => some []
  | m + 1 => (rowsOf F m).bind fun rs => (F (m : Int)).bind fun r => some (rs ++ [r])
def okRows (n : Nat) (rs : List (List Int)) : Bool := rs.all (fun r => decide (r.length ≤ 2000000) && r.all (fun t => decide (0 ≤ t ∧ t < (n : Int))))
theorem rowsOf_at {F : Int → Option (List Int)} : ∀ {n : Nat} {rs : List (List Int)}, rowsOf F n = some rs → ∀ m, m < n → ∃ N t, rowsOf F m = some N ∧ F (m : Int) = some t ∧ rowsOf F (m + 1) = some (N ++ [t])
  | 0, _, _, m, hm => absurd hm (Nat.not_lt_zero _)
  | n + 1, rs, h, m, hm => by
    have h' := h
    simp only [rowsOf] at h
    obtain ⟨N, h1, h2⟩ := Option.bind_eq_some_iff.mp h
    obtain ⟨t, h3, h4⟩ := Option.bind_eq_some_iff.mp h2
    by_cases e : m = n
    · subst e
      injection h4 with h4
      exact ⟨N, t, h1, h3, by rw [h', h4]⟩
    · exact rowsOf_at h1 m (by omega)
theorem rowsOf_len {F : Int → Option (List Int)} : ∀ {n : Nat} {rs : List (List Int)}, rowsOf F n = some rs → rs.length = n
  | 0, _, h => by simp only [rowsOf, Option.some.injEq] at h; subst h; rfl
  | n + 1, rs, h => by
    simp only [rowsOf] at h
    obtain ⟨N, h1, h2⟩ := Option.bind_eq_some_iff.mp h
    obtain ⟨t, h3, h4⟩ := Option.bind_eq_some_iff.mp h2
    injection h4 with h4
    subst h4
    rw [List.length_append, rowsOf_len h1]
    rfl
theorem pushB_len : ∀ (ts : List Int) (prev : List (List Int)) (b : Int), (pushB prev b ts).length = prev.length
  | [], _, _ => rfl
  | t :: ts, prev, b => by
    have h := pushB_len ts (prev.set t.toNat (prev.getD t.toNat [] ++ [b])) b
    rw [List.length_set] at h
    exact h
theorem pushB_snoc (prev : List (List Int)) (b : Int) (ts : List Int) (t : Int) : pushB prev b (ts ++ [t]) = (pushB prev b ts).set t.toNat ((pushB prev b ts).getD t.toNat [] ++ [b]) := by
  unfold pushB
  rw [List.foldl_append]
  rfl
theorem prevUp_len (rows : List (List Int)) : ∀ m, (prevUp rows m).length = rows.length
  | 0 => by simp [prevUp]
  | m + 1 => by rw [prevUp, pushB_len, prevUp_len rows m]
theorem pushB_row (b : Int) (i : Nat) : ∀ (ts : List Int) (prev : List (List Int)), ((pushB prev b ts).getD i []).length ≤ (prev.getD i []).length + ts.length
  | [], prev => by simp [pushB]
  | t :: ts, prev => by
    have h := pushB_row b i ts (prev.set t.toNat (prev.getD t.toNat [] ++ [b]))
    have h2 : ((prev.set t.toNat (prev.getD t.toNat [] ++ [b])).getD i []).length ≤ (prev.getD i []).length + 1 := by
      simp only [List.getD_eq_getElem?_getD, List.getElem?_set]
      split
      · split
        · rename_i e _; subst e; simp
        · simp
      · omega
    have h3 : pushB prev b (t :: ts) = pushB (prev.set t.toNat (prev.getD t.toNat [] ++ [b])) b ts := rfl
    rw [h3, List.length_cons]
    omega
theorem okRows_at {n : Nat} {rs : List (List Int)} (h : okRows n rs = true) (m : Nat) (hm : m < rs.length) : (rs.getD m []).length ≤ 2000000 ∧ ∀ t ∈ rs.getD m [], 0 ≤ t ∧ t < (n : Int) := by
  unfold okRows at h
  rw [List.all_eq_true] at h
  have h2 := h _ (List.getElem_mem hm)
  rw [Bool.and_eq_true, decide_eq_true_eq, List.all_eq_true] at h2
  rw [List.getD_eq_getElem?_getD, List.getElem?_eq_getElem hm, Option.getD_some]
  exact ⟨h2.1, fun t ht => by simpa using h2.2 t ht⟩
theorem prevUp_row {n : Nat} {rs : List (List Int)} (h : okRows n rs = true) (i : Nat) : ∀ m, m ≤ rs.length → ((prevUp rs m).getD i []).length ≤ m * 2000000
  | 0, _ => by
    simp only [prevUp, List.getD_eq_getElem?_getD, List.getElem?_replicate]
    split <;> simp
  | m + 1, hm => by
    have h1 := prevUp_row h i m (by omega)
    have h2 := pushB_row (m : Int) i (rs.getD m []) (prevUp rs m)
    have h3 := (okRows_at h m (by omega)).1
    rw [prevUp]
    omega
/-- An inner row of a row of rows is appended to, and what came of it is stored in its place. -/
theorem S_push {e e2 : Nat} {W : World} {base g n cap : Nat} {ok : Nat → Prop} {xs : List (List Int)} {vi : Value} (h : Kd.S (Kd.slice e2 (Kd.int .i64)) e W base ok (.slice (some ⟨g, 0, none⟩) n cap) xs) (i : Int) (h0 : 0 ≤ i) (h1 : i < n) (hv : W.cell? ⟨g, i.toNat, none⟩ = some vi) :
    ∃ oki : Nat → Prop, (Kd.int .i64).R e2 W base oki vi (xs.getD i.toNat []) ∧ (∀ k, oki k → ok k ∧ k ≠ g) ∧
      ∀ (W1 : World) (v1 : Value) (x' : List Int), W.grownBy W1 vi.ownBlock → (Kd.int .i64).R e2 W1 base (fun k => oki k ∨ ok k ∧ W.heap.size ≤ k) v1 x' → Kd.S (Kd.slice e2 (Kd.int .i64)) e (W1.setCell ⟨g, i.toNat, none⟩ v1) base ok (.slice (some ⟨g, 0, none⟩) n cap) (xs.set i.toNat x') := by
  obtain ⟨oki, c, hcl, hM, hcc, _, hoki, hH⟩ := Kd.S_elem h [] i h0 h1
  obtain ⟨u, rfl, hR⟩ := hM
  have hs : (Kd.slice e2 (Kd.int .i64)).sz = 1 := rfl
  have hu := hcc 0 u rfl
  rw [hs, Nat.mul_one, Nat.add_zero] at hu
  have he : u = vi := Option.some.inj (hu.symm.trans hv)
  subst he
  refine ⟨oki, hR, hoki, fun W1 v1 x' hg hR1 => ?_⟩
  have hrow : ∀ k, u.ownBlock = some k → oki k ∨ ok k ∧ W.heap.size ≤ k := fun k hk => .inl (hR.1 k hk)
  have hH2 := Kd.H_grown (Kd.H_widen hH) hg hrow
  have hone : ∀ q ∈ [v1], q.oneCell' = true := by
    intro q hq
    rw [List.mem_singleton] at hq
    subst hq
    exact (Kd.R_val hR1).2
  obtain ⟨h3, h4⟩ := Kd.H_seg hH2 h0 h1 (seg := [v1]) (j := 0) (by simp [hs]) hone
  rw [hs, Nat.mul_one, Nat.add_zero] at h3 h4
  have hset : W1.setCells g i.toNat [v1] = W1.setCell ⟨g, i.toNat, none⟩ v1 := by simp [World.setCells]
  rw [hset] at h3 h4
  refine Kd.H_back h3 (okp := fun k => oki k ∨ ok k ∧ W.heap.size ≤ k) (Kd.M_row ?_) (fun _ hk => hk)
  exact Kd.R_step hR1 (fun k hk _ => h4.block k (by omega) (fun e => by
    have hkg : k ≠ g := by
      rcases hk with hk | hk
      · exact (hoki k hk).2
      · have hgl := Kd.S_lt h g (by simp [Value.ownBlock])
        omega
    injection e with e
    exact hkg e))
theorem cell_al {w : World} {a : Addr} {v : Value} (h : w.cell? a = some v) (o : Obj) : (w.alloc o).cell? a = some v := ((below_alloc (Below.refl w.heap.size w) o).cell (World.block_lt_of_cell? w a h)).trans h
theorem frozen_gr {W w1 : World} {row : Option Nat} (hg : W.grownBy w1 row) {a : Addr} {v : Value} (hc : W.cell? a = some v) (h : W.frozen? a = false) (hne : some a.block ≠ row) : w1.frozen? a = false := by
  have := hg.block a.block (World.block_lt_of_cell? W a hc) hne
  simpa [World.frozen?, this] using h
theorem rd_take {xs : List Int} {j : Nat} (h : j < xs.length) : rd xs (j : Int) ∈ xs ∧ xs.take (j + 1) = xs.take j ++ [rd xs (j : Int)] := by
  have hr : rd xs (j : Int) = xs[j] := by simp [rd, List.getElem?_eq_getElem h]
  rw [hr]
  exact ⟨List.getElem_mem h, List.take_succ_eq_append_getElem h⟩
end Go.Proofs.Ytoedcnhgobbnfaa.All


namespace Go.Proofs.Ytoedcnhgobbnfaa.All
open Go.RowKit Go.Proofs.YtoedcnhgobbnfaaW.PrintWords Go.Proofs.YtoedcnhgobbnfaaW.PrintLast Go.Proofs.YtoedcnhgobbnfaaW.PrintMore
attribute [local go_sem] max2_int min2_int max_two min_two max_three min_three max_four min_four   -- for this text's walks alone
set_option linter.unusedVariables false
set_option linter.unusedSimpArgs false

/-! ### spec_l4Build: function 45 -/
def spec_l4Build.f (k : Nat) (a0_0 : ByteArray) (a0_1 : Int) (l0_2 : List Int) (a0_3 : Int) (l0_4 : List (S62)) : Option (List (List Int) × List (List Int)) :=
 if l0_4.length ≤ 2000000 then (rowsOf (fun b => spec_NextBlocks.f k a0_0 a0_1 l0_2 a0_3 l0_4 b) l0_4.length).bind fun rs => if okRows l0_4.length rs = true then some (rs, prevUp rs l0_4.length) else none else none
theorem spec_l4Build.open {k : Nat} {a0_0 : ByteArray} {a0_1 : Int} {l0_2 : List Int} {a0_3 : Int} {l0_4 : List (S62)} {r0 r1 : List (List Int)} (h : spec_l4Build.f k a0_0 a0_1 l0_2 a0_3 l0_4 = some (r0, r1)) :
 l0_4.length ≤ 2000000 ∧ rowsOf (fun b => spec_NextBlocks.f k a0_0 a0_1 l0_2 a0_3 l0_4 b) l0_4.length = some r0 ∧ okRows l0_4.length r0 = true ∧ r1 = prevUp r0 l0_4.length := by
 unfold spec_l4Build.f at h
 split at h
 · rename_i hl
   obtain ⟨rs, h1, h2⟩ := Option.bind_eq_some_iff.mp h
   split at h2
   · rename_i ho
     injection h2 with h2
     injection h2 with h3 h4
     subst h3
     exact ⟨hl, h1, ho, h4.symm⟩
   · cases h2
 · cases h
set_option maxHeartbeats 8000000 in
set_option maxRecDepth 100000 in
theorem spec_l4Build.calls (k : Nat) (a0_0 : ByteArray) (a0_1 : Int) (A0_2 : Option Addr) (c0_2 : Nat) (l0_2 : List Int) (a0_3 : Int) (A0_4 : Option Addr) (c0_4 : Nat) (l0_4 : List (S62)) (r0 r1 : List (List Int)) (w : World) (hr0_2 : Kd.C (Kd.int .i64) w A0_2 l0_2.length l0_2) (hc0_2 : l0_2.length ≤ c0_2) (hr0_4 : Kd.C k62 w A0_4 l0_4.length l0_4) (hc0_4 : l0_4.length ≤ c0_4) (h : spec_l4Build.f k a0_0 a0_1 l0_2 a0_3 l0_4 = some (r0, r1)) :
 Calls Try.prog 45 #[.agg #[.string a0_0, .int .i64 a0_1, .slice A0_2 l0_2.length c0_2, .int .i64 a0_3, .slice A0_4 l0_4.length c0_4]] w fun e w' => ∃ v0_ v1_ : Value, e = .returned (.agg #[v0_, v1_]) ∧ Kd.S (Kd.slice 2 (Kd.int .i64)) 22 w' w.heap.size (fun k_ => some k_ ≠ (v1_ : Value).ownBlock) v0_ r0 ∧ Kd.S (Kd.slice 2 (Kd.int .i64)) 22 w' w.heap.size (fun k_ => some k_ ≠ (v0_ : Value).ownBlock) v1_ r1 ∧ Below w.heap.size w w' := by
 have hu := Try.underlying30
 have hug := Try.underlying52
 obtain ⟨hl, hrows, hok, hr1⟩ := spec_l4Build.open h
 clear h
 subst hr1
 have hlen := rowsOf_len hrows
 have HR2 := Aside0.mk hr0_2
 have HC2 := Aside0.mk hc0_2
 have HR4 := Aside0.mk hr0_4
 have HC4 := Aside0.mk hc0_4
 clear hr0_2 hc0_2 hr0_4 hc0_4
 have HB := Aside0.mk (Below.refl w.heap.size w)
 have HRW := Aside0.mk hrows
 have HOK := Aside0.mk hok
 clear hrows hok
 go_enter Try.func45, Try.ntmps45
 go_wp2_with (first | ((with_reducible refine gate_dst (N := 1) rfl ?_); refine box_event ?hg (N := 1) ?hd (cs := #[.string a0_0, .int .i64 a0_1, .slice A0_2 l0_2.length c0_2, .int .i64 a0_3, .slice A0_4 l0_4.length c0_4]) (t := 30) ?hr ?_; (case hd => rfl); (case hg => rfl); (case hr => first | (go_simp; done) | (go_simp; rfl)); intro g1 hg w1 hbox hb; have n0_ := Aside0.mk (below_step HB.out hb); have GB1 := Aside0.mk (show w.heap.size ≤ g1 from by rw [hg]; exact below_size HB.out); have B1 := Aside0.mk hbox; clear HB; have HB := n0_; clear n0_ hb hbox hg) | ((with_reducible refine gate_dst (N := 2) rfl ?_); refine box_event ?hg (N := 2) ?hd (cs := #[.slice none 0 0, .slice none 0 0]) (t := 52) ?hr ?_; (case hd => rfl); (case hg => rfl); (case hr => first | (go_simp; done) | (go_simp; rfl)); intro g2 hg w2 hbox hb; have m0_ := Aside0.mk (blk_below B1.out hb); have N12 := Aside0.mk (show g1 ≠ g2 from by rw [hg]; exact Nat.ne_of_lt (blk_lt B1.out)); have n0_ := Aside0.mk (below_step HB.out hb); have GB2 := Aside0.mk (show w.heap.size ≤ g2 from by rw [hg]; exact below_size HB.out); have B2 := Aside0.mk hbox; clear HB B1; have HB := n0_; have B1 := m0_; clear n0_ hb hbox hg m0_) | ((with_reducible refine gate_dst (N := 3) rfl ?_); refine box_event ?hg (N := 3) ?hd (cs := #[.slice none 0 0, .slice none 0 0]) (t := 52) ?hr ?_; (case hd => rfl); (case hg => rfl); (case hr => first | (go_simp; done) | (go_simp; rfl)); intro g3 hg w3 hbox hb; have m0_ := Aside0.mk (blk_below B1.out hb); have m1_ := Aside0.mk (blk_below B2.out hb); have N13 := Aside0.mk (show g1 ≠ g3 from by rw [hg]; exact Nat.ne_of_lt (blk_lt B1.out)); have N23 := Aside0.mk (show g2 ≠ g3 from by rw [hg]; exact Nat.ne_of_lt (blk_lt B2.out)); have n0_ := Aside0.mk (below_step HB.out hb); have GB3 := Aside0.mk (show w.heap.size ≤ g3 from by rw [hg]; exact below_size HB.out); have B3 := Aside0.mk hbox; clear HB B1 B2; have HB := n0_; have B1 := m0_; have B2 := m1_; clear n0_ hb hbox hg m0_ m1_; have hcz_B3_0 : w3.cell? ⟨g3, 0, none⟩ = some (.slice none 0 0) := (blk_cell B3.out 0).trans rfl; have hcz_B3_1 : w3.cell? ⟨g3, 1, none⟩ = some (.slice none 0 0) := (blk_cell B3.out 1).trans rfl; have hfz_B3_0 := blk_frozen B3.out 0; have hfz_B3_1 := blk_frozen B3.out 1))
 go_loopw [4] (fun v4 w' => ∃ (m : Nat) (vN vP : Value) (N : List (List Int)) (Pn Pp : Nat → Prop), v4 = .int .i64 (m : Int) ∧ m ≤ l0_4.length ∧ Aside0 (rowsOf (fun b => spec_NextBlocks.f k a0_0 a0_1 l0_2 a0_3 l0_4 b) m = some N) ∧ Aside0 (∀ k_ : Nat, Pn k_ → ¬ Pp k_) ∧ Aside0 (Kd.S (Kd.slice 2 (Kd.int .i64)) 22 w' w.heap.size Pn vN N) ∧ Aside0 (Kd.S (Kd.slice 2 (Kd.int .i64)) 22 w' w.heap.size Pp vP (List.replicate m [])) ∧ Aside0 (w'.heap[g1]? = some (.cells #[.string a0_0, .int .i64 a0_1, .slice A0_2 l0_2.length c0_2, .int .i64 a0_3, .slice A0_4 l0_4.length c0_4] 30 (0, 0))) ∧ Aside0 (w'.heap[g2]? = some (.cells #[.slice none 0 0, .slice none 0 0] 52 (0, 0))) ∧ Aside0 (w'.heap[g3]? = some (.cells #[vN, vP] 52 (0, 0))) ∧ Aside0 (Below w.heap.size w w')) (fun v4 _ => l0_4.length - (intOf v4).toNat)
 case atStart => exact ⟨0, .slice none 0 0, .slice none 0 0, [], fun _ => False, fun _ => False, rfl, Nat.zero_le _, ⟨rfl⟩, ⟨fun _ h _ => h⟩, ⟨Kd.S_nil _ _ _ _ _⟩, ⟨Kd.S_nil _ _ _ _ _⟩, ⟨blk_far (blk_far B1.out N13.out _) N13.out _⟩, ⟨blk_far (blk_far B2.out N23.out _) N23.out _⟩, ⟨blk_put (cs := #[.slice none 0 0, .slice none 0 0]) (blk_put (cs := #[.slice none 0 0, .slice none 0 0]) B3.out 0 (.slice none 0 0) rfl) 1 (.slice none 0 0) rfl⟩, ⟨below_set (below_set HB.out GB3.out) GB3.out⟩⟩
 case round =>
  clear hcz_B3_0 hcz_B3_1 hfz_B3_0 hfz_B3_1 B1 B2 B3 HB
  obtain ⟨m, vN, vP, N, Pn, Pp, rfl, hm, HM, HD, HN, HP, B1, B2, B3, HB⟩ := hrel
  by_cases hlt : m < l0_4.length
  · obtain ⟨N', t, hN', ht, hN1⟩ := rowsOf_at HRW.out m hlt
    obtain rfl := Option.some.inj (HM.out.symm.trans hN')
    have HT := Aside0.mk ht
    have HM1 := Aside0.mk hN1
    have HL := Aside0.mk (rowsOf_len HM.out)
    clear hN' ht hN1
    have c1 : decide ((m : Int) < (l0_4.length : Int)) = true := decide_eq_true (by omega)
    have hcz_B1_0 : wr.cell? ⟨g1, 0, none⟩ = some (.string a0_0) := (blk_cell B1.out 0).trans rfl
    have hfz_B1_0 := blk_frozen B1.out 0
    have hcz_B1_1 : wr.cell? ⟨g1, 1, none⟩ = some (.int .i64 a0_1) := (blk_cell B1.out 1).trans rfl
    have hfz_B1_1 := blk_frozen B1.out 1
    have hcz_B1_2 : wr.cell? ⟨g1, 2, none⟩ = some (.slice A0_2 l0_2.length c0_2) := (blk_cell B1.out 2).trans rfl
    have hfz_B1_2 := blk_frozen B1.out 2
    have hcz_B1_3 : wr.cell? ⟨g1, 3, none⟩ = some (.int .i64 a0_3) := (blk_cell B1.out 3).trans rfl
    have hfz_B1_3 := blk_frozen B1.out 3
    have hcz_B1_4 : wr.cell? ⟨g1, 4, none⟩ = some (.slice A0_4 l0_4.length c0_4) := (blk_cell B1.out 4).trans rfl
    have hfz_B1_4 := blk_frozen B1.out 4
    go_upto_region 5 with (fail)
    clear hcz_B1_0 hfz_B1_0 hcz_B1_1 hfz_B1_1 hcz_B1_2 hfz_B1_2 hcz_B1_3 hfz_B1_3 hcz_B1_4 hfz_B1_4
    refine start_ (n := 9) (S := fun w' => w'.cell? ⟨g3, 0, none⟩ = some vN ∧ w'.cell? ⟨g1, 0, none⟩ = some (.string a0_0) ∧ w'.cell? ⟨g1, 1, none⟩ = some (.int .i64 a0_1) ∧ w'.cell? ⟨g1, 2, none⟩ = some (.slice A0_2 l0_2.length c0_2) ∧ w'.cell? ⟨g1, 3, none⟩ = some (.int .i64 a0_3) ∧ w'.cell? ⟨g1, 4, none⟩ = some (.slice A0_4 l0_4.length c0_4)) (ds := [8]) #[false, false, false, false, false, false, false, false, false] (by kernel_rfl) rfl rfl ⟨(blk_cell B3.out 0).trans rfl, (blk_cell B1.out 0).trans rfl, (blk_cell B1.out 1).trans rfl, (blk_cell B1.out 2).trans rfl, (blk_cell B1.out 3).trans rfl, (blk_cell B1.out 4).trans rfl⟩ (fun hHeld => ?_)
    have HWA := Aside0.mk (show w.heap.size ≤ wr.drew.heap.size from below_size (below_drew HB.out))
    have n0_ := Aside0.mk (Kd.S_drew HN.out)
    have n1_ := Aside0.mk (Kd.S_drew HP.out)
    have n2_ := Aside0.mk (blk_drew B1.out)
    have n3_ := Aside0.mk (blk_drew B2.out)
    have n4_ := Aside0.mk (blk_drew B3.out)
    have n5_ := Aside0.mk (below_drew HB.out)
    clear HN HP B1 B2 B3 HB
    have HN := n0_
    have HP := n1_
    have B1 := n2_
    have B2 := n3_
    have B3 := n4_
    have HB := n5_
    clear n0_ n1_ n2_ n3_ n4_ n5_
    generalize wr.drew = wA at HWA HN HP B1 B2 B3 HB hHeld ⊢
    refine pure_ (i := 0) (N := some 15) (v := ?_) (a' := ?_) #[true, false, false, false, false, false, false, false, false] rfl rfl (by kernel_rfl) (fun _ _ _ h => h) (Or.inl ⟨by rfl, ?_⟩) ?_ ?_
    rotate_left
    · intro w'
      go_simp
      with_reducible rfl
    rotate_left
    · simp only [Act.put, List.setIfInBounds_toArray, List.set_cons_zero, List.set_cons_succ, i64_w, i32_w]
      rfl
    refine pure_ (i := 3) (N := some 18) (v := ?_) (a' := ?_) #[true, false, false, true, false, false, false, false, false] rfl rfl (by kernel_rfl) (fun _ _ _ h => h) (Or.inl ⟨by rfl, ?_⟩) ?_ ?_
    rotate_left
    · intro w'
      go_simp
      with_reducible rfl
    rotate_left
    · simp only [Act.put, List.setIfInBounds_toArray, List.set_cons_zero, List.set_cons_succ, i64_w, i32_w]
      rfl
    refine take_ (i := 1) (N := some 16) (v := ?_) (a' := ?_) #[true, true, false, true, false, false, false, false, false] rfl rfl (by kernel_rfl) (fun _ _ _ h => h) (Or.inl ⟨by rfl, ?_⟩) hHeld ?_ ?_
    rotate_left
    · rintro w' ⟨s0, s1, s2, s3, s4, s5⟩
      go_simp
      with_reducible rfl
    rotate_left
    · simp only [Act.put, List.setIfInBounds_toArray, List.set_cons_zero, List.set_cons_succ, i64_w, i32_w]
      rfl
    refine take_ (i := 2) (N := some 17) (v := ?_) (a' := ?_) #[true, true, true, true, false, false, false, false, false] rfl rfl (by kernel_rfl) (fun _ _ _ h => h) (Or.inl ⟨by rfl, ?_⟩) hHeld ?_ ?_
    rotate_left
    · rintro w' ⟨s0, s1, s2, s3, s4, s5⟩
      go_simp
      with_reducible rfl
    rotate_left
    · simp only [Act.put, List.setIfInBounds_toArray, List.set_cons_zero, List.set_cons_succ, i64_w, i32_w]
      rfl
    refine one_ (i := 4) (N := some 19) #[true, true, true, true, true, false, false, false, false] rfl rfl (by kernel_rfl) (by decide) (fun K hK => ?_)
    refine goes_ Try.func17 (by kernel_rfl) rfl #[.agg #[.string a0_0, .int .i64 a0_1, .slice A0_2 l0_2.length c0_2, .int .i64 a0_3, .slice A0_4 l0_4.length c0_4], .int .i64 (m : Int)] (by rfl) rfl rfl (by (try simp only [List.map_toArray, List.map_cons, List.map_nil]); first | done | rfl | (simp only [List.length_drop, List.length_take]; rfl)) ?_
    with_reducible refine (spec_NextBlocks.calls k a0_0 a0_1 _ _ l0_2 a0_3 _ _ l0_4 (m : Int) t _ ?side1 ?side2 ?side3 ?side4 HT.out).mono ?_
    (case side1 => exact Kd.C_below HR2.out HB.out)
    (case side2 => exact HC2.out)
    (case side3 => exact Kd.C_below HR4.out HB.out)
    (case side4 => exact HC4.out)
    rintro e wB ⟨vT, rfl, hoT, hb⟩
    refine ⟨_, rfl, ?_⟩
    obtain ⟨AT, cT, eT⟩ := Kd.R_slice hoT
    subst eT
    have HAS := Aside0.mk hb.size
    have n0_ := Aside0.mk (Kd.S_old HN.out hb)
    have n1_ := Aside0.mk (Kd.S_old HP.out hb)
    have n2_ := Aside0.mk (blk_below B1.out hb)
    have n3_ := Aside0.mk (blk_below B2.out hb)
    have n4_ := Aside0.mk (blk_below B3.out hb)
    have n5_ := Aside0.mk (below_step HB.out hb)
    clear HN HP B1 B2 B3 HB
    have HN := n0_
    have HP := n1_
    have B1 := n2_
    have B2 := n3_
    have B3 := n4_
    have HB := n5_
    clear n0_ n1_ n2_ n3_ n4_ n5_
    have HoT := Aside0.mk hoT
    clear hoT hb
    refine hK.out _ _ ⟨(blk_cell B3.out 0).trans rfl, (blk_cell B1.out 0).trans rfl, (blk_cell B1.out 1).trans rfl, (blk_cell B1.out 2).trans rfl, (blk_cell B1.out 3).trans rfl, (blk_cell B1.out 4).trans rfl⟩ (fun hHeld => ?_)
    clear hK K
    refine norm_ (a' := ?_) ?_ ?_
    rotate_left
    · show Act.put _ (some 19) _ = _
      simp only [Act.put, List.setIfInBounds_toArray, List.set_cons_zero, List.set_cons_succ, i64_w, i32_w]
      rfl
    refine one_ (i := 5) (N := some 20) #[true, true, true, true, true, true, false, false, false] rfl rfl (by kernel_rfl) (by decide) (fun K hK => ?_)
    refine value_ (w1 := ?_) (v := ?_) (by rfl) rfl ?_ ?_
    rotate_left 2
    · go_simp
      constructor
      · rfl
      · rfl
    refine hK.out _ _ ⟨(blk_cell (blk_alloc B3.out _) 0).trans rfl, (blk_cell (blk_alloc B1.out _) 0).trans rfl, (blk_cell (blk_alloc B1.out _) 1).trans rfl, (blk_cell (blk_alloc B1.out _) 2).trans rfl, (blk_cell (blk_alloc B1.out _) 3).trans rfl, (blk_cell (blk_alloc B1.out _) 4).trans rfl⟩ (fun hHeld => ?_)
    clear hK K
    refine norm_ (a' := ?_) ?_ ?_
    rotate_left
    · show Act.put _ (some 20) _ = _
      simp only [Act.put, List.setIfInBounds_toArray, List.set_cons_zero, List.set_cons_succ, i64_w, i32_w]
      rfl
    refine one_ (i := 6) (N := some 21) #[true, true, true, true, true, true, true, false, false] rfl rfl (by kernel_rfl) (by decide) (fun K hK => ?_)
    refine Kd.S_append_step (Kd.slice 2 (Kd.int .i64)) (w0 := w) w.heap.size (by rfl) (.tmp 16) (.tmp 20) 50 22 (.slice none 0 0) 24 rfl Try.underlying50 (by kernel_rfl) rfl (by decide) (by omega) vN N t [.slice AT t.length cT] (fun k_ => Pn k_ ∨ wA.heap.size ≤ k_) (fun k_ => some k_ = (.slice AT t.length cT : Value).ownBlock) rfl rfl ?aP ?aK ?aF ?aO ?aB ?aS ?aL ?_
    (case aP => exact Kd.M_row (Kd.R_lower (Kd.R_tight rfl HoT.out) HWA.out))
    (case aK => exact fun k_ e_ => ⟨.inr (Kd.R_base HoT.out k_ e_.symm), fun e2_ => by have h1_ := Kd.R_base HoT.out k_ e_.symm; have h2_ := ((Kd.S_R HN.out).1 k_ e2_.symm).2; omega⟩)
    (case aF => exact fun k_ hk => .inr (Nat.le_trans HAS.out hk))
    (case aO => exact Kd.S_mono HN.out (fun k_ hk => ⟨.inl hk.1, fun e_ => by have h1_ := Kd.R_base HoT.out k_ e_.symm; have h2_ := hk.2; omega⟩))
    (case aB => exact HB.out)
    (case aS => exact Nat.le_trans HWA.out HAS.out)
    (case aL => have := HL.out; omega)
    intro vN1 wC ho1 hb1 hg1 hat1
    obtain ⟨AN1, nN1, cN1, eN1⟩ : ∃ A n c, vN1 = .slice A n c := by obtain ⟨A, c, h⟩ := Kd.S_slice ho1; exact ⟨A, _, c, h⟩
    subst eN1
    have n0_ := Aside0.mk (Kd.S_grown HP.out hg1 (fun k_ hk e_ => HD.out k_ ((Kd.S_R HN.out).1 k_ e_.symm).1 hk.1))
    have n1_ := Aside0.mk (blk_grown B1.out hg1 (Kd.S_ne HN.out B1.out (by decide)))
    have n2_ := Aside0.mk (blk_grown B2.out hg1 (Kd.S_ne HN.out B2.out (by decide)))
    have n3_ := Aside0.mk (blk_grown B3.out hg1 (Kd.S_ne HN.out B3.out (by decide)))
    have n4_ := Aside0.mk (ho1)
    have n5_ := Aside0.mk (hb1)
    clear HP B1 B2 B3 HN HB
    have HP := n0_
    have B1 := n1_
    have B2 := n2_
    have B3 := n3_
    have HN := n4_
    have HB := n5_
    clear n0_ n1_ n2_ n3_ n4_ n5_
    have HAC := Aside0.mk (Nat.le_trans HAS.out hg1.size)
    clear ho1 hb1 hg1 hat1 HoT
    have hfzC := blk_frozen B3.out 0
    refine hK.out _ _ ⟨(blk_cell B3.out 0).trans rfl, (blk_cell B1.out 0).trans rfl, (blk_cell B1.out 1).trans rfl, (blk_cell B1.out 2).trans rfl, (blk_cell B1.out 3).trans rfl, (blk_cell B1.out 4).trans rfl⟩ (fun hHeld => ?_)
    clear hK K
    refine norm_ (a' := ?_) ?_ ?_
    rotate_left
    · show Act.put _ (some 21) _ = _
      simp only [Act.put, List.setIfInBounds_toArray, List.set_cons_zero, List.set_cons_succ, i64_w, i32_w]
      rfl
    refine pure_ (i := 7) (N := some 22) (v := ?_) (a' := ?_) #[true, true, true, true, true, true, true, true, false] rfl rfl (by kernel_rfl) (fun _ _ _ h => h) (Or.inl ⟨by rfl, ?_⟩) ?_ ?_
    rotate_left
    · intro w'
      go_simp
      with_reducible rfl
    rotate_left
    · simp only [Act.put, List.setIfInBounds_toArray, List.set_cons_zero, List.set_cons_succ, i64_w, i32_w]
      rfl
    refine last_ (i := 8) (N := none) #[true, true, true, true, true, true, true, true, true] rfl rfl (by kernel_rfl) (by decide) (fun K hK => ?_)
    refine skip_ (w1 := ?_) (by rfl) rfl ?_ ?_
    rotate_left
    · go_simp
      rfl
    refine hK.out _ _ ?_
    clear hK K
    refine done_ (by kernel_rfl) ?_
    obtain ⟨wD, hwD⟩ : ∃ wD, wD = wC.setCell ⟨g3, 0, none⟩ (.slice AN1 nN1 cN1) := ⟨_, rfl⟩
    rw [← hwD]
    have n0_ := Aside0.mk (show Kd.S (Kd.slice 2 (Kd.int .i64)) 22 wD w.heap.size (fun k_ => (Pn k_ ∨ wA.heap.size ≤ k_) ∧ k_ < wC.heap.size) (.slice AN1 nN1 cN1) (N ++ [t]) from by rw [hwD]; exact Kd.S_mono (Kd.S_bound (Kd.S_set HN.out B3.out (by decide) 0 (.slice AN1 nN1 cN1))) (fun k_ h_ => ⟨h_.1, by have h3_ := h_.2.2.1; rw [World.size_setCell] at h3_; exact h3_⟩))
    have n1_ := Aside0.mk (show Kd.S (Kd.slice 2 (Kd.int .i64)) 22 wD w.heap.size _ vP (List.replicate m []) from by rw [hwD]; exact Kd.S_set HP.out B3.out (by decide) 0 (.slice AN1 nN1 cN1))
    have n2_ := Aside0.mk (show wD.heap[g1]? = some (.cells #[.string a0_0, .int .i64 a0_1, .slice A0_2 l0_2.length c0_2, .int .i64 a0_3, .slice A0_4 l0_4.length c0_4] 30 (0, 0)) from by rw [hwD]; exact blk_far B1.out N13.out _)
    have n3_ := Aside0.mk (show wD.heap[g2]? = some (.cells #[.slice none 0 0, .slice none 0 0] 52 (0, 0)) from by rw [hwD]; exact blk_far B2.out N23.out _)
    have n4_ := Aside0.mk (show Below w.heap.size w wD from by rw [hwD]; exact below_set HB.out GB3.out)
    have n5_ := Aside0.mk (show wD.heap[g3]? = some (.cells #[(.slice AN1 nN1 cN1), vP] 52 (0, 0)) from by rw [hwD]; exact blk_put (cs := #[vN, vP]) B3.out 0 (.slice AN1 nN1 cN1) rfl)
    clear HN HP B1 B2 HB B3
    have HN := n0_
    have HP := n1_
    have B1 := n2_
    have B2 := n3_
    have HB := n4_
    have B3 := n5_
    clear n0_ n1_ n2_ n3_ n4_ n5_
    have HS := Aside0.mk (show wC.heap.size ≤ wD.heap.size from by rw [hwD, World.size_setCell]; exact Nat.le_refl _)
    clear hwD HAS hfzC
    have hcz_B3_0 : wD.cell? ⟨g3, 0, none⟩ = some ((.slice AN1 nN1 cN1)) := (blk_cell B3.out 0).trans rfl
    have hfz_B3_0 := blk_frozen B3.out 0
    have hcz_B3_1 : wD.cell? ⟨g3, 1, none⟩ = some (vP) := (blk_cell B3.out 1).trans rfl
    have hfz_B3_1 := blk_frozen B3.out 1
    have hcz_B1_0 : wD.cell? ⟨g1, 0, none⟩ = some (.string a0_0) := (blk_cell B1.out 0).trans rfl
    have hfz_B1_0 := blk_frozen B1.out 0
    have hcz_B1_1 : wD.cell? ⟨g1, 1, none⟩ = some (.int .i64 a0_1) := (blk_cell B1.out 1).trans rfl
    have hfz_B1_1 := blk_frozen B1.out 1
    have hcz_B1_2 : wD.cell? ⟨g1, 2, none⟩ = some (.slice A0_2 l0_2.length c0_2) := (blk_cell B1.out 2).trans rfl
    have hfz_B1_2 := blk_frozen B1.out 2
    have hcz_B1_3 : wD.cell? ⟨g1, 3, none⟩ = some (.int .i64 a0_3) := (blk_cell B1.out 3).trans rfl
    have hfz_B1_3 := blk_frozen B1.out 3
    have hcz_B1_4 : wD.cell? ⟨g1, 4, none⟩ = some (.slice A0_4 l0_4.length c0_4) := (blk_cell B1.out 4).trans rfl
    have hfz_B1_4 := blk_frozen B1.out 4
    go_wp2_with (first | (at_builtin; refine Kd.S_append (Kd.slice 2 (Kd.int .i64)) (w0 := w) w.heap.size rfl (.tmp 24) (.tmp 25) 50 22 (.slice none 0 0) 24 rfl Try.underlying50 (by kernel_rfl) rfl (by decide) (by omega) vP (List.replicate m []) [] [.slice none 0 0] (fun k_ => (Pp k_ ∧ k_ < wA.heap.size) ∨ wD.heap.size ≤ k_) (fun _ => False) rfl rfl ?aP (fun _ hk => hk.elim) ?aF ?aO ?aB ?aS ?aL ?_; (case aP => exact Kd.M_row (Kd.R_nil _ _ _ _ _)); (case aF => exact fun k_ hk => .inr hk); (case aO => exact Kd.S_mono HP.out (fun k_ hk => ⟨.inl hk, fun h_ => h_⟩)); (case aB => exact HB.out); (case aS => exact below_size HB.out); (case aL => rw [List.length_replicate]; omega); intro vP1 wE ho2 hb2 hg2 hat2; obtain ⟨AP1, nP1, cP1, eP1⟩ : ∃ A n c, vP1 = .slice A n c := (by obtain ⟨A, c, h⟩ := Kd.S_slice ho2; exact ⟨A, _, c, h⟩); subst eP1; have n0_ := Aside0.mk (Kd.S_grown HN.out hg2 (fun k_ hk e_ => by have h1_ := (Kd.S_R HP.out).1 k_ e_.symm; rcases hk.1 with h2_ | h2_; exact HD.out k_ h2_ h1_.1; have h3_ := h1_.2; omega)); have n1_ := Aside0.mk (blk_grown B1.out hg2 (Kd.S_ne HP.out B1.out (by decide))); have n2_ := Aside0.mk (blk_grown B2.out hg2 (Kd.S_ne HP.out B2.out (by decide))); have n3_ := Aside0.mk (blk_grown B3.out hg2 (Kd.S_ne HP.out B3.out (by decide))); have n4_ := Aside0.mk ho2; have n5_ := Aside0.mk hb2; clear HN HP B1 B2 B3 HB ho2 hb2 hg2 hat2 hcz_B3_0 hfz_B3_0 hcz_B3_1 hfz_B3_1 hcz_B1_0 hfz_B1_0 hcz_B1_1 hfz_B1_1 hcz_B1_2 hfz_B1_2 hcz_B1_3 hfz_B1_3 hcz_B1_4 hfz_B1_4; have HN := n0_; have B1 := n1_; have B2 := n2_; have B3 := n3_; have HP := n4_; have HB := n5_; clear n0_ n1_ n2_ n3_ n4_ n5_; have hcz_B3_0 : wE.cell? ⟨g3, 0, none⟩ = some (.slice AN1 nN1 cN1) := (blk_cell B3.out 0).trans rfl; have hcz_B3_1 : wE.cell? ⟨g3, 1, none⟩ = some vP := (blk_cell B3.out 1).trans rfl; have hfz_B3_0 := blk_frozen B3.out 0; have hfz_B3_1 := blk_frozen B3.out 1))
    go_roundw
    case measure => simp [intOf]; omega
    case rel => exact ⟨m + 1, (.slice AN1 nN1 cN1), (.slice AP1 nP1 cP1), N ++ [t], (fun k_ => (Pn k_ ∨ wA.heap.size ≤ k_) ∧ k_ < wC.heap.size), (fun k_ => (Pp k_ ∧ k_ < wA.heap.size) ∨ wD.heap.size ≤ k_), by go_num, by omega, HM1, ⟨fun k_ hn hp => by have hS_ := HS.out; rcases hp with h1_ | h1_ <;> rcases hn.1 with h2_ | h2_ <;> first | exact HD.out k_ h2_ h1_.1 | (have h3_ := hn.2; omega)⟩, ⟨Kd.S_set HN.out B3.out (by decide) 1 (.slice AP1 nP1 cP1)⟩, ⟨by rw [List.replicate_succ']; exact Kd.S_set HP.out B3.out (by decide) 1 (.slice AP1 nP1 cP1)⟩, ⟨blk_far B1.out N13.out _⟩, ⟨blk_far B2.out N23.out _⟩, ⟨blk_put (cs := #[(.slice AN1 nN1 cN1), vP]) B3.out 1 (.slice AP1 nP1 cP1) rfl⟩, ⟨below_set HB.out GB3.out⟩⟩
  · obtain rfl : m = l0_4.length := by omega
    have hNe : N = r0 := Option.some.inj (HM.out.symm.trans HRW.out)
    have HN2 : Aside0 (Kd.S (Kd.slice 2 (Kd.int .i64)) 22 wr w.heap.size Pn vN r0) := ⟨by rw [← hNe]; exact HN.out⟩
    have HP2 : Aside0 (Kd.S (Kd.slice 2 (Kd.int .i64)) 22 wr w.heap.size Pp vP (prevUp r0 0)) := ⟨by show Kd.S (Kd.slice 2 (Kd.int .i64)) 22 wr w.heap.size Pp vP (List.replicate r0.length []); rw [hlen]; exact HP.out⟩
    clear HN HP HM hNe N
    obtain ⟨AN, cN, eN⟩ := Kd.S_slice HN2.out
    subst eN
    have c1 : decide ((l0_4.length : Int) < (l0_4.length : Int)) = false := decide_eq_false (by omega)
    have hcz_B1_0 : wr.cell? ⟨g1, 0, none⟩ = some (.string a0_0) := (blk_cell B1.out 0).trans rfl
    have hfz_B1_0 := blk_frozen B1.out 0
    have hcz_B1_1 : wr.cell? ⟨g1, 1, none⟩ = some (.int .i64 a0_1) := (blk_cell B1.out 1).trans rfl
    have hfz_B1_1 := blk_frozen B1.out 1
    have hcz_B1_2 : wr.cell? ⟨g1, 2, none⟩ = some (.slice A0_2 l0_2.length c0_2) := (blk_cell B1.out 2).trans rfl
    have hfz_B1_2 := blk_frozen B1.out 2
    have hcz_B1_3 : wr.cell? ⟨g1, 3, none⟩ = some (.int .i64 a0_3) := (blk_cell B1.out 3).trans rfl
    have hfz_B1_3 := blk_frozen B1.out 3
    have hcz_B1_4 : wr.cell? ⟨g1, 4, none⟩ = some (.slice A0_4 l0_4.length c0_4) := (blk_cell B1.out 4).trans rfl
    have hfz_B1_4 := blk_frozen B1.out 4
    have HLEN := Aside0.mk hlen
    clear hlen
    go_wp2
    go_loopw [5] (fun v5 w' => ∃ (m : Nat) (vP : Value) (Pn Pp : Nat → Prop), v5 = .int .i64 (m : Int) ∧ m ≤ r0.length ∧ Aside0 (∀ k_ : Nat, Pn k_ → ¬ Pp k_) ∧ Aside0 (Kd.S (Kd.slice 2 (Kd.int .i64)) 22 w' w.heap.size Pn (.slice AN r0.length cN) r0) ∧ Aside0 (Kd.S (Kd.slice 2 (Kd.int .i64)) 22 w' w.heap.size Pp vP (prevUp r0 m)) ∧ Aside0 (w'.heap[g1]? = some (.cells #[.string a0_0, .int .i64 a0_1, .slice A0_2 l0_2.length c0_2, .int .i64 a0_3, .slice A0_4 l0_4.length c0_4] 30 (0, 0))) ∧ Aside0 (w'.heap[g2]? = some (.cells #[.slice none 0 0, .slice none 0 0] 52 (0, 0))) ∧ Aside0 (w'.heap[g3]? = some (.cells #[(.slice AN r0.length cN), vP] 52 (0, 0))) ∧ Aside0 (Below w.heap.size w w')) (fun v5 _ => r0.length - (intOf v5).toNat)
    case atStart => exact ⟨0, vP, Pn, Pp, rfl, Nat.zero_le _, HD, HN2, HP2, B1, B2, B3, HB⟩
    case round =>
     clear c1 HN2 HP2 HD B2 B3 HB Pn Pp vP
     clear hcz_B1_0 hfz_B1_0 hcz_B1_1 hfz_B1_1 hcz_B1_2 hfz_B1_2 hcz_B1_3 hfz_B1_3 hcz_B1_4 hfz_B1_4
     clear B1
     obtain ⟨m, vP, Pn, Pp, rfl, hm, HD, HN, HP, B1, B2, B3, HB⟩ := hrel
     by_cases hlt : m < r0.length
     · have c1 : decide ((m : Int) < (r0.length : Int)) = true := decide_eq_true (by omega)
       obtain ⟨row, hrow⟩ : ∃ row, row = r0.getD m [] := ⟨_, rfl⟩
       obtain ⟨hrl, hrt⟩ := okRows_at HOK.out m hlt
       rw [← hrow] at hrl hrt
       have HRT := Aside0.mk hrt
       have HROW := Aside0.mk hrow
       clear hrt hrow
       have hcz_B3_0 : wr.cell? ⟨g3, 0, none⟩ = some (.slice AN r0.length cN) := (blk_cell B3.out 0).trans rfl
       have hfz_B3_0 := blk_frozen B3.out 0
       have hcz_B3_1 : wr.cell? ⟨g3, 1, none⟩ = some (vP) := (blk_cell B3.out 1).trans rfl
       have hfz_B3_1 := blk_frozen B3.out 1
       go_wp2
       go_loopw [6] (fun v6 w' => ∃ (j : Nat) (vP : Value) (Pn Pp : Nat → Prop), v6 = .int .i64 (j : Int) ∧ j ≤ row.length ∧ Aside0 (∀ k_ : Nat, Pn k_ → ¬ Pp k_) ∧ Aside0 (Kd.S (Kd.slice 2 (Kd.int .i64)) 22 w' w.heap.size Pn (.slice AN r0.length cN) r0) ∧ Aside0 (Kd.S (Kd.slice 2 (Kd.int .i64)) 22 w' w.heap.size Pp vP (pushB (prevUp r0 m) (m : Int) (row.take j))) ∧ Aside0 (w'.heap[g1]? = some (.cells #[.string a0_0, .int .i64 a0_1, .slice A0_2 l0_2.length c0_2, .int .i64 a0_3, .slice A0_4 l0_4.length c0_4] 30 (0, 0))) ∧ Aside0 (w'.heap[g2]? = some (.cells #[.slice none 0 0, .slice none 0 0] 52 (0, 0))) ∧ Aside0 (w'.heap[g3]? = some (.cells #[(.slice AN r0.length cN), vP] 52 (0, 0))) ∧ Aside0 (Below w.heap.size w w')) (fun v6 _ => row.length - (intOf v6).toNat)
       case atStart => exact ⟨0, vP, Pn, Pp, rfl, Nat.zero_le _, HD, HN, ⟨by rw [List.take_zero]; exact HP.out⟩, B1, B2, B3, HB⟩
       case round =>
        clear hcz_B3_0 hfz_B3_0 hcz_B3_1 hfz_B3_1
        clear c1 HN HP HD B1 B2 B3 HB Pn Pp vP
        obtain ⟨j, vP, Pn, Pp, rfl, hj, HD, HN, HP, B1, B2, B3, HB⟩ := hrel
        have hN := HN.out
        obtain ⟨gN, cN2, eN, _, _, _⟩ := Kd.S_form hN (by omega)
        injection eN with e1 e2 e3
        subst e1
        clear e2 e3 cN2
        obtain ⟨cx, _, hM, hcc⟩ := Kd.S_get hN [] (m : Int) (by omega) (by omega)
        obtain ⟨vx, rfl, hRi⟩ := hM
        have hcx := hcc 0 vx rfl
        rw [show ((Kd.slice 2 (Kd.int .i64))).sz = 1 from rfl, Nat.mul_one, Nat.add_zero, Int.toNat_natCast, add_plain] at hcx
        rw [Int.toNat_natCast, ← HROW.out] at hRi
        obtain ⟨AI, cI, eI⟩ := Kd.R_slice hRi
        subst eI
        have HRi := Aside0.mk hRi
        have HCX := Aside0.mk hcx
        clear hcc hN hRi
        by_cases hjl : j < row.length
        · have c1 : decide ((m : Int) < (r0.length : Int)) = true := decide_eq_true (by omega)
          have c2 : decide ((j : Int) < (row.length : Int)) = true := decide_eq_true (by omega)
          have i1 : (m : Int) < (r0.length : Int) := by omega
          have i2 : (j : Int) < (row.length : Int) := by omega
          have hcz_B3_0 : wr.cell? ⟨g3, 0, none⟩ = some (.slice (some ⟨gN, 0, none⟩) r0.length cN) := (blk_cell B3.out 0).trans rfl
          have hfz_B3_0 := blk_frozen B3.out 0
          have hcz_B3_1 : wr.cell? ⟨g3, 1, none⟩ = some (vP) := (blk_cell B3.out 1).trans rfl
          have hfz_B3_1 := blk_frozen B3.out 1
          go_upto_region 13 with (fail)
          clear hcz_B3_0 hfz_B3_0 hcz_B3_1 hfz_B3_1
          clear hcx
          have hrd := Kd.reads_of_C (d := (0 : Int)) (Kd.R_reads' HRi.out).2.2
          obtain ⟨adI, e3, hct⟩ := ReadsInt.at_ (k := .i64) hrd (j : Int) (by omega) (by omega)
          subst e3
          rw [Int.toNat_natCast] at hct
          clear hrd
          obtain ⟨htm, htk⟩ := rd_take hjl
          obtain ⟨t, ht⟩ : ∃ t, t = rd row (j : Int) := ⟨_, rfl⟩
          rw [← ht] at hct htm htk
          obtain ⟨ht0, ht1⟩ := HRT.out t htm
          have hlen := HLEN.out
          rw [← hlen] at ht1
          obtain ⟨PR, hPR⟩ : ∃ P_, P_ = pushB (prevUp r0 m) (m : Int) (row.take j) := ⟨_, rfl⟩
          have hPl : PR.length = r0.length := by rw [hPR, pushB_len, prevUp_len]
          have hP := HP.out
          rw [← hPR] at hP
          obtain ⟨gP, cP, eP, hgP, _, _⟩ := Kd.S_form hP (by omega)
          subst eP
          have hP2 : Kd.S (Kd.slice 2 (Kd.int .i64)) 22 wr.drew w.heap.size (fun k_ => (Pp k_ ∧ k_ < wr.drew.heap.size) ∨ wr.drew.heap.size ≤ k_) (.slice (some ⟨gP, 0, none⟩) PR.length cP) PR := Kd.S_drew (Kd.S_mono (Kd.S_bound hP) (fun k_ h_ => .inl ⟨h_.1, h_.2.2.1⟩))
          obtain ⟨cx2, _, hM2, hcc2⟩ := Kd.S_get hP2 [] t ht0 (by omega)
          obtain ⟨vi, rfl, hRv⟩ := hM2
          have hcv := hcc2 0 vi rfl
          rw [show ((Kd.slice 2 (Kd.int .i64))).sz = 1 from rfl, Nat.mul_one, Nat.add_zero, add_plain] at hcv
          clear hcc2 hRv
          obtain ⟨_, _, _, _, hfr⟩ := Kd.R_elem (Kd.S_R hP2) [] t ht0 (by omega)
          have hfv := hfr 0
          rw [show ((Kd.slice 2 (Kd.int .i64))).sz = 1 from rfl, Nat.mul_one, Nat.add_zero] at hfv
          clear hfr
          obtain ⟨oki, hRo, hoki, hpush⟩ := S_push hP2 t ht0 (by omega) hcv
          obtain ⟨xi, hxi⟩ : ∃ x_, x_ = PR.getD t.toNat [] := ⟨_, rfl⟩
          rw [← hxi] at hRo
          obtain ⟨AV, cV, eV⟩ := Kd.R_slice hRo
          subst eV
          have hxl : xi.length ≤ m * 2000000 + j := by
           have h1_ := pushB_row (m : Int) t.toNat (row.take j) (prevUp r0 m)
           have h2_ := prevUp_row HOK.out t.toNat m (by omega)
           rw [List.length_take] at h1_
           rw [hxi, hPR]
           omega
          have hxb : (xi.length + 1) * 8 ≤ 140737488355328 := by
           omega
          have hset : pushB (prevUp r0 m) (m : Int) (row.take (j + 1)) = PR.set t.toNat (xi ++ [(m : Int)]) := by rw [htk, pushB_snoc, ← hPR, ← hxi]
          have HSET := Aside0.mk hset
          have HXB := Aside0.mk hxb
          have i3 : t < (PR.length : Int) := by omega
          clear hset hxb hxl ht1 htm htk hPR hxi ht hPl hlen
          have HWA := Aside0.mk (show w.heap.size ≤ wr.drew.heap.size from below_size (below_drew HB.out))
          have HGP := Aside0.mk (show w.heap.size ≤ gP from hgP)
          have HCT := Aside0.mk (show wr.drew.cell? (adI.add j) = some (.int .i64 t) from hct)
          have n0_ := Aside0.mk (show wr.drew.cell? ⟨gN, m, none⟩ = some (.slice (some adI) row.length cI) from HCX.out)
          have HCV := Aside0.mk hcv
          have HFV := Aside0.mk hfv
          have HPU := Aside0.mk hpush
          have HOI := Aside0.mk hoki
          have HRO := Aside0.mk hRo
          have n1_ := Aside0.mk (Kd.S_drew (Kd.S_mono (Kd.S_bound HN.out) (fun k_ h_ => (⟨h_.1, h_.2.2.1⟩ : Pn k_ ∧ k_ < wr.drew.heap.size))))
          have n2_ := Aside0.mk (Kd.R_drew HRi.out)
          have n3_ := Aside0.mk hP2
          have n4_ := Aside0.mk (blk_drew B1.out)
          have n5_ := Aside0.mk (blk_drew B2.out)
          have n6_ := Aside0.mk (blk_drew B3.out)
          have n7_ := Aside0.mk (below_drew HB.out)
          clear HCX hct hcv hfv hpush hoki hRo HN HRi hP2 hP HP B1 B2 B3 HB hgP
          have HCX := n0_
          have HN := n1_
          have HRi := n2_
          have HP := n3_
          have B1 := n4_
          have B2 := n5_
          have B3 := n6_
          have HB := n7_
          clear n0_ n1_ n2_ n3_ n4_ n5_ n6_ n7_
          refine start_ (n := 27) (S := fun w' => w'.cell? ⟨g3, 0, none⟩ = some (.slice (some ⟨gN, 0, none⟩) r0.length cN) ∧ w'.cell? ⟨g3, 1, none⟩ = some (.slice (some ⟨gP, 0, none⟩) PR.length cP) ∧ w'.cell? ⟨gN, m, none⟩ = some (.slice (some adI) row.length cI) ∧ w'.cell? (adI.add j) = some (.int .i64 t) ∧ w'.cell? ⟨gP, t.toNat, none⟩ = some (.slice AV xi.length cV)) (ds := [26]) #[false, false, false, false, false, false, false, false, false, false, false, false, false, false, false, false, false, false, false, false, false, false, false, false, false, false, false] (by kernel_rfl) rfl rfl ⟨(blk_cell B3.out 0).trans rfl, (blk_cell B3.out 1).trans rfl, HCX.out, HCT.out, HCV.out⟩ (fun hHeld => ?_)
          generalize wr.drew = wA at HWA HCT HCX HCV HFV HPU HOI HRO HN HRi HP B1 B2 B3 HB hHeld ⊢
          refine pure_ (i := 0) (N := some 45) (v := ?_) (a' := ?_) #[true, false, false, false, false, false, false, false, false, false, false, false, false, false, false, false, false, false, false, false, false, false, false, false, false, false, false] rfl rfl (by kernel_rfl) (fun _ _ _ h => h) (Or.inl ⟨by rfl, ?_⟩) ?_ ?_
          rotate_left
          · intro w'
            go_simp
            with_reducible rfl
          rotate_left
          · simp only [Act.put, List.setIfInBounds_toArray, List.set_cons_zero, List.set_cons_succ, i64_w, i32_w]
            rfl
          refine pure_ (i := 2) (N := some 47) (v := ?_) (a' := ?_) #[true, false, true, false, false, false, false, false, false, false, false, false, false, false, false, false, false, false, false, false, false, false, false, false, false, false, false] rfl rfl (by kernel_rfl) (fun _ _ _ h => h) (Or.inl ⟨by rfl, ?_⟩) ?_ ?_
          rotate_left
          · intro w'
            go_simp
            with_reducible rfl
          rotate_left
          · simp only [Act.put, List.setIfInBounds_toArray, List.set_cons_zero, List.set_cons_succ, i64_w, i32_w]
            rfl
          refine pure_ (i := 4) (N := some 49) (v := ?_) (a' := ?_) #[true, false, true, false, true, false, false, false, false, false, false, false, false, false, false, false, false, false, false, false, false, false, false, false, false, false, false] rfl rfl (by kernel_rfl) (fun _ _ _ h => h) (Or.inl ⟨by rfl, ?_⟩) ?_ ?_
          rotate_left
          · intro w'
            go_simp
            with_reducible rfl
          rotate_left
          · simp only [Act.put, List.setIfInBounds_toArray, List.set_cons_zero, List.set_cons_succ, i64_w, i32_w]
            rfl
          refine pure_ (i := 7) (N := some 52) (v := ?_) (a' := ?_) #[true, false, true, false, true, false, false, true, false, false, false, false, false, false, false, false, false, false, false, false, false, false, false, false, false, false, false] rfl rfl (by kernel_rfl) (fun _ _ _ h => h) (Or.inl ⟨by rfl, ?_⟩) ?_ ?_
          rotate_left
          · intro w'
            go_simp
            with_reducible rfl
          rotate_left
          · simp only [Act.put, List.setIfInBounds_toArray, List.set_cons_zero, List.set_cons_succ, i64_w, i32_w]
            rfl
          refine pure_ (i := 10) (N := some 55) (v := ?_) (a' := ?_) #[true, false, true, false, true, false, false, true, false, false, true, false, false, false, false, false, false, false, false, false, false, false, false, false, false, false, false] rfl rfl (by kernel_rfl) (fun _ _ _ h => h) (Or.inl ⟨by rfl, ?_⟩) ?_ ?_
          rotate_left
          · intro w'
            go_simp
            with_reducible rfl
          rotate_left
          · simp only [Act.put, List.setIfInBounds_toArray, List.set_cons_zero, List.set_cons_succ, i64_w, i32_w]
            rfl
          refine pure_ (i := 12) (N := some 57) (v := ?_) (a' := ?_) #[true, false, true, false, true, false, false, true, false, false, true, false, true, false, false, false, false, false, false, false, false, false, false, false, false, false, false] rfl rfl (by kernel_rfl) (fun _ _ _ h => h) (Or.inl ⟨by rfl, ?_⟩) ?_ ?_
          rotate_left
          · intro w'
            go_simp
            with_reducible rfl
          rotate_left
          · simp only [Act.put, List.setIfInBounds_toArray, List.set_cons_zero, List.set_cons_succ, i64_w, i32_w]
            rfl
          refine pure_ (i := 14) (N := some 59) (v := ?_) (a' := ?_) #[true, false, true, false, true, false, false, true, false, false, true, false, true, false, true, false, false, false, false, false, false, false, false, false, false, false, false] rfl rfl (by kernel_rfl) (fun _ _ _ h => h) (Or.inl ⟨by rfl, ?_⟩) ?_ ?_
          rotate_left
          · intro w'
            go_simp
            with_reducible rfl
          rotate_left
          · simp only [Act.put, List.setIfInBounds_toArray, List.set_cons_zero, List.set_cons_succ, i64_w, i32_w]
            rfl
          refine pure_ (i := 17) (N := some 62) (v := ?_) (a' := ?_) #[true, false, true, false, true, false, false, true, false, false, true, false, true, false, true, false, false, true, false, false, false, false, false, false, false, false, false] rfl rfl (by kernel_rfl) (fun _ _ _ h => h) (Or.inl ⟨by rfl, ?_⟩) ?_ ?_
          rotate_left
          · intro w'
            go_simp
            with_reducible rfl
          rotate_left
          · simp only [Act.put, List.setIfInBounds_toArray, List.set_cons_zero, List.set_cons_succ, i64_w, i32_w]
            rfl
          refine pure_ (i := 22) (N := some 67) (v := ?_) (a' := ?_) #[true, false, true, false, true, false, false, true, false, false, true, false, true, false, true, false, false, true, false, false, false, false, true, false, false, false, false] rfl rfl (by kernel_rfl) (fun _ _ _ h => h) (Or.inl ⟨by rfl, ?_⟩) ?_ ?_
          rotate_left
          · intro w'
            go_simp
            with_reducible rfl
          rotate_left
          · simp only [Act.put, List.setIfInBounds_toArray, List.set_cons_zero, List.set_cons_succ, i64_w, i32_w]
            rfl
          refine take_ (i := 1) (N := some 46) (v := ?_) (a' := ?_) #[true, true, true, false, true, false, false, true, false, false, true, false, true, false, true, false, false, true, false, false, false, false, true, false, false, false, false] rfl rfl (by kernel_rfl) (fun _ _ _ h => h) (Or.inl ⟨by rfl, ?_⟩) hHeld ?_ ?_
          rotate_left
          · rintro w' ⟨s0, s1, s2, s3, s4⟩
            go_simp
            with_reducible rfl
          rotate_left
          · simp only [Act.put, List.setIfInBounds_toArray, List.set_cons_zero, List.set_cons_succ, i64_w, i32_w]
            rfl
          refine take_ (i := 3) (N := some 48) (v := ?_) (a' := ?_) #[true, true, true, true, true, false, false, true, false, false, true, false, true, false, true, false, false, true, false, false, false, false, true, false, false, false, false] rfl rfl (by kernel_rfl) (fun _ _ _ h => h) (Or.inl ⟨by rfl, ?_⟩) hHeld ?_ ?_
          rotate_left
          · rintro w' ⟨s0, s1, s2, s3, s4⟩
            go_simp
            with_reducible rfl
          rotate_left
          · simp only [Act.put, List.setIfInBounds_toArray, List.set_cons_zero, List.set_cons_succ, i64_w, i32_w]
            rfl
          refine pure_ (i := 5) (N := some 50) (v := ?_) (a' := ?_) #[true, true, true, true, true, true, false, true, false, false, true, false, true, false, true, false, false, true, false, false, false, false, true, false, false, false, false] rfl rfl (by kernel_rfl) (fun _ _ _ h => h) (Or.inl ⟨by rfl, ?_⟩) ?_ ?_
          rotate_left
          · intro w'
            go_simp
            with_reducible rfl
          rotate_left
          · simp only [Act.put, List.setIfInBounds_toArray, List.set_cons_zero, List.set_cons_succ, i64_w, i32_w]
            rfl
          refine take_ (i := 6) (N := some 51) (v := ?_) (a' := ?_) #[true, true, true, true, true, true, true, true, false, false, true, false, true, false, true, false, false, true, false, false, false, false, true, false, false, false, false] rfl rfl (by kernel_rfl) (fun _ _ _ h => h) (Or.inl ⟨by rfl, ?_⟩) hHeld ?_ ?_
          rotate_left
          · rintro w' ⟨s0, s1, s2, s3, s4⟩
            go_simp
            with_reducible rfl
          rotate_left
          · simp only [Act.put, List.setIfInBounds_toArray, List.set_cons_zero, List.set_cons_succ, i64_w, i32_w]
            rfl
          refine pure_ (i := 8) (N := some 53) (v := ?_) (a' := ?_) #[true, true, true, true, true, true, true, true, true, false, true, false, true, false, true, false, false, true, false, false, false, false, true, false, false, false, false] rfl rfl (by kernel_rfl) (fun _ _ _ h => h) (Or.inl ⟨by rfl, ?_⟩) ?_ ?_
          rotate_left
          · intro w'
            go_simp
            with_reducible rfl
          rotate_left
          · simp only [Act.put, List.setIfInBounds_toArray, List.set_cons_zero, List.set_cons_succ, i64_w, i32_w]
            rfl
          refine take_ (i := 9) (N := some 54) (v := ?_) (a' := ?_) #[true, true, true, true, true, true, true, true, true, true, true, false, true, false, true, false, false, true, false, false, false, false, true, false, false, false, false] rfl rfl (by kernel_rfl) (fun _ _ _ h => h) (Or.inl ⟨by rfl, ?_⟩) hHeld ?_ ?_
          rotate_left
          · rintro w' ⟨s0, s1, s2, s3, s4⟩
            go_simp
            with_reducible rfl
          rotate_left
          · simp only [Act.put, List.setIfInBounds_toArray, List.set_cons_zero, List.set_cons_succ, i64_w, i32_w]
            rfl
          refine take_ (i := 11) (N := some 56) (v := ?_) (a' := ?_) #[true, true, true, true, true, true, true, true, true, true, true, true, true, false, true, false, false, true, false, false, false, false, true, false, false, false, false] rfl rfl (by kernel_rfl) (fun _ _ _ h => h) (Or.inl ⟨by rfl, ?_⟩) hHeld ?_ ?_
          rotate_left
          · rintro w' ⟨s0, s1, s2, s3, s4⟩
            go_simp
            with_reducible rfl
          rotate_left
          · simp only [Act.put, List.setIfInBounds_toArray, List.set_cons_zero, List.set_cons_succ, i64_w, i32_w]
            rfl
          refine take_ (i := 13) (N := some 58) (v := ?_) (a' := ?_) #[true, true, true, true, true, true, true, true, true, true, true, true, true, true, true, false, false, true, false, false, false, false, true, false, false, false, false] rfl rfl (by kernel_rfl) (fun _ _ _ h => h) (Or.inl ⟨by rfl, ?_⟩) hHeld ?_ ?_
          rotate_left
          · rintro w' ⟨s0, s1, s2, s3, s4⟩
            go_simp
            with_reducible rfl
          rotate_left
          · simp only [Act.put, List.setIfInBounds_toArray, List.set_cons_zero, List.set_cons_succ, i64_w, i32_w]
            rfl
          refine pure_ (i := 15) (N := some 60) (v := ?_) (a' := ?_) #[true, true, true, true, true, true, true, true, true, true, true, true, true, true, true, true, false, true, false, false, false, false, true, false, false, false, false] rfl rfl (by kernel_rfl) (fun _ _ _ h => h) (Or.inl ⟨by rfl, ?_⟩) ?_ ?_
          rotate_left
          · intro w'
            go_simp
            with_reducible rfl
          rotate_left
          · simp only [Act.put, List.setIfInBounds_toArray, List.set_cons_zero, List.set_cons_succ, i64_w, i32_w]
            rfl
          refine take_ (i := 16) (N := some 61) (v := ?_) (a' := ?_) #[true, true, true, true, true, true, true, true, true, true, true, true, true, true, true, true, true, true, false, false, false, false, true, false, false, false, false] rfl rfl (by kernel_rfl) (fun _ _ _ h => h) (Or.inl ⟨by rfl, ?_⟩) hHeld ?_ ?_
          rotate_left
          · rintro w' ⟨s0, s1, s2, s3, s4⟩
            go_simp
            with_reducible rfl
          rotate_left
          · simp only [Act.put, List.setIfInBounds_toArray, List.set_cons_zero, List.set_cons_succ, i64_w, i32_w]
            rfl
          refine pure_ (i := 18) (N := some 63) (v := ?_) (a' := ?_) #[true, true, true, true, true, true, true, true, true, true, true, true, true, true, true, true, true, true, true, false, false, false, true, false, false, false, false] rfl rfl (by kernel_rfl) (fun _ _ _ h => h) (Or.inl ⟨by rfl, ?_⟩) ?_ ?_
          rotate_left
          · intro w'
            go_simp
            with_reducible rfl
          rotate_left
          · simp only [Act.put, List.setIfInBounds_toArray, List.set_cons_zero, List.set_cons_succ, i64_w, i32_w]
            rfl
          refine take_ (i := 19) (N := some 64) (v := ?_) (a' := ?_) #[true, true, true, true, true, true, true, true, true, true, true, true, true, true, true, true, true, true, true, true, false, false, true, false, false, false, false] rfl rfl (by kernel_rfl) (fun _ _ _ h => h) (Or.inl ⟨by rfl, ?_⟩) hHeld ?_ ?_
          rotate_left
          · rintro w' ⟨s0, s1, s2, s3, s4⟩
            go_simp
            with_reducible rfl
          rotate_left
          · simp only [Act.put, List.setIfInBounds_toArray, List.set_cons_zero, List.set_cons_succ, i64_w, i32_w]
            rfl
          refine pure_ (i := 20) (N := some 65) (v := ?_) (a' := ?_) #[true, true, true, true, true, true, true, true, true, true, true, true, true, true, true, true, true, true, true, true, true, false, true, false, false, false, false] rfl rfl (by kernel_rfl) (fun _ _ _ h => h) (Or.inl ⟨by rfl, ?_⟩) ?_ ?_
          rotate_left
          · intro w'
            go_simp
            with_reducible rfl
          rotate_left
          · simp only [Act.put, List.setIfInBounds_toArray, List.set_cons_zero, List.set_cons_succ, i64_w, i32_w]
            rfl
          refine take_ (i := 21) (N := some 66) (v := ?_) (a' := ?_) #[true, true, true, true, true, true, true, true, true, true, true, true, true, true, true, true, true, true, true, true, true, true, true, false, false, false, false] rfl rfl (by kernel_rfl) (fun _ _ _ h => h) (Or.inl ⟨by rfl, ?_⟩) hHeld ?_ ?_
          rotate_left
          · rintro w' ⟨s0, s1, s2, s3, s4⟩
            go_simp
            with_reducible rfl
          rotate_left
          · simp only [Act.put, List.setIfInBounds_toArray, List.set_cons_zero, List.set_cons_succ, i64_w, i32_w]
            rfl
          refine one_ (i := 23) (N := some 68) #[true, true, true, true, true, true, true, true, true, true, true, true, true, true, true, true, true, true, true, true, true, true, true, true, false, false, false] rfl rfl (by kernel_rfl) (by decide) (fun K hK => ?_)
          refine value_ (w1 := ?_) (v := ?_) (by rfl) rfl ?_ ?_
          rotate_left 2
          · go_simp
            constructor
            · rfl
            · rfl
          refine hK.out _ _ ⟨(blk_cell (blk_alloc B3.out _) 0).trans rfl, (blk_cell (blk_alloc B3.out _) 1).trans rfl, cell_al HCX.out _, cell_al HCT.out _, cell_al HCV.out _⟩ (fun hHeld => ?_)
          clear hK K
          refine norm_ (a' := ?_) ?_ ?_
          rotate_left
          · show Act.put _ (some 68) _ = _
            simp only [Act.put, List.setIfInBounds_toArray, List.set_cons_zero, List.set_cons_succ, i64_w, i32_w]
            rfl
          refine one_ (i := 24) (N := some 69) #[true, true, true, true, true, true, true, true, true, true, true, true, true, true, true, true, true, true, true, true, true, true, true, true, true, false, false] rfl rfl (by kernel_rfl) (by decide) (fun K hK => ?_)
          refine Kd.R_append_step (Kd.int .i64) (w0 := w) w.heap.size (by rfl) (.tmp 66) (.tmp 68) 22 2 (.int .i64 0) 8 rfl Try.underlying22 (by kernel_rfl) rfl (by decide) (by omega) (.slice AV xi.length cV) xi (m : Int) [.int .i64 (m : Int)] (fun k_ => oki k_ ∨ ((Pp k_ ∧ k_ < wA.heap.size) ∨ wA.heap.size ≤ k_) ∧ wA.heap.size ≤ k_) (fun _ => False) rfl rfl ?aP (fun _ hk => hk.elim) ?aF ?aO ?aB ?aS ?aL ?_
          (case aP => exact rfl)
          (case aF => exact fun k_ hk => .inr ⟨.inr hk, hk⟩)
          (case aO => exact Kd.R_mono HRO.out (fun _ hk => .inl hk))
          (case aB => exact HB.out)
          (case aS => exact HWA.out)
          (case aL => exact HXB.out)
          intro v1 wC ho1 hb1 hg1 hat1
          obtain ⟨A1, n1, c1_, ev1⟩ : ∃ A n c, v1 = .slice A n c := by obtain ⟨A, c, h⟩ := Kd.R_slice ho1; exact ⟨A, _, c, h⟩
          subst ev1
          have hne1 : ∀ k_ : Nat, Pn k_ → k_ < wA.heap.size → some k_ ≠ (.slice AV xi.length cV : Value).ownBlock := fun k_ h1_ h2_ e_ => by
           rcases (HOI.out k_ (HRO.out.1 k_ e_.symm)).1 with h3_ | h3_
           · exact HD.out k_ h1_ h3_.1
           · omega
          have hne2 : some gP ≠ (.slice AV xi.length cV : Value).ownBlock := fun e_ => (HOI.out gP (HRO.out.1 gP e_.symm)).2 rfl
          have hgN := ((Kd.S_R HN.out).1 gN rfl)
          have hgI := (HRi.out.1 adI.block (by simp [Value.ownBlock])).1
          have hab : (adI.add j).block = adI.block := by unfold Addr.add; split <;> rfl
          have hgI2 : adI.block < wA.heap.size := hab ▸ World.block_lt_of_cell? wA _ HCT.out
          have HP0 := HP
          have HG1 := Aside0.mk (fun e_ : g1 = gP => Kd.S_ne HP.out B1.out (by decide) (by rw [e_]; rfl))
          have HG2 := Aside0.mk (fun e_ : g2 = gP => Kd.S_ne HP.out B2.out (by decide) (by rw [e_]; rfl))
          have HG3 := Aside0.mk (fun e_ : g3 = gP => Kd.S_ne HP.out B3.out (by decide) (by rw [e_]; rfl))
          have n0_ := Aside0.mk (Kd.S_grown HN.out hg1 (fun k_ hk => hne1 k_ hk.1 hk.2))
          have n1_ := Aside0.mk (HPU.out wC _ _ hg1 ho1)
          have n2_ := Aside0.mk (blk_grown B1.out hg1 (Kd.R_ne HRO.out B1.out (by decide)))
          have n3_ := Aside0.mk (blk_grown B2.out hg1 (Kd.R_ne HRO.out B2.out (by decide)))
          have n4_ := Aside0.mk (blk_grown B3.out hg1 (Kd.R_ne HRO.out B3.out (by decide)))
          have n5_ := Aside0.mk (hb1)
          have n6_ := Aside0.mk (cell_grown hg1 HCX.out (hne1 gN hgN.1 hgN.2))
          have n7_ := Aside0.mk (cell_grown hg1 HCT.out (by rw [hab]; exact hne1 _ hgI hgI2))
          have n8_ := Aside0.mk (frozen_gr hg1 HCV.out HFV.out hne2)
          have n9_ := Aside0.mk (cell_grown hg1 HCV.out hne2)
          clear HN HP B1 B2 B3 HB HCX HCT HFV HCV
          have HN := n0_
          have HP := n1_
          have B1 := n2_
          have B2 := n3_
          have B3 := n4_
          have HB := n5_
          have HCX := n6_
          have HCT := n7_
          have HFV := n8_
          have HCV := n9_
          clear n0_ n1_ n2_ n3_ n4_ n5_ n6_ n7_ n8_ n9_
          have hPgP : (Pp gP ∧ gP < wA.heap.size) ∨ wA.heap.size ≤ gP := (Kd.S_R HP0.out).1 gP rfl
          have HNP := Aside0.mk (show ∀ k_ : Nat, (Pn k_ ∧ k_ < wA.heap.size) → k_ ≠ gP from fun k_ hk e_ => by subst e_; rcases hPgP with h3_ | h3_; exact HD.out _ hk.1 h3_.1; have := hk.2; omega)
          clear hPgP HP0
          clear ho1 hb1 hat1 hne1 hne2 hgN hgI hgI2 hab hg1 HPU
          have hfzC := HFV.out
          refine hK.out _ _ ⟨(blk_cell B3.out 0).trans rfl, (blk_cell B3.out 1).trans rfl, HCX.out, HCT.out, HCV.out⟩ (fun hHeld => ?_)
          clear hK K
          refine norm_ (a' := ?_) ?_ ?_
          rotate_left
          · show Act.put _ (some 69) _ = _
            simp only [Act.put, List.setIfInBounds_toArray, List.set_cons_zero, List.set_cons_succ, i64_w, i32_w]
            rfl
          refine pure_ (i := 25) (N := some 70) (v := ?_) (a' := ?_) #[true, true, true, true, true, true, true, true, true, true, true, true, true, true, true, true, true, true, true, true, true, true, true, true, true, true, false] rfl rfl (by kernel_rfl) (fun _ _ _ h => h) (Or.inl ⟨by rfl, ?_⟩) ?_ ?_
          rotate_left
          · intro w'
            go_simp
            with_reducible rfl
          rotate_left
          · simp only [Act.put, List.setIfInBounds_toArray, List.set_cons_zero, List.set_cons_succ, i64_w, i32_w]
            rfl
          refine last_ (i := 26) (N := none) #[true, true, true, true, true, true, true, true, true, true, true, true, true, true, true, true, true, true, true, true, true, true, true, true, true, true, true] rfl rfl (by kernel_rfl) (by decide) (fun K hK => ?_)
          refine skip_ (w1 := ?_) (by rfl) rfl ?_ ?_
          rotate_left
          · go_simp
            rfl
          refine hK.out _ _ ?_
          clear hK K
          refine done_ (by kernel_rfl) ?_
          go_wp2
          go_roundw
          case measure => simp [intOf]; omega
          case rel => exact ⟨j + 1, .slice (some ⟨gP, 0, none⟩) PR.length cP, (fun k_ => Pn k_ ∧ k_ < wA.heap.size), (fun k_ => (Pp k_ ∧ k_ < wA.heap.size) ∨ wA.heap.size ≤ k_), by go_num, by omega, ⟨fun k_ hn hp => by rcases hp with h1_ | h1_; exact HD.out k_ hn.1 h1_.1; have := hn.2; omega⟩, ⟨Kd.S_far HN.out HNP.out _⟩, ⟨by rw [HSET.out]; exact HP.out⟩, ⟨blk_far B1.out HG1.out _⟩, ⟨blk_far B2.out HG2.out _⟩, ⟨blk_far B3.out HG3.out _⟩, ⟨below_set HB.out HGP.out⟩⟩
        · obtain rfl : j = row.length := by omega
          have c1 : decide ((m : Int) < (r0.length : Int)) = true := decide_eq_true (by omega)
          have c2 : decide ((row.length : Int) < (row.length : Int)) = false := decide_eq_false (by omega)
          have i1 : (m : Int) < (r0.length : Int) := by omega
          have hcz_B3_0 : wr.cell? ⟨g3, 0, none⟩ = some (.slice (some ⟨gN, 0, none⟩) r0.length cN) := (blk_cell B3.out 0).trans rfl
          have hfz_B3_0 := blk_frozen B3.out 0
          have hcz_B3_1 : wr.cell? ⟨g3, 1, none⟩ = some (vP) := (blk_cell B3.out 1).trans rfl
          have hfz_B3_1 := blk_frozen B3.out 1
          go_wp2
          go_roundw
          case measure => have hlen := HLEN.out; rw [IntWalk.wrap64_in ((m : Int) + 1) (by omega)]; simp [intOf]; omega
          case rel => have hlen := HLEN.out; exact ⟨m + 1, vP, Pn, Pp, by rw [IntWalk.wrap64_in ((m : Int) + 1) (by omega)]; rfl, by omega, HD, HN, ⟨by have h_ := HP.out; rw [List.take_length] at h_; rw [prevUp, ← HROW.out]; exact h_⟩, B1, B2, B3, HB⟩
     · obtain rfl : m = r0.length := by omega
       have c1 : decide ((r0.length : Int) < (r0.length : Int)) = false := decide_eq_false (by omega)
       obtain ⟨AP, nP, cP, eP⟩ : ∃ A n c, vP = .slice A n c := by obtain ⟨A, c, h⟩ := Kd.S_slice HP.out; exact ⟨A, _, c, h⟩
       subst eP
       have hcz_B3_0 : wr.cell? ⟨g3, 0, none⟩ = some (.slice AN r0.length cN) := (blk_cell B3.out 0).trans rfl
       have hfz_B3_0 := blk_frozen B3.out 0
       have hcz_B3_1 : wr.cell? ⟨g3, 1, none⟩ = some (.slice AP nP cP) := (blk_cell B3.out 1).trans rfl
       have hfz_B3_1 := blk_frozen B3.out 1
       have hcz_B2_0 : wr.cell? ⟨g2, 0, none⟩ = some (.slice none 0 0) := (blk_cell B2.out 0).trans rfl
       have hfz_B2_0 := blk_frozen B2.out 0
       have hcz_B2_1 : wr.cell? ⟨g2, 1, none⟩ = some (.slice none 0 0) := (blk_cell B2.out 1).trans rfl
       have hfz_B2_1 := blk_frozen B2.out 1
       have hnb := N23.out
       have hnc := Ne.symm N23.out
       go_wp2
       refine bodyPost_ret (results_cell_row rfl _ _ g2 52 #[.slice AN r0.length cN, .slice AP nP cP] (0, 0) _ rfl (blk_put (cs := #[.slice AN r0.length cN, .slice none 0 0]) (blk_put (cs := #[.slice none 0 0, .slice none 0 0]) B2.out 0 (.slice AN r0.length cN) rfl) 1 (.slice AP nP cP) rfl) Try.underlying52 rfl (by kernel_rfl)) rfl ?_
       exact ⟨_, _, rfl, Kd.S_mono (Kd.S_set (Kd.S_set HN.out B2.out (by decide) 0 _) (blk_put (cs := #[.slice none 0 0, .slice none 0 0]) (cs' := #[.slice AN r0.length cN, .slice none 0 0]) B2.out 0 (.slice AN r0.length cN) rfl) (by decide) 1 _) (fun k_ hk e_ => HD.out k_ hk ((Kd.S_R HP.out).1 k_ e_.symm)), by rw [← HLEN.out]; exact Kd.S_mono (Kd.S_set (Kd.S_set HP.out B2.out (by decide) 0 _) (blk_put (cs := #[.slice none 0 0, .slice none 0 0]) (cs' := #[.slice AN r0.length cN, .slice none 0 0]) B2.out 0 (.slice AN r0.length cN) rfl) (by decide) 1 _) (fun k_ hk e_ => HD.out k_ ((Kd.S_R HN.out).1 k_ e_.symm) hk), below_set (below_set HB.out GB2.out) GB2.out⟩

end Go.Proofs.Ytoedcnhgobbnfaa.All

