/- Part 1 of the proof of FnExactIntervals: functions of the translation with what they return, and plain laws of these. Written by programs of this session over the kit's print, and by hand. -/
import Derived.Test.YthegbhfoleiegaaProg
import Derived.Test.YthegbhfoleiegaaCFnExactIntervalsWApart
import Derived.Test.YthegbhfoleiegaaCFnExactIntervalsWArr
import Derived.Test.YthegbhfoleiegaaCFnExactIntervalsWAt
import Derived.Test.YthegbhfoleiegaaCFnExactIntervalsWFoot
import Derived.Test.YthegbhfoleiegaaCFnExactIntervalsWFootNe
import Derived.Test.YthegbhfoleiegaaCFnExactIntervalsWGuard
import Derived.Test.YthegbhfoleiegaaCFnExactIntervalsWInv
import Derived.Test.YthegbhfoleiegaaCFnExactIntervalsWKept
import Derived.Test.YthegbhfoleiegaaCFnExactIntervalsWLast
import Derived.Test.YthegbhfoleiegaaCFnExactIntervalsWMore
import Derived.Test.YthegbhfoleiegaaCFnExactIntervalsWN
import Derived.Test.YthegbhfoleiegaaCFnExactIntervalsWNEv
import Derived.Test.YthegbhfoleiegaaCFnExactIntervalsWQPut
import Derived.Test.YthegbhfoleiegaaCFnExactIntervalsWRepsOne
import Derived.Test.YthegbhfoleiegaaCFnExactIntervalsWShare
import Derived.Test.YthegbhfoleiegaaCFnExactIntervalsWTab
import Derived.Test.YthegbhfoleiegaaCFnExactIntervalsWWords
import Derived.Test.YthegbhfoleiegaaCFnExactIntervalsWZeros
import Derived.Below
import Derived.Deep.Draws
import Derived.Deep.AppendLies
import Derived.Maps.AppendAt
import Derived.OwnWalk
import Derived.Laws.BytesArg
import Derived.Laws.MakeOwn
import Derived.Laws.OwnMore
import Derived.Deep.OwnRows
import Derived.Tactics
import Derived.Lib.ConvBytes
import Derived.Laws.Slices
import Derived.WalkKit
import Derived.KernelRfl
import Derived.RowKit3
import Derived.Deep.LoopGhost
import Derived.Deep.QuietTactic
import Derived.BigQuiet
import Derived.WideLaws
import Derived.Deep.DeepCutAuto
import Derived.Deep.CutBlock
import Derived.Deep.RegionHeld3
import Derived.Laws.Rows
import Derived.Lib.AppendStr
import Derived.ArgAppend
import Derived.Laws.IdiomCopy
import Derived.OrdersHeld
import Derived.Laws.BitsLemmas
import Derived.RowKit
import Derived.Laws.CopyOwn
import Derived.Maps.OwnSet
import Derived.Maps.OwnOps
import Derived.Maps.RangeWalk
import Derived.BigRegion
import Derived.Handy
import Derived.Shelf.GgSortFunc.Whole
import Derived.Shelf.GgSortFunc.Tiny
import Derived.Sort.OwnSortedInts
import Derived.Lib.RowBridge
import Derived.Lib.SortBridge
import Derived.Sort.LotA
import Derived.Deep.Slices
import Derived.ChangeArms
import Derived.ProofKit
import Derived.OpenShut
import Derived.ShutString
import Derived.ChangeOld
import Derived.SizedLaws
namespace Go.Proofs.Ythegbhfoleiegaa.All
open Go.RowKit Go.Proofs.YthegbhfoleiegaaW.PrintWords Go.Proofs.YthegbhfoleiegaaW.PrintLast Go.Proofs.YthegbhfoleiegaaW.PrintMore
theorem bz {w W : World} (h : Below w.heap.size w W := by repeat (first | (with_reducible first | exact HB.out | apply below_alloc | apply pw_below_drewN | apply below_drew1 | refine below_set ?_ (Aside0.out (by assumption))) | exact HB.out)) : Below w.heap.size w W := h
theorem az {p : Prop} (h : p := by first | (with_reducible assumption) | assumption) : p := h
theorem kz {W : World} {g : Nat} {o : Obj} (h : W.heap[g]? = some o := by (with_reducible repeat (first | refine blk_drewN ?_ _ | refine blk_drew ?_ | refine blk_alloc ?_ _)); exact Aside0.out (by assumption)) : W.heap[g]? = some o := h
theorem lz {α : Sort _} {x y : α} (h : x = y := by (try simp only [List.map_toArray, List.map_cons, List.map_nil]); first | done | rfl | (simp only [List.length_drop, List.length_take]; rfl)) : x = y := h
theorem sz_ {p : Prop} (h : p := by first | rfl | (simp; done) | (simp [*]; done)) : p := h
structure Stp (w W : World) : Prop where
  out : Below w.heap.size w W
theorem Stp.refl {w : World} : Stp w w := ⟨Below.refl _ _⟩
theorem Stp.alloc {w W : World} (h : Stp w W) (o : Obj) : Stp w (W.alloc o) := ⟨below_alloc h.out o⟩
theorem Stp.drewN {w W : World} (h : Stp w W) (n : Nat) : Stp w (W.drewN n) := ⟨pw_below_drewN h.out n⟩
theorem Stp.drew {w W : World} (h : Stp w W) : Stp w W.drew := ⟨below_drew h.out⟩
theorem rz {α : Type} {d : Kd α} {e base : Nat} {w W : World} {ok : Nat → Prop} {v : Value} {xs : List α} (h : d.R e w base ok v xs) (hs : Stp w W := by with_reducible repeat (first | exact Stp.refl | apply Stp.alloc | apply Stp.drewN | apply Stp.drew)) : d.R e W base ok v xs := Kd.R_below h hs.out
theorem rs {α : Type} {d : Kd α} {e base : Nat} {w W : World} {ok : Nat → Prop} {v : Value} {xs : List α} (h : Kd.S d e w base ok v xs) (hs : Stp w W := by with_reducible repeat (first | exact Stp.refl | apply Stp.alloc | apply Stp.drewN | apply Stp.drew)) : Kd.S d e W base ok v xs := Kd.S_below h hs.out
theorem cz {α : Type} {d : Kd α} {w W : World} {A : Option Addr} {n : Nat} {xs : List α} (h : d.C w A n xs) (hb : Below w.heap.size w W := by repeat (first | (with_reducible first | exact HB.out | apply below_alloc | apply pw_below_drewN | apply below_drew1 | refine below_set ?_ (Aside0.out (by assumption))) | exact HB.out)) : d.C W A n xs := Kd.C_below h hb
theorem ck {w W : World} {a : Addr} {v : Value} (hb : Aside0 (Below w.heap.size w W)) (h : w.cell? a = some v) : W.cell? a = some v := (hb.out.cell (World.block_lt_of_cell? w _ h)).trans h
theorem sx1 {α : Type _} (l : List α) (i : Nat) (a : α) : l.toArray.setIfInBounds i a = (l.set i a).toArray := List.setIfInBounds_toArray l i a
theorem sx2 {α : Type _} {x y : α} {l : List α} : (x :: l).set 0 y = y :: l := rfl
theorem sx3 {α : Type _} {x y : α} {l : List α} {n : Nat} : (x :: l).set (n + 1) y = x :: l.set n y := rfl
end Go.Proofs.Ythegbhfoleiegaa.All
namespace Go.Proofs.Ythegbhfoleiegaa.All
open Go.RowKit Go.Proofs.YthegbhfoleiegaaW.PrintWords Go.Proofs.YthegbhfoleiegaaW.PrintLast Go.Proofs.YthegbhfoleiegaaW.PrintMore
attribute [local go_sem] max2_int min2_int max_two min_two max_three min_three max_four min_four   -- for this text's walks alone
set_option linter.unusedVariables false
set_option linter.unusedSimpArgs false

def errW : Option Int → Value
  | none => .nilIface
  | some c => .iface 0 (.int .i64 c)
theorem errW_none : errW none = .nilIface := rfl
theorem errW_some (c : Int) : errW (some c) = .iface 0 (.int .i64 c) := rfl

theorem info2 : (Try.prog.info? 2).map (fun i => (i.zero, i.size, i.bytes)) = some (some (.int .i64 0), 1, 8) := by kernel_rfl
theorem info4 : (Try.prog.info? 4).map (fun i => (i.zero, i.size, i.bytes)) = some (some (.bool false), 1, 1) := by kernel_rfl
theorem info85 : (Try.prog.info? 85).map (fun i => (i.zero, i.size, i.bytes)) = some (some (.agg #[(.slice none 0 0)]), 1, 24) := by kernel_rfl
theorem info87 : (Try.prog.info? 87).map (fun i => (i.zero, i.size, i.bytes)) = some (some (.agg #[(.int .i64 0), (.int .i64 0), (.int .i64 0), (.int .i64 0), (.int .i64 0), (.int .i64 0), (.string ⟨#[]⟩), (.slice none 0 0)]), 8, 88) := by kernel_rfl
theorem info97 : (Try.prog.info? 97).map (fun i => (i.zero, i.size, i.bytes)) = some (some (.slice none 0 0), 1, 24) := by kernel_rfl
theorem info111 : (Try.prog.info? 111).map (fun i => (i.zero, i.size, i.bytes)) = some (some (.agg #[(.bool false), (.int .i64 0), (.int .i64 0)]), 3, 24) := by kernel_rfl
theorem info113 : (Try.prog.info? 113).map (fun i => (i.zero, i.size, i.bytes)) = some (some (.agg #[(.int .i64 0), (.int .i64 0), (.int .i64 0), (.bool false)]), 4, 32) := by kernel_rfl
-- the values' own types
/-! #### struct type 224 -/
structure S224 where
  f0 : Int
  f1 : Int
  f2 : Int
  f3 : Int
  f4 : Int
  f5 : Int
  f6 : ByteArray
  f7 : (List Int)
def z224 : S224 := ⟨(0 : Int), (0 : Int), (0 : Int), (0 : Int), (0 : Int), (0 : Int), (⟨#[]⟩ : ByteArray), ([] : List Int)⟩
def k224 : Kd S224 := Kd.iso (Kd.pair (Kd.int .i64) (Kd.pair (Kd.int .i64) (Kd.pair (Kd.int .i64) (Kd.pair (Kd.int .i64) (Kd.pair (Kd.int .i64) (Kd.pair (Kd.int .i64) (Kd.pair Kd.string (Kd.slice 2 (Kd.int .i64))))))))) (fun x : S224 => (x.f0, x.f1, x.f2, x.f3, x.f4, x.f5, x.f6, x.f7))
theorem k224_open {w : World} {x : S224} {cs : List Value} (h : k224.K w x cs) : ∃ A7 c7, cs = [.int .i64 x.f0, .int .i64 x.f1, .int .i64 x.f2, .int .i64 x.f3, .int .i64 x.f4, .int .i64 x.f5, .string x.f6, .slice A7 x.f7.length c7] ∧ x.f7.length ≤ c7 ∧ (Kd.int .i64).C w A7 x.f7.length x.f7 := by
  obtain ⟨_, _, rfl, rfl, ⟨_, _, rfl, rfl, ⟨_, _, rfl, rfl, ⟨_, _, rfl, rfl, ⟨_, _, rfl, rfl, ⟨_, _, rfl, rfl, ⟨_, _, rfl, rfl, ⟨A7, c7, rfl, l7, g7⟩⟩⟩⟩⟩⟩⟩⟩ := h
  exact ⟨A7, c7, rfl, l7, g7⟩
def rd_T224 (xs : List S224) (i : Int) : S224 := xs.getD i.toNat z224
theorem at_T224 {w : World} {A : Option Addr} {n : Nat} {xs : List S224} (h : Kd.C k224 w A n xs) (i : Int) (h0 : 0 ≤ i) (h1 : i < n) : ∃ ad A7 c7, A = some ad ∧ w.cell? (ad.add (i.toNat * 8)) = some (.int .i64 (rd_T224 xs i).f0) ∧ w.cell? ⟨(ad.add (i.toNat * 8)).block, (ad.add (i.toNat * 8)).off + 1, none⟩ = some (.int .i64 (rd_T224 xs i).f1) ∧ w.cell? ⟨(ad.add (i.toNat * 8)).block, (ad.add (i.toNat * 8)).off + 2, none⟩ = some (.int .i64 (rd_T224 xs i).f2) ∧ w.cell? ⟨(ad.add (i.toNat * 8)).block, (ad.add (i.toNat * 8)).off + 3, none⟩ = some (.int .i64 (rd_T224 xs i).f3) ∧ w.cell? ⟨(ad.add (i.toNat * 8)).block, (ad.add (i.toNat * 8)).off + 4, none⟩ = some (.int .i64 (rd_T224 xs i).f4) ∧ w.cell? ⟨(ad.add (i.toNat * 8)).block, (ad.add (i.toNat * 8)).off + 5, none⟩ = some (.int .i64 (rd_T224 xs i).f5) ∧ w.cell? ⟨(ad.add (i.toNat * 8)).block, (ad.add (i.toNat * 8)).off + 6, none⟩ = some (.string (rd_T224 xs i).f6) ∧ w.cell? ⟨(ad.add (i.toNat * 8)).block, (ad.add (i.toNat * 8)).off + 7, none⟩ = some (.slice A7 (rd_T224 xs i).f7.length c7) ∧ (rd_T224 xs i).f7.length ≤ c7 ∧ (Kd.int .i64).C w A7 (rd_T224 xs i).f7.length (rd_T224 xs i).f7 := by
  obtain ⟨ad, c, e, _, hK, hc0⟩ := Kd.C_get h z224 i h0 h1
  have hc : ∀ j u, c[j]? = some u → w.cell? (ad.add (i.toNat * 8 + j)) = some u := hc0
  obtain ⟨A7, c7, rfl, l7, g7⟩ := k224_open hK
  exact ⟨ad, A7, c7, e, hc 0 _ rfl, by rw [← add_field _ _ 1 (by omega)]; exact hc 1 _ rfl, by rw [← add_field _ _ 2 (by omega)]; exact hc 2 _ rfl, by rw [← add_field _ _ 3 (by omega)]; exact hc 3 _ rfl, by rw [← add_field _ _ 4 (by omega)]; exact hc 4 _ rfl, by rw [← add_field _ _ 5 (by omega)]; exact hc 5 _ rfl, by rw [← add_field _ _ 6 (by omega)]; exact hc 6 _ rfl, by rw [← add_field _ _ 7 (by omega)]; exact hc 7 _ rfl, l7, g7⟩

/-! #### struct type 165 -/
structure S165 where
  f0 : (List S224)
def z165 : S165 := ⟨([] : List S224)⟩
def k165 : Kd S165 := Kd.iso (Kd.slice 224 k224) (fun x : S165 => x.f0)
theorem k165_open {w : World} {x : S165} {cs : List Value} (h : k165.K w x cs) : ∃ A0 c0, cs = [.slice A0 x.f0.length c0] ∧ x.f0.length ≤ c0 ∧ k224.C w A0 x.f0.length x.f0 := by
  obtain ⟨A0, c0, rfl, l0, g0⟩ := h
  exact ⟨A0, c0, rfl, l0, g0⟩
def rd_T165 (xs : List S165) (i : Int) : S165 := xs.getD i.toNat z165
theorem at_T165 {w : World} {A : Option Addr} {n : Nat} {xs : List S165} (h : Kd.C k165 w A n xs) (i : Int) (h0 : 0 ≤ i) (h1 : i < n) : ∃ ad A0 c0, A = some ad ∧ w.cell? (ad.add i.toNat) = some (.slice A0 (rd_T165 xs i).f0.length c0) ∧ (rd_T165 xs i).f0.length ≤ c0 ∧ k224.C w A0 (rd_T165 xs i).f0.length (rd_T165 xs i).f0 := by
  obtain ⟨ad, c, e, _, hK, hc0⟩ := Kd.C_get h z165 i h0 h1
  have hc : ∀ j u, c[j]? = some u → w.cell? (ad.add (i.toNat * 1 + j)) = some u := hc0
  obtain ⟨A0, c0, rfl, l0, g0⟩ := k165_open hK
  exact ⟨ad, A0, c0, e, by have hq := hc 0 _ rfl; rwa [Nat.mul_one, Nat.add_zero] at hq, l0, g0⟩

/-! #### struct type 87 -/
structure S87 where
  f0 : Int
  f1 : Int
  f2 : Int
  f3 : Int
  f4 : Int
  f5 : Int
  f6 : ByteArray
  f7 : (List Int)
def z87 : S87 := ⟨(0 : Int), (0 : Int), (0 : Int), (0 : Int), (0 : Int), (0 : Int), (⟨#[]⟩ : ByteArray), ([] : List Int)⟩
def k87 : Kd S87 := Kd.iso (Kd.pair (Kd.int .i64) (Kd.pair (Kd.int .i64) (Kd.pair (Kd.int .i64) (Kd.pair (Kd.int .i64) (Kd.pair (Kd.int .i64) (Kd.pair (Kd.int .i64) (Kd.pair Kd.string (Kd.slice 2 (Kd.int .i64))))))))) (fun x : S87 => (x.f0, x.f1, x.f2, x.f3, x.f4, x.f5, x.f6, x.f7))
theorem k87_open {w : World} {x : S87} {cs : List Value} (h : k87.K w x cs) : ∃ A7 c7, cs = [.int .i64 x.f0, .int .i64 x.f1, .int .i64 x.f2, .int .i64 x.f3, .int .i64 x.f4, .int .i64 x.f5, .string x.f6, .slice A7 x.f7.length c7] ∧ x.f7.length ≤ c7 ∧ (Kd.int .i64).C w A7 x.f7.length x.f7 := by
  obtain ⟨_, _, rfl, rfl, ⟨_, _, rfl, rfl, ⟨_, _, rfl, rfl, ⟨_, _, rfl, rfl, ⟨_, _, rfl, rfl, ⟨_, _, rfl, rfl, ⟨_, _, rfl, rfl, ⟨A7, c7, rfl, l7, g7⟩⟩⟩⟩⟩⟩⟩⟩ := h
  exact ⟨A7, c7, rfl, l7, g7⟩
theorem k87_openM {w : World} {base : Nat} {ok : Nat → Prop} {x : S87} {cs : List Value} (h : k87.M w base ok x cs) : ∃ v7, cs = [.int .i64 x.f0, .int .i64 x.f1, .int .i64 x.f2, .int .i64 x.f3, .int .i64 x.f4, .int .i64 x.f5, .string x.f6, v7] ∧ (Kd.int .i64).R 2 w base ok v7 x.f7 := by
  obtain ⟨_, _, rfl, rfl, ⟨_, _, rfl, rfl, ⟨_, _, rfl, rfl, ⟨_, _, rfl, rfl, ⟨_, _, rfl, rfl, ⟨_, _, rfl, rfl, ⟨_, _, rfl, rfl, ⟨v7, rfl, g7⟩⟩⟩⟩⟩⟩⟩⟩ := h
  exact ⟨v7, rfl, g7⟩
theorem k87_mkM (w : World) (base : Nat) (ok : Nat → Prop) (x : S87) {v7 : Value} (g7 : (Kd.int .i64).R 2 w base ok v7 x.f7) : k87.M w base ok x [.int .i64 x.f0, .int .i64 x.f1, .int .i64 x.f2, .int .i64 x.f3, .int .i64 x.f4, .int .i64 x.f5, .string x.f6, v7] := ⟨[.int .i64 x.f0], [.int .i64 x.f1, .int .i64 x.f2, .int .i64 x.f3, .int .i64 x.f4, .int .i64 x.f5, .string x.f6, v7], rfl, rfl, ⟨[.int .i64 x.f1], [.int .i64 x.f2, .int .i64 x.f3, .int .i64 x.f4, .int .i64 x.f5, .string x.f6, v7], rfl, rfl, ⟨[.int .i64 x.f2], [.int .i64 x.f3, .int .i64 x.f4, .int .i64 x.f5, .string x.f6, v7], rfl, rfl, ⟨[.int .i64 x.f3], [.int .i64 x.f4, .int .i64 x.f5, .string x.f6, v7], rfl, rfl, ⟨[.int .i64 x.f4], [.int .i64 x.f5, .string x.f6, v7], rfl, rfl, ⟨[.int .i64 x.f5], [.string x.f6, v7], rfl, rfl, ⟨[.string x.f6], [v7], rfl, rfl, ⟨v7, rfl, g7⟩⟩⟩⟩⟩⟩⟩⟩
def rd_T87 (xs : List S87) (i : Int) : S87 := xs.getD i.toNat z87
theorem at_T87 {w : World} {A : Option Addr} {n : Nat} {xs : List S87} (h : Kd.C k87 w A n xs) (i : Int) (h0 : 0 ≤ i) (h1 : i < n) : ∃ ad A7 c7, A = some ad ∧ w.cell? (ad.add (i.toNat * 8)) = some (.int .i64 (rd_T87 xs i).f0) ∧ w.cell? ⟨(ad.add (i.toNat * 8)).block, (ad.add (i.toNat * 8)).off + 1, none⟩ = some (.int .i64 (rd_T87 xs i).f1) ∧ w.cell? ⟨(ad.add (i.toNat * 8)).block, (ad.add (i.toNat * 8)).off + 2, none⟩ = some (.int .i64 (rd_T87 xs i).f2) ∧ w.cell? ⟨(ad.add (i.toNat * 8)).block, (ad.add (i.toNat * 8)).off + 3, none⟩ = some (.int .i64 (rd_T87 xs i).f3) ∧ w.cell? ⟨(ad.add (i.toNat * 8)).block, (ad.add (i.toNat * 8)).off + 4, none⟩ = some (.int .i64 (rd_T87 xs i).f4) ∧ w.cell? ⟨(ad.add (i.toNat * 8)).block, (ad.add (i.toNat * 8)).off + 5, none⟩ = some (.int .i64 (rd_T87 xs i).f5) ∧ w.cell? ⟨(ad.add (i.toNat * 8)).block, (ad.add (i.toNat * 8)).off + 6, none⟩ = some (.string (rd_T87 xs i).f6) ∧ w.cell? ⟨(ad.add (i.toNat * 8)).block, (ad.add (i.toNat * 8)).off + 7, none⟩ = some (.slice A7 (rd_T87 xs i).f7.length c7) ∧ (rd_T87 xs i).f7.length ≤ c7 ∧ (Kd.int .i64).C w A7 (rd_T87 xs i).f7.length (rd_T87 xs i).f7 := by
  obtain ⟨ad, c, e, _, hK, hc0⟩ := Kd.C_get h z87 i h0 h1
  have hc : ∀ j u, c[j]? = some u → w.cell? (ad.add (i.toNat * 8 + j)) = some u := hc0
  obtain ⟨A7, c7, rfl, l7, g7⟩ := k87_open hK
  exact ⟨ad, A7, c7, e, hc 0 _ rfl, by rw [← add_field _ _ 1 (by omega)]; exact hc 1 _ rfl, by rw [← add_field _ _ 2 (by omega)]; exact hc 2 _ rfl, by rw [← add_field _ _ 3 (by omega)]; exact hc 3 _ rfl, by rw [← add_field _ _ 4 (by omega)]; exact hc 4 _ rfl, by rw [← add_field _ _ 5 (by omega)]; exact hc 5 _ rfl, by rw [← add_field _ _ 6 (by omega)]; exact hc 6 _ rfl, by rw [← add_field _ _ 7 (by omega)]; exact hc 7 _ rfl, l7, g7⟩

/-! #### struct type 85 -/
structure S85 where
  f0 : (List S87)
def z85 : S85 := ⟨([] : List S87)⟩
def k85 : Kd S85 := Kd.iso (Kd.slice 87 k87) (fun x : S85 => x.f0)
theorem k85_open {w : World} {x : S85} {cs : List Value} (h : k85.K w x cs) : ∃ A0 c0, cs = [.slice A0 x.f0.length c0] ∧ x.f0.length ≤ c0 ∧ k87.C w A0 x.f0.length x.f0 := by
  obtain ⟨A0, c0, rfl, l0, g0⟩ := h
  exact ⟨A0, c0, rfl, l0, g0⟩
theorem k85_openM {w : World} {base : Nat} {ok : Nat → Prop} {x : S85} {cs : List Value} (h : k85.M w base ok x cs) : ∃ v0, cs = [v0] ∧ k87.R 87 w base ok v0 x.f0 := by
  obtain ⟨v0, rfl, g0⟩ := h
  exact ⟨v0, rfl, g0⟩
theorem k85_mkM (w : World) (base : Nat) (ok : Nat → Prop) (x : S85) {v0 : Value} (g0 : k87.R 87 w base ok v0 x.f0) : k85.M w base ok x [v0] := ⟨v0, rfl, g0⟩
def rd_T85 (xs : List S85) (i : Int) : S85 := xs.getD i.toNat z85
theorem at_T85 {w : World} {A : Option Addr} {n : Nat} {xs : List S85} (h : Kd.C k85 w A n xs) (i : Int) (h0 : 0 ≤ i) (h1 : i < n) : ∃ ad A0 c0, A = some ad ∧ w.cell? (ad.add i.toNat) = some (.slice A0 (rd_T85 xs i).f0.length c0) ∧ (rd_T85 xs i).f0.length ≤ c0 ∧ k87.C w A0 (rd_T85 xs i).f0.length (rd_T85 xs i).f0 := by
  obtain ⟨ad, c, e, _, hK, hc0⟩ := Kd.C_get h z85 i h0 h1
  have hc : ∀ j u, c[j]? = some u → w.cell? (ad.add (i.toNat * 1 + j)) = some u := hc0
  obtain ⟨A0, c0, rfl, l0, g0⟩ := k85_open hK
  exact ⟨ad, A0, c0, e, by have hq := hc 0 _ rfl; rwa [Nat.mul_one, Nat.add_zero] at hq, l0, g0⟩

def rd_L12 (xs : List (List Bool)) (i : Int) : (List Bool) := xs.getD i.toNat ([] : List Bool)
theorem at_L12 {w : World} {A : Option Addr} {n : Nat} {xs : List (List Bool)} (h : Kd.C (Kd.slice 4 Kd.bool) w A n xs) (i : Int) (h0 : 0 ≤ i) (h1 : i < n) : ∃ ad A0 c0, A = some ad ∧ w.cell? (ad.add i.toNat) = some (.slice A0 (rd_L12 xs i).length c0) ∧ (rd_L12 xs i).length ≤ c0 ∧ Kd.bool.C w A0 (rd_L12 xs i).length (rd_L12 xs i) := by
  obtain ⟨ad, c, e, _, hK, hc0⟩ := Kd.C_get h ([] : List Bool) i h0 h1
  have hc : ∀ j u, c[j]? = some u → w.cell? (ad.add (i.toNat * 1 + j)) = some u := hc0
  obtain ⟨A0, c0, rfl, l0, g0⟩ := hK
  exact ⟨ad, A0, c0, e, by have hq := hc 0 _ rfl; rwa [Nat.mul_one, Nat.add_zero] at hq, l0, g0⟩

/-! #### struct type 111 -/
structure S111 where
  f0 : Bool
  f1 : Int
  f2 : Int
def z111 : S111 := ⟨false, (0 : Int), (0 : Int)⟩
def k111 : Kd S111 := Kd.iso (Kd.pair Kd.bool (Kd.pair (Kd.int .i64) (Kd.int .i64))) (fun x : S111 => (x.f0, x.f1, x.f2))
theorem k111_openM {w : World} {base : Nat} {ok : Nat → Prop} {x : S111} {cs : List Value} (h : k111.M w base ok x cs) : cs = [.bool x.f0, .int .i64 x.f1, .int .i64 x.f2] := by
  obtain ⟨_, _, rfl, rfl, ⟨_, _, rfl, rfl, rfl⟩⟩ := h
  exact rfl
theorem k111_mkM (w : World) (base : Nat) (ok : Nat → Prop) (x : S111)  : k111.M w base ok x [.bool x.f0, .int .i64 x.f1, .int .i64 x.f2] := ⟨[.bool x.f0], [.int .i64 x.f1, .int .i64 x.f2], rfl, rfl, ⟨[.int .i64 x.f1], [.int .i64 x.f2], rfl, rfl, rfl⟩⟩
def rd_T111 (xs : List S111) (i : Int) : S111 := xs.getD i.toNat z111
/-! #### struct type 113 -/
structure S113 where
  f0 : Int
  f1 : Int
  f2 : Int
  f3 : Bool
def z113 : S113 := ⟨(0 : Int), (0 : Int), (0 : Int), false⟩
def k113 : Kd S113 := Kd.iso (Kd.pair (Kd.int .i64) (Kd.pair (Kd.int .i64) (Kd.pair (Kd.int .i64) Kd.bool))) (fun x : S113 => (x.f0, x.f1, x.f2, x.f3))
theorem k113_open {w : World} {x : S113} {cs : List Value} (h : k113.K w x cs) : cs = [.int .i64 x.f0, .int .i64 x.f1, .int .i64 x.f2, .bool x.f3] := by
  obtain ⟨_, _, rfl, rfl, ⟨_, _, rfl, rfl, ⟨_, _, rfl, rfl, rfl⟩⟩⟩ := h
  exact rfl
theorem k113_openM {w : World} {base : Nat} {ok : Nat → Prop} {x : S113} {cs : List Value} (h : k113.M w base ok x cs) : cs = [.int .i64 x.f0, .int .i64 x.f1, .int .i64 x.f2, .bool x.f3] := by
  obtain ⟨_, _, rfl, rfl, ⟨_, _, rfl, rfl, ⟨_, _, rfl, rfl, rfl⟩⟩⟩ := h
  exact rfl
theorem k113_mkM (w : World) (base : Nat) (ok : Nat → Prop) (x : S113)  : k113.M w base ok x [.int .i64 x.f0, .int .i64 x.f1, .int .i64 x.f2, .bool x.f3] := ⟨[.int .i64 x.f0], [.int .i64 x.f1, .int .i64 x.f2, .bool x.f3], rfl, rfl, ⟨[.int .i64 x.f1], [.int .i64 x.f2, .bool x.f3], rfl, rfl, ⟨[.int .i64 x.f2], [.bool x.f3], rfl, rfl, rfl⟩⟩⟩
def rd_T113 (xs : List S113) (i : Int) : S113 := xs.getD i.toNat z113
theorem at_T113 {w : World} {A : Option Addr} {n : Nat} {xs : List S113} (h : Kd.C k113 w A n xs) (i : Int) (h0 : 0 ≤ i) (h1 : i < n) : ∃ ad , A = some ad ∧ w.cell? (ad.add (i.toNat * 4)) = some (.int .i64 (rd_T113 xs i).f0) ∧ w.cell? ⟨(ad.add (i.toNat * 4)).block, (ad.add (i.toNat * 4)).off + 1, none⟩ = some (.int .i64 (rd_T113 xs i).f1) ∧ w.cell? ⟨(ad.add (i.toNat * 4)).block, (ad.add (i.toNat * 4)).off + 2, none⟩ = some (.int .i64 (rd_T113 xs i).f2) ∧ w.cell? ⟨(ad.add (i.toNat * 4)).block, (ad.add (i.toNat * 4)).off + 3, none⟩ = some (.bool (rd_T113 xs i).f3) := by
  obtain ⟨ad, c, e, _, hK, hc0⟩ := Kd.C_get h z113 i h0 h1
  have hc : ∀ j u, c[j]? = some u → w.cell? (ad.add (i.toNat * 4 + j)) = some u := hc0
  obtain rfl := k113_open hK
  exact ⟨ad, e, hc 0 _ rfl, by rw [← add_field _ _ 1 (by omega)]; exact hc 1 _ rfl, by rw [← add_field _ _ 2 (by omega)]; exact hc 2 _ rfl, by rw [← add_field _ _ 3 (by omega)]; exact hc 3 _ rfl⟩

/-! #### struct type 237 -/
structure S237 where
  f0 : Int
  f1 : Int
  f2 : ByteArray
/-! #### struct type 191 -/
structure S191 where
  f0 : ByteArray
  f1 : Int
  f2 : Int
  f3 : Int
  f4 : (List Int)
  f5 : Int
  f6 : (List Int)
  f7 : (List S237)
/-! #### struct type 63 -/
structure S63 where
  f0 : (List S191)
/-! #### struct type 132 -/
structure S132 where
  f0 : Int
  f1 : Int
  f2 : ByteArray
/-! #### struct type 130 -/
structure S130 where
  f0 : ByteArray
  f1 : Int
  f2 : Int
  f3 : Int
  f4 : (List Int)
  f5 : Int
  f6 : (List Int)
  f7 : (List S132)
/-! #### struct type 68 -/
structure S68 where
  f0 : (List S130)
/-! #### struct type 125 -/
structure S125 where
  f0 : Int
  f1 : Int
set_option linter.unusedVariables false
set_option linter.unusedSimpArgs false

def laws_szInt64S.f (l0 : List Int) (a1 : Int) : Option (Int) := if (wrap64 (a1 - (l0.length : Int))) < 0 then (some (-1)) else (some (wrap64 (a1 - (l0.length : Int))))
set_option maxHeartbeats 8000000 in
set_option maxRecDepth 100000 in
theorem laws_szInt64S.calls (A0 : Option Addr) (c0 : Nat) (l0 : List Int) (a1 : Int) (r : Int) (w : World) (hr0 : Kd.C (Kd.int .i64) w A0 l0.length l0) (hc0 : l0.length ≤ c0) (h : laws_szInt64S.f l0 a1 = some r) :
 Calls Try.prog 57 #[.slice A0 l0.length c0, .int .i64 a1] w fun e w' => e = .returned (.int .i64 r) ∧ Drawn0 w w' := by
 have HR0 := Aside0.mk hr0
 have HC0 := Aside0.mk hc0
 clear hr0 hc0
 have H : (if (wrap64 (a1 - (l0.length : Int))) < 0 then (some (-1)) else (some (wrap64 (a1 - (l0.length : Int))))) = some r := h
 clear h
 by_cases c3 : (wrap64 (a1 - (l0.length : Int))) < 0
 · rw [if_pos c3] at H
   have c3b0 : decide ((wrap64 (a1 - (l0.length : Int))) < 0) = true := decide_eq_true c3
   clear c3
   obtain rfl := Option.some.inj H
   go_enter Try.func57, Try.ntmps57
   go_wp2
   go_ret
   exact ⟨by first | rfl | (simp; done) | (simp [*]; done), by repeat (first | exact Drawn0.refl _ | apply Drawn0.step)⟩
 · rw [if_neg c3] at H
   have c3b0 : decide ((wrap64 (a1 - (l0.length : Int))) < 0) = false := decide_eq_false c3
   clear c3
   obtain rfl := Option.some.inj H
   go_enter Try.func57, Try.ntmps57
   go_wp2
   go_ret
   exact ⟨by first | rfl | (simp; done) | (simp [*]; done), by repeat (first | exact Drawn0.refl _ | apply Drawn0.step)⟩

set_option linter.unusedVariables false
set_option linter.unusedSimpArgs false

def laws_szVIns.f (a0_0 : Int) (a0_1 : Int) (a0_2 : Int) (a0_3 : Int) (a0_4 : Int) (a0_5 : Int) (a0_6 : ByteArray) (l0_7 : List Int) (a1 : Int) : Option (Int) := if (wrap64 (a1 - (a0_6.size : Int))) < 0 then (some (-1)) else ((laws_szInt64S.f l0_7 (wrap64 (a1 - (a0_6.size : Int)))).bind fun t102 => (if t102 < 0 then (some (-1)) else (some t102)))
set_option maxHeartbeats 8000000 in
set_option maxRecDepth 100000 in
theorem laws_szVIns.calls (a0_0 : Int) (a0_1 : Int) (a0_2 : Int) (a0_3 : Int) (a0_4 : Int) (a0_5 : Int) (a0_6 : ByteArray) (A0_7 : Option Addr) (c0_7 : Nat) (l0_7 : List Int) (a1 : Int) (r : Int) (w : World) (hr0_7 : Kd.C (Kd.int .i64) w A0_7 l0_7.length l0_7) (hc0_7 : l0_7.length ≤ c0_7) (h : laws_szVIns.f a0_0 a0_1 a0_2 a0_3 a0_4 a0_5 a0_6 l0_7 a1 = some r) :
 Calls Try.prog 187 #[.agg #[.int .i64 a0_0, .int .i64 a0_1, .int .i64 a0_2, .int .i64 a0_3, .int .i64 a0_4, .int .i64 a0_5, .string a0_6, .slice A0_7 l0_7.length c0_7], .int .i64 a1] w fun e w' => e = .returned (.int .i64 r) ∧ Below w.heap.size w w' := by
 have hu224 := Try.underlying224
 have HR0_7 := Aside0.mk hr0_7
 have HC0_7 := Aside0.mk hc0_7
 clear hr0_7 hc0_7
 have HB := Aside0.mk (Below.refl w.heap.size w)
 have H : (if (wrap64 (a1 - (a0_6.size : Int))) < 0 then (some (-1)) else ((laws_szInt64S.f l0_7 (wrap64 (a1 - (a0_6.size : Int)))).bind fun t102 => (if t102 < 0 then (some (-1)) else (some t102)))) = some r := h
 clear h
 by_cases c3 : (wrap64 (a1 - (a0_6.size : Int))) < 0
 · rw [if_pos c3] at H
   have c3b0 : decide ((wrap64 (a1 - (a0_6.size : Int))) < 0) = true := decide_eq_true c3
   clear c3
   obtain rfl := Option.some.inj H
   go_enter Try.func187, Try.ntmps187
   go_wp2_with (first | ((with_reducible refine gate_dst (N := 2) rfl ?_); refine box_event ?hg (N := 2) ?hd (cs := #[.int .i64 a0_0, .int .i64 a0_1, .int .i64 a0_2, .int .i64 a0_3, .int .i64 a0_4, .int .i64 a0_5, .string a0_6, .slice A0_7 l0_7.length c0_7]) (t := 224) ?hr ?_; (case hd => rfl); (case hg => rfl); (case hr => first | (go_simp; done) | (go_simp; rfl)); intro gb101 hg w4 hbox hb; have BK101 := Aside0.mk (hbox); have GW101 := Aside0.mk ((by rw [hg]; exact (below_size bz) : w.heap.size ≤ gb101)); have GE101 := Aside0.mk ((by rw [hg]; exact (below_size bz) : w.heap.size ≤ gb101)); replace HB := Aside0.mk (below_step bz hb); clear hb hbox hg; have hcz5_0 : w4.cell? ⟨gb101, 0, none⟩ = some (.int .i64 a0_0) := (blk_cell BK101.out 0).trans rfl; have hcz5_1 : w4.cell? ⟨gb101, 1, none⟩ = some (.int .i64 a0_1) := (blk_cell BK101.out 1).trans rfl; have hcz5_2 : w4.cell? ⟨gb101, 2, none⟩ = some (.int .i64 a0_2) := (blk_cell BK101.out 2).trans rfl; have hcz5_3 : w4.cell? ⟨gb101, 3, none⟩ = some (.int .i64 a0_3) := (blk_cell BK101.out 3).trans rfl; have hcz5_4 : w4.cell? ⟨gb101, 4, none⟩ = some (.int .i64 a0_4) := (blk_cell BK101.out 4).trans rfl; have hcz5_5 : w4.cell? ⟨gb101, 5, none⟩ = some (.int .i64 a0_5) := (blk_cell BK101.out 5).trans rfl; have hcz5_6 : w4.cell? ⟨gb101, 6, none⟩ = some (.string a0_6) := (blk_cell BK101.out 6).trans rfl; have hcz5_7 : w4.cell? ⟨gb101, 7, none⟩ = some (.slice A0_7 l0_7.length c0_7) := (blk_cell BK101.out 7).trans rfl; have hfz5_0 := blk_frozen BK101.out 0; have hfz5_1 := blk_frozen BK101.out 1; have hfz5_2 := blk_frozen BK101.out 2; have hfz5_3 := blk_frozen BK101.out 3; have hfz5_4 := blk_frozen BK101.out 4; have hfz5_5 := blk_frozen BK101.out 5; have hfz5_6 := blk_frozen BK101.out 6; have hfz5_7 := blk_frozen BK101.out 7))
   go_ret
   exact ⟨by first | rfl | (simp [errW_none, errW_some] <;> rfl) | (simp [*, errW_none, errW_some] <;> rfl), bz⟩
 · rw [if_neg c3] at H
   have c3b0 : decide ((wrap64 (a1 - (a0_6.size : Int))) < 0) = false := decide_eq_false c3
   clear c3
   replace H := Option.bind_eq_some_iff.mp H
   obtain ⟨t102, A60, H⟩ := H
   replace H : (if t102 < 0 then (some (-1)) else (some t102)) = some r := H
   have A6 := Aside0.mk A60
   clear A60
   by_cases c7 : t102 < 0
   · rw [if_pos c7] at H
     have c7b0 : decide (t102 < 0) = true := decide_eq_true c7
     clear c7
     obtain rfl := Option.some.inj H
     go_enter Try.func187, Try.ntmps187
     go_wp2_with (first | ((with_reducible refine gate_dst (N := 2) rfl ?_); refine box_event ?hg (N := 2) ?hd (cs := #[.int .i64 a0_0, .int .i64 a0_1, .int .i64 a0_2, .int .i64 a0_3, .int .i64 a0_4, .int .i64 a0_5, .string a0_6, .slice A0_7 l0_7.length c0_7]) (t := 224) ?hr ?_; (case hd => rfl); (case hg => rfl); (case hr => first | (go_simp; done) | (go_simp; rfl)); intro gb101 hg w8 hbox hb; have BK101 := Aside0.mk (hbox); have GW101 := Aside0.mk ((by rw [hg]; exact (below_size bz) : w.heap.size ≤ gb101)); have GE101 := Aside0.mk ((by rw [hg]; exact (below_size bz) : w.heap.size ≤ gb101)); replace HB := Aside0.mk (below_step bz hb); clear hb hbox hg; have hcz9_0 : w8.cell? ⟨gb101, 0, none⟩ = some (.int .i64 a0_0) := (blk_cell BK101.out 0).trans rfl; have hcz9_1 : w8.cell? ⟨gb101, 1, none⟩ = some (.int .i64 a0_1) := (blk_cell BK101.out 1).trans rfl; have hcz9_2 : w8.cell? ⟨gb101, 2, none⟩ = some (.int .i64 a0_2) := (blk_cell BK101.out 2).trans rfl; have hcz9_3 : w8.cell? ⟨gb101, 3, none⟩ = some (.int .i64 a0_3) := (blk_cell BK101.out 3).trans rfl; have hcz9_4 : w8.cell? ⟨gb101, 4, none⟩ = some (.int .i64 a0_4) := (blk_cell BK101.out 4).trans rfl; have hcz9_5 : w8.cell? ⟨gb101, 5, none⟩ = some (.int .i64 a0_5) := (blk_cell BK101.out 5).trans rfl; have hcz9_6 : w8.cell? ⟨gb101, 6, none⟩ = some (.string a0_6) := (blk_cell BK101.out 6).trans rfl; have hcz9_7 : w8.cell? ⟨gb101, 7, none⟩ = some (.slice A0_7 l0_7.length c0_7) := (blk_cell BK101.out 7).trans rfl; have hfz9_0 := blk_frozen BK101.out 0; have hfz9_1 := blk_frozen BK101.out 1; have hfz9_2 := blk_frozen BK101.out 2; have hfz9_3 := blk_frozen BK101.out 3; have hfz9_4 := blk_frozen BK101.out 4; have hfz9_5 := blk_frozen BK101.out 5; have hfz9_6 := blk_frozen BK101.out 6; have hfz9_7 := blk_frozen BK101.out 7) | ((with_reducible refine gate_callee (f := 57) rfl ?_); refine goesL_ (some 15) rfl rfl Try.func57 (by kernel_rfl) rfl #[.slice A0_7 l0_7.length c0_7, .int .i64 (wrap64 (a1 - (a0_6.size : Int)))] rfl lz ?_; (with_reducible refine (laws_szInt64S.calls _ _ l0_7 (wrap64 (a1 - (a0_6.size : Int))) t102 _ ?side1 ?side2 A6.out).mono ?_); (case side1 => exact cz HR0_7.out); (case side2 => exact HC0_7.out); rintro e w' ⟨rfl, ⟨nd, rfl⟩⟩; refine ⟨_, rfl, ?_⟩))
     go_ret
     exact ⟨by first | rfl | (simp [errW_none, errW_some] <;> rfl) | (simp [*, errW_none, errW_some] <;> rfl), bz⟩
   · rw [if_neg c7] at H
     have c7b0 : decide (t102 < 0) = false := decide_eq_false c7
     clear c7
     obtain rfl := Option.some.inj H
     go_enter Try.func187, Try.ntmps187
     go_wp2_with (first | ((with_reducible refine gate_dst (N := 2) rfl ?_); refine box_event ?hg (N := 2) ?hd (cs := #[.int .i64 a0_0, .int .i64 a0_1, .int .i64 a0_2, .int .i64 a0_3, .int .i64 a0_4, .int .i64 a0_5, .string a0_6, .slice A0_7 l0_7.length c0_7]) (t := 224) ?hr ?_; (case hd => rfl); (case hg => rfl); (case hr => first | (go_simp; done) | (go_simp; rfl)); intro gb101 hg w10 hbox hb; have BK101 := Aside0.mk (hbox); have GW101 := Aside0.mk ((by rw [hg]; exact (below_size bz) : w.heap.size ≤ gb101)); have GE101 := Aside0.mk ((by rw [hg]; exact (below_size bz) : w.heap.size ≤ gb101)); replace HB := Aside0.mk (below_step bz hb); clear hb hbox hg; have hcz11_0 : w10.cell? ⟨gb101, 0, none⟩ = some (.int .i64 a0_0) := (blk_cell BK101.out 0).trans rfl; have hcz11_1 : w10.cell? ⟨gb101, 1, none⟩ = some (.int .i64 a0_1) := (blk_cell BK101.out 1).trans rfl; have hcz11_2 : w10.cell? ⟨gb101, 2, none⟩ = some (.int .i64 a0_2) := (blk_cell BK101.out 2).trans rfl; have hcz11_3 : w10.cell? ⟨gb101, 3, none⟩ = some (.int .i64 a0_3) := (blk_cell BK101.out 3).trans rfl; have hcz11_4 : w10.cell? ⟨gb101, 4, none⟩ = some (.int .i64 a0_4) := (blk_cell BK101.out 4).trans rfl; have hcz11_5 : w10.cell? ⟨gb101, 5, none⟩ = some (.int .i64 a0_5) := (blk_cell BK101.out 5).trans rfl; have hcz11_6 : w10.cell? ⟨gb101, 6, none⟩ = some (.string a0_6) := (blk_cell BK101.out 6).trans rfl; have hcz11_7 : w10.cell? ⟨gb101, 7, none⟩ = some (.slice A0_7 l0_7.length c0_7) := (blk_cell BK101.out 7).trans rfl; have hfz11_0 := blk_frozen BK101.out 0; have hfz11_1 := blk_frozen BK101.out 1; have hfz11_2 := blk_frozen BK101.out 2; have hfz11_3 := blk_frozen BK101.out 3; have hfz11_4 := blk_frozen BK101.out 4; have hfz11_5 := blk_frozen BK101.out 5; have hfz11_6 := blk_frozen BK101.out 6; have hfz11_7 := blk_frozen BK101.out 7) | ((with_reducible refine gate_callee (f := 57) rfl ?_); refine goesL_ (some 15) rfl rfl Try.func57 (by kernel_rfl) rfl #[.slice A0_7 l0_7.length c0_7, .int .i64 (wrap64 (a1 - (a0_6.size : Int)))] rfl lz ?_; (with_reducible refine (laws_szInt64S.calls _ _ l0_7 (wrap64 (a1 - (a0_6.size : Int))) t102 _ ?side1 ?side2 A6.out).mono ?_); (case side1 => exact cz HR0_7.out); (case side2 => exact HC0_7.out); rintro e w' ⟨rfl, ⟨nd, rfl⟩⟩; refine ⟨_, rfl, ?_⟩))
     go_ret
     exact ⟨by first | rfl | (simp [errW_none, errW_some] <;> rfl) | (simp [*, errW_none, errW_some] <;> rfl), bz⟩

set_option linter.unusedVariables false
set_option linter.unusedSimpArgs false

def laws_szVInsS.l0 : Nat → List (S224) → Int → Int → Option (Int)
 | 0, _, _, _ => none
 | k + 1, x0, x1, x5 => if x5 < (x0.length : Int) then (if 0 ≤ x5 then ((laws_szVIns.f ((rd_T224 x0 x5).f0) ((rd_T224 x0 x5).f1) ((rd_T224 x0 x5).f2) ((rd_T224 x0 x5).f3) ((rd_T224 x0 x5).f4) ((rd_T224 x0 x5).f5) ((rd_T224 x0 x5).f6) ((rd_T224 x0 x5).f7) x1).bind fun t104 => (if t104 < 0 then (some (-1)) else (laws_szVInsS.l0 k x0 t104 (wrap64 (x5 + 1))))) else (none)) else (some x1)
def laws_szVInsS.f (k : Nat) (l0 : List (S224)) (a1 : Int) : Option (Int) := if (wrap64 (a1 - (l0.length : Int))) < 0 then (some (-1)) else (laws_szVInsS.l0 k l0 (wrap64 (a1 - (l0.length : Int))) 0)
set_option maxHeartbeats 8000000 in
set_option maxRecDepth 100000 in
theorem laws_szVInsS.calls (k : Nat) (A0 : Option Addr) (c0 : Nat) (l0 : List (S224)) (a1 : Int) (r : Int) (w : World) (hr0 : Kd.C k224 w A0 l0.length l0) (hc0 : l0.length ≤ c0) (h : laws_szVInsS.f k l0 a1 = some r) :
 Calls Try.prog 153 #[.slice A0 l0.length c0, .int .i64 a1] w fun e w' => e = .returned (.int .i64 r) ∧ Below w.heap.size w w' := by
 have hu224 := Try.underlying224
 have HR0 := Aside0.mk hr0
 have HC0 := Aside0.mk hc0
 clear hr0 hc0
 have HB := Aside0.mk (Below.refl w.heap.size w)
 have H : (if (wrap64 (a1 - (l0.length : Int))) < 0 then (some (-1)) else (laws_szVInsS.l0 k l0 (wrap64 (a1 - (l0.length : Int))) 0)) = some r := h
 clear h
 by_cases c3 : (wrap64 (a1 - (l0.length : Int))) < 0
 · rw [if_pos c3] at H
   have c3b0 : decide ((wrap64 (a1 - (l0.length : Int))) < 0) = true := decide_eq_true c3
   clear c3
   obtain rfl := Option.some.inj H
   go_enter Try.func153, Try.ntmps153
   go_wp2
   go_ret
   exact ⟨by first | rfl | (simp [errW_none, errW_some] <;> rfl) | (simp [*, errW_none, errW_some] <;> rfl), bz⟩
 · rw [if_neg c3] at H
   have c3b0 : decide ((wrap64 (a1 - (l0.length : Int))) < 0) = false := decide_eq_false c3
   clear c3
   have H' := Aside0.mk H
   clear H
   go_enter Try.func153, Try.ntmps153
   go_wp2
   go_loopg [1, 5] k (fun kq v1 v5 w' => ∃ (x1_1 : Int) (x5_1 : Int), v1 = .int .i64 x1_1 ∧ v5 = .int .i64 x5_1 ∧ Aside0 (laws_szVInsS.l0 kq l0 x1_1 x5_1 = some r) ∧ Aside0 (kq ≤ k) ∧ Aside0 (Below w.heap.size w w'))
   case atStart => exact ⟨(wrap64 (a1 - (l0.length : Int))), (0), sz_, sz_, H', ⟨Nat.le_refl _⟩, ⟨ bz⟩⟩
   case round =>
    clear H'
    obtain ⟨x1_1, x5_1, rfl, rfl, HA, HK1, HB⟩ := hrel
    cases gk with
    | zero => exact absurd HA.out (by simp [laws_szVInsS.l0])
    | succ k1 =>
     have H := HA.out
     clear HA
     simp only [laws_szVInsS.l0] at H
     by_cases c4 : x5_1 < (l0.length : Int)
     · rw [if_pos c4] at H
       have c4b0 : decide (x5_1 < (l0.length : Int)) = true := decide_eq_true c4
       clear c4
       by_cases c5 : 0 ≤ x5_1
       · rw [if_pos c5] at H
         have c5b0 : decide (0 ≤ x5_1) = true := decide_eq_true c5
         clear c5
         replace H := Option.bind_eq_some_iff.mp H
         obtain ⟨t104, A60, H⟩ := H
         replace H : (if t104 < 0 then (some (-1)) else (laws_szVInsS.l0 k1 l0 t104 (wrap64 (x5_1 + 1)))) = some r := H
         have A6 := Aside0.mk A60
         clear A60
         by_cases c7 : t104 < 0
         · rw [if_pos c7] at H
           have c7b0 : decide (t104 < 0) = true := decide_eq_true c7
           clear c7
           obtain rfl := Option.some.inj H
           have p103 : 0 ≤ (x5_1 : Int) := of_decide_eq_true az
           have q103 : x5_1 < (l0.length : Int) := of_decide_eq_true az
           obtain ⟨ad103, A103_7, c103_7, e103, hx103_0, hx103_1, hx103_2, hx103_3, hx103_4, hx103_5, hx103_6, hx103_7, hl103_7, hi103_7⟩ := at_T224 HR0.out x5_1 p103 q103
           cases e103
           replace hx103_0 := ck HB hx103_0
           replace hx103_1 := ck HB hx103_1
           replace hx103_2 := ck HB hx103_2
           replace hx103_3 := ck HB hx103_3
           replace hx103_4 := ck HB hx103_4
           replace hx103_5 := ck HB hx103_5
           replace hx103_6 := ck HB hx103_6
           replace hx103_7 := ck HB hx103_7
           have HR103_7 := Aside0.mk hi103_7
           have HC103_7 := Aside0.mk hl103_7
           clear hi103_7 hl103_7
           replace p103 := eq_true p103
           replace q103 := eq_true q103
           go_wp2_with (first | ((with_reducible refine gate_callee (f := 187) rfl ?_); refine goesL_ (some 23) rfl rfl Try.func187 (by kernel_rfl) rfl #[.agg #[.int .i64 ((rd_T224 l0 x5_1).f0), .int .i64 ((rd_T224 l0 x5_1).f1), .int .i64 ((rd_T224 l0 x5_1).f2), .int .i64 ((rd_T224 l0 x5_1).f3), .int .i64 ((rd_T224 l0 x5_1).f4), .int .i64 ((rd_T224 l0 x5_1).f5), .string ((rd_T224 l0 x5_1).f6), .slice A103_7 ((rd_T224 l0 x5_1).f7).length c103_7], .int .i64 x1_1] rfl lz ?_; (with_reducible refine (laws_szVIns.calls ((rd_T224 l0 x5_1).f0) ((rd_T224 l0 x5_1).f1) ((rd_T224 l0 x5_1).f2) ((rd_T224 l0 x5_1).f3) ((rd_T224 l0 x5_1).f4) ((rd_T224 l0 x5_1).f5) ((rd_T224 l0 x5_1).f6) _ _ ((rd_T224 l0 x5_1).f7) x1_1 t104 _ ?side1 ?side2 A6.out).mono ?_); (case side1 => exact cz HR103_7.out); (case side2 => exact HC103_7.out); rintro e w8 ⟨rfl, hb⟩; refine ⟨_, rfl, ?_⟩; replace HB := Aside0.mk (below_step bz hb)))
           go_ret
           exact ⟨by first | rfl | (simp [errW_none, errW_some] <;> rfl) | (simp [*, errW_none, errW_some] <;> rfl), bz⟩
         · rw [if_neg c7] at H
           have c7b0 : decide (t104 < 0) = false := decide_eq_false c7
           clear c7
           have H' := Aside0.mk H
           clear H
           have p103 : 0 ≤ (x5_1 : Int) := of_decide_eq_true az
           have q103 : x5_1 < (l0.length : Int) := of_decide_eq_true az
           obtain ⟨ad103, A103_7, c103_7, e103, hx103_0, hx103_1, hx103_2, hx103_3, hx103_4, hx103_5, hx103_6, hx103_7, hl103_7, hi103_7⟩ := at_T224 HR0.out x5_1 p103 q103
           cases e103
           replace hx103_0 := ck HB hx103_0
           replace hx103_1 := ck HB hx103_1
           replace hx103_2 := ck HB hx103_2
           replace hx103_3 := ck HB hx103_3
           replace hx103_4 := ck HB hx103_4
           replace hx103_5 := ck HB hx103_5
           replace hx103_6 := ck HB hx103_6
           replace hx103_7 := ck HB hx103_7
           have HR103_7 := Aside0.mk hi103_7
           have HC103_7 := Aside0.mk hl103_7
           clear hi103_7 hl103_7
           replace p103 := eq_true p103
           replace q103 := eq_true q103
           go_wp2_with (first | ((with_reducible refine gate_callee (f := 187) rfl ?_); refine goesL_ (some 23) rfl rfl Try.func187 (by kernel_rfl) rfl #[.agg #[.int .i64 ((rd_T224 l0 x5_1).f0), .int .i64 ((rd_T224 l0 x5_1).f1), .int .i64 ((rd_T224 l0 x5_1).f2), .int .i64 ((rd_T224 l0 x5_1).f3), .int .i64 ((rd_T224 l0 x5_1).f4), .int .i64 ((rd_T224 l0 x5_1).f5), .string ((rd_T224 l0 x5_1).f6), .slice A103_7 ((rd_T224 l0 x5_1).f7).length c103_7], .int .i64 x1_1] rfl lz ?_; (with_reducible refine (laws_szVIns.calls ((rd_T224 l0 x5_1).f0) ((rd_T224 l0 x5_1).f1) ((rd_T224 l0 x5_1).f2) ((rd_T224 l0 x5_1).f3) ((rd_T224 l0 x5_1).f4) ((rd_T224 l0 x5_1).f5) ((rd_T224 l0 x5_1).f6) _ _ ((rd_T224 l0 x5_1).f7) x1_1 t104 _ ?side1 ?side2 A6.out).mono ?_); (case side1 => exact cz HR103_7.out); (case side2 => exact HC103_7.out); rintro e w9 ⟨rfl, hb⟩; refine ⟨_, rfl, ?_⟩; replace HB := Aside0.mk (below_step bz hb)))
           go_roundg k1
           case measure => have := HK1.out; omega
           case rel => exact ⟨(t104), (wrap64 (x5_1 + 1)), sz_, sz_, H', ⟨by have := HK1.out; omega⟩, ⟨ bz⟩⟩
       · rw [if_neg c5] at H
         exact absurd H (by simp)
     · rw [if_neg c4] at H
       have c4b0 : decide (x5_1 < (l0.length : Int)) = false := decide_eq_false c4
       clear c4
       obtain rfl := Option.some.inj H
       go_wp2
       go_ret
       exact ⟨by first | rfl | (simp [errW_none, errW_some] <;> rfl) | (simp [*, errW_none, errW_some] <;> rfl), bz⟩

set_option linter.unusedVariables false
set_option linter.unusedSimpArgs false

def laws_szVBlock.f (k : Nat) (l0_0 : List (S224)) (a1 : Int) : Option (Int) := (laws_szVInsS.f k l0_0 a1).bind fun t106 => (if t106 < 0 then (some (-1)) else (some t106))
set_option maxHeartbeats 8000000 in
set_option maxRecDepth 100000 in
theorem laws_szVBlock.calls (k : Nat) (A0_0 : Option Addr) (c0_0 : Nat) (l0_0 : List (S224)) (a1 : Int) (r : Int) (w : World) (hr0_0 : Kd.C k224 w A0_0 l0_0.length l0_0) (hc0_0 : l0_0.length ≤ c0_0) (h : laws_szVBlock.f k l0_0 a1 = some r) :
 Calls Try.prog 114 #[.agg #[.slice A0_0 l0_0.length c0_0], .int .i64 a1] w fun e w' => e = .returned (.int .i64 r) ∧ Below w.heap.size w w' := by
 have hu165 := Try.underlying165
 have HR0_0 := Aside0.mk hr0_0
 have HC0_0 := Aside0.mk hc0_0
 clear hr0_0 hc0_0
 have HB := Aside0.mk (Below.refl w.heap.size w)
 have H : ((laws_szVInsS.f k l0_0 a1).bind fun t106 => (if t106 < 0 then (some (-1)) else (some t106))) = some r := h
 clear h
 replace H := Option.bind_eq_some_iff.mp H
 obtain ⟨t106, A30, H⟩ := H
 replace H : (if t106 < 0 then (some (-1)) else (some t106)) = some r := H
 have A3 := Aside0.mk A30
 clear A30
 by_cases c4 : t106 < 0
 · rw [if_pos c4] at H
   have c4b0 : decide (t106 < 0) = true := decide_eq_true c4
   clear c4
   obtain rfl := Option.some.inj H
   go_enter Try.func114, Try.ntmps114
   go_wp2_with (first | ((with_reducible refine gate_dst (N := 2) rfl ?_); refine box_event ?hg (N := 2) ?hd (cs := #[.slice A0_0 l0_0.length c0_0]) (t := 165) ?hr ?_; (case hd => rfl); (case hg => rfl); (case hr => first | (go_simp; done) | (go_simp; rfl)); intro gb105 hg w5 hbox hb; have BK105 := Aside0.mk (hbox); have GW105 := Aside0.mk ((by rw [hg]; exact (below_size bz) : w.heap.size ≤ gb105)); have GE105 := Aside0.mk ((by rw [hg]; exact (below_size bz) : w.heap.size ≤ gb105)); replace HB := Aside0.mk (below_step bz hb); clear hb hbox hg; have hcz6_0 : w5.cell? ⟨gb105, 0, none⟩ = some (.slice A0_0 l0_0.length c0_0) := (blk_cell BK105.out 0).trans rfl; have hfz6_0 := blk_frozen BK105.out 0) | ((with_reducible refine gate_callee (f := 153) rfl ?_); refine goesL_ (some 8) rfl rfl Try.func153 (by kernel_rfl) rfl #[.slice A0_0 l0_0.length c0_0, .int .i64 a1] rfl lz ?_; (with_reducible refine (laws_szVInsS.calls k _ _ l0_0 a1 t106 _ ?side1 ?side2 A3.out).mono ?_); (case side1 => exact cz HR0_0.out); (case side2 => exact HC0_0.out); rintro e w7 ⟨rfl, hb⟩; refine ⟨_, rfl, ?_⟩; replace BK105 := Aside0.mk (blk_below (g := gb105) (o := .cells #[.slice A0_0 l0_0.length c0_0] 165 (0, 0)) kz hb); replace HB := Aside0.mk (below_step bz hb)))
   go_ret
   exact ⟨by first | rfl | (simp [errW_none, errW_some] <;> rfl) | (simp [*, errW_none, errW_some] <;> rfl), bz⟩
 · rw [if_neg c4] at H
   have c4b0 : decide (t106 < 0) = false := decide_eq_false c4
   clear c4
   obtain rfl := Option.some.inj H
   go_enter Try.func114, Try.ntmps114
   go_wp2_with (first | ((with_reducible refine gate_dst (N := 2) rfl ?_); refine box_event ?hg (N := 2) ?hd (cs := #[.slice A0_0 l0_0.length c0_0]) (t := 165) ?hr ?_; (case hd => rfl); (case hg => rfl); (case hr => first | (go_simp; done) | (go_simp; rfl)); intro gb105 hg w8 hbox hb; have BK105 := Aside0.mk (hbox); have GW105 := Aside0.mk ((by rw [hg]; exact (below_size bz) : w.heap.size ≤ gb105)); have GE105 := Aside0.mk ((by rw [hg]; exact (below_size bz) : w.heap.size ≤ gb105)); replace HB := Aside0.mk (below_step bz hb); clear hb hbox hg; have hcz9_0 : w8.cell? ⟨gb105, 0, none⟩ = some (.slice A0_0 l0_0.length c0_0) := (blk_cell BK105.out 0).trans rfl; have hfz9_0 := blk_frozen BK105.out 0) | ((with_reducible refine gate_callee (f := 153) rfl ?_); refine goesL_ (some 8) rfl rfl Try.func153 (by kernel_rfl) rfl #[.slice A0_0 l0_0.length c0_0, .int .i64 a1] rfl lz ?_; (with_reducible refine (laws_szVInsS.calls k _ _ l0_0 a1 t106 _ ?side1 ?side2 A3.out).mono ?_); (case side1 => exact cz HR0_0.out); (case side2 => exact HC0_0.out); rintro e w10 ⟨rfl, hb⟩; refine ⟨_, rfl, ?_⟩; replace BK105 := Aside0.mk (blk_below (g := gb105) (o := .cells #[.slice A0_0 l0_0.length c0_0] 165 (0, 0)) kz hb); replace HB := Aside0.mk (below_step bz hb)))
   go_ret
   exact ⟨by first | rfl | (simp [errW_none, errW_some] <;> rfl) | (simp [*, errW_none, errW_some] <;> rfl), bz⟩

set_option linter.unusedVariables false
set_option linter.unusedSimpArgs false

def laws_szVBlockS.l0 : Nat → List (S165) → Int → Int → Option (Int)
 | 0, _, _, _ => none
 | k + 1, x0, x1, x5 => if x5 < (x0.length : Int) then (if 0 ≤ x5 then ((laws_szVBlock.f k ((rd_T165 x0 x5).f0) x1).bind fun t108 => (if t108 < 0 then (some (-1)) else (laws_szVBlockS.l0 k x0 t108 (wrap64 (x5 + 1))))) else (none)) else (some x1)
def laws_szVBlockS.f (k : Nat) (l0 : List (S165)) (a1 : Int) : Option (Int) := if (wrap64 (a1 - (l0.length : Int))) < 0 then (some (-1)) else (laws_szVBlockS.l0 k l0 (wrap64 (a1 - (l0.length : Int))) 0)
set_option maxHeartbeats 8000000 in
set_option maxRecDepth 100000 in
theorem laws_szVBlockS.calls (k : Nat) (A0 : Option Addr) (c0 : Nat) (l0 : List (S165)) (a1 : Int) (r : Int) (w : World) (hr0 : Kd.C k165 w A0 l0.length l0) (hc0 : l0.length ≤ c0) (h : laws_szVBlockS.f k l0 a1 = some r) :
 Calls Try.prog 58 #[.slice A0 l0.length c0, .int .i64 a1] w fun e w' => e = .returned (.int .i64 r) ∧ Below w.heap.size w w' := by
 have hu165 := Try.underlying165
 have HR0 := Aside0.mk hr0
 have HC0 := Aside0.mk hc0
 clear hr0 hc0
 have HB := Aside0.mk (Below.refl w.heap.size w)
 have H : (if (wrap64 (a1 - (l0.length : Int))) < 0 then (some (-1)) else (laws_szVBlockS.l0 k l0 (wrap64 (a1 - (l0.length : Int))) 0)) = some r := h
 clear h
 by_cases c3 : (wrap64 (a1 - (l0.length : Int))) < 0
 · rw [if_pos c3] at H
   have c3b0 : decide ((wrap64 (a1 - (l0.length : Int))) < 0) = true := decide_eq_true c3
   clear c3
   obtain rfl := Option.some.inj H
   go_enter Try.func58, Try.ntmps58
   go_wp2
   go_ret
   exact ⟨by first | rfl | (simp [errW_none, errW_some] <;> rfl) | (simp [*, errW_none, errW_some] <;> rfl), bz⟩
 · rw [if_neg c3] at H
   have c3b0 : decide ((wrap64 (a1 - (l0.length : Int))) < 0) = false := decide_eq_false c3
   clear c3
   have H' := Aside0.mk H
   clear H
   go_enter Try.func58, Try.ntmps58
   go_wp2
   go_loopg [1, 5] k (fun kq v1 v5 w' => ∃ (x1_1 : Int) (x5_1 : Int), v1 = .int .i64 x1_1 ∧ v5 = .int .i64 x5_1 ∧ Aside0 (laws_szVBlockS.l0 kq l0 x1_1 x5_1 = some r) ∧ Aside0 (kq ≤ k) ∧ Aside0 (Below w.heap.size w w'))
   case atStart => exact ⟨(wrap64 (a1 - (l0.length : Int))), (0), sz_, sz_, H', ⟨Nat.le_refl _⟩, ⟨ bz⟩⟩
   case round =>
    clear H'
    obtain ⟨x1_1, x5_1, rfl, rfl, HA, HK1, HB⟩ := hrel
    cases gk with
    | zero => exact absurd HA.out (by simp [laws_szVBlockS.l0])
    | succ k1 =>
     have H := HA.out
     clear HA
     simp only [laws_szVBlockS.l0] at H
     by_cases c4 : x5_1 < (l0.length : Int)
     · rw [if_pos c4] at H
       have c4b0 : decide (x5_1 < (l0.length : Int)) = true := decide_eq_true c4
       clear c4
       by_cases c5 : 0 ≤ x5_1
       · rw [if_pos c5] at H
         have c5b0 : decide (0 ≤ x5_1) = true := decide_eq_true c5
         clear c5
         replace H := Option.bind_eq_some_iff.mp H
         obtain ⟨t108, A60, H⟩ := H
         replace H : (if t108 < 0 then (some (-1)) else (laws_szVBlockS.l0 k1 l0 t108 (wrap64 (x5_1 + 1)))) = some r := H
         have A6 := Aside0.mk A60
         clear A60
         by_cases c7 : t108 < 0
         · rw [if_pos c7] at H
           have c7b0 : decide (t108 < 0) = true := decide_eq_true c7
           clear c7
           obtain rfl := Option.some.inj H
           have p107 : 0 ≤ (x5_1 : Int) := of_decide_eq_true az
           have q107 : x5_1 < (l0.length : Int) := of_decide_eq_true az
           obtain ⟨ad107, A107_0, c107_0, e107, hx107_0, hl107_0, hi107_0⟩ := at_T165 HR0.out x5_1 p107 q107
           cases e107
           replace hx107_0 := ck HB hx107_0
           have HR107_0 := Aside0.mk hi107_0
           have HC107_0 := Aside0.mk hl107_0
           clear hi107_0 hl107_0
           replace p107 := eq_true p107
           replace q107 := eq_true q107
           go_wp2_with (first | ((with_reducible refine gate_callee (f := 114) rfl ?_); refine goesL_ (some 23) rfl rfl Try.func114 (by kernel_rfl) rfl #[.agg #[.slice A107_0 ((rd_T165 l0 x5_1).f0).length c107_0], .int .i64 x1_1] rfl lz ?_; (with_reducible refine (laws_szVBlock.calls k1 _ _ ((rd_T165 l0 x5_1).f0) x1_1 t108 _ ?side1 ?side2 A6.out).mono ?_); (case side1 => exact cz HR107_0.out); (case side2 => exact HC107_0.out); rintro e w8 ⟨rfl, hb⟩; refine ⟨_, rfl, ?_⟩; replace HB := Aside0.mk (below_step bz hb)))
           go_ret
           exact ⟨by first | rfl | (simp [errW_none, errW_some] <;> rfl) | (simp [*, errW_none, errW_some] <;> rfl), bz⟩
         · rw [if_neg c7] at H
           have c7b0 : decide (t108 < 0) = false := decide_eq_false c7
           clear c7
           have H' := Aside0.mk H
           clear H
           have p107 : 0 ≤ (x5_1 : Int) := of_decide_eq_true az
           have q107 : x5_1 < (l0.length : Int) := of_decide_eq_true az
           obtain ⟨ad107, A107_0, c107_0, e107, hx107_0, hl107_0, hi107_0⟩ := at_T165 HR0.out x5_1 p107 q107
           cases e107
           replace hx107_0 := ck HB hx107_0
           have HR107_0 := Aside0.mk hi107_0
           have HC107_0 := Aside0.mk hl107_0
           clear hi107_0 hl107_0
           replace p107 := eq_true p107
           replace q107 := eq_true q107
           go_wp2_with (first | ((with_reducible refine gate_callee (f := 114) rfl ?_); refine goesL_ (some 23) rfl rfl Try.func114 (by kernel_rfl) rfl #[.agg #[.slice A107_0 ((rd_T165 l0 x5_1).f0).length c107_0], .int .i64 x1_1] rfl lz ?_; (with_reducible refine (laws_szVBlock.calls k1 _ _ ((rd_T165 l0 x5_1).f0) x1_1 t108 _ ?side1 ?side2 A6.out).mono ?_); (case side1 => exact cz HR107_0.out); (case side2 => exact HC107_0.out); rintro e w9 ⟨rfl, hb⟩; refine ⟨_, rfl, ?_⟩; replace HB := Aside0.mk (below_step bz hb)))
           go_roundg k1
           case measure => have := HK1.out; omega
           case rel => exact ⟨(t108), (wrap64 (x5_1 + 1)), sz_, sz_, H', ⟨by have := HK1.out; omega⟩, ⟨ bz⟩⟩
       · rw [if_neg c5] at H
         exact absurd H (by simp)
     · rw [if_neg c4] at H
       have c4b0 : decide (x5_1 < (l0.length : Int)) = false := decide_eq_false c4
       clear c4
       obtain rfl := Option.some.inj H
       go_wp2
       go_ret
       exact ⟨by first | rfl | (simp [errW_none, errW_some] <;> rfl) | (simp [*, errW_none, errW_some] <;> rfl), bz⟩

set_option linter.unusedVariables false
set_option linter.unusedSimpArgs false

def laws_szVFunc.f (k : Nat) (a0_0 : Int) (l0_1 : List Int) (l0_2 : List (S165)) (a1 : Int) : Option (Int) := (laws_szInt64S.f l0_1 a1).bind fun t110 => (if t110 < 0 then (some (-1)) else ((laws_szVBlockS.f k l0_2 t110).bind fun t111 => (if t111 < 0 then (some (-1)) else (some t111))))
set_option maxHeartbeats 8000000 in
set_option maxRecDepth 100000 in
theorem laws_szVFunc.calls (k : Nat) (a0_0 : Int) (A0_1 : Option Addr) (c0_1 : Nat) (l0_1 : List Int) (A0_2 : Option Addr) (c0_2 : Nat) (l0_2 : List (S165)) (a1 : Int) (r : Int) (w : World) (hr0_1 : Kd.C (Kd.int .i64) w A0_1 l0_1.length l0_1) (hc0_1 : l0_1.length ≤ c0_1) (hr0_2 : Kd.C k165 w A0_2 l0_2.length l0_2) (hc0_2 : l0_2.length ≤ c0_2) (h : laws_szVFunc.f k a0_0 l0_1 l0_2 a1 = some r) :
 Calls Try.prog 11 #[.agg #[.int .i64 a0_0, .slice A0_1 l0_1.length c0_1, .slice A0_2 l0_2.length c0_2], .int .i64 a1] w fun e w' => e = .returned (.int .i64 r) ∧ Below w.heap.size w w' := by
 have hu25 := Try.underlying25
 have HR0_1 := Aside0.mk hr0_1
 have HC0_1 := Aside0.mk hc0_1
 clear hr0_1 hc0_1
 have HR0_2 := Aside0.mk hr0_2
 have HC0_2 := Aside0.mk hc0_2
 clear hr0_2 hc0_2
 have HB := Aside0.mk (Below.refl w.heap.size w)
 have H : ((laws_szInt64S.f l0_1 a1).bind fun t110 => (if t110 < 0 then (some (-1)) else ((laws_szVBlockS.f k l0_2 t110).bind fun t111 => (if t111 < 0 then (some (-1)) else (some t111))))) = some r := h
 clear h
 replace H := Option.bind_eq_some_iff.mp H
 obtain ⟨t110, A30, H⟩ := H
 replace H : (if t110 < 0 then (some (-1)) else ((laws_szVBlockS.f k l0_2 t110).bind fun t111 => (if t111 < 0 then (some (-1)) else (some t111)))) = some r := H
 have A3 := Aside0.mk A30
 clear A30
 by_cases c4 : t110 < 0
 · rw [if_pos c4] at H
   have c4b0 : decide (t110 < 0) = true := decide_eq_true c4
   clear c4
   obtain rfl := Option.some.inj H
   go_enter Try.func11, Try.ntmps11
   go_wp2_with (first | ((with_reducible refine gate_dst (N := 2) rfl ?_); refine box_event ?hg (N := 2) ?hd (cs := #[.int .i64 a0_0, .slice A0_1 l0_1.length c0_1, .slice A0_2 l0_2.length c0_2]) (t := 25) ?hr ?_; (case hd => rfl); (case hg => rfl); (case hr => first | (go_simp; done) | (go_simp; rfl)); intro gb109 hg w5 hbox hb; have BK109 := Aside0.mk (hbox); have GW109 := Aside0.mk ((by rw [hg]; exact (below_size bz) : w.heap.size ≤ gb109)); have GE109 := Aside0.mk ((by rw [hg]; exact (below_size bz) : w.heap.size ≤ gb109)); replace HB := Aside0.mk (below_step bz hb); clear hb hbox hg; have hcz6_0 : w5.cell? ⟨gb109, 0, none⟩ = some (.int .i64 a0_0) := (blk_cell BK109.out 0).trans rfl; have hcz6_1 : w5.cell? ⟨gb109, 1, none⟩ = some (.slice A0_1 l0_1.length c0_1) := (blk_cell BK109.out 1).trans rfl; have hcz6_2 : w5.cell? ⟨gb109, 2, none⟩ = some (.slice A0_2 l0_2.length c0_2) := (blk_cell BK109.out 2).trans rfl; have hfz6_0 := blk_frozen BK109.out 0; have hfz6_1 := blk_frozen BK109.out 1; have hfz6_2 := blk_frozen BK109.out 2) | ((with_reducible refine gate_callee (f := 57) rfl ?_); refine goesL_ (some 8) rfl rfl Try.func57 (by kernel_rfl) rfl #[.slice A0_1 l0_1.length c0_1, .int .i64 a1] rfl lz ?_; (with_reducible refine (laws_szInt64S.calls _ _ l0_1 a1 t110 _ ?side1 ?side2 A3.out).mono ?_); (case side1 => exact cz HR0_1.out); (case side2 => exact HC0_1.out); rintro e w' ⟨rfl, ⟨nd, rfl⟩⟩; refine ⟨_, rfl, ?_⟩))
   go_ret
   exact ⟨by first | rfl | (simp [errW_none, errW_some] <;> rfl) | (simp [*, errW_none, errW_some] <;> rfl), bz⟩
 · rw [if_neg c4] at H
   have c4b0 : decide (t110 < 0) = false := decide_eq_false c4
   clear c4
   replace H := Option.bind_eq_some_iff.mp H
   obtain ⟨t111, A70, H⟩ := H
   replace H : (if t111 < 0 then (some (-1)) else (some t111)) = some r := H
   have A7 := Aside0.mk A70
   clear A70
   by_cases c8 : t111 < 0
   · rw [if_pos c8] at H
     have c8b0 : decide (t111 < 0) = true := decide_eq_true c8
     clear c8
     obtain rfl := Option.some.inj H
     go_enter Try.func11, Try.ntmps11
     go_wp2_with (first | ((with_reducible refine gate_dst (N := 2) rfl ?_); refine box_event ?hg (N := 2) ?hd (cs := #[.int .i64 a0_0, .slice A0_1 l0_1.length c0_1, .slice A0_2 l0_2.length c0_2]) (t := 25) ?hr ?_; (case hd => rfl); (case hg => rfl); (case hr => first | (go_simp; done) | (go_simp; rfl)); intro gb109 hg w9 hbox hb; have BK109 := Aside0.mk (hbox); have GW109 := Aside0.mk ((by rw [hg]; exact (below_size bz) : w.heap.size ≤ gb109)); have GE109 := Aside0.mk ((by rw [hg]; exact (below_size bz) : w.heap.size ≤ gb109)); replace HB := Aside0.mk (below_step bz hb); clear hb hbox hg; have hcz10_0 : w9.cell? ⟨gb109, 0, none⟩ = some (.int .i64 a0_0) := (blk_cell BK109.out 0).trans rfl; have hcz10_1 : w9.cell? ⟨gb109, 1, none⟩ = some (.slice A0_1 l0_1.length c0_1) := (blk_cell BK109.out 1).trans rfl; have hcz10_2 : w9.cell? ⟨gb109, 2, none⟩ = some (.slice A0_2 l0_2.length c0_2) := (blk_cell BK109.out 2).trans rfl; have hfz10_0 := blk_frozen BK109.out 0; have hfz10_1 := blk_frozen BK109.out 1; have hfz10_2 := blk_frozen BK109.out 2) | ((with_reducible refine gate_callee (f := 57) rfl ?_); refine goesL_ (some 8) rfl rfl Try.func57 (by kernel_rfl) rfl #[.slice A0_1 l0_1.length c0_1, .int .i64 a1] rfl lz ?_; (with_reducible refine (laws_szInt64S.calls _ _ l0_1 a1 t110 _ ?side1 ?side2 A3.out).mono ?_); (case side1 => exact cz HR0_1.out); (case side2 => exact HC0_1.out); rintro e w' ⟨rfl, ⟨nd, rfl⟩⟩; refine ⟨_, rfl, ?_⟩) | ((with_reducible refine gate_callee (f := 58) rfl ?_); refine goesL_ (some 14) rfl rfl Try.func58 (by kernel_rfl) rfl #[.slice A0_2 l0_2.length c0_2, .int .i64 t110] rfl lz ?_; (with_reducible refine (laws_szVBlockS.calls k _ _ l0_2 t110 t111 _ ?side1 ?side2 A7.out).mono ?_); (case side1 => exact cz HR0_2.out); (case side2 => exact HC0_2.out); rintro e w11 ⟨rfl, hb⟩; refine ⟨_, rfl, ?_⟩; replace BK109 := Aside0.mk (blk_below (g := gb109) (o := .cells #[.int .i64 a0_0, .slice A0_1 l0_1.length c0_1, .slice A0_2 l0_2.length c0_2] 25 (0, 0)) kz hb); replace HB := Aside0.mk (below_step bz hb)))
     go_ret
     exact ⟨by first | rfl | (simp [errW_none, errW_some] <;> rfl) | (simp [*, errW_none, errW_some] <;> rfl), bz⟩
   · rw [if_neg c8] at H
     have c8b0 : decide (t111 < 0) = false := decide_eq_false c8
     clear c8
     obtain rfl := Option.some.inj H
     go_enter Try.func11, Try.ntmps11
     go_wp2_with (first | ((with_reducible refine gate_dst (N := 2) rfl ?_); refine box_event ?hg (N := 2) ?hd (cs := #[.int .i64 a0_0, .slice A0_1 l0_1.length c0_1, .slice A0_2 l0_2.length c0_2]) (t := 25) ?hr ?_; (case hd => rfl); (case hg => rfl); (case hr => first | (go_simp; done) | (go_simp; rfl)); intro gb109 hg w12 hbox hb; have BK109 := Aside0.mk (hbox); have GW109 := Aside0.mk ((by rw [hg]; exact (below_size bz) : w.heap.size ≤ gb109)); have GE109 := Aside0.mk ((by rw [hg]; exact (below_size bz) : w.heap.size ≤ gb109)); replace HB := Aside0.mk (below_step bz hb); clear hb hbox hg; have hcz13_0 : w12.cell? ⟨gb109, 0, none⟩ = some (.int .i64 a0_0) := (blk_cell BK109.out 0).trans rfl; have hcz13_1 : w12.cell? ⟨gb109, 1, none⟩ = some (.slice A0_1 l0_1.length c0_1) := (blk_cell BK109.out 1).trans rfl; have hcz13_2 : w12.cell? ⟨gb109, 2, none⟩ = some (.slice A0_2 l0_2.length c0_2) := (blk_cell BK109.out 2).trans rfl; have hfz13_0 := blk_frozen BK109.out 0; have hfz13_1 := blk_frozen BK109.out 1; have hfz13_2 := blk_frozen BK109.out 2) | ((with_reducible refine gate_callee (f := 57) rfl ?_); refine goesL_ (some 8) rfl rfl Try.func57 (by kernel_rfl) rfl #[.slice A0_1 l0_1.length c0_1, .int .i64 a1] rfl lz ?_; (with_reducible refine (laws_szInt64S.calls _ _ l0_1 a1 t110 _ ?side1 ?side2 A3.out).mono ?_); (case side1 => exact cz HR0_1.out); (case side2 => exact HC0_1.out); rintro e w' ⟨rfl, ⟨nd, rfl⟩⟩; refine ⟨_, rfl, ?_⟩) | ((with_reducible refine gate_callee (f := 58) rfl ?_); refine goesL_ (some 14) rfl rfl Try.func58 (by kernel_rfl) rfl #[.slice A0_2 l0_2.length c0_2, .int .i64 t110] rfl lz ?_; (with_reducible refine (laws_szVBlockS.calls k _ _ l0_2 t110 t111 _ ?side1 ?side2 A7.out).mono ?_); (case side1 => exact cz HR0_2.out); (case side2 => exact HC0_2.out); rintro e w14 ⟨rfl, hb⟩; refine ⟨_, rfl, ?_⟩; replace BK109 := Aside0.mk (blk_below (g := gb109) (o := .cells #[.int .i64 a0_0, .slice A0_1 l0_1.length c0_1, .slice A0_2 l0_2.length c0_2] 25 (0, 0)) kz hb); replace HB := Aside0.mk (below_step bz hb)))
     go_ret
     exact ⟨by first | rfl | (simp [errW_none, errW_some] <;> rfl) | (simp [*, errW_none, errW_some] <;> rfl), bz⟩

set_option linter.unusedVariables false
set_option linter.unusedSimpArgs false

def laws_toInt64S.l0 : Nat → List Int → List Int → Int → Option (List Int)
 | 0, _, _, _ => none
 | k + 1, x0, x3, x4 => if x4 < (x0.length : Int) then (if 0 ≤ x4 then (if x4 < (x3.length : Int) then (laws_toInt64S.l0 k x0 (x3.set (x4 : Int).toNat (rd x0 x4)) (wrap64 (x4 + 1))) else (none)) else (none)) else (some x3)
def laws_toInt64S.f (k : Nat) (l0 : List Int) : Option (List Int) := if 0 ≤ (l0.length : Int) then (if ((l0.length : Int) : Int).toNat ≤ 35184372088832 then (laws_toInt64S.l0 k l0 (List.replicate ((l0.length : Int) : Int).toNat 0) 0) else (none)) else (none)
set_option maxHeartbeats 8000000 in
set_option maxRecDepth 100000 in
theorem laws_toInt64S.calls (k : Nat) (A0 : Option Addr) (c0 : Nat) (l0 : List Int) (r : List Int) (w : World) (hr0 : Kd.C (Kd.int .i64) w A0 l0.length l0) (hc0 : l0.length ≤ c0) (h : laws_toInt64S.f k l0 = some r) :
 Calls Try.prog 62 #[.slice A0 l0.length c0] w fun e w' => ∃ v0_ : Value, e = .returned (v0_) ∧ Kd.R (Kd.int .i64) 2 w' w.heap.size (fun _ => True) v0_ r ∧ Below w.heap.size w w' := by
 have HR0 := Aside0.mk hr0
 have HC0 := Aside0.mk hc0
 clear hr0 hc0
 have HB := Aside0.mk (Below.refl w.heap.size w)
 have H : (if 0 ≤ (l0.length : Int) then (if ((l0.length : Int) : Int).toNat ≤ 35184372088832 then (laws_toInt64S.l0 k l0 (List.replicate ((l0.length : Int) : Int).toNat 0) 0) else (none)) else (none)) = some r := h
 clear h
 by_cases c2 : 0 ≤ (l0.length : Int)
 · rw [if_pos c2] at H
   have c2b0 := eq_true c2
   have c2b1 : decide (0 ≤ (l0.length : Int)) = true := decide_eq_true c2
   clear c2
   by_cases c3 : ((l0.length : Int) : Int).toNat ≤ 35184372088832
   · rw [if_pos c3] at H
     have c3b0 := eq_true c3
     have c3b1 : decide (((l0.length : Int) : Int).toNat ≤ 35184372088832) = true := decide_eq_true c3
     clear c3
     obtain ⟨y192, hy192⟩ : ∃ y_ : List Int, y_ = (List.replicate ((l0.length : Int) : Int).toNat 0) := ⟨_, rfl⟩
     replace H : (laws_toInt64S.l0 k l0 y192 0) = some r := by first | (rw [hy192]; with_reducible exact H) | (have H2_ := (Option.bind_some _ _).symm.trans H; rw [hy192]; with_reducible exact H2_) | (have H2_ := (Option.bind_some _ _).symm.trans H; with_reducible exact H2_) | with_reducible exact H | (rw [hy192]; exact H) | exact H
     have Ny192 := Aside0.mk hy192
     clear hy192
     have H' := Aside0.mk H
     clear H
     go_enter Try.func62, Try.ntmps62
     go_wp2_with (first | ((with_reducible refine gate_dst (N := 7) rfl ?_); refine Kd.R_make (Kd.int .i64) _ 2 rfl (N := 7) rfl 22 _ _ rfl (l0.length : Int) rfl rfl Try.underlying22 (.int .i64 0) 8 info2 rfl (by decide) (by omega) 0 (ok := fun _ => True) (okp := fun _ => True) rfl (fun _ hk => hk) trivial (of_decide_eq_true az) (Nat.le_trans (Nat.mul_le_mul_right _ (of_decide_eq_true az : (l0.length : Int).toNat ≤ 35184372088832)) (by omega)) (Below.refl _ _) (Nat.le_refl _) ?_; intro v193 w4 ho5 hb hg_ hnew_; clear hg_ hnew_; (first | rw [← Ny192.out] at ho5 | (simp only [Int.reduceToNat] at ho5; rw [← Ny192.out] at ho5)); have HO194 := Aside0.mk (Kd.R_lower ho5 (below_size bz)); replace HB := Aside0.mk (below_step bz hb); clear hb ho5))
     go_loopg [4] k (fun kq v4 w' => ∃ (x3_1 : List Int) (x4_1 : Int), v4 = .int .i64 x4_1 ∧ Aside0 (laws_toInt64S.l0 kq l0 x3_1 x4_1 = some r) ∧ Aside0 (kq ≤ k) ∧ Aside0 (Kd.R (Kd.int .i64) 2 w' w.heap.size (fun _ => True) v193 x3_1) ∧ Aside0 (Below w.heap.size w w'))
     case atStart => exact ⟨(y192), (0), sz_, H', ⟨Nat.le_refl _⟩, ⟨by (with_reducible repeat (first | apply Kd.R_alloc | apply Kd.R_drewN | apply Kd.R_drew)); exact HO194.out⟩, ⟨ bz⟩⟩
     case round =>
      clear H'
      obtain ⟨x3_1, x4_1, rfl, HA, HK1, HO_3, HB⟩ := hrel
      cases gk with
      | zero => exact absurd HA.out (by simp [laws_toInt64S.l0])
      | succ k1 =>
       have H := HA.out
       clear HA
       simp only [laws_toInt64S.l0] at H
       by_cases c6 : x4_1 < (l0.length : Int)
       · rw [if_pos c6] at H
         have c6b0 : decide (x4_1 < (l0.length : Int)) = true := decide_eq_true c6
         clear c6
         by_cases c7 : 0 ≤ x4_1
         · rw [if_pos c7] at H
           have c7b0 : decide (0 ≤ x4_1) = true := decide_eq_true c7
           clear c7
           by_cases c8 : x4_1 < (x3_1.length : Int)
           · rw [if_pos c8] at H
             have c8b0 : decide (x4_1 < (x3_1.length : Int)) = true := decide_eq_true c8
             clear c8
             obtain ⟨y196, hy196⟩ : ∃ y_ : List Int, y_ = (x3_1.set (x4_1 : Int).toNat (rd l0 x4_1)) := ⟨_, rfl⟩
             replace H : (laws_toInt64S.l0 k1 l0 y196 (wrap64 (x4_1 + 1))) = some r := by first | (rw [hy196]; with_reducible exact H) | (have H2_ := (Option.bind_some _ _).symm.trans H; rw [hy196]; with_reducible exact H2_) | (have H2_ := (Option.bind_some _ _).symm.trans H; with_reducible exact H2_) | with_reducible exact H | (rw [hy196]; exact H) | exact H
             have Ny196 := Aside0.mk hy196
             clear hy196
             have H' := Aside0.mk H
             clear H
             have p195 : 0 ≤ (x4_1 : Int) := of_decide_eq_true az
             have q195 : x4_1 < (l0.length : Int) := of_decide_eq_true az
             obtain ⟨ad195, e195, hx195_0⟩ := Kd.at_int HR0.out x4_1 p195 q195
             cases e195
             replace hx195_0 := ck HB hx195_0
             replace p195 := eq_true p195
             replace q195 := eq_true q195
             have p9 : 0 ≤ (x4_1 : Int) := of_decide_eq_true az
             have q9 : (x4_1 : Int) < ((x3_1.length : Int) : Int) := of_decide_eq_true az
             obtain ⟨go9, co9, eo9, gb9, gl9, cl9, HG9⟩ := Kd.R_form HO_3.out (by omega)
             (first | cases eo9 | (injection eo9 with ea_ en_ ec_; (first | subst ea_ | (injection ea_ with ea_; subst ea_)); subst ec_; clear en_))
             have GB9 := Aside0.mk gb9
             have GG9 := Aside0.mk HG9
             clear gb9 gl9 HG9
             obtain ⟨hx9_0, hf9_0⟩ := Kd.R_celln 0 HO_3.out (x4_1 : Int) p9 q9
             replace p9 := eq_true p9
             replace q9 := eq_true q9
             have HP10 := Kd.R_putg HO_3.out (x4_1 : Int) (rd l0 x4_1)
             go_wp2_with (first | ((with_reducible refine gate_store (t := 2) (p := 20) rfl ?_); refine store_event (t := 2) (p := 20) (v := ?vo_w11) (w1 := (wr.setCell ⟨go9, (x4_1 : Int).toNat, none⟩ (.int .i64 (rd l0 x4_1)))) ?hg ?ho ?hn ?hr ?_; (case ho => rfl); (case hg => rfl); (case hn => rfl); (case hr => first | (go_simp; done) | (go_simp; rfl)); intro w11 hw; have hg : wr.grownBy w11 (some go9) := (by rw [hw]; exact HP10.2); have hp_ : Kd.R (Kd.int .i64) 2 w11 w.heap.size (fun _ => True) (.slice (some ⟨go9, 0, none⟩) x3_1.length co9) y196 := (by rw [hw, Ny196.out]; exact HP10.1); clear HP10; replace HO_3 := Aside0.mk (hp_); replace HB := Aside0.mk ((by rw [hw]; exact below_set (HB.out) GB9.out : Below w.heap.size w w11)); clear hg hw hp_))
             go_roundg k1
             case measure => have := HK1.out; omega
             case rel => exact ⟨(y196), (wrap64 (x4_1 + 1)), sz_, H', ⟨by have := HK1.out; omega⟩, ⟨by (with_reducible repeat (first | apply Kd.R_alloc | apply Kd.R_drewN | apply Kd.R_drew)); exact HO_3.out⟩, ⟨ bz⟩⟩
           · rw [if_neg c8] at H
             exact absurd H (by simp)
         · rw [if_neg c7] at H
           exact absurd H (by simp)
       · rw [if_neg c6] at H
         have c6b0 : decide (x4_1 < (l0.length : Int)) = false := decide_eq_false c6
         clear c6
         obtain rfl := Option.some.inj H
         go_wp2
         go_ret
         exact ⟨_, by first | rfl | (simp [errW_none, errW_some] <;> rfl) | (simp [*, errW_none, errW_some] <;> rfl), by (with_reducible repeat (first | apply Kd.R_alloc | apply Kd.R_drewN | apply Kd.R_drew)); exact HO_3.out, bz⟩
   · rw [if_neg c3] at H
     exact absurd H (by simp)
 · rw [if_neg c2] at H
   exact absurd H (by simp)

set_option linter.unusedVariables false
set_option linter.unusedSimpArgs false

def laws_toVIns.f (k : Nat) (a0_0 : Int) (a0_1 : Int) (a0_2 : Int) (a0_3 : Int) (a0_4 : Int) (a0_5 : Int) (a0_6 : ByteArray) (l0_7 : List Int) : Option (Int × Int × Int × Int × Int × Int × ByteArray × List Int) := (laws_toInt64S.f k l0_7).bind fun t200 => (some (a0_0, a0_1, a0_2, a0_3, a0_4, a0_5, a0_6, t200))
set_option maxHeartbeats 8000000 in
set_option maxRecDepth 100000 in
theorem laws_toVIns.calls (k : Nat) (a0_0 : Int) (a0_1 : Int) (a0_2 : Int) (a0_3 : Int) (a0_4 : Int) (a0_5 : Int) (a0_6 : ByteArray) (A0_7 : Option Addr) (c0_7 : Nat) (l0_7 : List Int) (r1 : Int) (r2 : Int) (r3 : Int) (r4 : Int) (r5 : Int) (r6 : Int) (r7 : ByteArray) (r8 : List Int) (w : World) (hr0_7 : Kd.C (Kd.int .i64) w A0_7 l0_7.length l0_7) (hc0_7 : l0_7.length ≤ c0_7) (h : laws_toVIns.f k a0_0 a0_1 a0_2 a0_3 a0_4 a0_5 a0_6 l0_7 = some (r1, r2, r3, r4, r5, r6, r7, r8)) :
 Calls Try.prog 188 #[.agg #[.int .i64 a0_0, .int .i64 a0_1, .int .i64 a0_2, .int .i64 a0_3, .int .i64 a0_4, .int .i64 a0_5, .string a0_6, .slice A0_7 l0_7.length c0_7]] w fun e w' => ∃ v7_ : Value, e = .returned (.agg #[.int .i64 r1, .int .i64 r2, .int .i64 r3, .int .i64 r4, .int .i64 r5, .int .i64 r6, .string r7, v7_]) ∧ Kd.R (Kd.int .i64) 2 w' w.heap.size (fun _ => True) v7_ r8 ∧ Below w.heap.size w w' := by
 have hu224 := Try.underlying224
 have hu87 := Try.underlying87
 have HR0_7 := Aside0.mk hr0_7
 have HC0_7 := Aside0.mk hc0_7
 clear hr0_7 hc0_7
 have HB := Aside0.mk (Below.refl w.heap.size w)
 have H : ((laws_toInt64S.f k l0_7).bind fun t200 => (some (a0_0, a0_1, a0_2, a0_3, a0_4, a0_5, a0_6, t200))) = some (r1, r2, r3, r4, r5, r6, r7, r8) := h
 clear h
 replace H := Option.bind_eq_some_iff.mp H
 obtain ⟨t200, A20, H⟩ := H
 replace H : (some (a0_0, a0_1, a0_2, a0_3, a0_4, a0_5, a0_6, t200)) = some (r1, r2, r3, r4, r5, r6, r7, r8) := H
 have A2 := Aside0.mk A20
 clear A20
 simp only [Option.some.injEq, Prod.mk.injEq] at H
 obtain ⟨rfl, rfl, rfl, rfl, rfl, rfl, rfl, rfl⟩ := H
 go_enter Try.func188, Try.ntmps188
 go_wp2_with (first | ((with_reducible refine gate_dst (N := 1) rfl ?_); refine box_event ?hg (N := 1) ?hd (cs := #[.int .i64 a0_0, .int .i64 a0_1, .int .i64 a0_2, .int .i64 a0_3, .int .i64 a0_4, .int .i64 a0_5, .string a0_6, .slice A0_7 l0_7.length c0_7]) (t := 224) ?hr ?_; (case hd => rfl); (case hg => rfl); (case hr => first | (go_simp; done) | (go_simp; rfl)); intro gb197 hg w3 hbox hb; have n0_ := Aside0.mk (below_step bz hb); have n1_ := Aside0.mk (hbox); have n2_ := Aside0.mk ((by rw [hg]; exact (below_size bz) : w.heap.size ≤ gb197)); have n3_ := Aside0.mk ((by rw [hg]; exact (below_size bz) : w.heap.size ≤ gb197)); clear HB; have HB := n0_; have BK197 := n1_; have GW197 := n2_; have GE197 := n3_; clear n0_ n1_ n2_ n3_; clear hb hbox hg) | ((with_reducible refine gate_dst (N := 2) rfl ?_); refine box_event ?hg (N := 2) ?hd (cs := #[.int .i64 0, .int .i64 0, .int .i64 0, .int .i64 0, .int .i64 0, .int .i64 0, .string (⟨#[]⟩ : ByteArray), .slice none 0 0]) (t := 87) ?hr ?_; (case hd => rfl); (case hg => rfl); (case hr => first | (go_simp; done) | (go_simp; rfl)); intro gb198 hg w4 hbox hb; have n0_ := Aside0.mk (blk_below (g := gb197) (o := .cells #[.int .i64 a0_0, .int .i64 a0_1, .int .i64 a0_2, .int .i64 a0_3, .int .i64 a0_4, .int .i64 a0_5, .string a0_6, .slice A0_7 l0_7.length c0_7] 224 (0, 0)) kz hb); have n1_ := Aside0.mk (below_step bz hb); have n2_ := Aside0.mk (hbox); have n3_ := Aside0.mk ((by rw [hg]; exact (below_size bz) : w.heap.size ≤ gb198)); have n4_ := Aside0.mk ((by rw [hg]; exact (below_size bz) : w.heap.size ≤ gb198)); have n5_ := Aside0.mk ((by rw [hg]; exact Nat.ne_of_lt (blk_lt (g := gb197) (o := .cells #[.int .i64 a0_0, .int .i64 a0_1, .int .i64 a0_2, .int .i64 a0_3, .int .i64 a0_4, .int .i64 a0_5, .string a0_6, .slice A0_7 l0_7.length c0_7] 224 (0, 0)) kz) : gb197 ≠ gb198)); have n6_ := Aside0.mk ((by rw [hg]; exact Nat.ne_of_gt (blk_lt (g := gb197) (o := .cells #[.int .i64 a0_0, .int .i64 a0_1, .int .i64 a0_2, .int .i64 a0_3, .int .i64 a0_4, .int .i64 a0_5, .string a0_6, .slice A0_7 l0_7.length c0_7] 224 (0, 0)) kz) : gb198 ≠ gb197)); clear BK197; clear HB; have BK197 := n0_; have HB := n1_; have BK198 := n2_; have GW198 := n3_; have GE198 := n4_; have NB197_198 := n5_; have NB198_197 := n6_; clear n0_ n1_ n2_ n3_ n4_ n5_ n6_; clear hb hbox hg) | ((with_reducible refine gate_dst (N := 3) rfl ?_); refine box_event ?hg (N := 3) ?hd (cs := #[.int .i64 0, .int .i64 0, .int .i64 0, .int .i64 0, .int .i64 0, .int .i64 0, .string (⟨#[]⟩ : ByteArray), .slice none 0 0]) (t := 87) ?hr ?_; (case hd => rfl); (case hg => rfl); (case hr => first | (go_simp; done) | (go_simp; rfl)); intro gb199 hg w5 hbox hb; have n0_ := Aside0.mk (blk_below (g := gb197) (o := .cells #[.int .i64 a0_0, .int .i64 a0_1, .int .i64 a0_2, .int .i64 a0_3, .int .i64 a0_4, .int .i64 a0_5, .string a0_6, .slice A0_7 l0_7.length c0_7] 224 (0, 0)) kz hb); have n1_ := Aside0.mk (blk_below (g := gb198) (o := .cells #[.int .i64 0, .int .i64 0, .int .i64 0, .int .i64 0, .int .i64 0, .int .i64 0, .string (⟨#[]⟩ : ByteArray), .slice none 0 0] 87 (0, 0)) kz hb); have n2_ := Aside0.mk (below_step bz hb); have n3_ := Aside0.mk (hbox); have n4_ := Aside0.mk ((by rw [hg]; exact (below_size bz) : w.heap.size ≤ gb199)); have n5_ := Aside0.mk ((by rw [hg]; exact (below_size bz) : w.heap.size ≤ gb199)); have n6_ := Aside0.mk ((by rw [hg]; exact Nat.ne_of_lt (blk_lt (g := gb197) (o := .cells #[.int .i64 a0_0, .int .i64 a0_1, .int .i64 a0_2, .int .i64 a0_3, .int .i64 a0_4, .int .i64 a0_5, .string a0_6, .slice A0_7 l0_7.length c0_7] 224 (0, 0)) kz) : gb197 ≠ gb199)); have n7_ := Aside0.mk ((by rw [hg]; exact Nat.ne_of_gt (blk_lt (g := gb197) (o := .cells #[.int .i64 a0_0, .int .i64 a0_1, .int .i64 a0_2, .int .i64 a0_3, .int .i64 a0_4, .int .i64 a0_5, .string a0_6, .slice A0_7 l0_7.length c0_7] 224 (0, 0)) kz) : gb199 ≠ gb197)); have n8_ := Aside0.mk ((by rw [hg]; exact Nat.ne_of_lt (blk_lt (g := gb198) (o := .cells #[.int .i64 0, .int .i64 0, .int .i64 0, .int .i64 0, .int .i64 0, .int .i64 0, .string (⟨#[]⟩ : ByteArray), .slice none 0 0] 87 (0, 0)) kz) : gb198 ≠ gb199)); have n9_ := Aside0.mk ((by rw [hg]; exact Nat.ne_of_gt (blk_lt (g := gb198) (o := .cells #[.int .i64 0, .int .i64 0, .int .i64 0, .int .i64 0, .int .i64 0, .int .i64 0, .string (⟨#[]⟩ : ByteArray), .slice none 0 0] 87 (0, 0)) kz) : gb199 ≠ gb198)); clear BK197; clear BK198; clear HB; have BK197 := n0_; have BK198 := n1_; have HB := n2_; have BK199 := n3_; have GW199 := n4_; have GE199 := n5_; have NB197_199 := n6_; have NB199_197 := n7_; have NB198_199 := n8_; have NB199_198 := n9_; clear n0_ n1_ n2_ n3_ n4_ n5_ n6_ n7_ n8_ n9_; clear hb hbox hg; have hnb6 := NB197_198.out; have hnc6 := NB198_197.out; have hnb7 := NB197_199.out; have hnc7 := NB199_197.out; have hcz8_0 : w5.cell? ⟨gb197, 0, none⟩ = some (.int .i64 a0_0) := (blk_cell BK197.out 0).trans rfl; have hcz8_1 : w5.cell? ⟨gb197, 1, none⟩ = some (.int .i64 a0_1) := (blk_cell BK197.out 1).trans rfl; have hcz8_2 : w5.cell? ⟨gb197, 2, none⟩ = some (.int .i64 a0_2) := (blk_cell BK197.out 2).trans rfl; have hcz8_3 : w5.cell? ⟨gb197, 3, none⟩ = some (.int .i64 a0_3) := (blk_cell BK197.out 3).trans rfl; have hcz8_4 : w5.cell? ⟨gb197, 4, none⟩ = some (.int .i64 a0_4) := (blk_cell BK197.out 4).trans rfl; have hcz8_5 : w5.cell? ⟨gb197, 5, none⟩ = some (.int .i64 a0_5) := (blk_cell BK197.out 5).trans rfl; have hcz8_6 : w5.cell? ⟨gb197, 6, none⟩ = some (.string a0_6) := (blk_cell BK197.out 6).trans rfl; have hcz8_7 : w5.cell? ⟨gb197, 7, none⟩ = some (.slice A0_7 l0_7.length c0_7) := (blk_cell BK197.out 7).trans rfl; have hfz8_0 := blk_frozen BK197.out 0; have hfz8_1 := blk_frozen BK197.out 1; have hfz8_2 := blk_frozen BK197.out 2; have hfz8_3 := blk_frozen BK197.out 3; have hfz8_4 := blk_frozen BK197.out 4; have hfz8_5 := blk_frozen BK197.out 5; have hfz8_6 := blk_frozen BK197.out 6; have hfz8_7 := blk_frozen BK197.out 7; have hnb9 := NB199_198.out; have hnc9 := NB198_199.out; have hcz10_0 : w5.cell? ⟨gb199, 0, none⟩ = some (.int .i64 0) := (blk_cell BK199.out 0).trans rfl; have hcz10_1 : w5.cell? ⟨gb199, 1, none⟩ = some (.int .i64 0) := (blk_cell BK199.out 1).trans rfl; have hcz10_2 : w5.cell? ⟨gb199, 2, none⟩ = some (.int .i64 0) := (blk_cell BK199.out 2).trans rfl; have hcz10_3 : w5.cell? ⟨gb199, 3, none⟩ = some (.int .i64 0) := (blk_cell BK199.out 3).trans rfl; have hcz10_4 : w5.cell? ⟨gb199, 4, none⟩ = some (.int .i64 0) := (blk_cell BK199.out 4).trans rfl; have hcz10_5 : w5.cell? ⟨gb199, 5, none⟩ = some (.int .i64 0) := (blk_cell BK199.out 5).trans rfl; have hcz10_6 : w5.cell? ⟨gb199, 6, none⟩ = some (.string (⟨#[]⟩ : ByteArray)) := (blk_cell BK199.out 6).trans rfl; have hcz10_7 : w5.cell? ⟨gb199, 7, none⟩ = some (.slice none 0 0) := (blk_cell BK199.out 7).trans rfl; have hfz10_0 := blk_frozen BK199.out 0; have hfz10_1 := blk_frozen BK199.out 1; have hfz10_2 := blk_frozen BK199.out 2; have hfz10_3 := blk_frozen BK199.out 3; have hfz10_4 := blk_frozen BK199.out 4; have hfz10_5 := blk_frozen BK199.out 5; have hfz10_6 := blk_frozen BK199.out 6; have hfz10_7 := blk_frozen BK199.out 7) | ((with_reducible refine gate_callee (f := 62) rfl ?_); refine goesL_ (some 27) rfl rfl Try.func62 (by kernel_rfl) rfl #[.slice A0_7 l0_7.length c0_7] rfl lz ?_; (with_reducible refine (laws_toInt64S.calls k _ _ l0_7 t200 _ ?side1 ?side2 A2.out).mono ?_); (case side1 => exact Kd.C_below HR0_7.out bz); (case side2 => exact HC0_7.out); rintro e w11 ⟨v201, rfl, ho0, hb⟩; refine ⟨_, rfl, ?_⟩; have n0_ := Aside0.mk (Kd.R_lower ho0 (below_size bz)); have n1_ := Aside0.mk (blk_below (g := gb197) (o := .cells #[.int .i64 a0_0, .int .i64 a0_1, .int .i64 a0_2, .int .i64 a0_3, .int .i64 a0_4, .int .i64 a0_5, .string a0_6, .slice A0_7 l0_7.length c0_7] 224 (0, 0)) (by (with_reducible repeat (first | refine blk_drewN ?_ _ | refine blk_drew ?_ | refine blk_alloc ?_ _)); refine blk_far ?_ NB197_199.out _; (with_reducible repeat (first | refine blk_drewN ?_ _ | refine blk_drew ?_ | refine blk_alloc ?_ _)); refine blk_far ?_ NB197_199.out _; (with_reducible repeat (first | refine blk_drewN ?_ _ | refine blk_drew ?_ | refine blk_alloc ?_ _)); refine blk_far ?_ NB197_199.out _; (with_reducible repeat (first | refine blk_drewN ?_ _ | refine blk_drew ?_ | refine blk_alloc ?_ _)); refine blk_far ?_ NB197_199.out _; (with_reducible repeat (first | refine blk_drewN ?_ _ | refine blk_drew ?_ | refine blk_alloc ?_ _)); refine blk_far ?_ NB197_199.out _; (with_reducible repeat (first | refine blk_drewN ?_ _ | refine blk_drew ?_ | refine blk_alloc ?_ _)); refine blk_far ?_ NB197_199.out _; (with_reducible repeat (first | refine blk_drewN ?_ _ | refine blk_drew ?_ | refine blk_alloc ?_ _)); refine blk_far ?_ NB197_199.out _; (with_reducible repeat (first | refine blk_drewN ?_ _ | refine blk_drew ?_ | refine blk_alloc ?_ _)); exact BK197.out) hb); have n2_ := Aside0.mk (blk_below (g := gb198) (o := .cells #[.int .i64 0, .int .i64 0, .int .i64 0, .int .i64 0, .int .i64 0, .int .i64 0, .string (⟨#[]⟩ : ByteArray), .slice none 0 0] 87 (0, 0)) (by (with_reducible repeat (first | refine blk_drewN ?_ _ | refine blk_drew ?_ | refine blk_alloc ?_ _)); refine blk_far ?_ NB198_199.out _; (with_reducible repeat (first | refine blk_drewN ?_ _ | refine blk_drew ?_ | refine blk_alloc ?_ _)); refine blk_far ?_ NB198_199.out _; (with_reducible repeat (first | refine blk_drewN ?_ _ | refine blk_drew ?_ | refine blk_alloc ?_ _)); refine blk_far ?_ NB198_199.out _; (with_reducible repeat (first | refine blk_drewN ?_ _ | refine blk_drew ?_ | refine blk_alloc ?_ _)); refine blk_far ?_ NB198_199.out _; (with_reducible repeat (first | refine blk_drewN ?_ _ | refine blk_drew ?_ | refine blk_alloc ?_ _)); refine blk_far ?_ NB198_199.out _; (with_reducible repeat (first | refine blk_drewN ?_ _ | refine blk_drew ?_ | refine blk_alloc ?_ _)); refine blk_far ?_ NB198_199.out _; (with_reducible repeat (first | refine blk_drewN ?_ _ | refine blk_drew ?_ | refine blk_alloc ?_ _)); refine blk_far ?_ NB198_199.out _; (with_reducible repeat (first | refine blk_drewN ?_ _ | refine blk_drew ?_ | refine blk_alloc ?_ _)); exact BK198.out) hb); have n3_ := Aside0.mk (blk_below (g := gb199) (o := .cells #[.int .i64 a0_0, .int .i64 a0_1, .int .i64 a0_2, .int .i64 a0_3, .int .i64 a0_4, .int .i64 a0_5, .string a0_6, .slice none 0 0] 87 (0, 0)) (by (with_reducible repeat (first | refine blk_drewN ?_ _ | refine blk_drew ?_ | refine blk_alloc ?_ _)); refine blk_put (cs := #[.int .i64 a0_0, .int .i64 a0_1, .int .i64 a0_2, .int .i64 a0_3, .int .i64 a0_4, .int .i64 a0_5, .string (⟨#[]⟩ : ByteArray), .slice none 0 0]) ?_ 6 _ rfl; (with_reducible repeat (first | refine blk_drewN ?_ _ | refine blk_drew ?_ | refine blk_alloc ?_ _)); refine blk_put (cs := #[.int .i64 a0_0, .int .i64 a0_1, .int .i64 a0_2, .int .i64 a0_3, .int .i64 a0_4, .int .i64 0, .string (⟨#[]⟩ : ByteArray), .slice none 0 0]) ?_ 5 _ rfl; (with_reducible repeat (first | refine blk_drewN ?_ _ | refine blk_drew ?_ | refine blk_alloc ?_ _)); refine blk_put (cs := #[.int .i64 a0_0, .int .i64 a0_1, .int .i64 a0_2, .int .i64 a0_3, .int .i64 0, .int .i64 0, .string (⟨#[]⟩ : ByteArray), .slice none 0 0]) ?_ 4 _ rfl; (with_reducible repeat (first | refine blk_drewN ?_ _ | refine blk_drew ?_ | refine blk_alloc ?_ _)); refine blk_put (cs := #[.int .i64 a0_0, .int .i64 a0_1, .int .i64 a0_2, .int .i64 0, .int .i64 0, .int .i64 0, .string (⟨#[]⟩ : ByteArray), .slice none 0 0]) ?_ 3 _ rfl; (with_reducible repeat (first | refine blk_drewN ?_ _ | refine blk_drew ?_ | refine blk_alloc ?_ _)); refine blk_put (cs := #[.int .i64 a0_0, .int .i64 a0_1, .int .i64 0, .int .i64 0, .int .i64 0, .int .i64 0, .string (⟨#[]⟩ : ByteArray), .slice none 0 0]) ?_ 2 _ rfl; (with_reducible repeat (first | refine blk_drewN ?_ _ | refine blk_drew ?_ | refine blk_alloc ?_ _)); refine blk_put (cs := #[.int .i64 a0_0, .int .i64 0, .int .i64 0, .int .i64 0, .int .i64 0, .int .i64 0, .string (⟨#[]⟩ : ByteArray), .slice none 0 0]) ?_ 1 _ rfl; (with_reducible repeat (first | refine blk_drewN ?_ _ | refine blk_drew ?_ | refine blk_alloc ?_ _)); refine blk_put (cs := #[.int .i64 0, .int .i64 0, .int .i64 0, .int .i64 0, .int .i64 0, .int .i64 0, .string (⟨#[]⟩ : ByteArray), .slice none 0 0]) ?_ 0 _ rfl; (with_reducible repeat (first | refine blk_drewN ?_ _ | refine blk_drew ?_ | refine blk_alloc ?_ _)); exact BK199.out) hb); have n4_ := Aside0.mk (below_step bz hb); clear BK197; clear BK198; clear BK199; clear HB; have HO202 := n0_; have BK197 := n1_; have BK198 := n2_; have BK199 := n3_; have HB := n4_; clear n0_ n1_ n2_ n3_ n4_; (try clear hb); (try clear hb2); (try clear hk); (try clear hi); (try clear ho0); obtain ⟨Ao12, co12, eo12⟩ := Kd.R_slice HO202.out; subst eo12; have hcz13_0 : w11.cell? ⟨gb199, 0, none⟩ = some (.int .i64 a0_0) := (blk_cell BK199.out 0).trans rfl; have hcz13_1 : w11.cell? ⟨gb199, 1, none⟩ = some (.int .i64 a0_1) := (blk_cell BK199.out 1).trans rfl; have hcz13_2 : w11.cell? ⟨gb199, 2, none⟩ = some (.int .i64 a0_2) := (blk_cell BK199.out 2).trans rfl; have hcz13_3 : w11.cell? ⟨gb199, 3, none⟩ = some (.int .i64 a0_3) := (blk_cell BK199.out 3).trans rfl; have hcz13_4 : w11.cell? ⟨gb199, 4, none⟩ = some (.int .i64 a0_4) := (blk_cell BK199.out 4).trans rfl; have hcz13_5 : w11.cell? ⟨gb199, 5, none⟩ = some (.int .i64 a0_5) := (blk_cell BK199.out 5).trans rfl; have hcz13_6 : w11.cell? ⟨gb199, 6, none⟩ = some (.string a0_6) := (blk_cell BK199.out 6).trans rfl; have hcz13_7 : w11.cell? ⟨gb199, 7, none⟩ = some (.slice none 0 0) := (blk_cell BK199.out 7).trans rfl; have hfz13_0 := blk_frozen BK199.out 0; have hfz13_1 := blk_frozen BK199.out 1; have hfz13_2 := blk_frozen BK199.out 2; have hfz13_3 := blk_frozen BK199.out 3; have hfz13_4 := blk_frozen BK199.out 4; have hfz13_5 := blk_frozen BK199.out 5; have hfz13_6 := blk_frozen BK199.out 6; have hfz13_7 := blk_frozen BK199.out 7; have hcz14_0 : w11.cell? ⟨gb198, 0, none⟩ = some (.int .i64 0) := (blk_cell BK198.out 0).trans rfl; have hcz14_1 : w11.cell? ⟨gb198, 1, none⟩ = some (.int .i64 0) := (blk_cell BK198.out 1).trans rfl; have hcz14_2 : w11.cell? ⟨gb198, 2, none⟩ = some (.int .i64 0) := (blk_cell BK198.out 2).trans rfl; have hcz14_3 : w11.cell? ⟨gb198, 3, none⟩ = some (.int .i64 0) := (blk_cell BK198.out 3).trans rfl; have hcz14_4 : w11.cell? ⟨gb198, 4, none⟩ = some (.int .i64 0) := (blk_cell BK198.out 4).trans rfl; have hcz14_5 : w11.cell? ⟨gb198, 5, none⟩ = some (.int .i64 0) := (blk_cell BK198.out 5).trans rfl; have hcz14_6 : w11.cell? ⟨gb198, 6, none⟩ = some (.string (⟨#[]⟩ : ByteArray)) := (blk_cell BK198.out 6).trans rfl; have hcz14_7 : w11.cell? ⟨gb198, 7, none⟩ = some (.slice none 0 0) := (blk_cell BK198.out 7).trans rfl; have hfz14_0 := blk_frozen BK198.out 0; have hfz14_1 := blk_frozen BK198.out 1; have hfz14_2 := blk_frozen BK198.out 2; have hfz14_3 := blk_frozen BK198.out 3; have hfz14_4 := blk_frozen BK198.out 4; have hfz14_5 := blk_frozen BK198.out 5; have hfz14_6 := blk_frozen BK198.out 6; have hfz14_7 := blk_frozen BK198.out 7))
 refine bodyPost_ret (results_cell_row rfl _ _ gb198 87 #[.int .i64 a0_0, .int .i64 a0_1, .int .i64 a0_2, .int .i64 a0_3, .int .i64 a0_4, .int .i64 a0_5, .string a0_6, .slice Ao12 t200.length co12] (0, 0) _ rfl (by (with_reducible repeat (first | refine blk_drewN ?_ _ | refine blk_drew ?_ | refine blk_alloc ?_ _)); refine blk_put (cs := #[.int .i64 a0_0, .int .i64 a0_1, .int .i64 a0_2, .int .i64 a0_3, .int .i64 a0_4, .int .i64 a0_5, .string a0_6, .slice none 0 0]) ?_ 7 _ rfl; (with_reducible repeat (first | refine blk_drewN ?_ _ | refine blk_drew ?_ | refine blk_alloc ?_ _)); refine blk_put (cs := #[.int .i64 a0_0, .int .i64 a0_1, .int .i64 a0_2, .int .i64 a0_3, .int .i64 a0_4, .int .i64 a0_5, .string (⟨#[]⟩ : ByteArray), .slice none 0 0]) ?_ 6 _ rfl; (with_reducible repeat (first | refine blk_drewN ?_ _ | refine blk_drew ?_ | refine blk_alloc ?_ _)); refine blk_put (cs := #[.int .i64 a0_0, .int .i64 a0_1, .int .i64 a0_2, .int .i64 a0_3, .int .i64 a0_4, .int .i64 0, .string (⟨#[]⟩ : ByteArray), .slice none 0 0]) ?_ 5 _ rfl; (with_reducible repeat (first | refine blk_drewN ?_ _ | refine blk_drew ?_ | refine blk_alloc ?_ _)); refine blk_put (cs := #[.int .i64 a0_0, .int .i64 a0_1, .int .i64 a0_2, .int .i64 a0_3, .int .i64 0, .int .i64 0, .string (⟨#[]⟩ : ByteArray), .slice none 0 0]) ?_ 4 _ rfl; (with_reducible repeat (first | refine blk_drewN ?_ _ | refine blk_drew ?_ | refine blk_alloc ?_ _)); refine blk_put (cs := #[.int .i64 a0_0, .int .i64 a0_1, .int .i64 a0_2, .int .i64 0, .int .i64 0, .int .i64 0, .string (⟨#[]⟩ : ByteArray), .slice none 0 0]) ?_ 3 _ rfl; (with_reducible repeat (first | refine blk_drewN ?_ _ | refine blk_drew ?_ | refine blk_alloc ?_ _)); refine blk_put (cs := #[.int .i64 a0_0, .int .i64 a0_1, .int .i64 0, .int .i64 0, .int .i64 0, .int .i64 0, .string (⟨#[]⟩ : ByteArray), .slice none 0 0]) ?_ 2 _ rfl; (with_reducible repeat (first | refine blk_drewN ?_ _ | refine blk_drew ?_ | refine blk_alloc ?_ _)); refine blk_put (cs := #[.int .i64 a0_0, .int .i64 0, .int .i64 0, .int .i64 0, .int .i64 0, .int .i64 0, .string (⟨#[]⟩ : ByteArray), .slice none 0 0]) ?_ 1 _ rfl; (with_reducible repeat (first | refine blk_drewN ?_ _ | refine blk_drew ?_ | refine blk_alloc ?_ _)); refine blk_put (cs := #[.int .i64 0, .int .i64 0, .int .i64 0, .int .i64 0, .int .i64 0, .int .i64 0, .string (⟨#[]⟩ : ByteArray), .slice none 0 0]) ?_ 0 _ rfl; (with_reducible repeat (first | refine blk_drewN ?_ _ | refine blk_drew ?_ | refine blk_alloc ?_ _)); refine blk_far ?_ NB198_199.out _; (with_reducible repeat (first | refine blk_drewN ?_ _ | refine blk_drew ?_ | refine blk_alloc ?_ _)); exact BK198.out) Try.underlying87 rfl (by kernel_rfl)) rfl ?_
 exact ⟨_, by first | rfl | (simp [errW_none, errW_some] <;> rfl) | (simp [*, errW_none, errW_some] <;> rfl), by (with_reducible repeat (first | apply Kd.R_alloc | apply Kd.R_drewN | apply Kd.R_drew)); exact Kd.R_mono (Kd.R_far (p := ⟨gb198, 7, none⟩) (Kd.R_far (p := ⟨gb198, 6, none⟩) (Kd.R_far (p := ⟨gb198, 5, none⟩) (Kd.R_far (p := ⟨gb198, 4, none⟩) (Kd.R_far (p := ⟨gb198, 3, none⟩) (Kd.R_far (p := ⟨gb198, 2, none⟩) (Kd.R_far (p := ⟨gb198, 1, none⟩) (Kd.R_far (p := ⟨gb198, 0, none⟩) (Kd.R_far (p := ⟨gb199, 7, none⟩) (Kd.R_types (Kd.R_types HO202.out BK199.out (by decide)) BK198.out (by decide)) (fun _ hk => hk.1.2) (.slice Ao12 t200.length co12)) (fun _ hk => hk.2) (.int .i64 a0_0)) (fun _ hk => hk.2) (.int .i64 a0_1)) (fun _ hk => hk.2) (.int .i64 a0_2)) (fun _ hk => hk.2) (.int .i64 a0_3)) (fun _ hk => hk.2) (.int .i64 a0_4)) (fun _ hk => hk.2) (.int .i64 a0_5)) (fun _ hk => hk.2) (.string a0_6)) (fun _ hk => hk.2) (.slice Ao12 t200.length co12)) (fun _ hk => trivial), bz⟩

set_option linter.unusedVariables false
set_option linter.unusedSimpArgs false

def laws_toVInsS.l0 : Nat → List (S224) → List (S87) → Int → Option ((List (S87)))
 | 0, _, _, _ => none
 | k + 1, x0, x3, x4 => if x4 < (x0.length : Int) then (if 0 ≤ x4 then ((laws_toVIns.f k ((rd_T224 x0 x4).f0) ((rd_T224 x0 x4).f1) ((rd_T224 x0 x4).f2) ((rd_T224 x0 x4).f3) ((rd_T224 x0 x4).f4) ((rd_T224 x0 x4).f5) ((rd_T224 x0 x4).f6) ((rd_T224 x0 x4).f7)).bind fun bt207 => (if x4 < (x3.length : Int) then (laws_toVInsS.l0 k x0 (x3.set (x4 : Int).toNat (⟨bt207.1, bt207.2.1, bt207.2.2.1, bt207.2.2.2.1, bt207.2.2.2.2.1, bt207.2.2.2.2.2.1, bt207.2.2.2.2.2.2.1, bt207.2.2.2.2.2.2.2⟩ : S87)) (wrap64 (x4 + 1))) else (none))) else (none)) else (some x3)
def laws_toVInsS.f (k : Nat) (l0 : List (S224)) : Option ((List (S87))) := if 0 ≤ (l0.length : Int) then (if ((l0.length : Int) : Int).toNat ≤ 3198579280802 then (laws_toVInsS.l0 k l0 (List.replicate ((l0.length : Int) : Int).toNat z87) 0) else (none)) else (none)
set_option maxHeartbeats 8000000 in
set_option maxRecDepth 100000 in
theorem laws_toVInsS.calls (k : Nat) (A0 : Option Addr) (c0 : Nat) (l0 : List (S224)) (r : List (S87)) (w : World) (hr0 : Kd.C k224 w A0 l0.length l0) (hc0 : l0.length ≤ c0) (h : laws_toVInsS.f k l0 = some r) :
 Calls Try.prog 154 #[.slice A0 l0.length c0] w fun e w' => ∃ v0_ : Value, e = .returned (v0_) ∧ Kd.S k87 87 w' w.heap.size (fun _ => True) v0_ r ∧ Below w.heap.size w w' := by
 have hu224 := Try.underlying224
 have hu87 := Try.underlying87
 have HR0 := Aside0.mk hr0
 have HC0 := Aside0.mk hc0
 clear hr0 hc0
 have HB := Aside0.mk (Below.refl w.heap.size w)
 have H : (if 0 ≤ (l0.length : Int) then (if ((l0.length : Int) : Int).toNat ≤ 3198579280802 then (laws_toVInsS.l0 k l0 (List.replicate ((l0.length : Int) : Int).toNat z87) 0) else (none)) else (none)) = some r := h
 clear h
 by_cases c2 : 0 ≤ (l0.length : Int)
 · rw [if_pos c2] at H
   have c2b0 := eq_true c2
   have c2b1 : decide (0 ≤ (l0.length : Int)) = true := decide_eq_true c2
   clear c2
   by_cases c3 : ((l0.length : Int) : Int).toNat ≤ 3198579280802
   · rw [if_pos c3] at H
     have c3b0 := eq_true c3
     have c3b1 : decide (((l0.length : Int) : Int).toNat ≤ 3198579280802) = true := decide_eq_true c3
     clear c3
     obtain ⟨y203, hy203⟩ : ∃ y_ : List (S87), y_ = (List.replicate ((l0.length : Int) : Int).toNat z87) := ⟨_, rfl⟩
     replace H : (laws_toVInsS.l0 k l0 y203 0) = some r := by first | (rw [hy203]; with_reducible exact H) | (have H2_ := (Option.bind_some _ _).symm.trans H; rw [hy203]; with_reducible exact H2_) | (have H2_ := (Option.bind_some _ _).symm.trans H; with_reducible exact H2_) | with_reducible exact H | (rw [hy203]; exact H) | exact H
     have Ny203 := Aside0.mk hy203
     clear hy203
     have H' := Aside0.mk H
     clear H
     go_enter Try.func154, Try.ntmps154
     go_wp2_with (first | ((with_reducible refine gate_dst (N := 7) rfl ?_); refine Kd.S_make k87 _ 87 rfl (N := 7) rfl 83 _ _ rfl (l0.length : Int) rfl rfl Try.underlying83 (.agg #[(.int .i64 0), (.int .i64 0), (.int .i64 0), (.int .i64 0), (.int .i64 0), (.int .i64 0), (.string ⟨#[]⟩), (.slice none 0 0)]) 88 info87 rfl (by decide) (by omega) z87 (ok := fun _ => True) (okp := fun _ => True) (k87_mkM _ _ _ z87 (Kd.R_nil _ _ _ _ _)) (fun _ hk => hk) trivial (of_decide_eq_true az) (Nat.le_trans (Nat.mul_le_mul_right _ (of_decide_eq_true az : (l0.length : Int).toNat ≤ 3198579280802)) (by omega)) (Below.refl _ _) (Nat.le_refl _) ?_; intro v204 w4 ho5 hb hg_ hnew_; clear hg_ hnew_; (first | rw [← Ny203.out] at ho5 | (simp only [Int.reduceToNat] at ho5; rw [← Ny203.out] at ho5)); have HO205 := Aside0.mk (Kd.S_lower ho5 (below_size bz)); replace HB := Aside0.mk (below_step bz hb); clear hb ho5))
     go_loopg [4] k (fun kq v4 w' => ∃ (x3_1 : List (S87)) (x4_1 : Int), v4 = .int .i64 x4_1 ∧ Aside0 (laws_toVInsS.l0 kq l0 x3_1 x4_1 = some r) ∧ Aside0 (kq ≤ k) ∧ Aside0 (Kd.S k87 87 w' w.heap.size (fun _ => True) v204 x3_1) ∧ Aside0 (Below w.heap.size w w'))
     case atStart => exact ⟨(y203), (0), sz_, H', ⟨Nat.le_refl _⟩, ⟨by (with_reducible repeat (first | apply Kd.S_alloc | apply Kd.S_drewN | apply Kd.S_drew)); exact HO205.out⟩, ⟨ bz⟩⟩
     case round =>
      clear H'
      obtain ⟨x3_1, x4_1, rfl, HA, HK1, HO_3, HB⟩ := hrel
      cases gk with
      | zero => exact absurd HA.out (by simp [laws_toVInsS.l0])
      | succ k1 =>
       have H := HA.out
       clear HA
       simp only [laws_toVInsS.l0] at H
       by_cases c6 : x4_1 < (l0.length : Int)
       · rw [if_pos c6] at H
         have c6b0 : decide (x4_1 < (l0.length : Int)) = true := decide_eq_true c6
         clear c6
         by_cases c7 : 0 ≤ x4_1
         · rw [if_pos c7] at H
           have c7b0 : decide (0 ≤ x4_1) = true := decide_eq_true c7
           clear c7
           replace H := Option.bind_eq_some_iff.mp H
           obtain ⟨⟨t207, t208, t209, t210, t211, t212, t213, t214⟩, A80, H⟩ := H
           replace H : (if x4_1 < (x3_1.length : Int) then (laws_toVInsS.l0 k1 l0 (x3_1.set (x4_1 : Int).toNat (⟨t207, t208, t209, t210, t211, t212, t213, t214⟩ : S87)) (wrap64 (x4_1 + 1))) else (none)) = some r := H
           have A8 := Aside0.mk A80
           clear A80
           by_cases c9 : x4_1 < (x3_1.length : Int)
           · rw [if_pos c9] at H
             have c9b0 : decide (x4_1 < (x3_1.length : Int)) = true := decide_eq_true c9
             clear c9
             obtain ⟨y217, hy217⟩ : ∃ y_ : List (S87), y_ = (x3_1.set (x4_1 : Int).toNat (⟨t207, t208, t209, t210, t211, t212, t213, t214⟩ : S87)) := ⟨_, rfl⟩
             replace H : (laws_toVInsS.l0 k1 l0 y217 (wrap64 (x4_1 + 1))) = some r := by first | (rw [hy217]; with_reducible exact H) | (have H2_ := (Option.bind_some _ _).symm.trans H; rw [hy217]; with_reducible exact H2_) | (have H2_ := (Option.bind_some _ _).symm.trans H; with_reducible exact H2_) | with_reducible exact H | (rw [hy217]; exact H) | exact H
             have Ny217 := Aside0.mk hy217
             clear hy217
             have H' := Aside0.mk H
             clear H
             have p206 : 0 ≤ (x4_1 : Int) := of_decide_eq_true az
             have q206 : x4_1 < (l0.length : Int) := of_decide_eq_true az
             obtain ⟨ad206, A206_7, c206_7, e206, hx206_0, hx206_1, hx206_2, hx206_3, hx206_4, hx206_5, hx206_6, hx206_7, hl206_7, hi206_7⟩ := at_T224 HR0.out x4_1 p206 q206
             cases e206
             replace hx206_0 := ck HB hx206_0
             replace hx206_1 := ck HB hx206_1
             replace hx206_2 := ck HB hx206_2
             replace hx206_3 := ck HB hx206_3
             replace hx206_4 := ck HB hx206_4
             replace hx206_5 := ck HB hx206_5
             replace hx206_6 := ck HB hx206_6
             replace hx206_7 := ck HB hx206_7
             have HR206_7 := Aside0.mk hi206_7
             have HC206_7 := Aside0.mk hl206_7
             clear hi206_7 hl206_7
             replace p206 := eq_true p206
             replace q206 := eq_true q206
             go_wp2_with (first | ((with_reducible refine gate_callee (f := 188) rfl ?_); refine goesL_ (some 20) rfl rfl Try.func188 (by kernel_rfl) rfl #[.agg #[.int .i64 ((rd_T224 l0 x4_1).f0), .int .i64 ((rd_T224 l0 x4_1).f1), .int .i64 ((rd_T224 l0 x4_1).f2), .int .i64 ((rd_T224 l0 x4_1).f3), .int .i64 ((rd_T224 l0 x4_1).f4), .int .i64 ((rd_T224 l0 x4_1).f5), .string ((rd_T224 l0 x4_1).f6), .slice A206_7 ((rd_T224 l0 x4_1).f7).length c206_7]] rfl lz ?_; (with_reducible refine (laws_toVIns.calls k1 ((rd_T224 l0 x4_1).f0) ((rd_T224 l0 x4_1).f1) ((rd_T224 l0 x4_1).f2) ((rd_T224 l0 x4_1).f3) ((rd_T224 l0 x4_1).f4) ((rd_T224 l0 x4_1).f5) ((rd_T224 l0 x4_1).f6) _ _ ((rd_T224 l0 x4_1).f7) t207 t208 t209 t210 t211 t212 t213 t214 _ ?side1 ?side2 A8.out).mono ?_); (case side1 => exact cz HR206_7.out); (case side2 => exact HC206_7.out); rintro e w11 ⟨v215, rfl, ho0, hb⟩; refine ⟨_, rfl, ?_⟩; have HO216 := Aside0.mk (Kd.R_lower ho0 (below_size bz)); replace HO_3 := Aside0.mk (Kd.S_elder' (rs HO_3.out) (Kd.R_base ho0) hb); replace HB := Aside0.mk (below_step bz hb); have p10 : 0 ≤ (x4_1 : Int) := of_decide_eq_true az; have q10 : (x4_1 : Int) < ((x3_1.length : Int) : Int) := of_decide_eq_true az; obtain ⟨go10, co10, eo10, gb10, gl10, cl10, HG10⟩ := Kd.S_form HO_3.out (by omega); (first | cases eo10 | (injection eo10 with ea_ en_ ec_; (first | subst ea_ | (injection ea_ with ea_; subst ea_)); subst ec_; clear en_)); have GB10 := Aside0.mk gb10; have GG10 := Aside0.mk HG10; clear gb10 gl10 HG10; obtain ⟨_, ce10, hcl10, hM10, hcc10, hfr10, _, _⟩ := Kd.S_elem HO_3.out z87 (x4_1 : Int) p10 q10; obtain ⟨ve10_7, rfl, ge10_7⟩ := k87_openM hM10; have hx10_0 : w11.cell? ⟨go10, (x4_1 : Int).toNat * 8, none⟩ = some (.int .i64 ((rd_T87 x3_1 x4_1).f0)) := hcc10 0 _ rfl; have hx10_1 : w11.cell? ⟨go10, (x4_1 : Int).toNat * 8 + 1, none⟩ = some (.int .i64 ((rd_T87 x3_1 x4_1).f1)) := hcc10 1 _ rfl; have hx10_2 : w11.cell? ⟨go10, (x4_1 : Int).toNat * 8 + 2, none⟩ = some (.int .i64 ((rd_T87 x3_1 x4_1).f2)) := hcc10 2 _ rfl; have hx10_3 : w11.cell? ⟨go10, (x4_1 : Int).toNat * 8 + 3, none⟩ = some (.int .i64 ((rd_T87 x3_1 x4_1).f3)) := hcc10 3 _ rfl; have hx10_4 : w11.cell? ⟨go10, (x4_1 : Int).toNat * 8 + 4, none⟩ = some (.int .i64 ((rd_T87 x3_1 x4_1).f4)) := hcc10 4 _ rfl; have hx10_5 : w11.cell? ⟨go10, (x4_1 : Int).toNat * 8 + 5, none⟩ = some (.int .i64 ((rd_T87 x3_1 x4_1).f5)) := hcc10 5 _ rfl; have hx10_6 : w11.cell? ⟨go10, (x4_1 : Int).toNat * 8 + 6, none⟩ = some (.string ((rd_T87 x3_1 x4_1).f6)) := hcc10 6 _ rfl; have hx10_7 : w11.cell? ⟨go10, (x4_1 : Int).toNat * 8 + 7, none⟩ = some (ve10_7) := hcc10 7 _ rfl; have hf10_0 : w11.frozen? ⟨go10, (x4_1 : Int).toNat * 8, none⟩ = false := hfr10 0; have hf10_1 : w11.frozen? ⟨go10, (x4_1 : Int).toNat * 8 + 1, none⟩ = false := hfr10 1; have hf10_2 : w11.frozen? ⟨go10, (x4_1 : Int).toNat * 8 + 2, none⟩ = false := hfr10 2; have hf10_3 : w11.frozen? ⟨go10, (x4_1 : Int).toNat * 8 + 3, none⟩ = false := hfr10 3; have hf10_4 : w11.frozen? ⟨go10, (x4_1 : Int).toNat * 8 + 4, none⟩ = false := hfr10 4; have hf10_5 : w11.frozen? ⟨go10, (x4_1 : Int).toNat * 8 + 5, none⟩ = false := hfr10 5; have hf10_6 : w11.frozen? ⟨go10, (x4_1 : Int).toNat * 8 + 6, none⟩ = false := hfr10 6; have hf10_7 : w11.frozen? ⟨go10, (x4_1 : Int).toNat * 8 + 7, none⟩ = false := hfr10 7; clear hcl10 hcc10 hfr10 hM10; replace p10 := eq_true p10; replace q10 := eq_true q10; have n_ := Aside0.mk (Kd.S_mono (ok' := (fun k_ => some k_ ≠ (v215 : Value).ownBlock)) HO_3.out (fun k_ hk => hk.2)); clear HO_3; have HO_3 := n_; clear n_; have HX12 := Aside0.mk (show Kd.S k87 87 w11 w.heap.size (fun k_ => ((fun _ => True)) k_ ∧ ¬ ((fun k_ => some k_ = (v215 : Value).ownBlock)) k_) (.slice (some ⟨go10, 0, none⟩) x3_1.length co10) x3_1 from (by (with_reducible repeat (first | apply Kd.S_alloc | apply Kd.S_drewN | apply Kd.S_drew)); exact Kd.S_mono HO_3.out (fun k_ hk => ⟨trivial, fun e_ => hk e_⟩))); obtain ⟨oki12, ce12, hcl12, hM12, hcc12, hfr12, hoki12, hH12⟩ := Kd.S_elem HX12.out z87 (x4_1 : Int) (of_decide_eq_true az) (by have h_ : (x4_1 : Int) < ((x3_1.length : Int) : Int) := of_decide_eq_true az; first | exact h_ | (have e_ := (Kd.S_reads' HO_3.out).1; omega) | simpa using h_); obtain ⟨ve12_7, rfl, ge12_7⟩ := k87_openM hM12; have HP12 := Kd.S_seg hH12 (of_decide_eq_true az) (by have h_ : (x4_1 : Int) < ((x3_1.length : Int) : Int) := of_decide_eq_true az; first | exact h_ | (have e_ := (Kd.S_reads' HO_3.out).1; omega) | simpa using h_) (seg := [.int .i64 t207, .int .i64 t208, .int .i64 t209, .int .i64 t210, .int .i64 t211, .int .i64 t212, .string t213, v215]) (j := 0) (show 8 ≤ 8 from by decide) (x' := (⟨t207, t208, t209, t210, t211, t212, t213, t214⟩ : S87)) (k87_mkM _ _ _ (⟨t207, t208, t209, t210, t211, t212, t213, t214⟩ : S87) (Kd.R_mono (Kd.R_tight rfl (Kd.R_mono (ok' := fun k_ => ((fun _ => True)) k_ ∧ k_ ≠ go10) (Kd.R_apart' (HO216.out) (Kd.S_typed HO_3.out) (by decide)) (fun k_ hk => ⟨trivial, fun e_ => (hk.2) (by rw [e_]; rfl)⟩))) (fun _ h_ => Or.inr (h_)))) (fun _ hk => hk) (fun k_ hk_ => ((Kd.R_mono (ok' := fun k_ => ((fun _ => True)) k_ ∧ k_ ≠ go10) (Kd.R_apart' (HO216.out) (Kd.S_typed HO_3.out) (by decide)) (fun k_ hk => ⟨trivial, fun e_ => (hk.2) (by rw [e_]; rfl)⟩))).1 k_ hk_.symm); have hx12_0 := hcc12 0 _ rfl; (try simp only [show (k87).sz = 8 from rfl, Nat.mul_one, Nat.add_zero] at hx12_0); have hf12_0 := hfr12 0; (try simp only [show (k87).sz = 8 from rfl, Nat.mul_one, Nat.add_zero] at hf12_0); have hx12_1 := hcc12 1 _ rfl; (try simp only [show (k87).sz = 8 from rfl, Nat.mul_one, Nat.add_zero] at hx12_1); have hf12_1 := hfr12 1; (try simp only [show (k87).sz = 8 from rfl, Nat.mul_one, Nat.add_zero] at hf12_1); have hx12_2 := hcc12 2 _ rfl; (try simp only [show (k87).sz = 8 from rfl, Nat.mul_one, Nat.add_zero] at hx12_2); have hf12_2 := hfr12 2; (try simp only [show (k87).sz = 8 from rfl, Nat.mul_one, Nat.add_zero] at hf12_2); have hx12_3 := hcc12 3 _ rfl; (try simp only [show (k87).sz = 8 from rfl, Nat.mul_one, Nat.add_zero] at hx12_3); have hf12_3 := hfr12 3; (try simp only [show (k87).sz = 8 from rfl, Nat.mul_one, Nat.add_zero] at hf12_3); have hx12_4 := hcc12 4 _ rfl; (try simp only [show (k87).sz = 8 from rfl, Nat.mul_one, Nat.add_zero] at hx12_4); have hf12_4 := hfr12 4; (try simp only [show (k87).sz = 8 from rfl, Nat.mul_one, Nat.add_zero] at hf12_4); have hx12_5 := hcc12 5 _ rfl; (try simp only [show (k87).sz = 8 from rfl, Nat.mul_one, Nat.add_zero] at hx12_5); have hf12_5 := hfr12 5; (try simp only [show (k87).sz = 8 from rfl, Nat.mul_one, Nat.add_zero] at hf12_5); have hx12_6 := hcc12 6 _ rfl; (try simp only [show (k87).sz = 8 from rfl, Nat.mul_one, Nat.add_zero] at hx12_6); have hf12_6 := hfr12 6; (try simp only [show (k87).sz = 8 from rfl, Nat.mul_one, Nat.add_zero] at hf12_6); have hx12_7 := hcc12 7 _ rfl; (try simp only [show (k87).sz = 8 from rfl, Nat.mul_one, Nat.add_zero] at hx12_7); have hf12_7 := hfr12 7; (try simp only [show (k87).sz = 8 from rfl, Nat.mul_one, Nat.add_zero] at hf12_7); clear hcl12 hcc12 hfr12 hM12 hoki12 hH12) | ((with_reducible refine gate_store (t := 87) (p := 21) rfl ?_); (try have st12_7 := fun (a_ : Addr) (m_ : Mode) (W_ : World) => run_store Try.prog W_ a_ v215 m_ (Kd.R_val HO216.out).2); refine store_event (t := 87) (p := 21) (v := ?vo_w13) (w1 := ((((((((w11.setCell ⟨go10, (x4_1 : Int).toNat * 8, none⟩ (.int .i64 t207)).setCell ⟨go10, (x4_1 : Int).toNat * 8 + 1, none⟩ (.int .i64 t208)).setCell ⟨go10, (x4_1 : Int).toNat * 8 + 2, none⟩ (.int .i64 t209)).setCell ⟨go10, (x4_1 : Int).toNat * 8 + 3, none⟩ (.int .i64 t210)).setCell ⟨go10, (x4_1 : Int).toNat * 8 + 4, none⟩ (.int .i64 t211)).setCell ⟨go10, (x4_1 : Int).toNat * 8 + 5, none⟩ (.int .i64 t212)).setCell ⟨go10, (x4_1 : Int).toNat * 8 + 6, none⟩ (.string t213)).setCell ⟨go10, (x4_1 : Int).toNat * 8 + 7, none⟩ (v215))) ?hg ?ho ?hn ?hr ?_; (case ho => rfl); (case hg => rfl); (case hn => rfl); (case hr => first | (go_simp; done) | (go_simp; rfl)); intro w13 hw; have hg : w11.grownBy w13 (some go10) := (by rw [hw]; exact HP12.2); have hp_ : Kd.S k87 87 w13 w.heap.size (fun _ => True) (.slice (some ⟨go10, 0, none⟩) x3_1.length co10) y217 := (by rw [hw, Ny217.out]; exact HP12.1); clear HP12; replace HO_3 := Aside0.mk (hp_); replace HB := Aside0.mk ((by rw [hw]; exact below_set (below_set (below_set (below_set (below_set (below_set (below_set (below_set (HB.out) GB10.out) GB10.out) GB10.out) GB10.out) GB10.out) GB10.out) GB10.out) GB10.out : Below w.heap.size w w13)); clear HO216; clear hg hw hp_))
             go_roundg k1
             case measure => have := HK1.out; omega
             case rel => exact ⟨(y217), (wrap64 (x4_1 + 1)), sz_, H', ⟨by have := HK1.out; omega⟩, ⟨by (with_reducible repeat (first | apply Kd.S_alloc | apply Kd.S_drewN | apply Kd.S_drew)); exact HO_3.out⟩, ⟨ bz⟩⟩
           · rw [if_neg c9] at H
             exact absurd H (by simp)
         · rw [if_neg c7] at H
           exact absurd H (by simp)
       · rw [if_neg c6] at H
         have c6b0 : decide (x4_1 < (l0.length : Int)) = false := decide_eq_false c6
         clear c6
         obtain rfl := Option.some.inj H
         go_wp2
         go_ret
         exact ⟨_, by first | rfl | (simp [errW_none, errW_some] <;> rfl) | (simp [*, errW_none, errW_some] <;> rfl), by (with_reducible repeat (first | apply Kd.S_alloc | apply Kd.S_drewN | apply Kd.S_drew)); exact HO_3.out, bz⟩
   · rw [if_neg c3] at H
     exact absurd H (by simp)
 · rw [if_neg c2] at H
   exact absurd H (by simp)

set_option linter.unusedVariables false
set_option linter.unusedSimpArgs false

def laws_toVBlock.f (k : Nat) (l0_0 : List (S224)) : Option ((List (S87))) := (laws_toVInsS.f k l0_0).bind fun t221 => (some t221)
set_option maxHeartbeats 8000000 in
set_option maxRecDepth 100000 in
theorem laws_toVBlock.calls (k : Nat) (A0_0 : Option Addr) (c0_0 : Nat) (l0_0 : List (S224)) (r : List (S87)) (w : World) (hr0_0 : Kd.C k224 w A0_0 l0_0.length l0_0) (hc0_0 : l0_0.length ≤ c0_0) (h : laws_toVBlock.f k l0_0 = some r) :
 Calls Try.prog 117 #[.agg #[.slice A0_0 l0_0.length c0_0]] w fun e w' => ∃ v0_ : Value, e = .returned (.agg #[v0_]) ∧ Kd.S k87 87 w' w.heap.size (fun _ => True) v0_ r ∧ Below w.heap.size w w' := by
 have hu165 := Try.underlying165
 have hu85 := Try.underlying85
 have HR0_0 := Aside0.mk hr0_0
 have HC0_0 := Aside0.mk hc0_0
 clear hr0_0 hc0_0
 have HB := Aside0.mk (Below.refl w.heap.size w)
 have H : ((laws_toVInsS.f k l0_0).bind fun t221 => (some t221)) = some r := h
 clear h
 replace H := Option.bind_eq_some_iff.mp H
 obtain ⟨t221, A20, H⟩ := H
 replace H : (some t221) = some r := H
 have A2 := Aside0.mk A20
 clear A20
 obtain rfl := Option.some.inj H
 go_enter Try.func117, Try.ntmps117
 go_wp2_with (first | ((with_reducible refine gate_dst (N := 1) rfl ?_); refine box_event ?hg (N := 1) ?hd (cs := #[.slice A0_0 l0_0.length c0_0]) (t := 165) ?hr ?_; (case hd => rfl); (case hg => rfl); (case hr => first | (go_simp; done) | (go_simp; rfl)); intro gb218 hg w3 hbox hb; have BK218 := Aside0.mk (hbox); have GW218 := Aside0.mk ((by rw [hg]; exact (below_size bz) : w.heap.size ≤ gb218)); have GE218 := Aside0.mk ((by rw [hg]; exact (below_size bz) : w.heap.size ≤ gb218)); replace HB := Aside0.mk (below_step bz hb); clear hb hbox hg) | ((with_reducible refine gate_dst (N := 2) rfl ?_); refine box_event ?hg (N := 2) ?hd (cs := #[.slice none 0 0]) (t := 85) ?hr ?_; (case hd => rfl); (case hg => rfl); (case hr => first | (go_simp; done) | (go_simp; rfl)); intro gb219 hg w4 hbox hb; have BK219 := Aside0.mk (hbox); have GW219 := Aside0.mk ((by rw [hg]; exact (below_size bz) : w.heap.size ≤ gb219)); have GE219 := Aside0.mk ((by rw [hg]; exact (below_size bz) : w.heap.size ≤ gb219)); have NB218_219 := Aside0.mk ((by rw [hg]; exact Nat.ne_of_lt (blk_lt (g := gb218) (o := .cells #[.slice A0_0 l0_0.length c0_0] 165 (0, 0)) kz) : gb218 ≠ gb219)); have NB219_218 := Aside0.mk ((by rw [hg]; exact Nat.ne_of_gt (blk_lt (g := gb218) (o := .cells #[.slice A0_0 l0_0.length c0_0] 165 (0, 0)) kz) : gb219 ≠ gb218)); replace BK218 := Aside0.mk (blk_below (g := gb218) (o := .cells #[.slice A0_0 l0_0.length c0_0] 165 (0, 0)) kz hb); replace HB := Aside0.mk (below_step bz hb); clear hb hbox hg) | ((with_reducible refine gate_dst (N := 3) rfl ?_); refine box_event ?hg (N := 3) ?hd (cs := #[.slice none 0 0]) (t := 85) ?hr ?_; (case hd => rfl); (case hg => rfl); (case hr => first | (go_simp; done) | (go_simp; rfl)); intro gb220 hg w5 hbox hb; have BK220 := Aside0.mk (hbox); have GW220 := Aside0.mk ((by rw [hg]; exact (below_size bz) : w.heap.size ≤ gb220)); have GE220 := Aside0.mk ((by rw [hg]; exact (below_size bz) : w.heap.size ≤ gb220)); have NB218_220 := Aside0.mk ((by rw [hg]; exact Nat.ne_of_lt (blk_lt (g := gb218) (o := .cells #[.slice A0_0 l0_0.length c0_0] 165 (0, 0)) kz) : gb218 ≠ gb220)); have NB220_218 := Aside0.mk ((by rw [hg]; exact Nat.ne_of_gt (blk_lt (g := gb218) (o := .cells #[.slice A0_0 l0_0.length c0_0] 165 (0, 0)) kz) : gb220 ≠ gb218)); have NB219_220 := Aside0.mk ((by rw [hg]; exact Nat.ne_of_lt (blk_lt (g := gb219) (o := .cells #[.slice none 0 0] 85 (0, 0)) kz) : gb219 ≠ gb220)); have NB220_219 := Aside0.mk ((by rw [hg]; exact Nat.ne_of_gt (blk_lt (g := gb219) (o := .cells #[.slice none 0 0] 85 (0, 0)) kz) : gb220 ≠ gb219)); replace BK218 := Aside0.mk (blk_below (g := gb218) (o := .cells #[.slice A0_0 l0_0.length c0_0] 165 (0, 0)) kz hb); replace BK219 := Aside0.mk (blk_below (g := gb219) (o := .cells #[.slice none 0 0] 85 (0, 0)) kz hb); replace HB := Aside0.mk (below_step bz hb); clear hb hbox hg; have hnb6 := NB218_219.out; have hnc6 := NB219_218.out; have hnb7 := NB218_220.out; have hnc7 := NB220_218.out; have hcz8_0 : w5.cell? ⟨gb218, 0, none⟩ = some (.slice A0_0 l0_0.length c0_0) := (blk_cell BK218.out 0).trans rfl; have hfz8_0 := blk_frozen BK218.out 0) | ((with_reducible refine gate_callee (f := 154) rfl ?_); refine goesL_ (some 6) rfl rfl Try.func154 (by kernel_rfl) rfl #[.slice A0_0 l0_0.length c0_0] rfl lz ?_; (with_reducible refine (laws_toVInsS.calls k _ _ l0_0 t221 _ ?side1 ?side2 A2.out).mono ?_); (case side1 => exact cz HR0_0.out); (case side2 => exact HC0_0.out); rintro e w9 ⟨v222, rfl, ho0, hb⟩; refine ⟨_, rfl, ?_⟩; have HO223 := Aside0.mk (Kd.S_lower ho0 (below_size bz)); replace BK218 := Aside0.mk (blk_below (g := gb218) (o := .cells #[.slice A0_0 l0_0.length c0_0] 165 (0, 0)) kz hb); replace BK219 := Aside0.mk (blk_below (g := gb219) (o := .cells #[.slice none 0 0] 85 (0, 0)) kz hb); replace BK220 := Aside0.mk (blk_below (g := gb220) (o := .cells #[.slice none 0 0] 85 (0, 0)) kz hb); replace HB := Aside0.mk (below_step bz hb); obtain ⟨Ao10, co10, eo10⟩ := Kd.S_slice HO223.out; subst eo10; have hnb11 := NB220_219.out; have hnc11 := NB219_220.out; have hcz12_0 : w9.cell? ⟨gb220, 0, none⟩ = some (.slice none 0 0) := (blk_cell BK220.out 0).trans rfl; have hfz12_0 := blk_frozen BK220.out 0; have hcz13_0 : w9.cell? ⟨gb219, 0, none⟩ = some (.slice none 0 0) := (blk_cell BK219.out 0).trans rfl; have hfz13_0 := blk_frozen BK219.out 0))
 refine bodyPost_ret (results_cell_row rfl _ _ gb219 85 #[.slice Ao10 t221.length co10] (0, 0) _ rfl (by (with_reducible repeat (first | refine blk_drewN ?_ _ | refine blk_drew ?_ | refine blk_alloc ?_ _)); refine blk_put (cs := #[.slice none 0 0]) ?_ 0 _ rfl; (with_reducible repeat (first | refine blk_drewN ?_ _ | refine blk_drew ?_ | refine blk_alloc ?_ _)); refine blk_far ?_ NB219_220.out _; (with_reducible repeat (first | refine blk_drewN ?_ _ | refine blk_drew ?_ | refine blk_alloc ?_ _)); exact BK219.out) Try.underlying85 rfl (by kernel_rfl)) rfl ?_
 exact ⟨_, by first | rfl | (simp [errW_none, errW_some] <;> rfl) | (simp [*, errW_none, errW_some] <;> rfl), by (with_reducible repeat (first | apply Kd.S_alloc | apply Kd.S_drewN | apply Kd.S_drew)); exact Kd.S_mono (Kd.S_far (p := ⟨gb219, 0, none⟩) (Kd.S_far (p := ⟨gb220, 0, none⟩) (Kd.S_types (Kd.S_types HO223.out BK220.out (by decide)) BK219.out (by decide)) (fun _ hk => hk.1.2) (.slice Ao10 t221.length co10)) (fun _ hk => hk.2) (.slice Ao10 t221.length co10)) (fun _ hk => trivial), bz⟩

set_option linter.unusedVariables false
set_option linter.unusedSimpArgs false

def laws_toVBlockS.l0 : Nat → List (S165) → List (S85) → Int → Option ((List (S85)))
 | 0, _, _, _ => none
 | k + 1, x0, x3, x4 => if x4 < (x0.length : Int) then (if 0 ≤ x4 then ((laws_toVBlock.f k ((rd_T165 x0 x4).f0)).bind fun t228 => (if x4 < (x3.length : Int) then (laws_toVBlockS.l0 k x0 (x3.set (x4 : Int).toNat (⟨t228⟩ : S85)) (wrap64 (x4 + 1))) else (none))) else (none)) else (some x3)
def laws_toVBlockS.f (k : Nat) (l0 : List (S165)) : Option ((List (S85))) := if 0 ≤ (l0.length : Int) then (if ((l0.length : Int) : Int).toNat ≤ 11728124029610 then (laws_toVBlockS.l0 k l0 (List.replicate ((l0.length : Int) : Int).toNat z85) 0) else (none)) else (none)
set_option maxHeartbeats 8000000 in
set_option maxRecDepth 100000 in
theorem laws_toVBlockS.calls (k : Nat) (A0 : Option Addr) (c0 : Nat) (l0 : List (S165)) (r : List (S85)) (w : World) (hr0 : Kd.C k165 w A0 l0.length l0) (hc0 : l0.length ≤ c0) (h : laws_toVBlockS.f k l0 = some r) :
 Calls Try.prog 63 #[.slice A0 l0.length c0] w fun e w' => ∃ v0_ : Value, e = .returned (v0_) ∧ Kd.R k85 85 w' w.heap.size (fun _ => True) v0_ r ∧ Below w.heap.size w w' := by
 have hu165 := Try.underlying165
 have hu85 := Try.underlying85
 have HR0 := Aside0.mk hr0
 have HC0 := Aside0.mk hc0
 clear hr0 hc0
 have HB := Aside0.mk (Below.refl w.heap.size w)
 have H : (if 0 ≤ (l0.length : Int) then (if ((l0.length : Int) : Int).toNat ≤ 11728124029610 then (laws_toVBlockS.l0 k l0 (List.replicate ((l0.length : Int) : Int).toNat z85) 0) else (none)) else (none)) = some r := h
 clear h
 by_cases c2 : 0 ≤ (l0.length : Int)
 · rw [if_pos c2] at H
   have c2b0 := eq_true c2
   have c2b1 : decide (0 ≤ (l0.length : Int)) = true := decide_eq_true c2
   clear c2
   by_cases c3 : ((l0.length : Int) : Int).toNat ≤ 11728124029610
   · rw [if_pos c3] at H
     have c3b0 := eq_true c3
     have c3b1 : decide (((l0.length : Int) : Int).toNat ≤ 11728124029610) = true := decide_eq_true c3
     clear c3
     obtain ⟨y224, hy224⟩ : ∃ y_ : List (S85), y_ = (List.replicate ((l0.length : Int) : Int).toNat z85) := ⟨_, rfl⟩
     replace H : (laws_toVBlockS.l0 k l0 y224 0) = some r := by first | (rw [hy224]; with_reducible exact H) | (have H2_ := (Option.bind_some _ _).symm.trans H; rw [hy224]; with_reducible exact H2_) | (have H2_ := (Option.bind_some _ _).symm.trans H; with_reducible exact H2_) | with_reducible exact H | (rw [hy224]; exact H) | exact H
     have Ny224 := Aside0.mk hy224
     clear hy224
     have H' := Aside0.mk H
     clear H
     go_enter Try.func63, Try.ntmps63
     go_wp2_with (first | ((with_reducible refine gate_dst (N := 7) rfl ?_); refine Kd.R_make k85 _ 85 rfl (N := 7) rfl 27 _ _ rfl (l0.length : Int) rfl rfl Try.underlying27 (.agg #[(.slice none 0 0)]) 24 info85 rfl (by decide) (by omega) z85 (ok := fun _ => True) (okp := fun _ => True) (k85_mkM _ _ _ z85 (Kd.R_nil _ _ _ _ _)) (fun _ hk => hk) trivial (of_decide_eq_true az) (Nat.le_trans (Nat.mul_le_mul_right _ (of_decide_eq_true az : (l0.length : Int).toNat ≤ 11728124029610)) (by omega)) (Below.refl _ _) (Nat.le_refl _) ?_; intro v225 w4 ho5 hb hg_ hnew_; clear hg_ hnew_; (first | rw [← Ny224.out] at ho5 | (simp only [Int.reduceToNat] at ho5; rw [← Ny224.out] at ho5)); have HO226 := Aside0.mk (Kd.R_lower ho5 (below_size bz)); replace HB := Aside0.mk (below_step bz hb); clear hb ho5))
     go_loopg [4] k (fun kq v4 w' => ∃ (x3_1 : List (S85)) (x4_1 : Int), v4 = .int .i64 x4_1 ∧ Aside0 (laws_toVBlockS.l0 kq l0 x3_1 x4_1 = some r) ∧ Aside0 (kq ≤ k) ∧ Aside0 (Kd.R k85 85 w' w.heap.size (fun _ => True) v225 x3_1) ∧ Aside0 (Below w.heap.size w w'))
     case atStart => exact ⟨(y224), (0), sz_, H', ⟨Nat.le_refl _⟩, ⟨by (with_reducible repeat (first | apply Kd.R_alloc | apply Kd.R_drewN | apply Kd.R_drew)); exact HO226.out⟩, ⟨ bz⟩⟩
     case round =>
      clear H'
      obtain ⟨x3_1, x4_1, rfl, HA, HK1, HO_3, HB⟩ := hrel
      cases gk with
      | zero => exact absurd HA.out (by simp [laws_toVBlockS.l0])
      | succ k1 =>
       have H := HA.out
       clear HA
       simp only [laws_toVBlockS.l0] at H
       by_cases c6 : x4_1 < (l0.length : Int)
       · rw [if_pos c6] at H
         have c6b0 : decide (x4_1 < (l0.length : Int)) = true := decide_eq_true c6
         clear c6
         by_cases c7 : 0 ≤ x4_1
         · rw [if_pos c7] at H
           have c7b0 : decide (0 ≤ x4_1) = true := decide_eq_true c7
           clear c7
           replace H := Option.bind_eq_some_iff.mp H
           obtain ⟨t228, A80, H⟩ := H
           replace H : (if x4_1 < (x3_1.length : Int) then (laws_toVBlockS.l0 k1 l0 (x3_1.set (x4_1 : Int).toNat (⟨t228⟩ : S85)) (wrap64 (x4_1 + 1))) else (none)) = some r := H
           have A8 := Aside0.mk A80
           clear A80
           by_cases c9 : x4_1 < (x3_1.length : Int)
           · rw [if_pos c9] at H
             have c9b0 : decide (x4_1 < (x3_1.length : Int)) = true := decide_eq_true c9
             clear c9
             obtain ⟨y231, hy231⟩ : ∃ y_ : List (S85), y_ = (x3_1.set (x4_1 : Int).toNat (⟨t228⟩ : S85)) := ⟨_, rfl⟩
             replace H : (laws_toVBlockS.l0 k1 l0 y231 (wrap64 (x4_1 + 1))) = some r := by first | (rw [hy231]; with_reducible exact H) | (have H2_ := (Option.bind_some _ _).symm.trans H; rw [hy231]; with_reducible exact H2_) | (have H2_ := (Option.bind_some _ _).symm.trans H; with_reducible exact H2_) | with_reducible exact H | (rw [hy231]; exact H) | exact H
             have Ny231 := Aside0.mk hy231
             clear hy231
             have H' := Aside0.mk H
             clear H
             have p227 : 0 ≤ (x4_1 : Int) := of_decide_eq_true az
             have q227 : x4_1 < (l0.length : Int) := of_decide_eq_true az
             obtain ⟨ad227, A227_0, c227_0, e227, hx227_0, hl227_0, hi227_0⟩ := at_T165 HR0.out x4_1 p227 q227
             cases e227
             replace hx227_0 := ck HB hx227_0
             have HR227_0 := Aside0.mk hi227_0
             have HC227_0 := Aside0.mk hl227_0
             clear hi227_0 hl227_0
             replace p227 := eq_true p227
             replace q227 := eq_true q227
             go_wp2_with (first | ((with_reducible refine gate_callee (f := 117) rfl ?_); refine goesL_ (some 20) rfl rfl Try.func117 (by kernel_rfl) rfl #[.agg #[.slice A227_0 ((rd_T165 l0 x4_1).f0).length c227_0]] rfl lz ?_; (with_reducible refine (laws_toVBlock.calls k1 _ _ ((rd_T165 l0 x4_1).f0) t228 _ ?side1 ?side2 A8.out).mono ?_); (case side1 => exact cz HR227_0.out); (case side2 => exact HC227_0.out); rintro e w11 ⟨v229, rfl, ho0, hb⟩; refine ⟨_, rfl, ?_⟩; have HO230 := Aside0.mk (Kd.S_lower ho0 (below_size bz)); replace HO_3 := Aside0.mk (Kd.R_elder' (rz HO_3.out) (Kd.S_base ho0) hb); replace HB := Aside0.mk (below_step bz hb); have p10 : 0 ≤ (x4_1 : Int) := of_decide_eq_true az; have q10 : (x4_1 : Int) < ((x3_1.length : Int) : Int) := of_decide_eq_true az; obtain ⟨go10, co10, eo10, gb10, gl10, cl10, HG10⟩ := Kd.R_form HO_3.out (by omega); (first | cases eo10 | (injection eo10 with ea_ en_ ec_; (first | subst ea_ | (injection ea_ with ea_; subst ea_)); subst ec_; clear en_)); have GB10 := Aside0.mk gb10; have GG10 := Aside0.mk HG10; clear gb10 gl10 HG10; obtain ⟨ce10, hcl10, hM10, hcc10, hfr10⟩ := Kd.R_elem HO_3.out z85 (x4_1 : Int) p10 q10; obtain ⟨ve10_0, rfl, ge10_0⟩ := k85_openM hM10; have hx10_0 := hcc10 0 _ rfl; have hf10_0 := hfr10 0; (try simp only [show (k85).sz = 1 from rfl, Nat.mul_one, Nat.add_zero] at hx10_0); (try simp only [show (k85).sz = 1 from rfl, Nat.mul_one, Nat.add_zero] at hf10_0); clear hcl10 hcc10 hfr10 hM10; replace p10 := eq_true p10; replace q10 := eq_true q10; have n_ := Aside0.mk (Kd.R_mono (ok' := (fun k_ => some k_ ≠ (v229 : Value).ownBlock)) HO_3.out (fun k_ hk => hk.2)); clear HO_3; have HO_3 := n_; clear n_; have HX12 := Aside0.mk (show Kd.R k85 85 w11 w.heap.size (fun _ => True) (.slice (some ⟨go10, 0, none⟩) x3_1.length co10) x3_1 from (by (with_reducible repeat (first | apply Kd.R_alloc | apply Kd.R_drewN | apply Kd.R_drew)); exact Kd.R_mono HO_3.out (fun _ hk => trivial))); obtain ⟨ce12, hcl12, hM12, hcc12, hfr12⟩ := Kd.R_elem HX12.out z85 (x4_1 : Int) (of_decide_eq_true az) (by have h_ : (x4_1 : Int) < ((x3_1.length : Int) : Int) := of_decide_eq_true az; first | exact h_ | (have e_ := (Kd.R_reads' HO_3.out).1; omega) | simpa using h_); obtain ⟨ve12_0, rfl, ge12_0⟩ := k85_openM hM12; have HP12 := Kd.R_seg HX12.out (x4_1 : Int) (of_decide_eq_true az) (by have h_ : (x4_1 : Int) < ((x3_1.length : Int) : Int) := of_decide_eq_true az; first | exact h_ | (have e_ := (Kd.R_reads' HO_3.out).1; omega) | simpa using h_) (seg := [v229]) (j := 0) hcl12 hcc12 (show 1 ≤ 1 from by decide) (x' := (⟨t228⟩ : S85)) (k85_mkM _ _ _ (⟨t228⟩ : S85) (Kd.R_mono (Kd.R_apart' ((Kd.S_R HO230.out)) (Kd.R_typed HO_3.out) (by decide)) (fun k_ hk => ⟨trivial, fun e_ => (hk.2) (by rw [e_]; rfl)⟩))) (fun _ hk => hk); have hx12_0 := hcc12 0 _ rfl; (try simp only [show (k85).sz = 1 from rfl, Nat.mul_one, Nat.add_zero] at hx12_0); have hf12_0 := hfr12 0; (try simp only [show (k85).sz = 1 from rfl, Nat.mul_one, Nat.add_zero] at hf12_0); clear hcl12 hcc12 hfr12 hM12; (try simp only [show (k85).sz = 1 from rfl, Nat.mul_one, Nat.add_zero] at HP12)) | ((with_reducible refine gate_store (t := 85) (p := 21) rfl ?_); (try have st12_0 := fun (a_ : Addr) (m_ : Mode) (W_ : World) => run_store Try.prog W_ a_ v229 m_ (Kd.R_val (Kd.S_R HO230.out)).2); refine store_event (t := 85) (p := 21) (v := ?vo_w13) (w1 := (w11.setCell ⟨go10, (x4_1 : Int).toNat, none⟩ (v229))) ?hg ?ho ?hn ?hr ?_; (case ho => rfl); (case hg => rfl); (case hn => rfl); (case hr => first | (go_simp; done) | (go_simp; rfl)); intro w13 hw; have hg : w11.grownBy w13 (some go10) := (by rw [hw]; exact HP12.2); have hp_ : Kd.R k85 85 w13 w.heap.size (fun _ => True) (.slice (some ⟨go10, 0, none⟩) x3_1.length co10) y231 := (by rw [hw, Ny231.out]; exact HP12.1); clear HP12; replace HO_3 := Aside0.mk (hp_); replace HB := Aside0.mk ((by rw [hw]; exact below_set (HB.out) GB10.out : Below w.heap.size w w13)); clear HO230; clear hg hw hp_))
             go_roundg k1
             case measure => have := HK1.out; omega
             case rel => exact ⟨(y231), (wrap64 (x4_1 + 1)), sz_, H', ⟨by have := HK1.out; omega⟩, ⟨by (with_reducible repeat (first | apply Kd.R_alloc | apply Kd.R_drewN | apply Kd.R_drew)); exact HO_3.out⟩, ⟨ bz⟩⟩
           · rw [if_neg c9] at H
             exact absurd H (by simp)
         · rw [if_neg c7] at H
           exact absurd H (by simp)
       · rw [if_neg c6] at H
         have c6b0 : decide (x4_1 < (l0.length : Int)) = false := decide_eq_false c6
         clear c6
         obtain rfl := Option.some.inj H
         go_wp2
         go_ret
         exact ⟨_, by first | rfl | (simp [errW_none, errW_some] <;> rfl) | (simp [*, errW_none, errW_some] <;> rfl), by (with_reducible repeat (first | apply Kd.R_alloc | apply Kd.R_drewN | apply Kd.R_drew)); exact HO_3.out, bz⟩
   · rw [if_neg c3] at H
     exact absurd H (by simp)
 · rw [if_neg c2] at H
   exact absurd H (by simp)

set_option linter.unusedVariables false
set_option linter.unusedSimpArgs false

def laws_toVFunc.f (k : Nat) (a0_0 : Int) (l0_1 : List Int) (l0_2 : List (S165)) : Option (Int × List Int × (List (S85))) := (laws_toInt64S.f k l0_1).bind fun t235 => ((laws_toVBlockS.f k l0_2).bind fun t238 => (some (a0_0, t235, t238)))
set_option maxHeartbeats 8000000 in
set_option maxRecDepth 100000 in
theorem laws_toVFunc.calls (k : Nat) (a0_0 : Int) (A0_1 : Option Addr) (c0_1 : Nat) (l0_1 : List Int) (A0_2 : Option Addr) (c0_2 : Nat) (l0_2 : List (S165)) (r1 : Int) (r2 : List Int) (r3 : List (S85)) (w : World) (hr0_1 : Kd.C (Kd.int .i64) w A0_1 l0_1.length l0_1) (hc0_1 : l0_1.length ≤ c0_1) (hr0_2 : Kd.C k165 w A0_2 l0_2.length l0_2) (hc0_2 : l0_2.length ≤ c0_2) (h : laws_toVFunc.f k a0_0 l0_1 l0_2 = some (r1, r2, r3)) :
 Calls Try.prog 13 #[.agg #[.int .i64 a0_0, .slice A0_1 l0_1.length c0_1, .slice A0_2 l0_2.length c0_2]] w fun e w' => ∃ v1_ v2_ : Value, e = .returned (.agg #[.int .i64 r1, v1_, v2_]) ∧ Kd.R (Kd.int .i64) 2 w' w.heap.size (fun _ => True) v1_ r2 ∧ Kd.R k85 85 w' w.heap.size (fun k_ => some k_ ≠ (v1_ : Value).ownBlock) v2_ r3 ∧ Below w.heap.size w w' := by
 have hu25 := Try.underlying25
 have hu29 := Try.underlying29
 have HR0_1 := Aside0.mk hr0_1
 have HC0_1 := Aside0.mk hc0_1
 clear hr0_1 hc0_1
 have HR0_2 := Aside0.mk hr0_2
 have HC0_2 := Aside0.mk hc0_2
 clear hr0_2 hc0_2
 have HB := Aside0.mk (Below.refl w.heap.size w)
 have H : ((laws_toInt64S.f k l0_1).bind fun t235 => ((laws_toVBlockS.f k l0_2).bind fun t238 => (some (a0_0, t235, t238)))) = some (r1, r2, r3) := h
 clear h
 replace H := Option.bind_eq_some_iff.mp H
 obtain ⟨t235, A20, H⟩ := H
 replace H : ((laws_toVBlockS.f k l0_2).bind fun t238 => (some (a0_0, t235, t238))) = some (r1, r2, r3) := H
 have A2 := Aside0.mk A20
 clear A20
 replace H := Option.bind_eq_some_iff.mp H
 obtain ⟨t238, A30, H⟩ := H
 replace H : (some (a0_0, t235, t238)) = some (r1, r2, r3) := H
 have A3 := Aside0.mk A30
 clear A30
 simp only [Option.some.injEq, Prod.mk.injEq] at H
 obtain ⟨rfl, rfl, rfl⟩ := H
 go_enter Try.func13, Try.ntmps13
 go_wp2_with (first | ((with_reducible refine gate_dst (N := 1) rfl ?_); refine box_event ?hg (N := 1) ?hd (cs := #[.int .i64 a0_0, .slice A0_1 l0_1.length c0_1, .slice A0_2 l0_2.length c0_2]) (t := 25) ?hr ?_; (case hd => rfl); (case hg => rfl); (case hr => first | (go_simp; done) | (go_simp; rfl)); intro gb232 hg w4 hbox hb; have BK232 := Aside0.mk (hbox); have GW232 := Aside0.mk ((by rw [hg]; exact (below_size bz) : w.heap.size ≤ gb232)); have GE232 := Aside0.mk ((by rw [hg]; exact (below_size bz) : w.heap.size ≤ gb232)); replace HB := Aside0.mk (below_step bz hb); clear hb hbox hg) | ((with_reducible refine gate_dst (N := 2) rfl ?_); refine box_event ?hg (N := 2) ?hd (cs := #[.int .i64 0, .slice none 0 0, .slice none 0 0]) (t := 29) ?hr ?_; (case hd => rfl); (case hg => rfl); (case hr => first | (go_simp; done) | (go_simp; rfl)); intro gb233 hg w5 hbox hb; have BK233 := Aside0.mk (hbox); have GW233 := Aside0.mk ((by rw [hg]; exact (below_size bz) : w.heap.size ≤ gb233)); have GE233 := Aside0.mk ((by rw [hg]; exact (below_size bz) : w.heap.size ≤ gb233)); have NB232_233 := Aside0.mk ((by rw [hg]; exact Nat.ne_of_lt (blk_lt (g := gb232) (o := .cells #[.int .i64 a0_0, .slice A0_1 l0_1.length c0_1, .slice A0_2 l0_2.length c0_2] 25 (0, 0)) kz) : gb232 ≠ gb233)); have NB233_232 := Aside0.mk ((by rw [hg]; exact Nat.ne_of_gt (blk_lt (g := gb232) (o := .cells #[.int .i64 a0_0, .slice A0_1 l0_1.length c0_1, .slice A0_2 l0_2.length c0_2] 25 (0, 0)) kz) : gb233 ≠ gb232)); replace BK232 := Aside0.mk (blk_below (g := gb232) (o := .cells #[.int .i64 a0_0, .slice A0_1 l0_1.length c0_1, .slice A0_2 l0_2.length c0_2] 25 (0, 0)) kz hb); replace HB := Aside0.mk (below_step bz hb); clear hb hbox hg) | ((with_reducible refine gate_dst (N := 3) rfl ?_); refine box_event ?hg (N := 3) ?hd (cs := #[.int .i64 0, .slice none 0 0, .slice none 0 0]) (t := 29) ?hr ?_; (case hd => rfl); (case hg => rfl); (case hr => first | (go_simp; done) | (go_simp; rfl)); intro gb234 hg w6 hbox hb; have BK234 := Aside0.mk (hbox); have GW234 := Aside0.mk ((by rw [hg]; exact (below_size bz) : w.heap.size ≤ gb234)); have GE234 := Aside0.mk ((by rw [hg]; exact (below_size bz) : w.heap.size ≤ gb234)); have NB232_234 := Aside0.mk ((by rw [hg]; exact Nat.ne_of_lt (blk_lt (g := gb232) (o := .cells #[.int .i64 a0_0, .slice A0_1 l0_1.length c0_1, .slice A0_2 l0_2.length c0_2] 25 (0, 0)) kz) : gb232 ≠ gb234)); have NB234_232 := Aside0.mk ((by rw [hg]; exact Nat.ne_of_gt (blk_lt (g := gb232) (o := .cells #[.int .i64 a0_0, .slice A0_1 l0_1.length c0_1, .slice A0_2 l0_2.length c0_2] 25 (0, 0)) kz) : gb234 ≠ gb232)); have NB233_234 := Aside0.mk ((by rw [hg]; exact Nat.ne_of_lt (blk_lt (g := gb233) (o := .cells #[.int .i64 0, .slice none 0 0, .slice none 0 0] 29 (0, 0)) kz) : gb233 ≠ gb234)); have NB234_233 := Aside0.mk ((by rw [hg]; exact Nat.ne_of_gt (blk_lt (g := gb233) (o := .cells #[.int .i64 0, .slice none 0 0, .slice none 0 0] 29 (0, 0)) kz) : gb234 ≠ gb233)); replace BK232 := Aside0.mk (blk_below (g := gb232) (o := .cells #[.int .i64 a0_0, .slice A0_1 l0_1.length c0_1, .slice A0_2 l0_2.length c0_2] 25 (0, 0)) kz hb); replace BK233 := Aside0.mk (blk_below (g := gb233) (o := .cells #[.int .i64 0, .slice none 0 0, .slice none 0 0] 29 (0, 0)) kz hb); replace HB := Aside0.mk (below_step bz hb); clear hb hbox hg; have hnb7 := NB232_233.out; have hnc7 := NB233_232.out; have hnb8 := NB232_234.out; have hnc8 := NB234_232.out; have hcz9_0 : w6.cell? ⟨gb232, 0, none⟩ = some (.int .i64 a0_0) := (blk_cell BK232.out 0).trans rfl; have hcz9_1 : w6.cell? ⟨gb232, 1, none⟩ = some (.slice A0_1 l0_1.length c0_1) := (blk_cell BK232.out 1).trans rfl; have hcz9_2 : w6.cell? ⟨gb232, 2, none⟩ = some (.slice A0_2 l0_2.length c0_2) := (blk_cell BK232.out 2).trans rfl; have hfz9_0 := blk_frozen BK232.out 0; have hfz9_1 := blk_frozen BK232.out 1; have hfz9_2 := blk_frozen BK232.out 2; have hnb10 := NB234_233.out; have hnc10 := NB233_234.out; have hcz11_0 : w6.cell? ⟨gb234, 0, none⟩ = some (.int .i64 0) := (blk_cell BK234.out 0).trans rfl; have hcz11_1 : w6.cell? ⟨gb234, 1, none⟩ = some (.slice none 0 0) := (blk_cell BK234.out 1).trans rfl; have hcz11_2 : w6.cell? ⟨gb234, 2, none⟩ = some (.slice none 0 0) := (blk_cell BK234.out 2).trans rfl; have hfz11_0 := blk_frozen BK234.out 0; have hfz11_1 := blk_frozen BK234.out 1; have hfz11_2 := blk_frozen BK234.out 2) | ((with_reducible refine gate_callee (f := 62) rfl ?_); refine goesL_ (some 9) rfl rfl Try.func62 (by kernel_rfl) rfl #[.slice A0_1 l0_1.length c0_1] rfl lz ?_; (with_reducible refine (laws_toInt64S.calls k _ _ l0_1 t235 _ ?side1 ?side2 A2.out).mono ?_); (case side1 => exact Kd.C_below HR0_1.out bz); (case side2 => exact HC0_1.out); rintro e w12 ⟨v236, rfl, ho0, hb⟩; refine ⟨_, rfl, ?_⟩; have HO237 := Aside0.mk (Kd.R_lower ho0 (below_size bz)); replace BK232 := Aside0.mk (blk_below (g := gb232) (o := .cells #[.int .i64 a0_0, .slice A0_1 l0_1.length c0_1, .slice A0_2 l0_2.length c0_2] 25 (0, 0)) (by (with_reducible repeat (first | refine blk_drewN ?_ _ | refine blk_drew ?_ | refine blk_alloc ?_ _)); refine blk_far ?_ NB232_234.out _; (with_reducible repeat (first | refine blk_drewN ?_ _ | refine blk_drew ?_ | refine blk_alloc ?_ _)); exact BK232.out) hb); replace BK233 := Aside0.mk (blk_below (g := gb233) (o := .cells #[.int .i64 0, .slice none 0 0, .slice none 0 0] 29 (0, 0)) (by (with_reducible repeat (first | refine blk_drewN ?_ _ | refine blk_drew ?_ | refine blk_alloc ?_ _)); refine blk_far ?_ NB233_234.out _; (with_reducible repeat (first | refine blk_drewN ?_ _ | refine blk_drew ?_ | refine blk_alloc ?_ _)); exact BK233.out) hb); replace BK234 := Aside0.mk (blk_below (g := gb234) (o := .cells #[.int .i64 a0_0, .slice none 0 0, .slice none 0 0] 29 (0, 0)) (by (with_reducible repeat (first | refine blk_drewN ?_ _ | refine blk_drew ?_ | refine blk_alloc ?_ _)); refine blk_put (cs := #[.int .i64 0, .slice none 0 0, .slice none 0 0]) ?_ 0 _ rfl; (with_reducible repeat (first | refine blk_drewN ?_ _ | refine blk_drew ?_ | refine blk_alloc ?_ _)); exact BK234.out) hb); replace HB := Aside0.mk (below_step bz hb); obtain ⟨Ao13, co13, eo13⟩ := Kd.R_slice HO237.out; subst eo13; have hcz14_0 : w12.cell? ⟨gb234, 0, none⟩ = some (.int .i64 a0_0) := (blk_cell BK234.out 0).trans rfl; have hcz14_1 : w12.cell? ⟨gb234, 1, none⟩ = some (.slice none 0 0) := (blk_cell BK234.out 1).trans rfl; have hcz14_2 : w12.cell? ⟨gb234, 2, none⟩ = some (.slice none 0 0) := (blk_cell BK234.out 2).trans rfl; have hfz14_0 := blk_frozen BK234.out 0; have hfz14_1 := blk_frozen BK234.out 1; have hfz14_2 := blk_frozen BK234.out 2; have hcz15_0 : w12.cell? ⟨gb232, 0, none⟩ = some (.int .i64 a0_0) := (blk_cell BK232.out 0).trans rfl; have hcz15_1 : w12.cell? ⟨gb232, 1, none⟩ = some (.slice A0_1 l0_1.length c0_1) := (blk_cell BK232.out 1).trans rfl; have hcz15_2 : w12.cell? ⟨gb232, 2, none⟩ = some (.slice A0_2 l0_2.length c0_2) := (blk_cell BK232.out 2).trans rfl; have hfz15_0 := blk_frozen BK232.out 0; have hfz15_1 := blk_frozen BK232.out 1; have hfz15_2 := blk_frozen BK232.out 2) | ((with_reducible refine gate_callee (f := 63) rfl ?_); refine goesL_ (some 13) rfl rfl Try.func63 (by kernel_rfl) rfl #[.slice A0_2 l0_2.length c0_2] rfl lz ?_; (with_reducible refine (laws_toVBlockS.calls k _ _ l0_2 t238 _ ?side1 ?side2 A3.out).mono ?_); (case side1 => exact Kd.C_below HR0_2.out bz); (case side2 => exact HC0_2.out); rintro e w16 ⟨v239, rfl, ho0, hb⟩; refine ⟨_, rfl, ?_⟩; have HO240 := Aside0.mk (Kd.R_lower (Kd.R_new' ho0 (Kd.R_lt (by (with_reducible repeat (first | apply Kd.R_alloc | apply Kd.R_drewN | apply Kd.R_drew)); exact (Kd.R_mono (Kd.R_far (p := ⟨gb234, 1, none⟩) (Kd.R_types HO237.out BK234.out (by decide)) (fun _ hk => hk.2) (.slice Ao13 t235.length co13)) (fun _ h_ => h_.1))))) (below_size bz)); replace HO237 := Aside0.mk (Kd.R_below (by (with_reducible repeat (first | apply Kd.R_alloc | apply Kd.R_drewN | apply Kd.R_drew)); exact (Kd.R_mono (Kd.R_far (p := ⟨gb234, 1, none⟩) (Kd.R_types HO237.out BK234.out (by decide)) (fun _ hk => hk.2) (.slice Ao13 t235.length co13)) (fun _ h_ => h_.1))) hb); replace BK232 := Aside0.mk (blk_below (g := gb232) (o := .cells #[.int .i64 a0_0, .slice A0_1 l0_1.length c0_1, .slice A0_2 l0_2.length c0_2] 25 (0, 0)) (by (with_reducible repeat (first | refine blk_drewN ?_ _ | refine blk_drew ?_ | refine blk_alloc ?_ _)); refine blk_far ?_ NB232_234.out _; (with_reducible repeat (first | refine blk_drewN ?_ _ | refine blk_drew ?_ | refine blk_alloc ?_ _)); exact BK232.out) hb); replace BK233 := Aside0.mk (blk_below (g := gb233) (o := .cells #[.int .i64 0, .slice none 0 0, .slice none 0 0] 29 (0, 0)) (by (with_reducible repeat (first | refine blk_drewN ?_ _ | refine blk_drew ?_ | refine blk_alloc ?_ _)); refine blk_far ?_ NB233_234.out _; (with_reducible repeat (first | refine blk_drewN ?_ _ | refine blk_drew ?_ | refine blk_alloc ?_ _)); exact BK233.out) hb); replace BK234 := Aside0.mk (blk_below (g := gb234) (o := .cells #[.int .i64 a0_0, .slice Ao13 t235.length co13, .slice none 0 0] 29 (0, 0)) (by (with_reducible repeat (first | refine blk_drewN ?_ _ | refine blk_drew ?_ | refine blk_alloc ?_ _)); refine blk_put (cs := #[.int .i64 a0_0, .slice none 0 0, .slice none 0 0]) ?_ 1 _ rfl; (with_reducible repeat (first | refine blk_drewN ?_ _ | refine blk_drew ?_ | refine blk_alloc ?_ _)); exact BK234.out) hb); replace HB := Aside0.mk (below_step bz hb); obtain ⟨Ao17, co17, eo17⟩ := Kd.R_slice HO240.out; subst eo17; have hcz18_0 : w16.cell? ⟨gb234, 0, none⟩ = some (.int .i64 a0_0) := (blk_cell BK234.out 0).trans rfl; have hcz18_1 : w16.cell? ⟨gb234, 1, none⟩ = some (.slice Ao13 t235.length co13) := (blk_cell BK234.out 1).trans rfl; have hcz18_2 : w16.cell? ⟨gb234, 2, none⟩ = some (.slice none 0 0) := (blk_cell BK234.out 2).trans rfl; have hfz18_0 := blk_frozen BK234.out 0; have hfz18_1 := blk_frozen BK234.out 1; have hfz18_2 := blk_frozen BK234.out 2; have hcz19_0 : w16.cell? ⟨gb233, 0, none⟩ = some (.int .i64 0) := (blk_cell BK233.out 0).trans rfl; have hcz19_1 : w16.cell? ⟨gb233, 1, none⟩ = some (.slice none 0 0) := (blk_cell BK233.out 1).trans rfl; have hcz19_2 : w16.cell? ⟨gb233, 2, none⟩ = some (.slice none 0 0) := (blk_cell BK233.out 2).trans rfl; have hfz19_0 := blk_frozen BK233.out 0; have hfz19_1 := blk_frozen BK233.out 1; have hfz19_2 := blk_frozen BK233.out 2))
 refine bodyPost_ret (results_cell_row rfl _ _ gb233 29 #[.int .i64 a0_0, .slice Ao13 t235.length co13, .slice Ao17 t238.length co17] (0, 0) _ rfl (by (with_reducible repeat (first | refine blk_drewN ?_ _ | refine blk_drew ?_ | refine blk_alloc ?_ _)); refine blk_put (cs := #[.int .i64 a0_0, .slice Ao13 t235.length co13, .slice none 0 0]) ?_ 2 _ rfl; (with_reducible repeat (first | refine blk_drewN ?_ _ | refine blk_drew ?_ | refine blk_alloc ?_ _)); refine blk_put (cs := #[.int .i64 a0_0, .slice none 0 0, .slice none 0 0]) ?_ 1 _ rfl; (with_reducible repeat (first | refine blk_drewN ?_ _ | refine blk_drew ?_ | refine blk_alloc ?_ _)); refine blk_put (cs := #[.int .i64 0, .slice none 0 0, .slice none 0 0]) ?_ 0 _ rfl; (with_reducible repeat (first | refine blk_drewN ?_ _ | refine blk_drew ?_ | refine blk_alloc ?_ _)); refine blk_far ?_ NB233_234.out _; (with_reducible repeat (first | refine blk_drewN ?_ _ | refine blk_drew ?_ | refine blk_alloc ?_ _)); exact BK233.out) Try.underlying29 rfl (by kernel_rfl)) rfl ?_
 exact ⟨_, _, by first | rfl | (simp [errW_none, errW_some] <;> rfl) | (simp [*, errW_none, errW_some] <;> rfl), by (with_reducible repeat (first | apply Kd.R_alloc | apply Kd.R_drewN | apply Kd.R_drew)); exact Kd.R_mono (Kd.R_far (p := ⟨gb233, 2, none⟩) (Kd.R_far (p := ⟨gb233, 1, none⟩) (Kd.R_far (p := ⟨gb233, 0, none⟩) (Kd.R_far (p := ⟨gb234, 2, none⟩) (Kd.R_types (Kd.R_types HO237.out BK234.out (by decide)) BK233.out (by decide)) (fun _ hk => hk.1.2) (.slice Ao17 t238.length co17)) (fun _ hk => hk.2) (.int .i64 a0_0)) (fun _ hk => hk.2) (.slice Ao13 t235.length co13)) (fun _ hk => hk.2) (.slice Ao17 t238.length co17)) (fun _ hk => trivial), by (with_reducible repeat (first | apply Kd.R_alloc | apply Kd.R_drewN | apply Kd.R_drew)); exact Kd.R_mono (Kd.R_far (p := ⟨gb233, 2, none⟩) (Kd.R_far (p := ⟨gb233, 1, none⟩) (Kd.R_far (p := ⟨gb233, 0, none⟩) (Kd.R_far (p := ⟨gb234, 2, none⟩) (Kd.R_types (Kd.R_types HO240.out BK234.out (by decide)) BK233.out (by decide)) (fun _ hk => hk.1.2) (.slice Ao17 t238.length co17)) (fun _ hk => hk.2) (.int .i64 a0_0)) (fun _ hk => hk.2) (.slice Ao13 t235.length co13)) (fun _ hk => hk.2) (.slice Ao17 t238.length co17)) (fun _ hk => hk.1.1.2), bz⟩

set_option linter.unusedVariables false
set_option linter.unusedSimpArgs false

def laws_eqInt64S.l0 : Nat → List Int → List Int → Int → Option (Bool)
 | 0, _, _, _ => none
 | k + 1, x0, x1, x5 => if x5 < (x0.length : Int) then (if 0 ≤ x5 then (if x5 < (x1.length : Int) then (if (rd x0 x5) = (rd x1 x5) then (laws_eqInt64S.l0 k x0 x1 (wrap64 (x5 + 1))) else (some false)) else (none)) else (none)) else (some true)
def laws_eqInt64S.f (k : Nat) (l0 : List Int) (l1 : List Int) : Option (Bool) := if (l0.length : Int) = (l1.length : Int) then (laws_eqInt64S.l0 k l0 l1 0) else (some false)
set_option maxHeartbeats 8000000 in
set_option maxRecDepth 100000 in
theorem laws_eqInt64S.calls (k : Nat) (A0 : Option Addr) (c0 : Nat) (l0 : List Int) (A1 : Option Addr) (c1 : Nat) (l1 : List Int) (r : Bool) (w : World) (hr0 : Kd.C (Kd.int .i64) w A0 l0.length l0) (hc0 : l0.length ≤ c0) (hr1 : Kd.C (Kd.int .i64) w A1 l1.length l1) (hc1 : l1.length ≤ c1) (h : laws_eqInt64S.f k l0 l1 = some r) :
 Calls Try.prog 20 #[.slice A0 l0.length c0, .slice A1 l1.length c1] w fun e w' => e = .returned (.bool r) ∧ Drawn0 w w' := by
 have HR0 := Aside0.mk hr0
 have HC0 := Aside0.mk hc0
 clear hr0 hc0
 have HR1 := Aside0.mk hr1
 have HC1 := Aside0.mk hc1
 clear hr1 hc1
 have H : (if (l0.length : Int) = (l1.length : Int) then (laws_eqInt64S.l0 k l0 l1 0) else (some false)) = some r := h
 clear h
 by_cases c3 : (l0.length : Int) = (l1.length : Int)
 · rw [if_pos c3] at H
   have c3b0 : ((l0.length : Int) == (l1.length : Int)) = true := beq_iff_eq.mpr c3
   have c3b1 : ((l0.length : Int) != (l1.length : Int)) = false := bne_eq_false_iff_eq.mpr c3
   have c3b2 : (l0.length == l1.length) = true := by first | simpa using c3 | (simp at c3 ⊢; omega)
   clear c3
   have H' := Aside0.mk H
   clear H
   go_enter Try.func20, Try.ntmps20
   go_wp2
   repeat (go_quiet (fail); try go_wp2)
   go_loopg [5] k (fun kq v5 w' => ∃ (x5_1 : Int), v5 = .int .i64 x5_1 ∧ Aside0 (laws_eqInt64S.l0 kq l0 l1 x5_1 = some r) ∧ Aside0 (kq ≤ k) ∧ Drawn0 w w')
   case atStart => exact ⟨(0), sz_, H', ⟨Nat.le_refl _⟩, by repeat (first | exact Drawn0.refl _ | apply Drawn0.step)⟩
   case round =>
    clear H'
    obtain ⟨x5_1, rfl, HA, HK1, ⟨m1, rfl⟩⟩ := hrel
    cases gk with
    | zero => exact absurd HA.out (by simp [laws_eqInt64S.l0])
    | succ k1 =>
     have H := HA.out
     clear HA
     simp only [laws_eqInt64S.l0] at H
     by_cases c4 : x5_1 < (l0.length : Int)
     · rw [if_pos c4] at H
       have c4b0 : decide (x5_1 < (l0.length : Int)) = true := decide_eq_true c4
       clear c4
       by_cases c5 : 0 ≤ x5_1
       · rw [if_pos c5] at H
         have c5b0 : decide (0 ≤ x5_1) = true := decide_eq_true c5
         clear c5
         by_cases c6 : x5_1 < (l1.length : Int)
         · rw [if_pos c6] at H
           have c6b0 : decide (x5_1 < (l1.length : Int)) = true := decide_eq_true c6
           clear c6
           by_cases c7 : (rd l0 x5_1) = (rd l1 x5_1)
           · rw [if_pos c7] at H
             have c7b0 : ((rd l0 x5_1) == (rd l1 x5_1)) = true := beq_iff_eq.mpr c7
             have c7b1 : ((rd l0 x5_1) != (rd l1 x5_1)) = false := bne_eq_false_iff_eq.mpr c7
             clear c7
             have H' := Aside0.mk H
             clear H
             have p271 : 0 ≤ (x5_1 : Int) := of_decide_eq_true az
             have q271 : x5_1 < (l0.length : Int) := of_decide_eq_true az
             obtain ⟨ad271, e271, hx271_0⟩ := Kd.at_int HR0.out x5_1 p271 q271
             cases e271
             replace p271 := eq_true p271
             replace q271 := eq_true q271
             have p272 : 0 ≤ (x5_1 : Int) := of_decide_eq_true az
             have q272 : x5_1 < (l1.length : Int) := of_decide_eq_true az
             obtain ⟨ad272, e272, hx272_0⟩ := Kd.at_int HR1.out x5_1 p272 q272
             cases e272
             replace p272 := eq_true p272
             replace q272 := eq_true q272
             go_wp2
             repeat (go_quiet (fail); try go_wp2)
             go_roundg k1
             case measure => have := HK1.out; omega
             case rel => exact ⟨(wrap64 (x5_1 + 1)), sz_, H', ⟨by have := HK1.out; omega⟩, by repeat (first | exact Drawn0.refl _ | apply Drawn0.step)⟩
           · rw [if_neg c7] at H
             have c7b0 : ((rd l0 x5_1) == (rd l1 x5_1)) = false := beq_eq_false_iff_ne.mpr c7
             have c7b1 : ((rd l0 x5_1) != (rd l1 x5_1)) = true := bne_iff_ne.mpr c7
             obtain rfl := Option.some.inj H
             have p271 : 0 ≤ (x5_1 : Int) := of_decide_eq_true az
             have q271 : x5_1 < (l0.length : Int) := of_decide_eq_true az
             obtain ⟨ad271, e271, hx271_0⟩ := Kd.at_int HR0.out x5_1 p271 q271
             cases e271
             replace p271 := eq_true p271
             replace q271 := eq_true q271
             have p272 : 0 ≤ (x5_1 : Int) := of_decide_eq_true az
             have q272 : x5_1 < (l1.length : Int) := of_decide_eq_true az
             obtain ⟨ad272, e272, hx272_0⟩ := Kd.at_int HR1.out x5_1 p272 q272
             cases e272
             replace p272 := eq_true p272
             replace q272 := eq_true q272
             go_wp2
             repeat (go_quiet (fail); try go_wp2)
             go_ret
             exact ⟨by first | rfl | (simp; done) | (simp [*]; done), by repeat (first | exact Drawn0.refl _ | apply Drawn0.step)⟩
         · rw [if_neg c6] at H
           exact absurd H (by simp)
       · rw [if_neg c5] at H
         exact absurd H (by simp)
     · rw [if_neg c4] at H
       have c4b0 : decide (x5_1 < (l0.length : Int)) = false := decide_eq_false c4
       clear c4
       obtain rfl := Option.some.inj H
       go_wp2
       repeat (go_quiet (fail); try go_wp2)
       go_ret
       exact ⟨by first | rfl | (simp; done) | (simp [*]; done), by repeat (first | exact Drawn0.refl _ | apply Drawn0.step)⟩
 · rw [if_neg c3] at H
   have c3b0 : ((l0.length : Int) == (l1.length : Int)) = false := beq_eq_false_iff_ne.mpr c3
   have c3b1 : ((l0.length : Int) != (l1.length : Int)) = true := bne_iff_ne.mpr c3
   have c3b2 : (l0.length == l1.length) = false := by first | simpa using c3 | (simp at c3 ⊢; omega)
   obtain rfl := Option.some.inj H
   go_enter Try.func20, Try.ntmps20
   go_wp2
   repeat (go_quiet (fail); try go_wp2)
   go_ret
   exact ⟨by first | rfl | (simp; done) | (simp [*]; done), by repeat (first | exact Drawn0.refl _ | apply Drawn0.step)⟩

end Go.Proofs.Ythegbhfoleiegaa.All

/- What a mark leaves: the same blocks, cell by cell of the same make; only numbers, strings and bools of the blocks of S have changed. Shapes are kept by it, whatever is shared. -/
namespace Go.Proofs.Ythegbhfoleiegaa.All
open Go.RowKit Go.Proofs.YthegbhfoleiegaaW.PrintWords Go.Proofs.YthegbhfoleiegaaW.PrintLast Go.Proofs.YthegbhfoleiegaaW.PrintMore
set_option linter.unusedVariables false
set_option linter.unusedSimpArgs false
def simV (u v : Value) : Prop := v = u ∨ (∃ k a b, u = .int k a ∧ v = .int k b) ∨ (∃ a b, u = .string a ∧ v = .string b) ∨ (∃ a b, u = .bool a ∧ v = .bool b)
theorem simV.refl (u : Value) : simV u u := .inl rfl
theorem simV.int (k : IntKind) (a b : Int) : simV (.int k a) (.int k b) := .inr (.inl ⟨k, a, b, rfl, rfl⟩)
theorem simV.string (a b : ByteArray) : simV (.string a) (.string b) := .inr (.inr (.inl ⟨a, b, rfl, rfl⟩))
theorem simV.bool (a b : Bool) : simV (.bool a) (.bool b) := .inr (.inr (.inr ⟨a, b, rfl, rfl⟩))
theorem simV.trans {u v x : Value} (h : simV u v) (h' : simV v x) : simV u x := by
  rcases h with rfl | ⟨k, a, b, rfl, rfl⟩ | ⟨a, b, rfl, rfl⟩ | ⟨a, b, rfl, rfl⟩
  · exact h'
  · rcases h' with rfl | ⟨k', a', b', e, rfl⟩ | ⟨a', b', e, rfl⟩ | ⟨a', b', e, rfl⟩
    · exact simV.int _ _ _
    · injection e with e1 e2; subst e1; exact simV.int _ _ _
    · cases e
    · cases e
  · rcases h' with rfl | ⟨k', a', b', e, rfl⟩ | ⟨a', b', e, rfl⟩ | ⟨a', b', e, rfl⟩
    · exact simV.string _ _
    · cases e
    · exact simV.string _ _
    · cases e
  · rcases h' with rfl | ⟨k', a', b', e, rfl⟩ | ⟨a', b', e, rfl⟩ | ⟨a', b', e, rfl⟩
    · exact simV.bool _ _
    · cases e
    · cases e
    · exact simV.bool _ _
structure Sim (w W : World) (S : Nat → Prop) : Prop where
  os : W.os = w.os
  tape : W.tape = w.tape
  output : W.output = w.output
  size : w.heap.size ≤ W.heap.size
  out : ∀ b, b < w.heap.size → ¬ S b → W.heap[b]? = w.heap[b]?
  cells : ∀ (b : Nat) (cs : Array Value) (t : TypeId) (fr : Nat × Nat), w.heap[b]? = some (.cells cs t fr) → ∃ cs' : Array Value, W.heap[b]? = some (.cells cs' t fr) ∧ cs'.size = cs.size ∧ ∀ (j : Nat) (u : Value), cs[j]? = some u → ∃ v, cs'[j]? = some v ∧ simV u v
theorem Sim.refl (w : World) (S : Nat → Prop) : Sim w w S := ⟨rfl, rfl, rfl, Nat.le_refl _, fun _ _ _ => rfl, fun _ cs _ _ h => ⟨cs, h, rfl, fun _ u hu => ⟨u, hu, simV.refl u⟩⟩⟩
theorem Sim.trans {w W X : World} {S : Nat → Prop} (h : Sim w W S) (h' : Sim W X S) : Sim w X S := by
  refine ⟨h'.os.trans h.os, h'.tape.trans h.tape, h'.output.trans h.output, Nat.le_trans h.size h'.size, fun b hb hS => (h'.out b (Nat.lt_of_lt_of_le hb h.size) hS).trans (h.out b hb hS), fun b cs t fr hc => ?_⟩
  obtain ⟨c1, h1, s1, e1⟩ := h.cells b cs t fr hc
  obtain ⟨c2, h2, s2, e2⟩ := h'.cells b c1 t fr h1
  refine ⟨c2, h2, s2.trans s1, fun j u hu => ?_⟩
  obtain ⟨v, hv, x1⟩ := e1 j u hu
  obtain ⟨x, hx, x2⟩ := e2 j v hv
  exact ⟨x, hx, x1.trans x2⟩
theorem Sim.mono {w W : World} {S S' : Nat → Prop} (h : Sim w W S) (hs : ∀ k, S k → S' k) : Sim w W S' := ⟨h.os, h.tape, h.output, h.size, fun b hb hn => h.out b hb (fun k => hn (hs b k)), h.cells⟩
theorem Sim.of_below {w W : World} (h : Below w.heap.size w W) (S : Nat → Prop) : Sim w W S :=
  ⟨h.os, h.tape, h.output, h.size, fun b hb _ => h.block b hb, fun b cs _ _ hc => ⟨cs, (h.block b (blk_lt hc)).trans hc, rfl, fun _ u hu => ⟨u, hu, simV.refl u⟩⟩⟩
theorem Sim.drewN {w W : World} {S : Nat → Prop} (h : Sim w W S) (n : Nat) : Sim w (W.drewN n) S := ⟨h.os, h.tape, h.output, h.size, h.out, h.cells⟩
theorem Sim.drew {w W : World} {S : Nat → Prop} (h : Sim w W S) : Sim w W.drew S := ⟨h.os, h.tape, h.output, h.size, h.out, h.cells⟩
theorem Sim.set {W : World} {S : Nat → Prop} {g j : Nat} {cs : Array Value} {t : TypeId} (hb : W.heap[g]? = some (.cells cs t (0, 0))) {u v : Value} (hu : cs[j]? = some u) (hs : simV u v) (hS : S g) : Sim W (W.setCell ⟨g, j, none⟩ v) S := by
  refine ⟨rfl, rfl, rfl, by simp, fun b _ hn => Below.heap_setCell W ⟨g, j, none⟩ v b (fun e => hn (e ▸ hS)), fun b c t' fr hc => ?_⟩
  by_cases e : b = g
  · subst e
    rw [hb] at hc
    injection hc with hc
    injection hc with h1 h2 h3
    subst h1 h2 h3
    refine ⟨_, blk_set hb j v, by simp, fun i x hx => ?_⟩
    by_cases hi : i = j
    · subst hi
      rw [hu] at hx
      injection hx with hx
      subst hx
      have hl : i < cs.size := (Array.getElem?_eq_some_iff.1 hu).1
      exact ⟨v, by simp [Array.getElem?_setIfInBounds, hl], hs⟩
    · exact ⟨x, by rw [Array.getElem?_setIfInBounds_ne (Ne.symm hi)]; exact hx, simV.refl x⟩
  · exact ⟨c, (Below.heap_setCell W ⟨g, j, none⟩ v b e).trans hc, rfl, fun _ x hx => ⟨x, hx, simV.refl x⟩⟩
theorem Sim.setc {w W : World} {S : Nat → Prop} (h : Sim w W S) {g j : Nat} {t : TypeId} (hb : ∃ cs : Array Value, W.heap[g]? = some (.cells cs t (0, 0))) {u v : Value} (hu : W.cell? ⟨g, j, none⟩ = some u) (hs : simV u v) (hS : S g) : Sim w (W.setCell ⟨g, j, none⟩ v) S := by
  obtain ⟨cs, hb⟩ := hb
  rw [blk_cell hb j] at hu
  exact h.trans (Sim.set hb hu hs hS)
/-- A row's block under a change of this kind. -/
theorem Sim.blk {w W : World} {S : Nat → Prop} (h : Sim w W S) {g : Nat} {t : TypeId} (hb : ∃ cs : Array Value, w.heap[g]? = some (.cells cs t (0, 0))) : ∃ cs : Array Value, W.heap[g]? = some (.cells cs t (0, 0)) := by
  obtain ⟨cs, hb⟩ := hb
  obtain ⟨cs', h1, _⟩ := h.cells g cs t _ hb
  exact ⟨cs', h1⟩
theorem Sim.cell {w W : World} {S : Nat → Prop} (h : Sim w W S) {g j : Nat} {t : TypeId} (hb : ∃ cs : Array Value, w.heap[g]? = some (.cells cs t (0, 0))) {u : Value} (hu : w.cell? ⟨g, j, none⟩ = some u) : ∃ v, W.cell? ⟨g, j, none⟩ = some v ∧ simV u v := by
  obtain ⟨cs, hb⟩ := hb
  obtain ⟨cs', h1, _, h3⟩ := h.cells g cs t _ hb
  rw [blk_cell hb] at hu
  obtain ⟨v, hv, hs⟩ := h3 j u hu
  exact ⟨v, by rw [blk_cell h1]; exact hv, hs⟩
theorem Sim.frozen {w W : World} {S : Nat → Prop} (h : Sim w W S) {g j : Nat} {t : TypeId} (hb : ∃ cs : Array Value, w.heap[g]? = some (.cells cs t (0, 0))) : W.frozen? ⟨g, j, none⟩ = false := by
  obtain ⟨cs, h1⟩ := h.blk hb
  exact blk_frozen h1 j
theorem Sim.kept {w W : World} {S : Nat → Prop} (h : Sim w W S) : Kept w W S := ⟨h.size, h.out⟩
theorem Sim.below0 {w0 w W : World} {S : Nat → Prop} (h : Sim w W S) (hB : Below w0.heap.size w0 w) (hS : ∀ k, S k → w0.heap.size ≤ k) : Below w0.heap.size w0 W :=
  ⟨h.os.trans hB.os, h.tape.trans hB.tape, h.output.trans hB.output, Nat.le_trans hB.size h.size, fun k hk => (h.out k (Nat.lt_of_lt_of_le hk hB.size) (fun hs => by have := hS k hs; omega)).trans (hB.block k hk)⟩
/-! A kind whose values stay of one shape. -/
structure Shp {α : Type} (d : Kd α) where
  same : α → α → Prop
  refl : ∀ x, same x x
  sim : ∀ {w W : World} {S : Nat → Prop} {base : Nat} {ok : Nat → Prop} {x : α} {cs cs' : List Value}, Sim w W S → d.M w base ok x cs → cs'.length = cs.length → (∀ (j : Nat) (u : Value), cs[j]? = some u → ∃ v, cs'[j]? = some v ∧ simV u v) → ∃ x', d.M W base ok x' cs' ∧ same x x'
theorem list_of_all {α : Type} {P : Nat → α → Prop} : ∀ n : Nat, (∀ j, j < n → ∃ x, P j x) → ∃ l : List α, l.length = n ∧ ∀ (j : Nat) (x : α), l[j]? = some x → P j x
  | 0, _ => ⟨[], rfl, fun j x h => by simp at h⟩
  | n + 1, h => by
    obtain ⟨l, hl, hp⟩ := list_of_all n (fun j hj => h j (by omega))
    obtain ⟨x, hx⟩ := h n (by omega)
    refine ⟨l ++ [x], by simp [hl], fun j y hy => ?_⟩
    by_cases hj : j < n
    · rw [List.getElem?_append_left (by omega)] at hy
      exact hp j y hy
    · have hlt := (List.getElem?_eq_some_iff.1 hy).1
      simp [hl] at hlt
      have : j = n := by omega
      subst this
      rw [List.getElem?_append_right (by omega)] at hy
      simp [hl] at hy
      subst hy
      exact hx
def sameL {α : Type} (s : α → α → Prop) (xs ys : List α) : Prop := ys.length = xs.length ∧ ∀ (j : Nat) (x y : α), xs[j]? = some x → ys[j]? = some y → s x y
theorem sameL.refl {α : Type} {s : α → α → Prop} (h : ∀ x, s x x) (xs : List α) : sameL s xs xs := ⟨rfl, fun j x y hx hy => by rw [hx] at hy; injection hy with hy; subst hy; exact h x⟩
theorem Shp.R {α : Type} {d : Kd α} (sd : Shp d) {e : Nat} {w W : World} {S : Nat → Prop} {base : Nat} {ok : Nat → Prop} {v : Value} {xs : List α} (hs : Sim w W S) (h : d.R e w base ok v xs) : ∃ xs', d.R e W base ok v xs' ∧ sameL sd.same xs xs' := by
  obtain ⟨h0, inner, ⟨hil, ho⟩, hr⟩ := h
  rcases ho with ⟨rfl, hn⟩ | ⟨g, cap, cur, rfl, hb, hg, hnc, hcm, hcs, hin⟩
  · obtain rfl : xs = [] := List.eq_nil_of_length_eq_zero hn
    exact ⟨[], Kd.R_mono (Kd.R_nil d e W base _) (fun k hk => hk), ⟨rfl, fun j x y hx => by simp at hx⟩⟩
  · obtain ⟨cur', hg', hsz', hc'⟩ := hs.cells g cur e _ hg
    have hlen : cur.toList.length = cap * d.sz := by rw [Array.length_toList]; exact hcs
    have hmul : xs.length * d.sz ≤ cap * d.sz := Nat.mul_le_mul_right _ hnc
    have hel : ∀ j, j < xs.length → ∃ x', d.M W base (fun k => ok k ∧ some k ≠ (Value.slice (some ⟨g, 0, none⟩) xs.length cap).ownBlock) x' (((cur'.toList.take (xs.length * d.sz)).drop (j * d.sz)).take d.sz) ∧ ∀ x, xs[j]? = some x → sd.same x x' := by
      intro j hj
      have hx : xs[j]? = some xs[j] := List.getElem?_eq_getElem hj
      have hM := hr.2 j _ hx
      have hseg : j * d.sz + d.sz ≤ xs.length * d.sz := by rw [← Nat.succ_mul]; exact Nat.mul_le_mul_right _ hj
      obtain ⟨x', hM', hs'⟩ := sd.sim hs hM (cs' := ((cur'.toList.take (xs.length * d.sz)).drop (j * d.sz)).take d.sz) (by
        simp only [List.length_take, List.length_drop, Array.length_toList, ← hin, hsz']) (by
        intro i u hu
        rw [← hin] at hu
        rw [List.getElem?_take] at hu ⊢
        split at hu
        · rename_i hi
          rw [if_pos hi]
          rw [List.getElem?_drop, List.getElem?_take] at hu ⊢
          split at hu
          · rename_i h2
            rw [if_pos h2]
            rw [Array.getElem?_toList] at hu
            obtain ⟨v, hv, hsv⟩ := hc' _ u hu
            exact ⟨v, by rw [Array.getElem?_toList]; exact hv, hsv⟩
          · cases hu
        · cases hu)
      exact ⟨x', hM', fun x he => by rw [hx] at he; injection he with he; subst he; exact hs'⟩
    obtain ⟨xs', hl', hp'⟩ := list_of_all xs.length hel
    refine ⟨xs', ⟨h0, cur'.toList.take (xs.length * d.sz), ⟨?_, .inr ⟨g, cap, cur', by rw [hl'], hb, hg', by rw [hl']; exact hnc, hcm, hsz'.trans hcs, by rw [hl']⟩⟩, ?_, fun j p hj => (hp' j p hj).1⟩, hl', fun j x y hx hy => (hp' j y hy).2 x hx⟩
    · have e1 : cur'.toList.length = cap * d.sz := by rw [Array.length_toList, hsz', hcs]
      rw [List.length_take, e1, hl']; omega
    · have e1 : cur'.toList.length = cap * d.sz := by rw [Array.length_toList, hsz', hcs]
      rw [List.length_take, e1, hl']; omega
def Shp.int (k : IntKind) : Shp (Kd.int k) where
  same := fun _ _ => True
  refl := fun _ => trivial
  sim := by
    rintro w W S base ok x cs cs' _ rfl hl hc
    obtain ⟨v, hv, hs⟩ := hc 0 _ rfl
    obtain ⟨y, rfl⟩ : ∃ y, v = .int k y := by
      rcases hs with rfl | ⟨k', a, b, e, rfl⟩ | ⟨a, b, e, rfl⟩ | ⟨a, b, e, rfl⟩
      · exact ⟨x, rfl⟩
      · injection e with e1 _; subst e1; exact ⟨b, rfl⟩
      · cases e
      · cases e
    refine ⟨y, ?_, trivial⟩
    match cs', hl, hv with
    | [c], _, hv => simp at hv; subst hv; rfl
def Shp.string : Shp Kd.string where
  same := fun _ _ => True
  refl := fun _ => trivial
  sim := by
    rintro w W S base ok x cs cs' _ rfl hl hc
    obtain ⟨v, hv, hs⟩ := hc 0 _ rfl
    obtain ⟨y, rfl⟩ : ∃ y, v = .string y := by
      rcases hs with rfl | ⟨k', a, b, e, rfl⟩ | ⟨a, b, e, rfl⟩ | ⟨a, b, e, rfl⟩
      · exact ⟨x, rfl⟩
      · cases e
      · exact ⟨b, rfl⟩
      · cases e
    refine ⟨y, ?_, trivial⟩
    match cs', hl, hv with
    | [c], _, hv => simp at hv; subst hv; rfl
def Shp.bool : Shp Kd.bool where
  same := fun _ _ => True
  refl := fun _ => trivial
  sim := by
    rintro w W S base ok x cs cs' _ rfl hl hc
    obtain ⟨v, hv, hs⟩ := hc 0 _ rfl
    obtain ⟨y, rfl⟩ : ∃ y, v = .bool y := by
      rcases hs with rfl | ⟨k', a, b, e, rfl⟩ | ⟨a, b, e, rfl⟩ | ⟨a, b, e, rfl⟩
      · exact ⟨x, rfl⟩
      · cases e
      · cases e
      · exact ⟨b, rfl⟩
    refine ⟨y, ?_, trivial⟩
    match cs', hl, hv with
    | [c], _, hv => simp at hv; subst hv; rfl
def Shp.slice {α : Type} {d : Kd α} (e : Nat) (sd : Shp d) : Shp (Kd.slice e d) where
  same := sameL sd.same
  refl := sameL.refl sd.refl
  sim := by
    rintro w W S base ok x cs cs' hs ⟨v, rfl, hR⟩ hl hc
    obtain ⟨v', hv, hsv⟩ := hc 0 _ rfl
    obtain ⟨A, c, rfl⟩ := Kd.R_slice hR
    obtain rfl : v' = .slice A x.length c := by
      rcases hsv with h | ⟨k', a, b, e, _⟩ | ⟨a, b, e, _⟩ | ⟨a, b, e, _⟩
      · exact h
      · cases e
      · cases e
      · cases e
    obtain ⟨xs', h1, h2⟩ := sd.R hs hR
    refine ⟨xs', ⟨_, ?_, h1⟩, h2⟩
    match cs', hl, hv with
    | [c], _, hv => simp at hv; subst hv; rfl
def Shp.pair {α β : Type} {a : Kd α} {b : Kd β} (sa : Shp a) (sb : Shp b) : Shp (Kd.pair a b) where
  same := fun x y => sa.same x.1 y.1 ∧ sb.same x.2 y.2
  refl := fun x => ⟨sa.refl _, sb.refl _⟩
  sim := by
    rintro w W S base ok x cs cs' hs ⟨c0, c1, rfl, h0, h1⟩ hl hc
    have l0 := a.K_len (a.K_of_M h0)
    have l1 := b.K_len (b.K_of_M h1)
    rw [List.length_append] at hl
    obtain ⟨y0, m0, s0⟩ := sa.sim (cs' := cs'.take c0.length) hs h0 (by rw [List.length_take]; omega) (by
      intro j u hu
      have hj := (List.getElem?_eq_some_iff.1 hu).1
      obtain ⟨v, hv, hsv⟩ := hc j u (by rw [List.getElem?_append_left hj]; exact hu)
      exact ⟨v, by rw [List.getElem?_take, if_pos hj]; exact hv, hsv⟩)
    obtain ⟨y1, m1, s1⟩ := sb.sim (cs' := cs'.drop c0.length) hs h1 (by rw [List.length_drop]; omega) (by
      intro j u hu
      obtain ⟨v, hv, hsv⟩ := hc (c0.length + j) u (by rw [List.getElem?_append_right (by omega), Nat.add_sub_cancel_left]; exact hu)
      exact ⟨v, by rw [List.getElem?_drop]; exact hv, hsv⟩)
    exact ⟨(y0, y1), ⟨cs'.take c0.length, cs'.drop c0.length, (List.take_append_drop _ _).symm, m0, m1⟩, s0, s1⟩
def Shp.iso {α β : Type} {d : Kd α} (sd : Shp d) (f : β → α) (g : α → β) (h : ∀ y, f (g y) = y) : Shp (Kd.iso d f) where
  same := fun x y => sd.same (f x) (f y)
  refl := fun x => sd.refl _
  sim := by
    intro w W S base ok x cs cs' hs hM hl hc
    obtain ⟨y, m, s⟩ := sd.sim hs (show d.M w base ok (f x) cs from hM) hl hc
    refine ⟨g y, ?_, by rw [h]; exact s⟩
    show d.M W base ok (f (g y)) cs'
    rw [h]
    exact m
/-- What is made is bounded below by its base. -/
theorem Kd.R_based {α : Type} {d : Kd α} {e base : Nat} {w : World} {ok : Nat → Prop} {v : Value} {xs : List α} (h : d.R e w base ok v xs) : d.R e w base (fun k => ok k ∧ base ≤ k) v xs := Kd.R_mono (Kd.R_bound h) (fun _ hk => ⟨hk.1, hk.2.1⟩)
theorem sameL_sum {α : Type} {s : α → α → Prop} {c : α → Nat} : ∀ {xs ys : List α}, sameL s xs ys → (∀ x y, s x y → c y = c x) → (ys.map c).sum = (xs.map c).sum
  | [], [], _, _ => rfl
  | [], _ :: _, h, _ => by have := h.1; simp at this
  | _ :: _, [], h, _ => by have := h.1; simp at this
  | x :: xs, y :: ys, h, hc => by
    have h1 := hc x y (h.2 0 x y rfl rfl)
    have h2 := sameL_sum (xs := xs) (ys := ys) ⟨by have := h.1; simpa using this, fun j a b ha hb => h.2 (j + 1) a b (by simpa using ha) (by simpa using hb)⟩ hc
    simp [h1, h2]
theorem sum_take_succ {α : Type} (c : α → Nat) (z : α) : ∀ (xs : List α) (m : Nat), m < xs.length → ((xs.take (m + 1)).map c).sum = ((xs.take m).map c).sum + c (xs.getD m z)
  | x :: xs, 0, _ => by simp
  | x :: xs, m + 1, h => by
    have := sum_take_succ c z xs m (by simpa using h)
    simp only [List.take_succ_cons, List.map_cons, List.sum_cons, List.getD_cons_succ] at this ⊢
    omega
theorem sum_take_le {α : Type} (c : α → Nat) : ∀ (xs : List α) (m : Nat), ((xs.take m).map c).sum ≤ (xs.map c).sum
  | [], m => by simp
  | x :: xs, 0 => by simp
  | x :: xs, m + 1 => by
    have := sum_take_le c xs m
    simp only [List.take_succ_cons, List.map_cons, List.sum_cons]
    omega
theorem Sim.scal_int {w W : World} {S : Nat → Prop} (h : Sim w W S) {g j : Nat} {t : TypeId} (hb : ∃ cs : Array Value, w.heap[g]? = some (.cells cs t (0, 0))) {k : IntKind} {a : Int} (hu : w.cell? ⟨g, j, none⟩ = some (.int k a)) : ∃ b, W.cell? ⟨g, j, none⟩ = some (.int k b) := by
  obtain ⟨v, hv, hs⟩ := h.cell hb hu
  rcases hs with rfl | ⟨k', a', b', e, rfl⟩ | ⟨a', b', e, rfl⟩ | ⟨a', b', e, rfl⟩
  · exact ⟨_, hv⟩
  · injection e with e1 _; subst e1; exact ⟨_, hv⟩
  · cases e
  · cases e
theorem Sim.scal_string {w W : World} {S : Nat → Prop} (h : Sim w W S) {g j : Nat} {t : TypeId} (hb : ∃ cs : Array Value, w.heap[g]? = some (.cells cs t (0, 0))) {a : ByteArray} (hu : w.cell? ⟨g, j, none⟩ = some (.string a)) : ∃ b, W.cell? ⟨g, j, none⟩ = some (.string b) := by
  obtain ⟨v, hv, hs⟩ := h.cell hb hu
  rcases hs with rfl | ⟨k', a', b', e, rfl⟩ | ⟨a', b', e, rfl⟩ | ⟨a', b', e, rfl⟩
  · exact ⟨_, hv⟩
  · cases e
  · exact ⟨_, hv⟩
  · cases e
theorem Sim.slc {w W : World} {S : Nat → Prop} (h : Sim w W S) {g j : Nat} {t : TypeId} (hb : ∃ cs : Array Value, w.heap[g]? = some (.cells cs t (0, 0))) {A : Option Addr} {n c : Nat} (hu : w.cell? ⟨g, j, none⟩ = some (.slice A n c)) : W.cell? ⟨g, j, none⟩ = some (.slice A n c) := by
  obtain ⟨v, hv, hs⟩ := h.cell hb hu
  rcases hs with rfl | ⟨k', a', b', e, rfl⟩ | ⟨a', b', e, rfl⟩ | ⟨a', b', e, rfl⟩
  · exact hv
  · cases e
  · cases e
  · cases e
theorem Sim.putw {w W : World} {S : Nat → Prop} {g j : Nat} {t : TypeId} {k : IntKind} {a b : Int} (h : Sim w W S) (hb : ∃ cs : Array Value, w.heap[g]? = some (.cells cs t (0, 0))) (hu : w.cell? ⟨g, j, none⟩ = some (.int k a)) (hS : S g) : Sim w (W.setCell ⟨g, j, none⟩ (.int k b)) S := by
  obtain ⟨b', hv⟩ := h.scal_int hb hu
  exact h.setc (h.blk hb) hv (simV.int _ _ _) hS
theorem Sim.puts {w W : World} {S : Nat → Prop} {g j : Nat} {t : TypeId} {a b : ByteArray} (h : Sim w W S) (hb : ∃ cs : Array Value, w.heap[g]? = some (.cells cs t (0, 0))) (hu : w.cell? ⟨g, j, none⟩ = some (.string a)) (hS : S g) : Sim w (W.setCell ⟨g, j, none⟩ (.string b)) S := by
  obtain ⟨b', hv⟩ := h.scal_string hb hu
  exact h.setc (h.blk hb) hv (simV.string _ _) hS
theorem Kd.R_slice' {α : Type} {d : Kd α} {e base : Nat} {w : World} {ok : Nat → Prop} {v : Value} {xs : List α} (h : d.R e w base ok v xs) : ∃ (A : Option Addr) (n c : Nat), v = .slice A n c := by
  obtain ⟨A, c, e⟩ := Kd.R_slice h
  exact ⟨A, _, c, e⟩
/-- A call's world, under a name. -/
theorem calls_at {P : Program} {f : FuncId} {args : Array Value} {w : World} {Q : Ending → World → Prop} (I : World → Prop) (hw : I w) (h : ∀ W, I W → Calls P f args W Q) : Calls P f args w Q := h w hw
theorem len_le_sum {α : Type} {c : α → Nat} : ∀ (xs : List α), (∀ x, 1 ≤ c x) → xs.length ≤ (xs.map c).sum
  | [], _ => Nat.le_refl _
  | x :: xs, h => by
    have h1 := h x
    have h2 := len_le_sum xs h
    simp only [List.length_cons, List.map_cons, List.sum_cons]
    omega
theorem Kd.R_old2 {α : Type} {d : Kd α} {e base : Nat} {w : World} {ok : Nat → Prop} {v : Value} {xs : List α} (h : d.R e w base ok v xs) : d.R e w base (fun k => ok k ∧ k < w.heap.size) v xs := Kd.R_mono (Kd.R_bound h) (fun _ hk => ⟨hk.1, hk.2.2.1⟩)
theorem alloc2_0 (w : World) (o o' : Obj) : ((w.alloc o).alloc o').heap[w.heap.size]? = some o := ((below_alloc (Below.refl (w.alloc o).heap.size (w.alloc o)) o').block w.heap.size (by simp)).trans (heap_alloc_new w o)
theorem alloc2_1 (w : World) (o o' : Obj) : ((w.alloc o).alloc o').heap[w.heap.size + 1]? = some o' := by
  have h := heap_alloc_new (w.alloc o) o'
  rw [World.size_alloc] at h
  exact h
end Go.Proofs.Ythegbhfoleiegaa.All

namespace Go.Proofs.Ythegbhfoleiegaa.All
open Go.RowKit Go.Proofs.YthegbhfoleiegaaW.PrintWords Go.Proofs.YthegbhfoleiegaaW.PrintLast Go.Proofs.YthegbhfoleiegaaW.PrintMore
attribute [local go_sem] max2_int min2_int max_two min_two max_three min_three max_four min_four   -- for this text's walks alone
set_option linter.unusedVariables false
set_option linter.unusedSimpArgs false

def laws_eqVIns.f (k : Nat) (a0_0 : Int) (a0_1 : Int) (a0_2 : Int) (a0_3 : Int) (a0_4 : Int) (a0_5 : Int) (a0_6 : ByteArray) (l0_7 : List Int) (a1_0 : Int) (a1_1 : Int) (a1_2 : Int) (a1_3 : Int) (a1_4 : Int) (a1_5 : Int) (a1_6 : ByteArray) (l1_7 : List Int) : Option Bool := if a0_0 = a1_0 then (if a0_1 = a1_1 then (if a0_2 = a1_2 then (if a0_3 = a1_3 then (if a0_4 = a1_4 then (if a0_5 = a1_5 then (if a0_6 = a1_6 then (((laws_eqInt64S.f k l0_7 l1_7).bind fun t7 => (if t7 = true then (some true) else none))) else none) else none) else none) else none) else none) else none) else none
set_option maxHeartbeats 4000000 in
set_option maxRecDepth 100000 in
theorem laws_eqVIns.calls (k : Nat) (a0_0 : Int) (a0_1 : Int) (a0_2 : Int) (a0_3 : Int) (a0_4 : Int) (a0_5 : Int) (a0_6 : ByteArray) (A0_7 : Option Addr) (c0_7 : Nat) (l0_7 : List Int) (a1_0 : Int) (a1_1 : Int) (a1_2 : Int) (a1_3 : Int) (a1_4 : Int) (a1_5 : Int) (a1_6 : ByteArray) (A1_7 : Option Addr) (c1_7 : Nat) (l1_7 : List Int) (r : Bool) (w : World) (hr0_7 : Kd.C (Kd.int .i64) w A0_7 l0_7.length l0_7) (hc0_7 : l0_7.length ≤ c0_7) (hr1_7 : Kd.C (Kd.int .i64) w A1_7 l1_7.length l1_7) (hc1_7 : l1_7.length ≤ c1_7) (h : laws_eqVIns.f k a0_0 a0_1 a0_2 a0_3 a0_4 a0_5 a0_6 l0_7 a1_0 a1_1 a1_2 a1_3 a1_4 a1_5 a1_6 l1_7 = some r) :
 Calls Try.prog 189 #[.agg #[.int .i64 a0_0, .int .i64 a0_1, .int .i64 a0_2, .int .i64 a0_3, .int .i64 a0_4, .int .i64 a0_5, .string a0_6, .slice A0_7 l0_7.length c0_7], .agg #[.int .i64 a1_0, .int .i64 a1_1, .int .i64 a1_2, .int .i64 a1_3, .int .i64 a1_4, .int .i64 a1_5, .string a1_6, .slice A1_7 l1_7.length c1_7]] w fun e w' => e = .returned (.bool r) ∧ Below w.heap.size w w' := by
 unfold laws_eqVIns.f at h
 by_cases e0 : a0_0 = a1_0
 rotate_left
 · rw [if_neg e0] at h; cases h
 rw [if_pos e0] at h
 subst e0
 by_cases e1 : a0_1 = a1_1
 rotate_left
 · rw [if_neg e1] at h; cases h
 rw [if_pos e1] at h
 subst e1
 by_cases e2 : a0_2 = a1_2
 rotate_left
 · rw [if_neg e2] at h; cases h
 rw [if_pos e2] at h
 subst e2
 by_cases e3 : a0_3 = a1_3
 rotate_left
 · rw [if_neg e3] at h; cases h
 rw [if_pos e3] at h
 subst e3
 by_cases e4 : a0_4 = a1_4
 rotate_left
 · rw [if_neg e4] at h; cases h
 rw [if_pos e4] at h
 subst e4
 by_cases e5 : a0_5 = a1_5
 rotate_left
 · rw [if_neg e5] at h; cases h
 rw [if_pos e5] at h
 subst e5
 by_cases e6 : a0_6 = a1_6
 rotate_left
 · rw [if_neg e6] at h; cases h
 rw [if_pos e6] at h
 subst e6
 obtain ⟨t7, b7, h7⟩ := Option.bind_eq_some_iff.mp h
 clear h
 by_cases e7 : t7 = true
 rotate_left
 · rw [if_neg e7] at h7; cases h7
 rw [if_pos e7] at h7
 subst e7
 have B7 := Aside0.mk b7
 clear b7
 obtain rfl := Option.some.inj h7
 clear h7
 have R0_7 := Aside0.mk hr0_7; have C0_7 := Aside0.mk hc0_7; clear hr0_7 hc0_7
 have R1_7 := Aside0.mk hr1_7; have C1_7 := Aside0.mk hc1_7; clear hr1_7 hc1_7
 have hu := Try.underlying87
 go_enter Try.func189, Try.ntmps189
 go_wp2_with (first | (go_at_call 20; refine calls_at (fun W => Below w.heap.size w W ∧ W.heap[w.heap.size]? = some (.cells #[.int .i64 a0_0, .int .i64 a0_1, .int .i64 a0_2, .int .i64 a0_3, .int .i64 a0_4, .int .i64 a0_5, .string a0_6, .slice A0_7 l0_7.length c0_7] 87 (0, 0)) ∧ W.heap[w.heap.size + 1]? = some (.cells #[.int .i64 a0_0, .int .i64 a0_1, .int .i64 a0_2, .int .i64 a0_3, .int .i64 a0_4, .int .i64 a0_5, .string a0_6, .slice A1_7 l1_7.length c1_7] 87 (0, 0))) ?h_7 ?_; (case h_7 => exact ⟨below_alloc (below_alloc (Below.refl _ _) _) _, alloc2_0 _ _ _, alloc2_1 _ _ _⟩); rintro W7 ⟨b7, p7, q7⟩; refine (laws_eqInt64S.calls k A0_7 c0_7 l0_7 A1_7 c1_7 l1_7 true W7 (Kd.C_below R0_7.out b7) C0_7.out (Kd.C_below R1_7.out b7) C1_7.out B7.out).mono ?_; rintro e w7 ⟨rfl, d7⟩; have d7 := d7.below; have BW7 := Aside0.mk (below_step b7 d7); have P7 := Aside0.mk ((d7.block _ (blk_lt p7)).trans p7); have Q7 := Aside0.mk ((d7.block _ (blk_lt q7)).trans q7); clear b7 p7 q7 d7))
 go_ret
 exact ⟨rfl, BW7.out⟩

set_option linter.unusedVariables false
set_option linter.unusedSimpArgs false

def laws_eqVInsS.l0 : Nat → List (S87) → List (S87) → Int → Option (Bool)
 | 0, _, _, _ => none
 | k + 1, x0, x1, x5 => if x5 < (x0.length : Int) then (if 0 ≤ x5 then (if x5 < (x1.length : Int) then ((laws_eqVIns.f k ((rd_T87 x0 x5).f0) ((rd_T87 x0 x5).f1) ((rd_T87 x0 x5).f2) ((rd_T87 x0 x5).f3) ((rd_T87 x0 x5).f4) ((rd_T87 x0 x5).f5) ((rd_T87 x0 x5).f6) ((rd_T87 x0 x5).f7) ((rd_T87 x1 x5).f0) ((rd_T87 x1 x5).f1) ((rd_T87 x1 x5).f2) ((rd_T87 x1 x5).f3) ((rd_T87 x1 x5).f4) ((rd_T87 x1 x5).f5) ((rd_T87 x1 x5).f6) ((rd_T87 x1 x5).f7)).bind fun t275 => (if t275 = true then (laws_eqVInsS.l0 k x0 x1 (wrap64 (x5 + 1))) else (some false))) else (none)) else (none)) else (some true)
def laws_eqVInsS.f (k : Nat) (l0 : List (S87)) (l1 : List (S87)) : Option (Bool) := if (l0.length : Int) = (l1.length : Int) then (laws_eqVInsS.l0 k l0 l1 0) else (some false)
def laws_eqVInsS.T6 : Bool × List (List Nat × List Nat) := (true, [([], []), ([], []), ([0, 1], [0, 1]), ([2], [2]), ([], []), ([], []), ([4, 5], [4, 5]), ([6], [6]), ([3, 7], [3, 7]), ([8], [8])])
def laws_eqVInsS.B6 : List Nat := [0, 0, 3, 7, 0, 0, 48, 112, 255, 511]
theorem laws_eqVInsS.tab6 : rtab .any (opsOf Try.f155 6) = laws_eqVInsS.T6 := by kernel_rfl
theorem laws_eqVInsS.bits6 : waitsOk laws_eqVInsS.T6.2 laws_eqVInsS.B6 = true := by kernel_rfl
set_option maxHeartbeats 8000000 in
set_option maxRecDepth 100000 in
theorem laws_eqVInsS.calls (k : Nat) (A0 : Option Addr) (c0 : Nat) (l0 : List (S87)) (A1 : Option Addr) (c1 : Nat) (l1 : List (S87)) (r : Bool) (w : World) (hr0 : Kd.C k87 w A0 l0.length l0) (hc0 : l0.length ≤ c0) (hr1 : Kd.C k87 w A1 l1.length l1) (hc1 : l1.length ≤ c1) (h : laws_eqVInsS.f k l0 l1 = some r) :
 Calls Try.prog 155 #[.slice A0 l0.length c0, .slice A1 l1.length c1] w fun e w' => e = .returned (.bool r) ∧ Below w.heap.size w w' := by
 have hu87 := Try.underlying87
 have HR0 := Aside0.mk hr0
 have HC0 := Aside0.mk hc0
 clear hr0 hc0
 have HR1 := Aside0.mk hr1
 have HC1 := Aside0.mk hc1
 clear hr1 hc1
 have HB := Aside0.mk (Below.refl w.heap.size w)
 have H : (if (l0.length : Int) = (l1.length : Int) then (laws_eqVInsS.l0 k l0 l1 0) else (some false)) = some r := h
 clear h
 by_cases c3 : (l0.length : Int) = (l1.length : Int)
 · rw [if_pos c3] at H
   have c3b0 : ((l0.length : Int) == (l1.length : Int)) = true := beq_iff_eq.mpr c3
   have c3b1 : ((l0.length : Int) != (l1.length : Int)) = false := bne_eq_false_iff_eq.mpr c3
   have c3b2 : (l0.length == l1.length) = true := by first | simpa using c3 | (simp at c3 ⊢; omega)
   clear c3
   have H' := Aside0.mk H
   clear H
   go_enter Try.func155, Try.ntmps155
   go_wp2
   go_loopg [5] k (fun kq v5 w' => ∃ (x5_1 : Int), v5 = .int .i64 x5_1 ∧ Aside0 (laws_eqVInsS.l0 kq l0 l1 x5_1 = some r) ∧ Aside0 (kq ≤ k) ∧ Aside0 (Below w.heap.size w w'))
   case atStart => exact ⟨(0), sz_, H', ⟨Nat.le_refl _⟩, ⟨ bz⟩⟩
   case round =>
    clear H'
    obtain ⟨x5_1, rfl, HA, HK1, HB⟩ := hrel
    cases gk with
    | zero => exact absurd HA.out (by simp [laws_eqVInsS.l0])
    | succ k1 =>
     have H := HA.out
     clear HA
     simp only [laws_eqVInsS.l0] at H
     by_cases c4 : x5_1 < (l0.length : Int)
     · rw [if_pos c4] at H
       have c4b0 : decide (x5_1 < (l0.length : Int)) = true := decide_eq_true c4
       clear c4
       by_cases c5 : 0 ≤ x5_1
       · rw [if_pos c5] at H
         have c5b0 : decide (0 ≤ x5_1) = true := decide_eq_true c5
         clear c5
         by_cases c6 : x5_1 < (l1.length : Int)
         · rw [if_pos c6] at H
           have c6b0 : decide (x5_1 < (l1.length : Int)) = true := decide_eq_true c6
           clear c6
           replace H := Option.bind_eq_some_iff.mp H
           obtain ⟨t275, A70, H⟩ := H
           replace H : (if t275 = true then (laws_eqVInsS.l0 k1 l0 l1 (wrap64 (x5_1 + 1))) else (some false)) = some r := H
           have A7 := Aside0.mk A70
           clear A70
           by_cases c8 : t275 = true
           · subst c8
             have H1 : (laws_eqVInsS.l0 k1 l0 l1 (wrap64 (x5_1 + 1))) = some r := by rw [if_pos rfl] at H; exact H
             clear H
             have H := H1
             clear H1
             have H' := Aside0.mk H
             clear H
             try go_wp2
             replace HB := Aside0.mk (below_drew1 HB.out)
             have p273 : 0 ≤ (x5_1 : Int) := of_decide_eq_true az
             have q273 : x5_1 < (l0.length : Int) := of_decide_eq_true az
             obtain ⟨ad273, A273_7, c273_7, e273, hx273_0, hx273_1, hx273_2, hx273_3, hx273_4, hx273_5, hx273_6, hx273_7, hl273_7, hi273_7⟩ := at_T87 HR0.out x5_1 p273 q273
             have hw273_7 := hx273_7
             have hw273_6 := hx273_6
             have hw273_5 := hx273_5
             have hw273_4 := hx273_4
             have hw273_3 := hx273_3
             have hw273_2 := hx273_2
             have hw273_1 := hx273_1
             have hw273_0 := hx273_0
             cases e273
             replace hx273_0 := ck HB hx273_0
             replace hx273_1 := ck HB hx273_1
             replace hx273_2 := ck HB hx273_2
             replace hx273_3 := ck HB hx273_3
             replace hx273_4 := ck HB hx273_4
             replace hx273_5 := ck HB hx273_5
             replace hx273_6 := ck HB hx273_6
             replace hx273_7 := ck HB hx273_7
             have HR273_7 := Aside0.mk hi273_7
             have HC273_7 := Aside0.mk hl273_7
             clear hi273_7 hl273_7
             replace p273 := eq_true p273
             replace q273 := eq_true q273
             have p274 : 0 ≤ (x5_1 : Int) := of_decide_eq_true az
             have q274 : x5_1 < (l1.length : Int) := of_decide_eq_true az
             obtain ⟨ad274, A274_7, c274_7, e274, hx274_0, hx274_1, hx274_2, hx274_3, hx274_4, hx274_5, hx274_6, hx274_7, hl274_7, hi274_7⟩ := at_T87 HR1.out x5_1 p274 q274
             have hw274_7 := hx274_7
             have hw274_6 := hx274_6
             have hw274_5 := hx274_5
             have hw274_4 := hx274_4
             have hw274_3 := hx274_3
             have hw274_2 := hx274_2
             have hw274_1 := hx274_1
             have hw274_0 := hx274_0
             cases e274
             replace hx274_0 := ck HB hx274_0
             replace hx274_1 := ck HB hx274_1
             replace hx274_2 := ck HB hx274_2
             replace hx274_3 := ck HB hx274_3
             replace hx274_4 := ck HB hx274_4
             replace hx274_5 := ck HB hx274_5
             replace hx274_6 := ck HB hx274_6
             replace hx274_7 := ck HB hx274_7
             have HR274_7 := Aside0.mk hi274_7
             have HC274_7 := Aside0.mk hl274_7
             clear hi274_7 hl274_7
             replace p274 := eq_true p274
             replace q274 := eq_true q274
             refine start_ (n := 10) (S := fun w' => w'.cell? (ad273.add ((x5_1).toNat * 8)) = some (.int .i64 ((rd_T87 l0 x5_1).f0)) ∧ w'.cell? ⟨(ad273.add ((x5_1).toNat * 8)).block, (ad273.add ((x5_1).toNat * 8)).off + 1, none⟩ = some (.int .i64 ((rd_T87 l0 x5_1).f1)) ∧ w'.cell? ⟨(ad273.add ((x5_1).toNat * 8)).block, (ad273.add ((x5_1).toNat * 8)).off + 2, none⟩ = some (.int .i64 ((rd_T87 l0 x5_1).f2)) ∧ w'.cell? ⟨(ad273.add ((x5_1).toNat * 8)).block, (ad273.add ((x5_1).toNat * 8)).off + 3, none⟩ = some (.int .i64 ((rd_T87 l0 x5_1).f3)) ∧ w'.cell? ⟨(ad273.add ((x5_1).toNat * 8)).block, (ad273.add ((x5_1).toNat * 8)).off + 4, none⟩ = some (.int .i64 ((rd_T87 l0 x5_1).f4)) ∧ w'.cell? ⟨(ad273.add ((x5_1).toNat * 8)).block, (ad273.add ((x5_1).toNat * 8)).off + 5, none⟩ = some (.int .i64 ((rd_T87 l0 x5_1).f5)) ∧ w'.cell? ⟨(ad273.add ((x5_1).toNat * 8)).block, (ad273.add ((x5_1).toNat * 8)).off + 6, none⟩ = some (.string ((rd_T87 l0 x5_1).f6)) ∧ w'.cell? ⟨(ad273.add ((x5_1).toNat * 8)).block, (ad273.add ((x5_1).toNat * 8)).off + 7, none⟩ = some (.slice A273_7 ((rd_T87 l0 x5_1).f7).length c273_7) ∧ w'.cell? (ad274.add ((x5_1).toNat * 8)) = some (.int .i64 ((rd_T87 l1 x5_1).f0)) ∧ w'.cell? ⟨(ad274.add ((x5_1).toNat * 8)).block, (ad274.add ((x5_1).toNat * 8)).off + 1, none⟩ = some (.int .i64 ((rd_T87 l1 x5_1).f1)) ∧ w'.cell? ⟨(ad274.add ((x5_1).toNat * 8)).block, (ad274.add ((x5_1).toNat * 8)).off + 2, none⟩ = some (.int .i64 ((rd_T87 l1 x5_1).f2)) ∧ w'.cell? ⟨(ad274.add ((x5_1).toNat * 8)).block, (ad274.add ((x5_1).toNat * 8)).off + 3, none⟩ = some (.int .i64 ((rd_T87 l1 x5_1).f3)) ∧ w'.cell? ⟨(ad274.add ((x5_1).toNat * 8)).block, (ad274.add ((x5_1).toNat * 8)).off + 4, none⟩ = some (.int .i64 ((rd_T87 l1 x5_1).f4)) ∧ w'.cell? ⟨(ad274.add ((x5_1).toNat * 8)).block, (ad274.add ((x5_1).toNat * 8)).off + 5, none⟩ = some (.int .i64 ((rd_T87 l1 x5_1).f5)) ∧ w'.cell? ⟨(ad274.add ((x5_1).toNat * 8)).block, (ad274.add ((x5_1).toNat * 8)).off + 6, none⟩ = some (.string ((rd_T87 l1 x5_1).f6)) ∧ w'.cell? ⟨(ad274.add ((x5_1).toNat * 8)).block, (ad274.add ((x5_1).toNat * 8)).off + 7, none⟩ = some (.slice A274_7 ((rd_T87 l1 x5_1).f7).length c274_7)) (ds := []) #[false, false, false, false, false, false, false, false, false, false] (by kernel_rfl) rfl rfl ⟨(ck HB hw273_0), (ck HB hw273_1), (ck HB hw273_2), (ck HB hw273_3), (ck HB hw273_4), (ck HB hw273_5), (ck HB hw273_6), (ck HB hw273_7), (ck HB hw274_0), (ck HB hw274_1), (ck HB hw274_2), (ck HB hw274_3), (ck HB hw274_4), (ck HB hw274_5), (ck HB hw274_6), (ck HB hw274_7)⟩ (fun hHeld => ?_); refine with_tabW laws_eqVInsS.tab6 laws_eqVInsS.bits6 (fun HT_ HW_ => ?_)
             generalize wr.drew = w9 at HB HR273_7 HR274_7 hx273_0 hx273_1 hx273_2 hx273_3 hx273_4 hx273_5 hx273_6 hx273_7 hx274_0 hx274_1 hx274_2 hx274_3 hx274_4 hx274_5 hx274_6 hx274_7 hHeld ⊢
             refine pure_ (i := 0) (N := some 17) (v := ?_) (a' := ?_) #[true, false, false, false, false, false, false, false, false, false] rfl rfl (any_of HT_.out (by kernel_rfl)) (fun _ _ _ h => h) (Or.inl ⟨by rfl, ?_⟩) ?_ ?_
             rotate_left
             · intro w'
               go_simp
               with_reducible rfl
             rotate_left
             · simp only [Act.put, sx1, sx2, sx3, i64_w, i32_w]
               rfl
             refine pure_ (i := 1) (N := some 18) (v := ?_) (a' := ?_) #[true, true, false, false, false, false, false, false, false, false] rfl rfl (any_of HT_.out (by kernel_rfl)) (fun _ _ _ h => h) (Or.inl ⟨by rfl, ?_⟩) ?_ ?_
             rotate_left
             · intro w'
               go_simp
               with_reducible rfl
             rotate_left
             · simp only [Act.put, sx1, sx2, sx3, i64_w, i32_w]
               rfl
             refine pure_ (i := 2) (N := some 19) (v := ?_) (a' := ?_) #[true, true, true, false, false, false, false, false, false, false] rfl rfl (any_of HT_.out (by kernel_rfl)) (fun _ _ _ h => h) (Or.inl ⟨by rfl, ?_⟩) ?_ ?_
             rotate_left
             · intro w'
               go_simp
               with_reducible rfl
             rotate_left
             · simp only [Act.put, sx1, sx2, sx3, i64_w, i32_w]
               rfl
             refine pure_ (i := 4) (N := some 21) (v := ?_) (a' := ?_) #[true, true, true, false, true, false, false, false, false, false] rfl rfl (any_of HT_.out (by kernel_rfl)) (fun _ _ _ h => h) (Or.inl ⟨by rfl, ?_⟩) ?_ ?_
             rotate_left
             · intro w'
               go_simp
               with_reducible rfl
             rotate_left
             · simp only [Act.put, sx1, sx2, sx3, i64_w, i32_w]
               rfl
             refine pure_ (i := 5) (N := some 22) (v := ?_) (a' := ?_) #[true, true, true, false, true, true, false, false, false, false] rfl rfl (any_of HT_.out (by kernel_rfl)) (fun _ _ _ h => h) (Or.inl ⟨by rfl, ?_⟩) ?_ ?_
             rotate_left
             · intro w'
               go_simp
               with_reducible rfl
             rotate_left
             · simp only [Act.put, sx1, sx2, sx3, i64_w, i32_w]
               rfl
             refine pure_ (i := 6) (N := some 23) (v := ?_) (a' := ?_) #[true, true, true, false, true, true, true, false, false, false] rfl rfl (any_of HT_.out (by kernel_rfl)) (fun _ _ _ h => h) (Or.inl ⟨by rfl, ?_⟩) ?_ ?_
             rotate_left
             · intro w'
               go_simp
               with_reducible rfl
             rotate_left
             · simp only [Act.put, sx1, sx2, sx3, i64_w, i32_w]
               rfl
             refine take_ (i := 3) (N := some 20) (v := ?_) (a' := ?_) #[true, true, true, true, true, true, true, false, false, false] rfl rfl (take_ofW HT_.out HW_.out (by kernel_rfl)) (fun _ _ _ h => h) (Or.inl ⟨by rfl, ?_⟩) hHeld ?_ ?_
             rotate_left
             · rintro w' ⟨s0, s1, s2, s3, s4, s5, s6, s7, s8, s9, s10, s11, s12, s13, s14, s15⟩
               go_simp
               with_reducible rfl
             rotate_left
             · simp only [Act.put, sx1, sx2, sx3, i64_w, i32_w]
               rfl
             refine take_ (i := 7) (N := some 24) (v := ?_) (a' := ?_) #[true, true, true, true, true, true, true, true, false, false] rfl rfl (take_ofW HT_.out HW_.out (by kernel_rfl)) (fun _ _ _ h => h) (Or.inl ⟨by rfl, ?_⟩) hHeld ?_ ?_
             rotate_left
             · rintro w' ⟨s0, s1, s2, s3, s4, s5, s6, s7, s8, s9, s10, s11, s12, s13, s14, s15⟩
               go_simp
               with_reducible rfl
             rotate_left
             · simp only [Act.put, sx1, sx2, sx3, i64_w, i32_w]
               rfl
             refine one_ (i := 8) (N := some 25) #[true, true, true, true, true, true, true, true, true, false] rfl rfl (one_of HT_.out (by kernel_rfl)) (by decide) (fun K hK => ?_)
             refine goes_ Try.func189 (by kernel_rfl) rfl #[.agg #[.int .i64 ((rd_T87 l0 x5_1).f0), .int .i64 ((rd_T87 l0 x5_1).f1), .int .i64 ((rd_T87 l0 x5_1).f2), .int .i64 ((rd_T87 l0 x5_1).f3), .int .i64 ((rd_T87 l0 x5_1).f4), .int .i64 ((rd_T87 l0 x5_1).f5), .string ((rd_T87 l0 x5_1).f6), .slice A273_7 ((rd_T87 l0 x5_1).f7).length c273_7], .agg #[.int .i64 ((rd_T87 l1 x5_1).f0), .int .i64 ((rd_T87 l1 x5_1).f1), .int .i64 ((rd_T87 l1 x5_1).f2), .int .i64 ((rd_T87 l1 x5_1).f3), .int .i64 ((rd_T87 l1 x5_1).f4), .int .i64 ((rd_T87 l1 x5_1).f5), .string ((rd_T87 l1 x5_1).f6), .slice A274_7 ((rd_T87 l1 x5_1).f7).length c274_7]] (by rfl) rfl rfl lz ?_
             with_reducible refine (laws_eqVIns.calls k1 ((rd_T87 l0 x5_1).f0) ((rd_T87 l0 x5_1).f1) ((rd_T87 l0 x5_1).f2) ((rd_T87 l0 x5_1).f3) ((rd_T87 l0 x5_1).f4) ((rd_T87 l0 x5_1).f5) ((rd_T87 l0 x5_1).f6) _ _ ((rd_T87 l0 x5_1).f7) ((rd_T87 l1 x5_1).f0) ((rd_T87 l1 x5_1).f1) ((rd_T87 l1 x5_1).f2) ((rd_T87 l1 x5_1).f3) ((rd_T87 l1 x5_1).f4) ((rd_T87 l1 x5_1).f5) ((rd_T87 l1 x5_1).f6) _ _ ((rd_T87 l1 x5_1).f7) true _ ?side1 ?side2 ?side3 ?side4 A7.out).mono ?_
             (case side1 => exact cz HR273_7.out)
             (case side2 => exact HC273_7.out)
             (case side3 => exact cz HR274_7.out)
             (case side4 => exact HC274_7.out)
             rintro e w10 ⟨rfl, hb⟩
             refine ⟨_, rfl, ?_⟩
             replace HB := Aside0.mk (below_step bz hb)
             (try clear hb)
             (try clear hb2)
             (try clear hk)
             (try clear hi)
             refine hK.out _ _ ⟨(ck HB hw273_0), (ck HB hw273_1), (ck HB hw273_2), (ck HB hw273_3), (ck HB hw273_4), (ck HB hw273_5), (ck HB hw273_6), (ck HB hw273_7), (ck HB hw274_0), (ck HB hw274_1), (ck HB hw274_2), (ck HB hw274_3), (ck HB hw274_4), (ck HB hw274_5), (ck HB hw274_6), (ck HB hw274_7)⟩ (fun hHeld => ?_)
             clear hK K
             refine norm_ (a' := ?_) ?_ ?_
             rotate_left
             · show Act.put _ (some 25) _ = _
               simp only [Act.put, sx1, sx2, sx3, i64_w, i32_w]
               rfl
             refine pure_ (i := 9) (N := some 26) (v := ?_) (a' := ?_) #[true, true, true, true, true, true, true, true, true, true] rfl rfl (any_of HT_.out (by kernel_rfl)) (fun _ _ _ h => h) (Or.inl ⟨by rfl, ?_⟩) ?_ ?_
             rotate_left
             · intro w'
               go_simp
               with_reducible rfl
             rotate_left
             · simp only [Act.put, sx1, sx2, sx3, i64_w, i32_w]
               rfl
             refine done_ (done_of HT_.out (by kernel_rfl)) ?_
             try go_wp2
             go_roundg k1
             case measure => have := HK1.out; omega
             case rel => exact ⟨(wrap64 (x5_1 + 1)), sz_, H', ⟨by have := HK1.out; omega⟩, ⟨ bz⟩⟩
           · replace c8 := Bool.eq_false_iff.mpr c8
             subst c8
             have H1 : (some false) = some r := by rw [if_neg (show ¬ (false = true) by decide)] at H; exact H
             clear H
             have H := H1
             clear H1
             obtain rfl := Option.some.inj H
             try go_wp2
             replace HB := Aside0.mk (below_drew1 HB.out)
             have p273 : 0 ≤ (x5_1 : Int) := of_decide_eq_true az
             have q273 : x5_1 < (l0.length : Int) := of_decide_eq_true az
             obtain ⟨ad273, A273_7, c273_7, e273, hx273_0, hx273_1, hx273_2, hx273_3, hx273_4, hx273_5, hx273_6, hx273_7, hl273_7, hi273_7⟩ := at_T87 HR0.out x5_1 p273 q273
             have hw273_7 := hx273_7
             have hw273_6 := hx273_6
             have hw273_5 := hx273_5
             have hw273_4 := hx273_4
             have hw273_3 := hx273_3
             have hw273_2 := hx273_2
             have hw273_1 := hx273_1
             have hw273_0 := hx273_0
             cases e273
             replace hx273_0 := ck HB hx273_0
             replace hx273_1 := ck HB hx273_1
             replace hx273_2 := ck HB hx273_2
             replace hx273_3 := ck HB hx273_3
             replace hx273_4 := ck HB hx273_4
             replace hx273_5 := ck HB hx273_5
             replace hx273_6 := ck HB hx273_6
             replace hx273_7 := ck HB hx273_7
             have HR273_7 := Aside0.mk hi273_7
             have HC273_7 := Aside0.mk hl273_7
             clear hi273_7 hl273_7
             replace p273 := eq_true p273
             replace q273 := eq_true q273
             have p274 : 0 ≤ (x5_1 : Int) := of_decide_eq_true az
             have q274 : x5_1 < (l1.length : Int) := of_decide_eq_true az
             obtain ⟨ad274, A274_7, c274_7, e274, hx274_0, hx274_1, hx274_2, hx274_3, hx274_4, hx274_5, hx274_6, hx274_7, hl274_7, hi274_7⟩ := at_T87 HR1.out x5_1 p274 q274
             have hw274_7 := hx274_7
             have hw274_6 := hx274_6
             have hw274_5 := hx274_5
             have hw274_4 := hx274_4
             have hw274_3 := hx274_3
             have hw274_2 := hx274_2
             have hw274_1 := hx274_1
             have hw274_0 := hx274_0
             cases e274
             replace hx274_0 := ck HB hx274_0
             replace hx274_1 := ck HB hx274_1
             replace hx274_2 := ck HB hx274_2
             replace hx274_3 := ck HB hx274_3
             replace hx274_4 := ck HB hx274_4
             replace hx274_5 := ck HB hx274_5
             replace hx274_6 := ck HB hx274_6
             replace hx274_7 := ck HB hx274_7
             have HR274_7 := Aside0.mk hi274_7
             have HC274_7 := Aside0.mk hl274_7
             clear hi274_7 hl274_7
             replace p274 := eq_true p274
             replace q274 := eq_true q274
             refine start_ (n := 10) (S := fun w' => w'.cell? (ad273.add ((x5_1).toNat * 8)) = some (.int .i64 ((rd_T87 l0 x5_1).f0)) ∧ w'.cell? ⟨(ad273.add ((x5_1).toNat * 8)).block, (ad273.add ((x5_1).toNat * 8)).off + 1, none⟩ = some (.int .i64 ((rd_T87 l0 x5_1).f1)) ∧ w'.cell? ⟨(ad273.add ((x5_1).toNat * 8)).block, (ad273.add ((x5_1).toNat * 8)).off + 2, none⟩ = some (.int .i64 ((rd_T87 l0 x5_1).f2)) ∧ w'.cell? ⟨(ad273.add ((x5_1).toNat * 8)).block, (ad273.add ((x5_1).toNat * 8)).off + 3, none⟩ = some (.int .i64 ((rd_T87 l0 x5_1).f3)) ∧ w'.cell? ⟨(ad273.add ((x5_1).toNat * 8)).block, (ad273.add ((x5_1).toNat * 8)).off + 4, none⟩ = some (.int .i64 ((rd_T87 l0 x5_1).f4)) ∧ w'.cell? ⟨(ad273.add ((x5_1).toNat * 8)).block, (ad273.add ((x5_1).toNat * 8)).off + 5, none⟩ = some (.int .i64 ((rd_T87 l0 x5_1).f5)) ∧ w'.cell? ⟨(ad273.add ((x5_1).toNat * 8)).block, (ad273.add ((x5_1).toNat * 8)).off + 6, none⟩ = some (.string ((rd_T87 l0 x5_1).f6)) ∧ w'.cell? ⟨(ad273.add ((x5_1).toNat * 8)).block, (ad273.add ((x5_1).toNat * 8)).off + 7, none⟩ = some (.slice A273_7 ((rd_T87 l0 x5_1).f7).length c273_7) ∧ w'.cell? (ad274.add ((x5_1).toNat * 8)) = some (.int .i64 ((rd_T87 l1 x5_1).f0)) ∧ w'.cell? ⟨(ad274.add ((x5_1).toNat * 8)).block, (ad274.add ((x5_1).toNat * 8)).off + 1, none⟩ = some (.int .i64 ((rd_T87 l1 x5_1).f1)) ∧ w'.cell? ⟨(ad274.add ((x5_1).toNat * 8)).block, (ad274.add ((x5_1).toNat * 8)).off + 2, none⟩ = some (.int .i64 ((rd_T87 l1 x5_1).f2)) ∧ w'.cell? ⟨(ad274.add ((x5_1).toNat * 8)).block, (ad274.add ((x5_1).toNat * 8)).off + 3, none⟩ = some (.int .i64 ((rd_T87 l1 x5_1).f3)) ∧ w'.cell? ⟨(ad274.add ((x5_1).toNat * 8)).block, (ad274.add ((x5_1).toNat * 8)).off + 4, none⟩ = some (.int .i64 ((rd_T87 l1 x5_1).f4)) ∧ w'.cell? ⟨(ad274.add ((x5_1).toNat * 8)).block, (ad274.add ((x5_1).toNat * 8)).off + 5, none⟩ = some (.int .i64 ((rd_T87 l1 x5_1).f5)) ∧ w'.cell? ⟨(ad274.add ((x5_1).toNat * 8)).block, (ad274.add ((x5_1).toNat * 8)).off + 6, none⟩ = some (.string ((rd_T87 l1 x5_1).f6)) ∧ w'.cell? ⟨(ad274.add ((x5_1).toNat * 8)).block, (ad274.add ((x5_1).toNat * 8)).off + 7, none⟩ = some (.slice A274_7 ((rd_T87 l1 x5_1).f7).length c274_7)) (ds := []) #[false, false, false, false, false, false, false, false, false, false] (by kernel_rfl) rfl rfl ⟨(ck HB hw273_0), (ck HB hw273_1), (ck HB hw273_2), (ck HB hw273_3), (ck HB hw273_4), (ck HB hw273_5), (ck HB hw273_6), (ck HB hw273_7), (ck HB hw274_0), (ck HB hw274_1), (ck HB hw274_2), (ck HB hw274_3), (ck HB hw274_4), (ck HB hw274_5), (ck HB hw274_6), (ck HB hw274_7)⟩ (fun hHeld => ?_); refine with_tabW laws_eqVInsS.tab6 laws_eqVInsS.bits6 (fun HT_ HW_ => ?_)
             generalize wr.drew = w11 at HB HR273_7 HR274_7 hx273_0 hx273_1 hx273_2 hx273_3 hx273_4 hx273_5 hx273_6 hx273_7 hx274_0 hx274_1 hx274_2 hx274_3 hx274_4 hx274_5 hx274_6 hx274_7 hHeld ⊢
             refine pure_ (i := 0) (N := some 17) (v := ?_) (a' := ?_) #[true, false, false, false, false, false, false, false, false, false] rfl rfl (any_of HT_.out (by kernel_rfl)) (fun _ _ _ h => h) (Or.inl ⟨by rfl, ?_⟩) ?_ ?_
             rotate_left
             · intro w'
               go_simp
               with_reducible rfl
             rotate_left
             · simp only [Act.put, sx1, sx2, sx3, i64_w, i32_w]
               rfl
             refine pure_ (i := 1) (N := some 18) (v := ?_) (a' := ?_) #[true, true, false, false, false, false, false, false, false, false] rfl rfl (any_of HT_.out (by kernel_rfl)) (fun _ _ _ h => h) (Or.inl ⟨by rfl, ?_⟩) ?_ ?_
             rotate_left
             · intro w'
               go_simp
               with_reducible rfl
             rotate_left
             · simp only [Act.put, sx1, sx2, sx3, i64_w, i32_w]
               rfl
             refine pure_ (i := 2) (N := some 19) (v := ?_) (a' := ?_) #[true, true, true, false, false, false, false, false, false, false] rfl rfl (any_of HT_.out (by kernel_rfl)) (fun _ _ _ h => h) (Or.inl ⟨by rfl, ?_⟩) ?_ ?_
             rotate_left
             · intro w'
               go_simp
               with_reducible rfl
             rotate_left
             · simp only [Act.put, sx1, sx2, sx3, i64_w, i32_w]
               rfl
             refine pure_ (i := 4) (N := some 21) (v := ?_) (a' := ?_) #[true, true, true, false, true, false, false, false, false, false] rfl rfl (any_of HT_.out (by kernel_rfl)) (fun _ _ _ h => h) (Or.inl ⟨by rfl, ?_⟩) ?_ ?_
             rotate_left
             · intro w'
               go_simp
               with_reducible rfl
             rotate_left
             · simp only [Act.put, sx1, sx2, sx3, i64_w, i32_w]
               rfl
             refine pure_ (i := 5) (N := some 22) (v := ?_) (a' := ?_) #[true, true, true, false, true, true, false, false, false, false] rfl rfl (any_of HT_.out (by kernel_rfl)) (fun _ _ _ h => h) (Or.inl ⟨by rfl, ?_⟩) ?_ ?_
             rotate_left
             · intro w'
               go_simp
               with_reducible rfl
             rotate_left
             · simp only [Act.put, sx1, sx2, sx3, i64_w, i32_w]
               rfl
             refine pure_ (i := 6) (N := some 23) (v := ?_) (a' := ?_) #[true, true, true, false, true, true, true, false, false, false] rfl rfl (any_of HT_.out (by kernel_rfl)) (fun _ _ _ h => h) (Or.inl ⟨by rfl, ?_⟩) ?_ ?_
             rotate_left
             · intro w'
               go_simp
               with_reducible rfl
             rotate_left
             · simp only [Act.put, sx1, sx2, sx3, i64_w, i32_w]
               rfl
             refine take_ (i := 3) (N := some 20) (v := ?_) (a' := ?_) #[true, true, true, true, true, true, true, false, false, false] rfl rfl (take_ofW HT_.out HW_.out (by kernel_rfl)) (fun _ _ _ h => h) (Or.inl ⟨by rfl, ?_⟩) hHeld ?_ ?_
             rotate_left
             · rintro w' ⟨s0, s1, s2, s3, s4, s5, s6, s7, s8, s9, s10, s11, s12, s13, s14, s15⟩
               go_simp
               with_reducible rfl
             rotate_left
             · simp only [Act.put, sx1, sx2, sx3, i64_w, i32_w]
               rfl
             refine take_ (i := 7) (N := some 24) (v := ?_) (a' := ?_) #[true, true, true, true, true, true, true, true, false, false] rfl rfl (take_ofW HT_.out HW_.out (by kernel_rfl)) (fun _ _ _ h => h) (Or.inl ⟨by rfl, ?_⟩) hHeld ?_ ?_
             rotate_left
             · rintro w' ⟨s0, s1, s2, s3, s4, s5, s6, s7, s8, s9, s10, s11, s12, s13, s14, s15⟩
               go_simp
               with_reducible rfl
             rotate_left
             · simp only [Act.put, sx1, sx2, sx3, i64_w, i32_w]
               rfl
             refine one_ (i := 8) (N := some 25) #[true, true, true, true, true, true, true, true, true, false] rfl rfl (one_of HT_.out (by kernel_rfl)) (by decide) (fun K hK => ?_)
             refine goes_ Try.func189 (by kernel_rfl) rfl #[.agg #[.int .i64 ((rd_T87 l0 x5_1).f0), .int .i64 ((rd_T87 l0 x5_1).f1), .int .i64 ((rd_T87 l0 x5_1).f2), .int .i64 ((rd_T87 l0 x5_1).f3), .int .i64 ((rd_T87 l0 x5_1).f4), .int .i64 ((rd_T87 l0 x5_1).f5), .string ((rd_T87 l0 x5_1).f6), .slice A273_7 ((rd_T87 l0 x5_1).f7).length c273_7], .agg #[.int .i64 ((rd_T87 l1 x5_1).f0), .int .i64 ((rd_T87 l1 x5_1).f1), .int .i64 ((rd_T87 l1 x5_1).f2), .int .i64 ((rd_T87 l1 x5_1).f3), .int .i64 ((rd_T87 l1 x5_1).f4), .int .i64 ((rd_T87 l1 x5_1).f5), .string ((rd_T87 l1 x5_1).f6), .slice A274_7 ((rd_T87 l1 x5_1).f7).length c274_7]] (by rfl) rfl rfl lz ?_
             with_reducible refine (laws_eqVIns.calls k1 ((rd_T87 l0 x5_1).f0) ((rd_T87 l0 x5_1).f1) ((rd_T87 l0 x5_1).f2) ((rd_T87 l0 x5_1).f3) ((rd_T87 l0 x5_1).f4) ((rd_T87 l0 x5_1).f5) ((rd_T87 l0 x5_1).f6) _ _ ((rd_T87 l0 x5_1).f7) ((rd_T87 l1 x5_1).f0) ((rd_T87 l1 x5_1).f1) ((rd_T87 l1 x5_1).f2) ((rd_T87 l1 x5_1).f3) ((rd_T87 l1 x5_1).f4) ((rd_T87 l1 x5_1).f5) ((rd_T87 l1 x5_1).f6) _ _ ((rd_T87 l1 x5_1).f7) false _ ?side1 ?side2 ?side3 ?side4 A7.out).mono ?_
             (case side1 => exact cz HR273_7.out)
             (case side2 => exact HC273_7.out)
             (case side3 => exact cz HR274_7.out)
             (case side4 => exact HC274_7.out)
             rintro e w12 ⟨rfl, hb⟩
             refine ⟨_, rfl, ?_⟩
             replace HB := Aside0.mk (below_step bz hb)
             (try clear hb)
             (try clear hb2)
             (try clear hk)
             (try clear hi)
             refine hK.out _ _ ⟨(ck HB hw273_0), (ck HB hw273_1), (ck HB hw273_2), (ck HB hw273_3), (ck HB hw273_4), (ck HB hw273_5), (ck HB hw273_6), (ck HB hw273_7), (ck HB hw274_0), (ck HB hw274_1), (ck HB hw274_2), (ck HB hw274_3), (ck HB hw274_4), (ck HB hw274_5), (ck HB hw274_6), (ck HB hw274_7)⟩ (fun hHeld => ?_)
             clear hK K
             refine norm_ (a' := ?_) ?_ ?_
             rotate_left
             · show Act.put _ (some 25) _ = _
               simp only [Act.put, sx1, sx2, sx3, i64_w, i32_w]
               rfl
             refine pure_ (i := 9) (N := some 26) (v := ?_) (a' := ?_) #[true, true, true, true, true, true, true, true, true, true] rfl rfl (any_of HT_.out (by kernel_rfl)) (fun _ _ _ h => h) (Or.inl ⟨by rfl, ?_⟩) ?_ ?_
             rotate_left
             · intro w'
               go_simp
               with_reducible rfl
             rotate_left
             · simp only [Act.put, sx1, sx2, sx3, i64_w, i32_w]
               rfl
             refine done_ (done_of HT_.out (by kernel_rfl)) ?_
             try go_wp2
             go_ret
             exact ⟨by first | rfl | (simp [errW_none, errW_some] <;> rfl) | (simp [*, errW_none, errW_some] <;> rfl), bz⟩
         · rw [if_neg c6] at H
           exact absurd H (by simp)
       · rw [if_neg c5] at H
         exact absurd H (by simp)
     · rw [if_neg c4] at H
       have c4b0 : decide (x5_1 < (l0.length : Int)) = false := decide_eq_false c4
       clear c4
       obtain rfl := Option.some.inj H
       go_wp2
       go_ret
       exact ⟨by first | rfl | (simp [errW_none, errW_some] <;> rfl) | (simp [*, errW_none, errW_some] <;> rfl), bz⟩
 · rw [if_neg c3] at H
   have c3b0 : ((l0.length : Int) == (l1.length : Int)) = false := beq_eq_false_iff_ne.mpr c3
   have c3b1 : ((l0.length : Int) != (l1.length : Int)) = true := bne_iff_ne.mpr c3
   have c3b2 : (l0.length == l1.length) = false := by first | simpa using c3 | (simp at c3 ⊢; omega)
   obtain rfl := Option.some.inj H
   go_enter Try.func155, Try.ntmps155
   go_wp2
   go_ret
   exact ⟨by first | rfl | (simp [errW_none, errW_some] <;> rfl) | (simp [*, errW_none, errW_some] <;> rfl), bz⟩

set_option linter.unusedVariables false
set_option linter.unusedSimpArgs false

def laws_eqVBlock.f (k : Nat) (l0_0 : List (S87)) (l1_0 : List (S87)) : Option (Bool) := (laws_eqVInsS.f k l0_0 l1_0).bind fun t278 => (if t278 = true then (some true) else (some false))
set_option maxHeartbeats 8000000 in
set_option maxRecDepth 100000 in
theorem laws_eqVBlock.calls (k : Nat) (A0_0 : Option Addr) (c0_0 : Nat) (l0_0 : List (S87)) (A1_0 : Option Addr) (c1_0 : Nat) (l1_0 : List (S87)) (r : Bool) (w : World) (hr0_0 : Kd.C k87 w A0_0 l0_0.length l0_0) (hc0_0 : l0_0.length ≤ c0_0) (hr1_0 : Kd.C k87 w A1_0 l1_0.length l1_0) (hc1_0 : l1_0.length ≤ c1_0) (h : laws_eqVBlock.f k l0_0 l1_0 = some r) :
 Calls Try.prog 118 #[.agg #[.slice A0_0 l0_0.length c0_0], .agg #[.slice A1_0 l1_0.length c1_0]] w fun e w' => e = .returned (.bool r) ∧ Below w.heap.size w w' := by
 have hu85 := Try.underlying85
 have HR0_0 := Aside0.mk hr0_0
 have HC0_0 := Aside0.mk hc0_0
 clear hr0_0 hc0_0
 have HR1_0 := Aside0.mk hr1_0
 have HC1_0 := Aside0.mk hc1_0
 clear hr1_0 hc1_0
 have HB := Aside0.mk (Below.refl w.heap.size w)
 have H : ((laws_eqVInsS.f k l0_0 l1_0).bind fun t278 => (if t278 = true then (some true) else (some false))) = some r := h
 clear h
 replace H := Option.bind_eq_some_iff.mp H
 obtain ⟨t278, A30, H⟩ := H
 replace H : (if t278 = true then (some true) else (some false)) = some r := H
 have A3 := Aside0.mk A30
 clear A30
 by_cases c4 : t278 = true
 · subst c4
   have H1 : (some true) = some r := by rw [if_pos rfl] at H; exact H
   clear H
   have H := H1
   clear H1
   obtain rfl := Option.some.inj H
   go_enter Try.func118, Try.ntmps118
   go_wp2_with (first | ((with_reducible refine gate_dst (N := 2) rfl ?_); refine box_event ?hg (N := 2) ?hd (cs := #[.slice A0_0 l0_0.length c0_0]) (t := 85) ?hr ?_; (case hd => rfl); (case hg => rfl); (case hr => first | (go_simp; done) | (go_simp; rfl)); intro gb276 hg w5 hbox hb; have BK276 := Aside0.mk (hbox); have GW276 := Aside0.mk ((by rw [hg]; exact (below_size bz) : w.heap.size ≤ gb276)); have GE276 := Aside0.mk ((by rw [hg]; exact (below_size bz) : w.heap.size ≤ gb276)); replace HB := Aside0.mk (below_step bz hb); clear hb hbox hg) | ((with_reducible refine gate_dst (N := 3) rfl ?_); refine box_event ?hg (N := 3) ?hd (cs := #[.slice A1_0 l1_0.length c1_0]) (t := 85) ?hr ?_; (case hd => rfl); (case hg => rfl); (case hr => first | (go_simp; done) | (go_simp; rfl)); intro gb277 hg w6 hbox hb; have BK277 := Aside0.mk (hbox); have GW277 := Aside0.mk ((by rw [hg]; exact (below_size bz) : w.heap.size ≤ gb277)); have GE277 := Aside0.mk ((by rw [hg]; exact (below_size bz) : w.heap.size ≤ gb277)); have NB276_277 := Aside0.mk ((by rw [hg]; exact Nat.ne_of_lt (blk_lt (g := gb276) (o := .cells #[.slice A0_0 l0_0.length c0_0] 85 (0, 0)) kz) : gb276 ≠ gb277)); have NB277_276 := Aside0.mk ((by rw [hg]; exact Nat.ne_of_gt (blk_lt (g := gb276) (o := .cells #[.slice A0_0 l0_0.length c0_0] 85 (0, 0)) kz) : gb277 ≠ gb276)); replace BK276 := Aside0.mk (blk_below (g := gb276) (o := .cells #[.slice A0_0 l0_0.length c0_0] 85 (0, 0)) kz hb); replace HB := Aside0.mk (below_step bz hb); clear hb hbox hg; have hnb7 := NB276_277.out; have hnc7 := NB277_276.out; have hcz8_0 : w6.cell? ⟨gb276, 0, none⟩ = some (.slice A0_0 l0_0.length c0_0) := (blk_cell BK276.out 0).trans rfl; have hfz8_0 := blk_frozen BK276.out 0; have hcz9_0 : w6.cell? ⟨gb277, 0, none⟩ = some (.slice A1_0 l1_0.length c1_0) := (blk_cell BK277.out 0).trans rfl; have hfz9_0 := blk_frozen BK277.out 0) | ((with_reducible refine gate_callee (f := 155) rfl ?_); refine goesL_ (some 9) rfl rfl Try.func155 (by kernel_rfl) rfl #[.slice A0_0 l0_0.length c0_0, .slice A1_0 l1_0.length c1_0] rfl lz ?_; (with_reducible refine (laws_eqVInsS.calls k _ _ l0_0 _ _ l1_0 true _ ?side1 ?side2 ?side3 ?side4 A3.out).mono ?_); (case side1 => exact cz HR0_0.out); (case side2 => exact HC0_0.out); (case side3 => exact cz HR1_0.out); (case side4 => exact HC1_0.out); rintro e w10 ⟨rfl, hb⟩; refine ⟨_, rfl, ?_⟩; replace BK276 := Aside0.mk (blk_below (g := gb276) (o := .cells #[.slice A0_0 l0_0.length c0_0] 85 (0, 0)) kz hb); replace BK277 := Aside0.mk (blk_below (g := gb277) (o := .cells #[.slice A1_0 l1_0.length c1_0] 85 (0, 0)) kz hb); replace HB := Aside0.mk (below_step bz hb)))
   go_ret
   exact ⟨by first | rfl | (simp [errW_none, errW_some] <;> rfl) | (simp [*, errW_none, errW_some] <;> rfl), bz⟩
 · replace c4 := Bool.eq_false_iff.mpr c4
   subst c4
   have H1 : (some false) = some r := by rw [if_neg (show ¬ (false = true) by decide)] at H; exact H
   clear H
   have H := H1
   clear H1
   obtain rfl := Option.some.inj H
   go_enter Try.func118, Try.ntmps118
   go_wp2_with (first | ((with_reducible refine gate_dst (N := 2) rfl ?_); refine box_event ?hg (N := 2) ?hd (cs := #[.slice A0_0 l0_0.length c0_0]) (t := 85) ?hr ?_; (case hd => rfl); (case hg => rfl); (case hr => first | (go_simp; done) | (go_simp; rfl)); intro gb276 hg w11 hbox hb; have BK276 := Aside0.mk (hbox); have GW276 := Aside0.mk ((by rw [hg]; exact (below_size bz) : w.heap.size ≤ gb276)); have GE276 := Aside0.mk ((by rw [hg]; exact (below_size bz) : w.heap.size ≤ gb276)); replace HB := Aside0.mk (below_step bz hb); clear hb hbox hg) | ((with_reducible refine gate_dst (N := 3) rfl ?_); refine box_event ?hg (N := 3) ?hd (cs := #[.slice A1_0 l1_0.length c1_0]) (t := 85) ?hr ?_; (case hd => rfl); (case hg => rfl); (case hr => first | (go_simp; done) | (go_simp; rfl)); intro gb277 hg w12 hbox hb; have BK277 := Aside0.mk (hbox); have GW277 := Aside0.mk ((by rw [hg]; exact (below_size bz) : w.heap.size ≤ gb277)); have GE277 := Aside0.mk ((by rw [hg]; exact (below_size bz) : w.heap.size ≤ gb277)); have NB276_277 := Aside0.mk ((by rw [hg]; exact Nat.ne_of_lt (blk_lt (g := gb276) (o := .cells #[.slice A0_0 l0_0.length c0_0] 85 (0, 0)) kz) : gb276 ≠ gb277)); have NB277_276 := Aside0.mk ((by rw [hg]; exact Nat.ne_of_gt (blk_lt (g := gb276) (o := .cells #[.slice A0_0 l0_0.length c0_0] 85 (0, 0)) kz) : gb277 ≠ gb276)); replace BK276 := Aside0.mk (blk_below (g := gb276) (o := .cells #[.slice A0_0 l0_0.length c0_0] 85 (0, 0)) kz hb); replace HB := Aside0.mk (below_step bz hb); clear hb hbox hg; have hnb13 := NB276_277.out; have hnc13 := NB277_276.out; have hcz14_0 : w12.cell? ⟨gb276, 0, none⟩ = some (.slice A0_0 l0_0.length c0_0) := (blk_cell BK276.out 0).trans rfl; have hfz14_0 := blk_frozen BK276.out 0; have hcz15_0 : w12.cell? ⟨gb277, 0, none⟩ = some (.slice A1_0 l1_0.length c1_0) := (blk_cell BK277.out 0).trans rfl; have hfz15_0 := blk_frozen BK277.out 0) | ((with_reducible refine gate_callee (f := 155) rfl ?_); refine goesL_ (some 9) rfl rfl Try.func155 (by kernel_rfl) rfl #[.slice A0_0 l0_0.length c0_0, .slice A1_0 l1_0.length c1_0] rfl lz ?_; (with_reducible refine (laws_eqVInsS.calls k _ _ l0_0 _ _ l1_0 false _ ?side1 ?side2 ?side3 ?side4 A3.out).mono ?_); (case side1 => exact cz HR0_0.out); (case side2 => exact HC0_0.out); (case side3 => exact cz HR1_0.out); (case side4 => exact HC1_0.out); rintro e w16 ⟨rfl, hb⟩; refine ⟨_, rfl, ?_⟩; replace BK276 := Aside0.mk (blk_below (g := gb276) (o := .cells #[.slice A0_0 l0_0.length c0_0] 85 (0, 0)) kz hb); replace BK277 := Aside0.mk (blk_below (g := gb277) (o := .cells #[.slice A1_0 l1_0.length c1_0] 85 (0, 0)) kz hb); replace HB := Aside0.mk (below_step bz hb)))
   go_ret
   exact ⟨by first | rfl | (simp [errW_none, errW_some] <;> rfl) | (simp [*, errW_none, errW_some] <;> rfl), bz⟩

set_option linter.unusedVariables false
set_option linter.unusedSimpArgs false

def laws_eqVBlockS.l0 : Nat → List (S85) → List (S85) → Int → Option (Bool)
 | 0, _, _, _ => none
 | k + 1, x0, x1, x5 => if x5 < (x0.length : Int) then (if 0 ≤ x5 then (if x5 < (x1.length : Int) then ((laws_eqVBlock.f k ((rd_T85 x0 x5).f0) ((rd_T85 x1 x5).f0)).bind fun t281 => (if t281 = true then (laws_eqVBlockS.l0 k x0 x1 (wrap64 (x5 + 1))) else (some false))) else (none)) else (none)) else (some true)
def laws_eqVBlockS.f (k : Nat) (l0 : List (S85)) (l1 : List (S85)) : Option (Bool) := if (l0.length : Int) = (l1.length : Int) then (laws_eqVBlockS.l0 k l0 l1 0) else (some false)
def laws_eqVBlockS.T6 : Bool × List (List Nat × List Nat) := (true, [([], []), ([], []), ([0, 1], [0, 1]), ([2], [2]), ([], []), ([], []), ([4, 5], [4, 5]), ([6], [6]), ([3, 7], [3, 7]), ([8], [8])])
def laws_eqVBlockS.B6 : List Nat := [0, 0, 3, 7, 0, 0, 48, 112, 255, 511]
theorem laws_eqVBlockS.tab6 : rtab .any (opsOf Try.f66 6) = laws_eqVBlockS.T6 := by kernel_rfl
theorem laws_eqVBlockS.bits6 : waitsOk laws_eqVBlockS.T6.2 laws_eqVBlockS.B6 = true := by kernel_rfl
set_option maxHeartbeats 8000000 in
set_option maxRecDepth 100000 in
theorem laws_eqVBlockS.calls (k : Nat) (A0 : Option Addr) (c0 : Nat) (l0 : List (S85)) (A1 : Option Addr) (c1 : Nat) (l1 : List (S85)) (r : Bool) (w : World) (hr0 : Kd.C k85 w A0 l0.length l0) (hc0 : l0.length ≤ c0) (hr1 : Kd.C k85 w A1 l1.length l1) (hc1 : l1.length ≤ c1) (h : laws_eqVBlockS.f k l0 l1 = some r) :
 Calls Try.prog 66 #[.slice A0 l0.length c0, .slice A1 l1.length c1] w fun e w' => e = .returned (.bool r) ∧ Below w.heap.size w w' := by
 have hu85 := Try.underlying85
 have HR0 := Aside0.mk hr0
 have HC0 := Aside0.mk hc0
 clear hr0 hc0
 have HR1 := Aside0.mk hr1
 have HC1 := Aside0.mk hc1
 clear hr1 hc1
 have HB := Aside0.mk (Below.refl w.heap.size w)
 have H : (if (l0.length : Int) = (l1.length : Int) then (laws_eqVBlockS.l0 k l0 l1 0) else (some false)) = some r := h
 clear h
 by_cases c3 : (l0.length : Int) = (l1.length : Int)
 · rw [if_pos c3] at H
   have c3b0 : ((l0.length : Int) == (l1.length : Int)) = true := beq_iff_eq.mpr c3
   have c3b1 : ((l0.length : Int) != (l1.length : Int)) = false := bne_eq_false_iff_eq.mpr c3
   have c3b2 : (l0.length == l1.length) = true := by first | simpa using c3 | (simp at c3 ⊢; omega)
   clear c3
   have H' := Aside0.mk H
   clear H
   go_enter Try.func66, Try.ntmps66
   go_wp2
   go_loopg [5] k (fun kq v5 w' => ∃ (x5_1 : Int), v5 = .int .i64 x5_1 ∧ Aside0 (laws_eqVBlockS.l0 kq l0 l1 x5_1 = some r) ∧ Aside0 (kq ≤ k) ∧ Aside0 (Below w.heap.size w w'))
   case atStart => exact ⟨(0), sz_, H', ⟨Nat.le_refl _⟩, ⟨ bz⟩⟩
   case round =>
    clear H'
    obtain ⟨x5_1, rfl, HA, HK1, HB⟩ := hrel
    cases gk with
    | zero => exact absurd HA.out (by simp [laws_eqVBlockS.l0])
    | succ k1 =>
     have H := HA.out
     clear HA
     simp only [laws_eqVBlockS.l0] at H
     by_cases c4 : x5_1 < (l0.length : Int)
     · rw [if_pos c4] at H
       have c4b0 : decide (x5_1 < (l0.length : Int)) = true := decide_eq_true c4
       clear c4
       by_cases c5 : 0 ≤ x5_1
       · rw [if_pos c5] at H
         have c5b0 : decide (0 ≤ x5_1) = true := decide_eq_true c5
         clear c5
         by_cases c6 : x5_1 < (l1.length : Int)
         · rw [if_pos c6] at H
           have c6b0 : decide (x5_1 < (l1.length : Int)) = true := decide_eq_true c6
           clear c6
           replace H := Option.bind_eq_some_iff.mp H
           obtain ⟨t281, A70, H⟩ := H
           replace H : (if t281 = true then (laws_eqVBlockS.l0 k1 l0 l1 (wrap64 (x5_1 + 1))) else (some false)) = some r := H
           have A7 := Aside0.mk A70
           clear A70
           by_cases c8 : t281 = true
           · subst c8
             have H1 : (laws_eqVBlockS.l0 k1 l0 l1 (wrap64 (x5_1 + 1))) = some r := by rw [if_pos rfl] at H; exact H
             clear H
             have H := H1
             clear H1
             have H' := Aside0.mk H
             clear H
             try go_wp2
             replace HB := Aside0.mk (below_drew1 HB.out)
             have p279 : 0 ≤ (x5_1 : Int) := of_decide_eq_true az
             have q279 : x5_1 < (l0.length : Int) := of_decide_eq_true az
             obtain ⟨ad279, A279_0, c279_0, e279, hx279_0, hl279_0, hi279_0⟩ := at_T85 HR0.out x5_1 p279 q279
             have hw279_0 := hx279_0
             cases e279
             replace hx279_0 := ck HB hx279_0
             have HR279_0 := Aside0.mk hi279_0
             have HC279_0 := Aside0.mk hl279_0
             clear hi279_0 hl279_0
             replace p279 := eq_true p279
             replace q279 := eq_true q279
             have p280 : 0 ≤ (x5_1 : Int) := of_decide_eq_true az
             have q280 : x5_1 < (l1.length : Int) := of_decide_eq_true az
             obtain ⟨ad280, A280_0, c280_0, e280, hx280_0, hl280_0, hi280_0⟩ := at_T85 HR1.out x5_1 p280 q280
             have hw280_0 := hx280_0
             cases e280
             replace hx280_0 := ck HB hx280_0
             have HR280_0 := Aside0.mk hi280_0
             have HC280_0 := Aside0.mk hl280_0
             clear hi280_0 hl280_0
             replace p280 := eq_true p280
             replace q280 := eq_true q280
             refine start_ (n := 10) (S := fun w' => w'.cell? (ad279.add (x5_1).toNat) = some (.slice A279_0 ((rd_T85 l0 x5_1).f0).length c279_0) ∧ w'.cell? (ad280.add (x5_1).toNat) = some (.slice A280_0 ((rd_T85 l1 x5_1).f0).length c280_0)) (ds := []) #[false, false, false, false, false, false, false, false, false, false] (by kernel_rfl) rfl rfl ⟨(ck HB hw279_0), (ck HB hw280_0)⟩ (fun hHeld => ?_); refine with_tabW laws_eqVBlockS.tab6 laws_eqVBlockS.bits6 (fun HT_ HW_ => ?_)
             generalize wr.drew = w9 at HB HR279_0 HR280_0 hx279_0 hx280_0 hHeld ⊢
             refine pure_ (i := 0) (N := some 17) (v := ?_) (a' := ?_) #[true, false, false, false, false, false, false, false, false, false] rfl rfl (any_of HT_.out (by kernel_rfl)) (fun _ _ _ h => h) (Or.inl ⟨by rfl, ?_⟩) ?_ ?_
             rotate_left
             · intro w'
               go_simp
               with_reducible rfl
             rotate_left
             · simp only [Act.put, sx1, sx2, sx3, i64_w, i32_w]
               rfl
             refine pure_ (i := 1) (N := some 18) (v := ?_) (a' := ?_) #[true, true, false, false, false, false, false, false, false, false] rfl rfl (any_of HT_.out (by kernel_rfl)) (fun _ _ _ h => h) (Or.inl ⟨by rfl, ?_⟩) ?_ ?_
             rotate_left
             · intro w'
               go_simp
               with_reducible rfl
             rotate_left
             · simp only [Act.put, sx1, sx2, sx3, i64_w, i32_w]
               rfl
             refine pure_ (i := 2) (N := some 19) (v := ?_) (a' := ?_) #[true, true, true, false, false, false, false, false, false, false] rfl rfl (any_of HT_.out (by kernel_rfl)) (fun _ _ _ h => h) (Or.inl ⟨by rfl, ?_⟩) ?_ ?_
             rotate_left
             · intro w'
               go_simp
               with_reducible rfl
             rotate_left
             · simp only [Act.put, sx1, sx2, sx3, i64_w, i32_w]
               rfl
             refine pure_ (i := 4) (N := some 21) (v := ?_) (a' := ?_) #[true, true, true, false, true, false, false, false, false, false] rfl rfl (any_of HT_.out (by kernel_rfl)) (fun _ _ _ h => h) (Or.inl ⟨by rfl, ?_⟩) ?_ ?_
             rotate_left
             · intro w'
               go_simp
               with_reducible rfl
             rotate_left
             · simp only [Act.put, sx1, sx2, sx3, i64_w, i32_w]
               rfl
             refine pure_ (i := 5) (N := some 22) (v := ?_) (a' := ?_) #[true, true, true, false, true, true, false, false, false, false] rfl rfl (any_of HT_.out (by kernel_rfl)) (fun _ _ _ h => h) (Or.inl ⟨by rfl, ?_⟩) ?_ ?_
             rotate_left
             · intro w'
               go_simp
               with_reducible rfl
             rotate_left
             · simp only [Act.put, sx1, sx2, sx3, i64_w, i32_w]
               rfl
             refine pure_ (i := 6) (N := some 23) (v := ?_) (a' := ?_) #[true, true, true, false, true, true, true, false, false, false] rfl rfl (any_of HT_.out (by kernel_rfl)) (fun _ _ _ h => h) (Or.inl ⟨by rfl, ?_⟩) ?_ ?_
             rotate_left
             · intro w'
               go_simp
               with_reducible rfl
             rotate_left
             · simp only [Act.put, sx1, sx2, sx3, i64_w, i32_w]
               rfl
             refine take_ (i := 3) (N := some 20) (v := ?_) (a' := ?_) #[true, true, true, true, true, true, true, false, false, false] rfl rfl (take_ofW HT_.out HW_.out (by kernel_rfl)) (fun _ _ _ h => h) (Or.inl ⟨by rfl, ?_⟩) hHeld ?_ ?_
             rotate_left
             · rintro w' ⟨s0, s1⟩
               go_simp
               with_reducible rfl
             rotate_left
             · simp only [Act.put, sx1, sx2, sx3, i64_w, i32_w]
               rfl
             refine take_ (i := 7) (N := some 24) (v := ?_) (a' := ?_) #[true, true, true, true, true, true, true, true, false, false] rfl rfl (take_ofW HT_.out HW_.out (by kernel_rfl)) (fun _ _ _ h => h) (Or.inl ⟨by rfl, ?_⟩) hHeld ?_ ?_
             rotate_left
             · rintro w' ⟨s0, s1⟩
               go_simp
               with_reducible rfl
             rotate_left
             · simp only [Act.put, sx1, sx2, sx3, i64_w, i32_w]
               rfl
             refine one_ (i := 8) (N := some 25) #[true, true, true, true, true, true, true, true, true, false] rfl rfl (one_of HT_.out (by kernel_rfl)) (by decide) (fun K hK => ?_)
             refine goes_ Try.func118 (by kernel_rfl) rfl #[.agg #[.slice A279_0 ((rd_T85 l0 x5_1).f0).length c279_0], .agg #[.slice A280_0 ((rd_T85 l1 x5_1).f0).length c280_0]] (by rfl) rfl rfl lz ?_
             with_reducible refine (laws_eqVBlock.calls k1 _ _ ((rd_T85 l0 x5_1).f0) _ _ ((rd_T85 l1 x5_1).f0) true _ ?side1 ?side2 ?side3 ?side4 A7.out).mono ?_
             (case side1 => exact cz HR279_0.out)
             (case side2 => exact HC279_0.out)
             (case side3 => exact cz HR280_0.out)
             (case side4 => exact HC280_0.out)
             rintro e w10 ⟨rfl, hb⟩
             refine ⟨_, rfl, ?_⟩
             replace HB := Aside0.mk (below_step bz hb)
             (try clear hb)
             (try clear hb2)
             (try clear hk)
             (try clear hi)
             refine hK.out _ _ ⟨(ck HB hw279_0), (ck HB hw280_0)⟩ (fun hHeld => ?_)
             clear hK K
             refine norm_ (a' := ?_) ?_ ?_
             rotate_left
             · show Act.put _ (some 25) _ = _
               simp only [Act.put, sx1, sx2, sx3, i64_w, i32_w]
               rfl
             refine pure_ (i := 9) (N := some 26) (v := ?_) (a' := ?_) #[true, true, true, true, true, true, true, true, true, true] rfl rfl (any_of HT_.out (by kernel_rfl)) (fun _ _ _ h => h) (Or.inl ⟨by rfl, ?_⟩) ?_ ?_
             rotate_left
             · intro w'
               go_simp
               with_reducible rfl
             rotate_left
             · simp only [Act.put, sx1, sx2, sx3, i64_w, i32_w]
               rfl
             refine done_ (done_of HT_.out (by kernel_rfl)) ?_
             try go_wp2
             go_roundg k1
             case measure => have := HK1.out; omega
             case rel => exact ⟨(wrap64 (x5_1 + 1)), sz_, H', ⟨by have := HK1.out; omega⟩, ⟨ bz⟩⟩
           · replace c8 := Bool.eq_false_iff.mpr c8
             subst c8
             have H1 : (some false) = some r := by rw [if_neg (show ¬ (false = true) by decide)] at H; exact H
             clear H
             have H := H1
             clear H1
             obtain rfl := Option.some.inj H
             try go_wp2
             replace HB := Aside0.mk (below_drew1 HB.out)
             have p279 : 0 ≤ (x5_1 : Int) := of_decide_eq_true az
             have q279 : x5_1 < (l0.length : Int) := of_decide_eq_true az
             obtain ⟨ad279, A279_0, c279_0, e279, hx279_0, hl279_0, hi279_0⟩ := at_T85 HR0.out x5_1 p279 q279
             have hw279_0 := hx279_0
             cases e279
             replace hx279_0 := ck HB hx279_0
             have HR279_0 := Aside0.mk hi279_0
             have HC279_0 := Aside0.mk hl279_0
             clear hi279_0 hl279_0
             replace p279 := eq_true p279
             replace q279 := eq_true q279
             have p280 : 0 ≤ (x5_1 : Int) := of_decide_eq_true az
             have q280 : x5_1 < (l1.length : Int) := of_decide_eq_true az
             obtain ⟨ad280, A280_0, c280_0, e280, hx280_0, hl280_0, hi280_0⟩ := at_T85 HR1.out x5_1 p280 q280
             have hw280_0 := hx280_0
             cases e280
             replace hx280_0 := ck HB hx280_0
             have HR280_0 := Aside0.mk hi280_0
             have HC280_0 := Aside0.mk hl280_0
             clear hi280_0 hl280_0
             replace p280 := eq_true p280
             replace q280 := eq_true q280
             refine start_ (n := 10) (S := fun w' => w'.cell? (ad279.add (x5_1).toNat) = some (.slice A279_0 ((rd_T85 l0 x5_1).f0).length c279_0) ∧ w'.cell? (ad280.add (x5_1).toNat) = some (.slice A280_0 ((rd_T85 l1 x5_1).f0).length c280_0)) (ds := []) #[false, false, false, false, false, false, false, false, false, false] (by kernel_rfl) rfl rfl ⟨(ck HB hw279_0), (ck HB hw280_0)⟩ (fun hHeld => ?_); refine with_tabW laws_eqVBlockS.tab6 laws_eqVBlockS.bits6 (fun HT_ HW_ => ?_)
             generalize wr.drew = w11 at HB HR279_0 HR280_0 hx279_0 hx280_0 hHeld ⊢
             refine pure_ (i := 0) (N := some 17) (v := ?_) (a' := ?_) #[true, false, false, false, false, false, false, false, false, false] rfl rfl (any_of HT_.out (by kernel_rfl)) (fun _ _ _ h => h) (Or.inl ⟨by rfl, ?_⟩) ?_ ?_
             rotate_left
             · intro w'
               go_simp
               with_reducible rfl
             rotate_left
             · simp only [Act.put, sx1, sx2, sx3, i64_w, i32_w]
               rfl
             refine pure_ (i := 1) (N := some 18) (v := ?_) (a' := ?_) #[true, true, false, false, false, false, false, false, false, false] rfl rfl (any_of HT_.out (by kernel_rfl)) (fun _ _ _ h => h) (Or.inl ⟨by rfl, ?_⟩) ?_ ?_
             rotate_left
             · intro w'
               go_simp
               with_reducible rfl
             rotate_left
             · simp only [Act.put, sx1, sx2, sx3, i64_w, i32_w]
               rfl
             refine pure_ (i := 2) (N := some 19) (v := ?_) (a' := ?_) #[true, true, true, false, false, false, false, false, false, false] rfl rfl (any_of HT_.out (by kernel_rfl)) (fun _ _ _ h => h) (Or.inl ⟨by rfl, ?_⟩) ?_ ?_
             rotate_left
             · intro w'
               go_simp
               with_reducible rfl
             rotate_left
             · simp only [Act.put, sx1, sx2, sx3, i64_w, i32_w]
               rfl
             refine pure_ (i := 4) (N := some 21) (v := ?_) (a' := ?_) #[true, true, true, false, true, false, false, false, false, false] rfl rfl (any_of HT_.out (by kernel_rfl)) (fun _ _ _ h => h) (Or.inl ⟨by rfl, ?_⟩) ?_ ?_
             rotate_left
             · intro w'
               go_simp
               with_reducible rfl
             rotate_left
             · simp only [Act.put, sx1, sx2, sx3, i64_w, i32_w]
               rfl
             refine pure_ (i := 5) (N := some 22) (v := ?_) (a' := ?_) #[true, true, true, false, true, true, false, false, false, false] rfl rfl (any_of HT_.out (by kernel_rfl)) (fun _ _ _ h => h) (Or.inl ⟨by rfl, ?_⟩) ?_ ?_
             rotate_left
             · intro w'
               go_simp
               with_reducible rfl
             rotate_left
             · simp only [Act.put, sx1, sx2, sx3, i64_w, i32_w]
               rfl
             refine pure_ (i := 6) (N := some 23) (v := ?_) (a' := ?_) #[true, true, true, false, true, true, true, false, false, false] rfl rfl (any_of HT_.out (by kernel_rfl)) (fun _ _ _ h => h) (Or.inl ⟨by rfl, ?_⟩) ?_ ?_
             rotate_left
             · intro w'
               go_simp
               with_reducible rfl
             rotate_left
             · simp only [Act.put, sx1, sx2, sx3, i64_w, i32_w]
               rfl
             refine take_ (i := 3) (N := some 20) (v := ?_) (a' := ?_) #[true, true, true, true, true, true, true, false, false, false] rfl rfl (take_ofW HT_.out HW_.out (by kernel_rfl)) (fun _ _ _ h => h) (Or.inl ⟨by rfl, ?_⟩) hHeld ?_ ?_
             rotate_left
             · rintro w' ⟨s0, s1⟩
               go_simp
               with_reducible rfl
             rotate_left
             · simp only [Act.put, sx1, sx2, sx3, i64_w, i32_w]
               rfl
             refine take_ (i := 7) (N := some 24) (v := ?_) (a' := ?_) #[true, true, true, true, true, true, true, true, false, false] rfl rfl (take_ofW HT_.out HW_.out (by kernel_rfl)) (fun _ _ _ h => h) (Or.inl ⟨by rfl, ?_⟩) hHeld ?_ ?_
             rotate_left
             · rintro w' ⟨s0, s1⟩
               go_simp
               with_reducible rfl
             rotate_left
             · simp only [Act.put, sx1, sx2, sx3, i64_w, i32_w]
               rfl
             refine one_ (i := 8) (N := some 25) #[true, true, true, true, true, true, true, true, true, false] rfl rfl (one_of HT_.out (by kernel_rfl)) (by decide) (fun K hK => ?_)
             refine goes_ Try.func118 (by kernel_rfl) rfl #[.agg #[.slice A279_0 ((rd_T85 l0 x5_1).f0).length c279_0], .agg #[.slice A280_0 ((rd_T85 l1 x5_1).f0).length c280_0]] (by rfl) rfl rfl lz ?_
             with_reducible refine (laws_eqVBlock.calls k1 _ _ ((rd_T85 l0 x5_1).f0) _ _ ((rd_T85 l1 x5_1).f0) false _ ?side1 ?side2 ?side3 ?side4 A7.out).mono ?_
             (case side1 => exact cz HR279_0.out)
             (case side2 => exact HC279_0.out)
             (case side3 => exact cz HR280_0.out)
             (case side4 => exact HC280_0.out)
             rintro e w12 ⟨rfl, hb⟩
             refine ⟨_, rfl, ?_⟩
             replace HB := Aside0.mk (below_step bz hb)
             (try clear hb)
             (try clear hb2)
             (try clear hk)
             (try clear hi)
             refine hK.out _ _ ⟨(ck HB hw279_0), (ck HB hw280_0)⟩ (fun hHeld => ?_)
             clear hK K
             refine norm_ (a' := ?_) ?_ ?_
             rotate_left
             · show Act.put _ (some 25) _ = _
               simp only [Act.put, sx1, sx2, sx3, i64_w, i32_w]
               rfl
             refine pure_ (i := 9) (N := some 26) (v := ?_) (a' := ?_) #[true, true, true, true, true, true, true, true, true, true] rfl rfl (any_of HT_.out (by kernel_rfl)) (fun _ _ _ h => h) (Or.inl ⟨by rfl, ?_⟩) ?_ ?_
             rotate_left
             · intro w'
               go_simp
               with_reducible rfl
             rotate_left
             · simp only [Act.put, sx1, sx2, sx3, i64_w, i32_w]
               rfl
             refine done_ (done_of HT_.out (by kernel_rfl)) ?_
             try go_wp2
             go_ret
             exact ⟨by first | rfl | (simp [errW_none, errW_some] <;> rfl) | (simp [*, errW_none, errW_some] <;> rfl), bz⟩
         · rw [if_neg c6] at H
           exact absurd H (by simp)
       · rw [if_neg c5] at H
         exact absurd H (by simp)
     · rw [if_neg c4] at H
       have c4b0 : decide (x5_1 < (l0.length : Int)) = false := decide_eq_false c4
       clear c4
       obtain rfl := Option.some.inj H
       go_wp2
       go_ret
       exact ⟨by first | rfl | (simp [errW_none, errW_some] <;> rfl) | (simp [*, errW_none, errW_some] <;> rfl), bz⟩
 · rw [if_neg c3] at H
   have c3b0 : ((l0.length : Int) == (l1.length : Int)) = false := beq_eq_false_iff_ne.mpr c3
   have c3b1 : ((l0.length : Int) != (l1.length : Int)) = true := bne_iff_ne.mpr c3
   have c3b2 : (l0.length == l1.length) = false := by first | simpa using c3 | (simp at c3 ⊢; omega)
   obtain rfl := Option.some.inj H
   go_enter Try.func66, Try.ntmps66
   go_wp2
   go_ret
   exact ⟨by first | rfl | (simp [errW_none, errW_some] <;> rfl) | (simp [*, errW_none, errW_some] <;> rfl), bz⟩

set_option linter.unusedVariables false
set_option linter.unusedSimpArgs false

def laws_eqVFunc.f (k : Nat) (a0_0 : Int) (l0_1 : List Int) (l0_2 : List (S85)) (a1_0 : Int) (l1_1 : List Int) (l1_2 : List (S85)) : Option Bool := if a0_0 = a1_0 then (((laws_eqInt64S.f k l0_1 l1_1).bind fun t1 => (if t1 = true then (((laws_eqVBlockS.f k l0_2 l1_2).bind fun t2 => (if t2 = true then (some true) else none))) else none))) else none
set_option maxHeartbeats 4000000 in
set_option maxRecDepth 100000 in
theorem laws_eqVFunc.calls (k : Nat) (a0_0 : Int) (A0_1 : Option Addr) (c0_1 : Nat) (l0_1 : List Int) (A0_2 : Option Addr) (c0_2 : Nat) (l0_2 : List (S85)) (a1_0 : Int) (A1_1 : Option Addr) (c1_1 : Nat) (l1_1 : List Int) (A1_2 : Option Addr) (c1_2 : Nat) (l1_2 : List (S85)) (r : Bool) (w : World) (hr0_1 : Kd.C (Kd.int .i64) w A0_1 l0_1.length l0_1) (hc0_1 : l0_1.length ≤ c0_1) (hr0_2 : Kd.C k85 w A0_2 l0_2.length l0_2) (hc0_2 : l0_2.length ≤ c0_2) (hr1_1 : Kd.C (Kd.int .i64) w A1_1 l1_1.length l1_1) (hc1_1 : l1_1.length ≤ c1_1) (hr1_2 : Kd.C k85 w A1_2 l1_2.length l1_2) (hc1_2 : l1_2.length ≤ c1_2) (h : laws_eqVFunc.f k a0_0 l0_1 l0_2 a1_0 l1_1 l1_2 = some r) :
 Calls Try.prog 15 #[.agg #[.int .i64 a0_0, .slice A0_1 l0_1.length c0_1, .slice A0_2 l0_2.length c0_2], .agg #[.int .i64 a1_0, .slice A1_1 l1_1.length c1_1, .slice A1_2 l1_2.length c1_2]] w fun e w' => e = .returned (.bool r) ∧ Below w.heap.size w w' := by
 unfold laws_eqVFunc.f at h
 by_cases e0 : a0_0 = a1_0
 rotate_left
 · rw [if_neg e0] at h; cases h
 rw [if_pos e0] at h
 subst e0
 obtain ⟨t1, b1, h1⟩ := Option.bind_eq_some_iff.mp h
 clear h
 by_cases e1 : t1 = true
 rotate_left
 · rw [if_neg e1] at h1; cases h1
 rw [if_pos e1] at h1
 subst e1
 have B1 := Aside0.mk b1
 clear b1
 obtain ⟨t2, b2, h2⟩ := Option.bind_eq_some_iff.mp h1
 clear h1
 by_cases e2 : t2 = true
 rotate_left
 · rw [if_neg e2] at h2; cases h2
 rw [if_pos e2] at h2
 subst e2
 have B2 := Aside0.mk b2
 clear b2
 obtain rfl := Option.some.inj h2
 clear h2
 have R0_1 := Aside0.mk hr0_1; have C0_1 := Aside0.mk hc0_1; clear hr0_1 hc0_1
 have R0_2 := Aside0.mk hr0_2; have C0_2 := Aside0.mk hc0_2; clear hr0_2 hc0_2
 have R1_1 := Aside0.mk hr1_1; have C1_1 := Aside0.mk hc1_1; clear hr1_1 hc1_1
 have R1_2 := Aside0.mk hr1_2; have C1_2 := Aside0.mk hc1_2; clear hr1_2 hc1_2
 have hu := Try.underlying29
 go_enter Try.func15, Try.ntmps15
 go_wp2_with (first | (go_at_call 20; refine calls_at (fun W => Below w.heap.size w W ∧ W.heap[w.heap.size]? = some (.cells #[.int .i64 a0_0, .slice A0_1 l0_1.length c0_1, .slice A0_2 l0_2.length c0_2] 29 (0, 0)) ∧ W.heap[w.heap.size + 1]? = some (.cells #[.int .i64 a0_0, .slice A1_1 l1_1.length c1_1, .slice A1_2 l1_2.length c1_2] 29 (0, 0))) ?h_1 ?_; (case h_1 => exact ⟨below_alloc (below_alloc (Below.refl _ _) _) _, alloc2_0 _ _ _, alloc2_1 _ _ _⟩); rintro W1 ⟨b1, p1, q1⟩; refine (laws_eqInt64S.calls k A0_1 c0_1 l0_1 A1_1 c1_1 l1_1 true W1 (Kd.C_below R0_1.out b1) C0_1.out (Kd.C_below R1_1.out b1) C1_1.out B1.out).mono ?_; rintro e w1 ⟨rfl, d1⟩; have d1 := d1.below; have BW1 := Aside0.mk (below_step b1 d1); have P1 := Aside0.mk ((d1.block _ (blk_lt p1)).trans p1); have Q1 := Aside0.mk ((d1.block _ (blk_lt q1)).trans q1); clear b1 p1 q1 d1; have x1_2 : w1.cell? ⟨w.heap.size, 2, none⟩ = some (.slice A0_2 l0_2.length c0_2) := (blk_cell P1.out 2).trans rfl; have y1_2 : w1.cell? ⟨w.heap.size + 1, 2, none⟩ = some (.slice A1_2 l1_2.length c1_2) := (blk_cell Q1.out 2).trans rfl) | (go_at_call 66; refine calls_at (fun W => Below w.heap.size w W ∧ W.heap[w.heap.size]? = some (.cells #[.int .i64 a0_0, .slice A0_1 l0_1.length c0_1, .slice A0_2 l0_2.length c0_2] 29 (0, 0)) ∧ W.heap[w.heap.size + 1]? = some (.cells #[.int .i64 a0_0, .slice A1_1 l1_1.length c1_1, .slice A1_2 l1_2.length c1_2] 29 (0, 0))) ?h_2 ?_; (case h_2 => exact ⟨BW1.out, P1.out, Q1.out⟩); rintro W2 ⟨b2, p2, q2⟩; refine (laws_eqVBlockS.calls k A0_2 c0_2 l0_2 A1_2 c1_2 l1_2 true W2 (Kd.C_below R0_2.out b2) C0_2.out (Kd.C_below R1_2.out b2) C1_2.out B2.out).mono ?_; rintro e w2 ⟨rfl, d2⟩; have BW2 := Aside0.mk (below_step b2 d2); have P2 := Aside0.mk ((d2.block _ (blk_lt p2)).trans p2); have Q2 := Aside0.mk ((d2.block _ (blk_lt q2)).trans q2); clear b2 p2 q2 d2))
 go_ret
 exact ⟨rfl, BW2.out⟩

set_option linter.unusedVariables false
set_option linter.unusedSimpArgs false

def laws_markText.l0 : Nat → Int → ByteArray → Option (ByteArray)
 | 0, _, _ => none
 | k + 1, x0, x3 => if x0 > 0 then ((some (([(wrap64 (48 + (Int.tmod x0 10))) % 256] : List Int) : List Int)).bind fun y283 => (if (strOfNums y283).size + x3.size ≤ 9223372036854775807 then (laws_markText.l0 k (wrap64 (Int.tdiv x0 10)) ((strOfNums y283) ++ x3)) else (none))) else (if 1 + x3.size ≤ 9223372036854775807 then (some ((⟨#[109]⟩ : ByteArray) ++ x3)) else (none))
def laws_markText.f (k : Nat) (a0 : Int) : Option (ByteArray) := if a0 ≤ 0 then (some (⟨#[109, 48]⟩ : ByteArray)) else (laws_markText.l0 k a0 (⟨#[]⟩ : ByteArray))
set_option maxHeartbeats 8000000 in
set_option maxRecDepth 100000 in
theorem laws_markText.calls (k : Nat) (a0 : Int) (r : ByteArray) (w : World) (h : laws_markText.f k a0 = some r) :
 Calls Try.prog 135 #[.int .i64 a0] w fun e w' => e = .returned (.string r) ∧ Below w.heap.size w w' := by
 have HB := Aside0.mk (Below.refl w.heap.size w)
 have H : (if a0 ≤ 0 then (some (⟨#[109, 48]⟩ : ByteArray)) else (laws_markText.l0 k a0 (⟨#[]⟩ : ByteArray))) = some r := h
 clear h
 by_cases c2 : a0 ≤ 0
 · rw [if_pos c2] at H
   have c2b0 : decide (a0 ≤ 0) = true := decide_eq_true c2
   clear c2
   obtain rfl := Option.some.inj H
   go_enter Try.func135, Try.ntmps135
   go_wp2
   go_ret
   exact ⟨by first | rfl | (simp [errW_none, errW_some] <;> rfl) | (simp [*, errW_none, errW_some] <;> rfl), bz⟩
 · rw [if_neg c2] at H
   have c2b0 : decide (a0 ≤ 0) = false := decide_eq_false c2
   clear c2
   have H' := Aside0.mk H
   clear H
   go_enter Try.func135, Try.ntmps135
   go_wp2
   go_loopg [0, 3] k (fun kq v0 v3 w' => ∃ (x0_1 : Int) (x3_1 : ByteArray), v0 = .int .i64 x0_1 ∧ v3 = .string x3_1 ∧ Aside0 (laws_markText.l0 kq x0_1 x3_1 = some r) ∧ Aside0 (kq ≤ k) ∧ Aside0 (Below w.heap.size w w'))
   case atStart => exact ⟨(a0), ((⟨#[]⟩ : ByteArray)), sz_, sz_, H', ⟨Nat.le_refl _⟩, ⟨ bz⟩⟩
   case round =>
    clear H'
    obtain ⟨x0_1, x3_1, rfl, rfl, HA, HK1, HB⟩ := hrel
    cases gk with
    | zero => exact absurd HA.out (by simp [laws_markText.l0])
    | succ k1 =>
     have H := HA.out
     clear HA
     simp only [laws_markText.l0] at H
     by_cases c3 : x0_1 > 0
     · rw [if_pos c3] at H
       have c3b0 : decide (0 < x0_1) = true := decide_eq_true c3
       clear c3
       obtain ⟨y283, hy283⟩ : ∃ y_ : List Int, y_ = (([(wrap64 (48 + (Int.tmod x0_1 10))) % 256] : List Int)) := ⟨_, rfl⟩
       replace H : (if (strOfNums y283).size + x3_1.size ≤ 9223372036854775807 then (laws_markText.l0 k1 (wrap64 (Int.tdiv x0_1 10)) ((strOfNums y283) ++ x3_1)) else (none)) = some r := by first | (rw [hy283]; with_reducible exact H) | (have H2_ := (Option.bind_some _ _).symm.trans H; rw [hy283]; with_reducible exact H2_) | (have H2_ := (Option.bind_some _ _).symm.trans H; with_reducible exact H2_) | with_reducible exact H | (rw [hy283]; exact H) | exact H
       have Ny283 := Aside0.mk hy283
       clear hy283
       by_cases c4 : (strOfNums y283).size + x3_1.size ≤ 9223372036854775807
       · rw [if_pos c4] at H
         have c4b0 := eq_true c4
         have c4b1 : decide ((strOfNums y283).size + x3_1.size ≤ 9223372036854775807) = true := decide_eq_true c4
         try have c4b2 : (9223372036854775807 < (strOfNums y283).size + x3_1.size) = False := eq_false (Nat.not_lt.2 c4)
         have H' := Aside0.mk H
         clear H
         go_wp2_with (first | ((with_reducible refine gate_dst (N := 12) rfl ?_); refine Kd.R_lit (Kd.int .u8) _ 5 ?hg (N := 12) ?hd (xs := ([(wrap64 (48 + (Int.tmod x0_1 10))) % 256] : List Int)) (inner := [.int .u8 ((wrap64 (48 + (Int.tmod x0_1 10))) % 256)]) (ok := fun _ => True) (okp := fun _ => True) ?hr ?hp (fun _ hk => hk) trivial (Below.refl _ _) (Nat.le_refl _) (by simp) ?_; (case hd => rfl); (case hg => rfl); (case hr => first | (go_simp; done) | (go_simp; rfl)); (case hp => exact (Reps.one (show Kd.M (Kd.int .u8) _ _ _ ((wrap64 (48 + (Int.tmod x0_1 10))) % 256) [.int .u8 ((wrap64 (48 + (Int.tmod x0_1 10))) % 256)] from rfl) (Reps.none _ _))); intro v284 w5 ho6 hb hg_ hnew_; clear hg_ hnew_; (first | rw [← Ny283.out] at ho6 | (simp only [Int.reduceToNat] at ho6; rw [← Ny283.out] at ho6)); have HO285 := Aside0.mk (Kd.R_lower ho6 (below_size bz)); replace HB := Aside0.mk (below_step bz hb); clear hb ho6; have hcv7 := own_string (P := Try.prog) Try.underlying72 Try.underlying5 Try.underlying9 (Kd.own_of_R HO285.out)))
         go_roundg k1
         case measure => have := HK1.out; omega
         case rel => exact ⟨(wrap64 (Int.tdiv x0_1 10)), ((strOfNums y283) ++ x3_1), sz_, sz_, H', ⟨by have := HK1.out; omega⟩, ⟨ bz⟩⟩
       · rw [if_neg c4] at H
         exact absurd H (by simp)
     · rw [if_neg c3] at H
       have c3b0 : decide (0 < x0_1) = false := decide_eq_false c3
       clear c3
       by_cases c8 : 1 + x3_1.size ≤ 9223372036854775807
       · rw [if_pos c8] at H
         have c8b0 := eq_true c8
         have c8b1 : decide (1 + x3_1.size ≤ 9223372036854775807) = true := decide_eq_true c8
         try have c8b2 : (9223372036854775807 < 1 + x3_1.size) = False := eq_false (Nat.not_lt.2 c8)
         obtain rfl := Option.some.inj H
         go_wp2
         go_ret
         exact ⟨by first | rfl | (simp [errW_none, errW_some] <;> rfl) | (simp [*, errW_none, errW_some] <;> rfl), bz⟩
       · rw [if_neg c8] at H
         exact absurd H (by simp)

end Go.Proofs.Ythegbhfoleiegaa.All

/- The laws' text of a mark: it is made, whatever the number. -/
namespace Go.Proofs.Ythegbhfoleiegaa.All
open Go.RowKit Go.Proofs.YthegbhfoleiegaaW.PrintWords Go.Proofs.YthegbhfoleiegaaW.PrintLast Go.Proofs.YthegbhfoleiegaaW.PrintMore
set_option linter.unusedVariables false
set_option linter.unusedSimpArgs false
theorem strOfNums_one (a : Int) : (strOfNums [a]).size = 1 := by simp [strOfNums, ByteArray.size]
theorem markText_l0 : ∀ (d : Nat) (x : Int) (s : ByteArray), 0 ≤ x → x < 10 ^ d → d ≤ 18 → s.size + d ≤ 1000 → ∃ K r, laws_markText.l0 K x s = some r
  | 0, x, s, h0, h1, _, h3 => by
    have : x = 0 := by simp at h1; omega
    subst this
    refine ⟨1, (⟨#[109]⟩ : ByteArray) ++ s, ?_⟩
    rw [laws_markText.l0, if_neg (by omega), if_pos (by omega)]
  | d + 1, x, s, h0, h1, h2, h3 => by
    by_cases hx : x > 0
    · have e1 : Int.tdiv x 10 = x / 10 := Int.tdiv_eq_ediv_of_nonneg h0
      have b0 : (10 : Int) ^ (d + 1) = 10 ^ d * 10 := Int.pow_succ ..
      have b1 : (10 : Int) ^ d ≤ 10 ^ 17 := by
        have : (10 : Nat) ^ d ≤ 10 ^ 17 := Nat.pow_le_pow_right (by omega) (by omega)
        exact_mod_cast this
      have e2 : wrap64 (Int.tdiv x 10) = x / 10 := by rw [e1]; unfold wrap64; omega
      obtain ⟨K, r, hK⟩ := markText_l0 d (x / 10) (strOfNums [(wrap64 (48 + (Int.tmod x 10))) % 256] ++ s) (by omega) (by omega) (by omega) (by rw [ByteArray.size_append, strOfNums_one]; omega)
      refine ⟨K + 1, r, ?_⟩
      rw [laws_markText.l0, if_pos hx, Option.bind_some, if_pos (by rw [strOfNums_one]; omega), e2]
      exact hK
    · refine ⟨1, (⟨#[109]⟩ : ByteArray) ++ s, ?_⟩
      rw [laws_markText.l0, if_neg hx, if_pos (by omega)]
theorem markText_c (x : Int) (w : World) (h0 : 0 ≤ x) (h1 : x ≤ 1000000000000) : Calls Try.prog 135 #[.int .i64 x] w fun e w' => ∃ r, e = .returned (.string r) ∧ Below w.heap.size w w' := by
  by_cases hx : x ≤ 0
  · exact (laws_markText.calls 0 x _ w (by unfold laws_markText.f; rw [if_pos hx])).mono fun e w' h => ⟨_, h.1, h.2⟩
  · obtain ⟨K, r, hK⟩ := markText_l0 13 x ⟨#[]⟩ h0 (by omega) (by omega) (by simp [ByteArray.size])
    exact (laws_markText.calls K x r w (by unfold laws_markText.f; rw [if_neg hx]; exact hK)).mono fun e w' h => ⟨_, h.1, h.2⟩
end Go.Proofs.Ythegbhfoleiegaa.All

/- The walks of the laws' mark functions, as what they leave. Printed by gen_mark.py. -/
namespace Go.Proofs.Ythegbhfoleiegaa.All
open Go.RowKit Go.Proofs.YthegbhfoleiegaaW.PrintWords Go.Proofs.YthegbhfoleiegaaW.PrintLast Go.Proofs.YthegbhfoleiegaaW.PrintMore
set_option linter.unusedVariables false
set_option linter.unusedSimpArgs false
def cntL_int64 (xs : List Int) : Nat := xs.length
theorem cntL_int64_same {xs ys : List Int} (h : sameL (Shp.int .i64).same xs ys) : cntL_int64 ys = cntL_int64 xs := h.1
theorem cntL_int64_take (xs : List Int) (m : Nat) (h : m < xs.length) : cntL_int64 (xs.take (m + 1)) = cntL_int64 (xs.take m) + 1 := by unfold cntL_int64; rw [List.length_take, List.length_take]; omega
theorem cntL_int64_le (xs : List Int) (m : Nat) : cntL_int64 (xs.take m) ≤ cntL_int64 xs := by unfold cntL_int64; rw [List.length_take]; omega
theorem cntL_int64_len (xs : List Int) : xs.length ≤ cntL_int64 xs := Nat.le_refl _
def cnt_VIns (x : S87) : Nat := 7 + cntL_int64 x.f7
def cntL_VIns (xs : List S87) : Nat := (xs.map cnt_VIns).sum
def shp_VIns : Shp k87 := Shp.iso (Shp.pair (Shp.int .i64) (Shp.pair (Shp.int .i64) (Shp.pair (Shp.int .i64) (Shp.pair (Shp.int .i64) (Shp.pair (Shp.int .i64) (Shp.pair (Shp.int .i64) (Shp.pair Shp.string (Shp.slice 2 (Shp.int .i64))))))))) (fun x : S87 => (x.f0, x.f1, x.f2, x.f3, x.f4, x.f5, x.f6, x.f7)) (fun y => ⟨y.1, y.2.1, y.2.2.1, y.2.2.2.1, y.2.2.2.2.1, y.2.2.2.2.2.1, y.2.2.2.2.2.2.1, y.2.2.2.2.2.2.2⟩) (fun _ => rfl)
theorem cnt_VIns_same {x y : S87} (h : shp_VIns.same x y) : cnt_VIns y = cnt_VIns x := by
  have e7 : cntL_int64 y.f7 = cntL_int64 x.f7 := cntL_int64_same h.2.2.2.2.2.2.2
  unfold cnt_VIns
  rw [e7]
theorem cntL_VIns_same {xs ys : List S87} (h : sameL shp_VIns.same xs ys) : cntL_VIns ys = cntL_VIns xs := sameL_sum h (fun _ _ h => cnt_VIns_same h)
theorem cntL_VIns_take (xs : List S87) (m : Nat) (h : m < xs.length) : cntL_VIns (xs.take (m + 1)) = cntL_VIns (xs.take m) + cnt_VIns (xs.getD m z87) := sum_take_succ _ _ xs m h
theorem cntL_VIns_len (xs : List S87) : xs.length ≤ cntL_VIns xs := len_le_sum xs (fun x => by unfold cnt_VIns; omega)
theorem cntL_VIns_le (xs : List S87) (m : Nat) : cntL_VIns (xs.take m) ≤ cntL_VIns xs := sum_take_le _ xs m
def cnt_VBlock (x : S85) : Nat := cntL_VIns x.f0
def cntL_VBlock (xs : List S85) : Nat := (xs.map cnt_VBlock).sum
def shp_VBlock : Shp k85 := Shp.iso (Shp.slice 87 shp_VIns) (fun x : S85 => x.f0) (fun y => ⟨y⟩) (fun _ => rfl)
theorem cnt_VBlock_same {x y : S85} (h : shp_VBlock.same x y) : cnt_VBlock y = cnt_VBlock x := by
  have e0 : cntL_VIns y.f0 = cntL_VIns x.f0 := cntL_VIns_same h
  unfold cnt_VBlock
  rw [e0]
theorem cntL_VBlock_same {xs ys : List S85} (h : sameL shp_VBlock.same xs ys) : cntL_VBlock ys = cntL_VBlock xs := sameL_sum h (fun _ _ h => cnt_VBlock_same h)
theorem cntL_VBlock_take (xs : List S85) (m : Nat) (h : m < xs.length) : cntL_VBlock (xs.take (m + 1)) = cntL_VBlock (xs.take m) + cnt_VBlock (xs.getD m z85) := sum_take_succ _ _ xs m h
theorem cntL_VBlock_le (xs : List S85) (m : Nat) : cntL_VBlock (xs.take m) ≤ cntL_VBlock xs := sum_take_le _ xs m
theorem laws_markInt64S.elem {w : World} {base g n cap : Nat} {ok : Nat → Prop} {xs : List Int} (hR : (Kd.int .i64).R 2 w base ok (.slice (some ⟨g, 0, none⟩) n cap) xs) (m : Nat) (h1 : m < n) : ∃ y0, w.cell? ⟨g, m, none⟩ = some (.int .i64 y0) := by
  obtain ⟨e, _⟩ := Kd.R_celln 0 hR (m : Int) (by omega) (by omega)
  exact ⟨_, by simpa using e⟩
set_option maxHeartbeats 4000000 in
set_option maxRecDepth 100000 in
theorem laws_markInt64S.sim (v : Value) (xs : List Int) (a1 : Int) (w : World) (base : Nat) (ok : Nat → Prop) (h0 : 0 ≤ a1) (hb : a1 + cntL_int64 xs ≤ 1000000000000) (hR : (Kd.int .i64).R 2 w base ok v xs) :
    Calls Try.prog 21 #[v, .int .i64 a1] w fun e w' => e = .returned (.int .i64 (a1 + cntL_int64 xs)) ∧ Sim w w' (fun k => ok k ∧ base ≤ k) := by
  have HR := Aside0.mk (Kd.R_based hR)
  clear hR
  obtain ⟨A, c, rfl⟩ := Kd.R_slice HR.out
  have hl0 : xs.length ≤ 1000000000000 := by have := cntL_int64_len xs; omega
  have HB := Aside0.mk hb
  clear hb
  go_enter Try.func21, Try.ntmps21
  go_wp2
  go_loopw [1, 5] (fun v1 v5 w' => ∃ m : Nat, m ≤ xs.length ∧ v1 = .int .i64 (a1 + cntL_int64 (xs.take m)) ∧ v5 = .int .i64 (m : Int) ∧ Aside0 (Sim w w' (fun k => ok k ∧ base ≤ k))) (fun _ v5 _ => xs.length - (intOf v5).toNat)
  case atStart => exact ⟨0, Nat.zero_le _, by simp [cntL_int64], rfl, ⟨Sim.refl _ _⟩⟩
  case round =>
    obtain ⟨m, hm, rfl, rfl, HS⟩ := hrel
    have hle := cntL_int64_le xs m
    by_cases hlt : m < xs.length
    · have htk := cntL_int64_take xs m hlt
      have hle1 := cntL_int64_le xs (m + 1)
      obtain ⟨g, cap, eg, _, _, gc⟩ := Kd.R_form HR.out (by omega)
      injection eg with ea _ ec
      subst ea
      subst ec
      have GS : ok g ∧ base ≤ g := HR.out.1 g rfl
      have HG := Aside0.mk GS
      clear GS
      have GC := Aside0.mk gc
      clear gc
      obtain ⟨y0, c0⟩ := laws_markInt64S.elem HR.out m hlt
      obtain ⟨X, hX⟩ : ∃ X : Int, X = a1 + cntL_int64 (xs.take m) := ⟨_, rfl⟩
      rw [← hX]
      have hbb := HB.out
      have hX0 : 0 ≤ X := by omega
      have hX1 : X + 1 ≤ 1000000000000 := by omega
      have C0 := Aside0.mk c0
      clear c0
      have hfin : a1 + cntL_int64 (xs.take (m + 1)) = X + 1 := by omega
      have FIN := Aside0.mk hfin
      have HX := Aside0.mk hX
      clear hfin hX htk hle hle1 hbb
      obtain ⟨d0, e0⟩ := HS.out.scal_int GC.out C0.out
      have z0 := HS.out.frozen (j := m) GC.out
      go_wp2
      go_roundw
      case measure => simp [intOf]; omega
      case rel => exact ⟨m + 1, by omega, by (first | (rw [FIN.out]; done) | (rw [FIN.out]; go_num)), by go_num, ⟨by repeat (first | exact HS.out | (with_reducible refine Sim.putw ?_ GC.out (by first | exact C0.out) HG.out))⟩⟩
    · have : m = xs.length := by omega
      subst this
      rw [List.take_length]
      go_wp2
      go_ret
      exact ⟨rfl, HS.out⟩
theorem laws_markVInsS.elem {w : World} {base g n cap : Nat} {ok : Nat → Prop} {xs : List S87} (hR : k87.R 87 w base ok (.slice (some ⟨g, 0, none⟩) n cap) xs) (m : Nat) (h1 : m < n) : ∃ (x : S87) (v7 : Value), x = xs.getD m z87 ∧ w.cell? ⟨g, m * 8, none⟩ = some (.int .i64 x.f0) ∧ w.cell? ⟨g, m * 8 + 1, none⟩ = some (.int .i64 x.f1) ∧ w.cell? ⟨g, m * 8 + 2, none⟩ = some (.int .i64 x.f2) ∧ w.cell? ⟨g, m * 8 + 3, none⟩ = some (.int .i64 x.f3) ∧ w.cell? ⟨g, m * 8 + 4, none⟩ = some (.int .i64 x.f4) ∧ w.cell? ⟨g, m * 8 + 5, none⟩ = some (.int .i64 x.f5) ∧ w.cell? ⟨g, m * 8 + 6, none⟩ = some (.string x.f6) ∧ w.cell? ⟨g, m * 8 + 7, none⟩ = some v7 ∧ (Kd.int .i64).R 2 w base ok v7 x.f7 := by
  obtain ⟨c, hl, hM, hc, _⟩ := Kd.R_elem hR z87 (m : Int) (by omega) (by omega)
  simp only [Int.toNat_natCast] at hM hc
  obtain ⟨v7, rfl, r7⟩ := k87_openM hM
  exact ⟨_, v7, rfl, hc 0 _ rfl, hc 1 _ rfl, hc 2 _ rfl, hc 3 _ rfl, hc 4 _ rfl, hc 5 _ rfl, hc 6 _ rfl, hc 7 _ rfl, Kd.R_mono r7 (fun _ hk => hk.1)⟩
set_option maxHeartbeats 4000000 in
set_option maxRecDepth 100000 in
theorem laws_markVInsS.sim (v : Value) (xs : List S87) (a1 : Int) (w : World) (base : Nat) (ok : Nat → Prop) (h0 : 0 ≤ a1) (hb : a1 + cntL_VIns xs ≤ 1000000000000) (hR : k87.R 87 w base ok v xs) :
    Calls Try.prog 119 #[v, .int .i64 a1] w fun e w' => e = .returned (.int .i64 (a1 + cntL_VIns xs)) ∧ Sim w w' (fun k => ok k ∧ base ≤ k) := by
  have HR := Aside0.mk (Kd.R_based hR)
  clear hR
  obtain ⟨A, c, rfl⟩ := Kd.R_slice HR.out
  have hl0 : xs.length ≤ 1000000000000 := by have := cntL_VIns_len xs; omega
  have HB := Aside0.mk hb
  clear hb
  go_enter Try.func119, Try.ntmps119
  go_wp2
  go_loopw [1, 5] (fun v1 v5 w' => ∃ m : Nat, m ≤ xs.length ∧ v1 = .int .i64 (a1 + cntL_VIns (xs.take m)) ∧ v5 = .int .i64 (m : Int) ∧ Aside0 (Sim w w' (fun k => ok k ∧ base ≤ k))) (fun _ v5 _ => xs.length - (intOf v5).toNat)
  case atStart => exact ⟨0, Nat.zero_le _, by simp [cntL_VIns], rfl, ⟨Sim.refl _ _⟩⟩
  case round =>
    obtain ⟨m, hm, rfl, rfl, HS⟩ := hrel
    have hle := cntL_VIns_le xs m
    by_cases hlt : m < xs.length
    · have htk := cntL_VIns_take xs m hlt
      have hle1 := cntL_VIns_le xs (m + 1)
      obtain ⟨g, cap, eg, _, _, gc⟩ := Kd.R_form HR.out (by omega)
      injection eg with ea _ ec
      subst ea
      subst ec
      have GS : ok g ∧ base ≤ g := HR.out.1 g rfl
      have HG := Aside0.mk GS
      clear GS
      have GC := Aside0.mk gc
      clear gc
      obtain ⟨x, v7, hx, c0, c1, c2, c3, c4, c5, c6, c7, r7⟩ := laws_markVInsS.elem HR.out m hlt
      rw [← hx] at htk
      have hcx : cnt_VIns x = 7 + cntL_int64 x.f7 := rfl
      obtain ⟨X, hX⟩ : ∃ X : Int, X = a1 + cntL_VIns (xs.take m) := ⟨_, rfl⟩
      rw [← hX]
      have hbb := HB.out
      have hX0 : 0 ≤ X := by omega
      have hX1 : X + 7 + (cntL_int64 x.f7 : Nat) ≤ 1000000000000 := by omega
      obtain ⟨q7, hq7⟩ : ∃ q : Nat, q = cntL_int64 x.f7 := ⟨_, rfl⟩
      rw [← hq7] at hX1 hcx
      have R7 := Aside0.mk r7
      clear r7
      have C0 := Aside0.mk c0
      clear c0
      have C1 := Aside0.mk c1
      clear c1
      have C2 := Aside0.mk c2
      clear c2
      have C3 := Aside0.mk c3
      clear c3
      have C4 := Aside0.mk c4
      clear c4
      have C5 := Aside0.mk c5
      clear c5
      have C6 := Aside0.mk c6
      clear c6
      have C7 := Aside0.mk c7
      clear c7
      have hfin : a1 + cntL_VIns (xs.take (m + 1)) = X + 7 + (q7 : Nat) := by omega
      have FIN := Aside0.mk hfin
      have HX := Aside0.mk hX
      have HXX := Aside0.mk hx
      clear hx hcx
      have HQ7 := Aside0.mk hq7
      clear hq7
      clear hfin hX htk hle hle1 hbb
      obtain ⟨d0, e0⟩ := HS.out.scal_int GC.out C0.out
      have z0 := HS.out.frozen (j := m * 8) GC.out
      obtain ⟨d1, e1⟩ := HS.out.scal_int GC.out C1.out
      have z1 := HS.out.frozen (j := m * 8 + 1) GC.out
      obtain ⟨d2, e2⟩ := HS.out.scal_int GC.out C2.out
      have z2 := HS.out.frozen (j := m * 8 + 2) GC.out
      obtain ⟨d3, e3⟩ := HS.out.scal_int GC.out C3.out
      have z3 := HS.out.frozen (j := m * 8 + 3) GC.out
      obtain ⟨d4, e4⟩ := HS.out.scal_int GC.out C4.out
      have z4 := HS.out.frozen (j := m * 8 + 4) GC.out
      obtain ⟨d5, e5⟩ := HS.out.scal_int GC.out C5.out
      have z5 := HS.out.frozen (j := m * 8 + 5) GC.out
      go_wp2_with (first | (go_at_call 135; refine calls_at (fun W => Sim w W (fun k => ok k ∧ base ≤ k)) ?hs_6 ?_; (case hs_6 => repeat (first | exact HS.out | (with_reducible refine Sim.putw ?_ GC.out (by first | exact C0.out | exact C1.out | exact C2.out | exact C3.out | exact C4.out | exact C5.out) HG.out) | (with_reducible refine Sim.puts ?_ GC.out (by first | exact C6.out) HG.out))); intro W6 hs6; refine (markText_c _ W6 ?pa_6 ?pb_6).mono ?_; (case pa_6 => omega); (case pb_6 => omega); rintro e w6 ⟨r6, rfl, h6⟩; have HS6 := Aside0.mk (hs6.trans (Sim.of_below h6 _)); clear hs6 h6 e0 e1 e2 e3 e4 e5 z0 z1 z2 z3 z4 z5; obtain ⟨d6, e6⟩ := HS6.out.scal_string GC.out C6.out; have z6 := HS6.out.frozen (j := m * 8 + 6) GC.out; obtain ⟨A7, n7, k7, s7⟩ := Kd.R_slice' R7.out; have e7 := HS6.out.slc GC.out (C7.out.trans (congrArg some s7)); have S7 := Aside0.mk s7; clear s7) | (go_at_call 21; refine calls_at (fun W => Sim w W (fun k => ok k ∧ base ≤ k)) ?hs_7 ?_; (case hs_7 => repeat (first | exact HS6.out | (with_reducible refine Sim.putw ?_ GC.out (by first | exact C0.out | exact C1.out | exact C2.out | exact C3.out | exact C4.out | exact C5.out) HG.out) | (with_reducible refine Sim.puts ?_ GC.out (by first | exact C6.out) HG.out))); intro W7 hs7; obtain ⟨l7, P7, L7⟩ := Shp.R (Shp.int .i64) hs7 R7.out; rw [S7.out] at P7; have hl7 := cntL_int64_same L7; have hq7 := HQ7.out; refine (laws_markInt64S.sim _ l7 _ W7 base _ ?pa_7 ?pb_7 P7).mono ?_; (case pa_7 => omega); (case pb_7 => omega); rintro e w7 ⟨rfl, h7⟩; have HS7 := Aside0.mk (hs7.trans (h7.mono (fun _ hk => ⟨hk.1.1, hk.2⟩))); rw [hl7, ← hq7]; clear hs7 h7 hl7 hq7 P7 L7 e6 e7 z6))
      go_roundw
      case measure => simp [intOf]; omega
      case rel => exact ⟨m + 1, by omega, by (first | (rw [FIN.out]; done) | (rw [FIN.out]; go_num)), by go_num, ⟨HS7.out⟩⟩
    · have : m = xs.length := by omega
      subst this
      rw [List.take_length]
      go_wp2
      go_ret
      exact ⟨rfl, HS.out⟩
theorem laws_markVBlockS.elem {w : World} {base g n cap : Nat} {ok : Nat → Prop} {xs : List S85} (hR : k85.R 85 w base ok (.slice (some ⟨g, 0, none⟩) n cap) xs) (m : Nat) (h1 : m < n) : ∃ (x : S85) (v0 : Value), x = xs.getD m z85 ∧ w.cell? ⟨g, m, none⟩ = some v0 ∧ k87.R 87 w base ok v0 x.f0 := by
  obtain ⟨c, hl, hM, hc, _⟩ := Kd.R_elem hR z85 (m : Int) (by omega) (by omega)
  simp only [Int.toNat_natCast] at hM hc
  obtain ⟨v0, rfl, r0⟩ := k85_openM hM
  exact ⟨_, v0, rfl, by simpa [show k85.sz = 1 from rfl] using hc 0 _ rfl, Kd.R_mono r0 (fun _ hk => hk.1)⟩
set_option maxHeartbeats 4000000 in
set_option maxRecDepth 100000 in
theorem laws_markVBlockS.sim (v : Value) (xs : List S85) (a1 : Int) (w : World) (base : Nat) (ok : Nat → Prop) (h0 : 0 ≤ a1) (hb : a1 + cntL_VBlock xs ≤ 1000000000000) (hl0 : xs.length ≤ 1000000000000) (hR : k85.R 85 w base ok v xs) :
    Calls Try.prog 67 #[v, .int .i64 a1] w fun e w' => e = .returned (.int .i64 (a1 + cntL_VBlock xs)) ∧ Sim w w' (fun k => ok k ∧ base ≤ k) := by
  have HR := Aside0.mk (Kd.R_based hR)
  clear hR
  obtain ⟨A, c, rfl⟩ := Kd.R_slice HR.out
  have HB := Aside0.mk hb
  clear hb
  go_enter Try.func67, Try.ntmps67
  go_wp2
  go_loopw [1, 5] (fun v1 v5 w' => ∃ m : Nat, m ≤ xs.length ∧ v1 = .int .i64 (a1 + cntL_VBlock (xs.take m)) ∧ v5 = .int .i64 (m : Int) ∧ Aside0 (Sim w w' (fun k => ok k ∧ base ≤ k))) (fun _ v5 _ => xs.length - (intOf v5).toNat)
  case atStart => exact ⟨0, Nat.zero_le _, by simp [cntL_VBlock], rfl, ⟨Sim.refl _ _⟩⟩
  case round =>
    obtain ⟨m, hm, rfl, rfl, HS⟩ := hrel
    have hle := cntL_VBlock_le xs m
    by_cases hlt : m < xs.length
    · have htk := cntL_VBlock_take xs m hlt
      have hle1 := cntL_VBlock_le xs (m + 1)
      obtain ⟨g, cap, eg, _, _, gc⟩ := Kd.R_form HR.out (by omega)
      injection eg with ea _ ec
      subst ea
      subst ec
      have GS : ok g ∧ base ≤ g := HR.out.1 g rfl
      have HG := Aside0.mk GS
      clear GS
      have GC := Aside0.mk gc
      clear gc
      obtain ⟨x, v0, hx, c0, r0⟩ := laws_markVBlockS.elem HR.out m hlt
      rw [← hx] at htk
      have hcx : cnt_VBlock x = cntL_VIns x.f0 := rfl
      obtain ⟨X, hX⟩ : ∃ X : Int, X = a1 + cntL_VBlock (xs.take m) := ⟨_, rfl⟩
      rw [← hX]
      have hbb := HB.out
      have hX0 : 0 ≤ X := by omega
      have hX1 : X + (cntL_VIns x.f0 : Nat) ≤ 1000000000000 := by omega
      obtain ⟨q0, hq0⟩ : ∃ q : Nat, q = cntL_VIns x.f0 := ⟨_, rfl⟩
      rw [← hq0] at hX1 hcx
      have R0 := Aside0.mk r0
      clear r0
      have C0 := Aside0.mk c0
      clear c0
      have hfin : a1 + cntL_VBlock (xs.take (m + 1)) = X + (q0 : Nat) := by omega
      have FIN := Aside0.mk hfin
      have HX := Aside0.mk hX
      have HXX := Aside0.mk hx
      clear hx hcx
      have HQ0 := Aside0.mk hq0
      clear hq0
      clear hfin hX htk hle hle1 hbb
      obtain ⟨A0, n0, k0, s0⟩ := Kd.R_slice' R0.out
      have e0 := HS.out.slc GC.out (C0.out.trans (congrArg some s0))
      have S0 := Aside0.mk s0
      clear s0
      go_wp2_with (first | (go_at_call 119; refine calls_at (fun W => Sim w W (fun k => ok k ∧ base ≤ k)) ?hs_0 ?_; (case hs_0 => repeat (first | exact HS.out | (with_reducible refine Sim.putw ?_ GC.out (by first | exact C0.out | exact C0.out) HG.out))); intro W0 hs0; obtain ⟨l0, P0, L0⟩ := Shp.R shp_VIns hs0 R0.out; rw [S0.out] at P0; have hl0 := cntL_VIns_same L0; have hq0 := HQ0.out; refine (laws_markVInsS.sim _ l0 _ W0 base _ ?pa_0 ?pb_0 P0).mono ?_; (case pa_0 => omega); (case pb_0 => omega); rintro e w0 ⟨rfl, h0⟩; have HS0 := Aside0.mk (hs0.trans (h0.mono (fun _ hk => ⟨hk.1.1, hk.2⟩))); rw [hl0, ← hq0]; clear hs0 h0 hl0 hq0 P0 L0))
      go_roundw
      case measure => simp [intOf]; omega
      case rel => exact ⟨m + 1, by omega, by (first | (rw [FIN.out]; done) | (rw [FIN.out]; go_num)), by go_num, ⟨HS0.out⟩⟩
    · have : m = xs.length := by omega
      subst this
      rw [List.take_length]
      go_wp2
      go_ret
      exact ⟨rfl, HS.out⟩
end Go.Proofs.Ythegbhfoleiegaa.All

namespace Go.Proofs.Ythegbhfoleiegaa.All
open Go.RowKit Go.Proofs.YthegbhfoleiegaaW.PrintWords Go.Proofs.YthegbhfoleiegaaW.PrintLast Go.Proofs.YthegbhfoleiegaaW.PrintMore
attribute [local go_sem] max2_int min2_int max_two min_two max_three min_three max_four min_four   -- for this text's walks alone
set_option linter.unusedVariables false
set_option linter.unusedSimpArgs false

def laws_markVFunc.f (a0_0 : Int) (l0_1 : List Int) (l0_2 : List (S85)) (a1 : Int) : Option Int := if 0 ≤ a1 then (if a1 + cntL_int64 l0_1 + cntL_VBlock l0_2 + l0_2.length ≤ 1000000000000 then some (a1 + cntL_int64 l0_1 + cntL_VBlock l0_2) else none) else none
set_option maxHeartbeats 4000000 in
set_option maxRecDepth 100000 in
theorem laws_markVFunc.calls (a0_0 : Int) (P0_1_ : Nat → Prop) (u9000_ : Value) (l0_1 : List Int) (P0_2_ : Nat → Prop) (u9001_ : Value) (l0_2 : List (S85)) (a1 : Int) (r : Int) (w0 w : World) (hB : Below w0.heap.size w0 w) (ho0_1 : Kd.R (Kd.int .i64) 2 w w0.heap.size P0_1_ u9000_ l0_1) (ho0_2 : Kd.R k85 85 w w0.heap.size P0_2_ u9001_ l0_2) (h : laws_markVFunc.f a0_0 l0_1 l0_2 a1 = some r) :
 Calls Try.prog 16 #[.agg #[.int .i64 a0_0, u9000_, u9001_], .int .i64 a1] w fun e w' => e = .returned (.int .i64 r) ∧ Below w0.heap.size w0 w' ∧ Kept w w' (fun k_ => P0_1_ k_ ∨ P0_2_ k_) := by
 unfold laws_markVFunc.f at h
 by_cases h0 : 0 ≤ a1
 · rw [if_pos h0] at h
   by_cases h1 : a1 + cntL_int64 l0_1 + cntL_VBlock l0_2 + l0_2.length ≤ 1000000000000
   · rw [if_pos h1] at h
     obtain rfl := Option.some.inj h
     clear h
     have HB := Aside0.mk hB
     have H2 := Aside0.mk ho0_1
     have H4 := Aside0.mk ho0_2
     have H1 := Aside0.mk h1
     obtain ⟨A2, c2, n2, rfl⟩ := Kd.R_slice' ho0_1
     obtain ⟨A4, c4, n4, rfl⟩ := Kd.R_slice' ho0_2
     clear hB ho0_1 ho0_2 h1
     have hu := Try.underlying29
     go_enter Try.func16, Try.ntmps16
     go_wp2_with (first | (go_at_call 21; refine calls_at (fun W => Below w.heap.size w W ∧ W.heap[w.heap.size]? = some (.cells #[.int .i64 a0_0, .slice A2 c2 n2, .slice A4 c4 n4] 29 (0, 0))) ?hs ?_; (case hs => exact ⟨below_alloc (Below.refl _ _) _, blk_new _ _⟩); rintro W1 ⟨hs1, hk1⟩; have r2 := Kd.R_below (Kd.R_old2 H2.out) hs1; refine (laws_markInt64S.sim _ l0_1 _ W1 w0.heap.size (fun k => P0_1_ k ∧ k < w.heap.size) ?pa ?pb r2).mono ?_; (case pa => exact h0); (case pb => have := H1.out; omega); rintro e w2 ⟨rfl, g1⟩; have hlt := blk_lt hk1; have HS1 := Aside0.mk hs1; have G1 := Aside0.mk g1; have K2 := Aside0.mk ((g1.out w.heap.size hlt (fun hk => absurd hk.1.2 (Nat.lt_irrefl _))).trans hk1); have d4 : w2.cell? ⟨w.heap.size, 2, none⟩ = some (.slice A4 c4 n4) := (blk_cell K2.out 2).trans rfl; clear hs1 g1 hk1 r2 hlt) | (go_at_call 67; obtain ⟨l4, r4, e4⟩ := Shp.R shp_VBlock G1.out (Kd.R_below H4.out HS1.out); refine (laws_markVBlockS.sim _ l4 _ w2 w0.heap.size P0_2_ ?pc ?pd ?pe r4).mono ?_; (case pc => omega); (case pd => have := H1.out; have := cntL_VBlock_same e4; omega); (case pe => have := H1.out; have := e4.1; omega); rintro e w3 ⟨rfl, g3⟩; have G3 := Aside0.mk g3; have E4 := Aside0.mk (cntL_VBlock_same e4); clear g3 r4 e4))
     go_ret
     have hb1 : Below w0.heap.size w0 w2 := G1.out.below0 (below_then HB.out HB.out.size HS1.out) (fun k hk => hk.2)
     exact ⟨by rw [E4.out]; rfl, G3.out.below0 hb1 (fun k hk => hk.2), ((Kept.of_below HS1.out _).then_ G1.out.kept (fun k hk => .inl (.inl hk.1.1))).then_ G3.out.kept (fun k hk => .inl (.inr hk.1))⟩
   · rw [if_neg h1] at h; cases h
 · rw [if_neg h0] at h; cases h

end Go.Proofs.Ythegbhfoleiegaa.All

