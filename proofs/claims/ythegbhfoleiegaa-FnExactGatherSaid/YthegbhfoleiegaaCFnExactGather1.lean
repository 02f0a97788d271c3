/- Part 1 of the proof of FnExactGather: functions of the translation with what they return, and plain laws of these. Written by programs of this session over the kit's print, and by hand. -/
import Derived.Test.YthegbhfoleiegaaProg
import Derived.Test.YthegbhfoleiegaaCFnExactGatherWApart
import Derived.Test.YthegbhfoleiegaaCFnExactGatherWArr
import Derived.Test.YthegbhfoleiegaaCFnExactGatherWFoot
import Derived.Test.YthegbhfoleiegaaCFnExactGatherWGuard
import Derived.Test.YthegbhfoleiegaaCFnExactGatherWKept
import Derived.Test.YthegbhfoleiegaaCFnExactGatherWLast
import Derived.Test.YthegbhfoleiegaaCFnExactGatherWMore
import Derived.Test.YthegbhfoleiegaaCFnExactGatherWN
import Derived.Test.YthegbhfoleiegaaCFnExactGatherWNEv
import Derived.Test.YthegbhfoleiegaaCFnExactGatherWQPut
import Derived.Test.YthegbhfoleiegaaCFnExactGatherWRepsOne
import Derived.Test.YthegbhfoleiegaaCFnExactGatherWShare
import Derived.Test.YthegbhfoleiegaaCFnExactGatherWTab
import Derived.Test.YthegbhfoleiegaaCFnExactGatherWWords
import Derived.Test.YthegbhfoleiegaaCFnExactGatherWZeros
import Derived.Below
import Derived.Deep.Draws
import Derived.Deep.AppendLies
import Derived.Maps.AppendAt
import Derived.OwnWalk
import Derived.Laws.BytesArg
import Derived.Laws.MakeOwn
import Derived.Laws.OwnMore
import Derived.Deep.OwnRows
import Derived.Tactics
import Derived.Lib.ConvBytes
import Derived.Laws.Slices
import Derived.WalkKit
import Derived.KernelRfl
import Derived.RowKit3
import Derived.Deep.LoopGhost
import Derived.Deep.QuietTactic
import Derived.BigQuiet
import Derived.WideLaws
import Derived.Deep.DeepCutAuto
import Derived.Deep.CutBlock
import Derived.Deep.RegionHeld3
import Derived.Laws.Rows
import Derived.Lib.AppendStr
import Derived.ArgAppend
import Derived.Laws.IdiomCopy
import Derived.OrdersHeld
import Derived.Laws.BitsLemmas
import Derived.RowKit
import Derived.Maps.OwnSet
import Derived.Maps.OwnOps
import Derived.Maps.RangeWalk
import Derived.StringKeys
import Derived.Sort.KeysCollected
import Derived.Shelf.GgSortFunc.Whole
import Derived.Shelf.GgSortFunc.Tiny
import Derived.Sort.OwnSortedInts
import Derived.Lib.RowBridge
import Derived.Lib.SortBridge
import Derived.Sort.LotA
import Derived.Deep.RegionWith
import Derived.Deep.Slices
import Derived.ChangeArms
import Derived.Laws.ResultCell
import Derived.DeepKeys4
import Derived.ProofKit
import Derived.OpenShut
import Derived.ShutString
import Derived.ChangeOld
import Derived.SizedLaws
namespace Go.Proofs.Ythegbhfoleiegaa.All
open Go.RowKit Go.Proofs.YthegbhfoleiegaaW.PrintWords Go.Proofs.YthegbhfoleiegaaW.PrintLast Go.Proofs.YthegbhfoleiegaaW.PrintMore
theorem bz {w W : World} (h : Below w.heap.size w W := by repeat (first | (with_reducible first | exact HB.out | apply below_alloc | apply pw_below_drewN | apply below_drew1 | refine below_set ?_ (Aside0.out (by assumption))) | exact HB.out)) : Below w.heap.size w W := h
theorem az {p : Prop} (h : p := by first | (with_reducible assumption) | assumption) : p := h
theorem kz {W : World} {g : Nat} {o : Obj} (h : W.heap[g]? = some o := by (with_reducible repeat (first | refine blk_drewN ?_ _ | refine blk_drew ?_ | refine blk_alloc ?_ _)); exact Aside0.out (by assumption)) : W.heap[g]? = some o := h
theorem lz {α : Sort _} {x y : α} (h : x = y := by (try simp only [List.map_toArray, List.map_cons, List.map_nil]); first | done | rfl | (simp only [List.length_drop, List.length_take]; rfl)) : x = y := h
theorem sz_ {p : Prop} (h : p := by first | rfl | (simp; done) | (simp [*]; done)) : p := h
structure Stp (w W : World) : Prop where
  out : Below w.heap.size w W
theorem Stp.refl {w : World} : Stp w w := ⟨Below.refl _ _⟩
theorem Stp.alloc {w W : World} (h : Stp w W) (o : Obj) : Stp w (W.alloc o) := ⟨below_alloc h.out o⟩
theorem Stp.drewN {w W : World} (h : Stp w W) (n : Nat) : Stp w (W.drewN n) := ⟨pw_below_drewN h.out n⟩
theorem Stp.drew {w W : World} (h : Stp w W) : Stp w W.drew := ⟨below_drew h.out⟩
theorem rz {α : Type} {d : Kd α} {e base : Nat} {w W : World} {ok : Nat → Prop} {v : Value} {xs : List α} (h : d.R e w base ok v xs) (hs : Stp w W := by with_reducible repeat (first | exact Stp.refl | apply Stp.alloc | apply Stp.drewN | apply Stp.drew)) : d.R e W base ok v xs := Kd.R_below h hs.out
theorem rs {α : Type} {d : Kd α} {e base : Nat} {w W : World} {ok : Nat → Prop} {v : Value} {xs : List α} (h : Kd.S d e w base ok v xs) (hs : Stp w W := by with_reducible repeat (first | exact Stp.refl | apply Stp.alloc | apply Stp.drewN | apply Stp.drew)) : Kd.S d e W base ok v xs := Kd.S_below h hs.out
theorem cz {α : Type} {d : Kd α} {w W : World} {A : Option Addr} {n : Nat} {xs : List α} (h : d.C w A n xs) (hb : Below w.heap.size w W := by repeat (first | (with_reducible first | exact HB.out | apply below_alloc | apply pw_below_drewN | apply below_drew1 | refine below_set ?_ (Aside0.out (by assumption))) | exact HB.out)) : d.C W A n xs := Kd.C_below h hb
theorem ck {w W : World} {a : Addr} {v : Value} (hb : Aside0 (Below w.heap.size w W)) (h : w.cell? a = some v) : W.cell? a = some v := (hb.out.cell (World.block_lt_of_cell? w _ h)).trans h
theorem sx1 {α : Type _} (l : List α) (i : Nat) (a : α) : l.toArray.setIfInBounds i a = (l.set i a).toArray := List.setIfInBounds_toArray l i a
theorem sx2 {α : Type _} {x y : α} {l : List α} : (x :: l).set 0 y = y :: l := rfl
theorem sx3 {α : Type _} {x y : α} {l : List α} {n : Nat} : (x :: l).set (n + 1) y = x :: l.set n y := rfl
end Go.Proofs.Ythegbhfoleiegaa.All
namespace Go.Proofs.Ythegbhfoleiegaa.All
open Go.RowKit Go.Proofs.YthegbhfoleiegaaW.PrintWords Go.Proofs.YthegbhfoleiegaaW.PrintLast Go.Proofs.YthegbhfoleiegaaW.PrintMore
attribute [local go_sem] max2_int min2_int max_two min_two max_three min_three max_four min_four   -- for this text's walks alone
set_option linter.unusedVariables false
set_option linter.unusedSimpArgs false

def errW : Option Int → Value
  | none => .nilIface
  | some c => .iface 0 (.int .i64 c)
theorem errW_none : errW none = .nilIface := rfl
theorem errW_some (c : Int) : errW (some c) = .iface 0 (.int .i64 c) := rfl

theorem info2 : (Try.prog.info? 2).map (fun i => (i.zero, i.size, i.bytes)) = some (some (.int .i64 0), 1, 8) := by kernel_rfl
theorem info4 : (Try.prog.info? 4).map (fun i => (i.zero, i.size, i.bytes)) = some (some (.bool false), 1, 1) := by kernel_rfl
theorem info5 : (Try.prog.info? 5).map (fun i => (i.zero, i.size, i.bytes)) = some (some (.int .u8 0), 1, 1) := by kernel_rfl
theorem info9 : (Try.prog.info? 9).map (fun i => (i.zero, i.size, i.bytes)) = some (some (.string ⟨#[]⟩), 1, 16) := by kernel_rfl
theorem info68 : (Try.prog.info? 68).map (fun i => (i.zero, i.size, i.bytes)) = some (some (.agg #[(.slice none 0 0)]), 1, 24) := by kernel_rfl
theorem info130 : (Try.prog.info? 130).map (fun i => (i.zero, i.size, i.bytes)) = some (some (.agg #[(.string ⟨#[]⟩), (.int .i64 0), (.int .i64 0), (.int .i64 0), (.slice none 0 0), (.int .i64 0), (.slice none 0 0), (.slice none 0 0)]), 8, 120) := by kernel_rfl
theorem info132 : (Try.prog.info? 132).map (fun i => (i.zero, i.size, i.bytes)) = some (some (.agg #[(.int .i64 0), (.int .i64 0), (.string ⟨#[]⟩)]), 3, 32) := by kernel_rfl
-- the values' own types
/-! #### struct type 224 -/
structure S224 where
  f0 : Int
  f1 : Int
  f2 : Int
  f3 : Int
  f4 : Int
  f5 : Int
  f6 : ByteArray
  f7 : (List Int)
/-! #### struct type 165 -/
structure S165 where
  f0 : (List S224)
/-! #### struct type 87 -/
structure S87 where
  f0 : Int
  f1 : Int
  f2 : Int
  f3 : Int
  f4 : Int
  f5 : Int
  f6 : ByteArray
  f7 : (List Int)
/-! #### struct type 85 -/
structure S85 where
  f0 : (List S87)
/-! #### struct type 111 -/
structure S111 where
  f0 : Bool
  f1 : Int
  f2 : Int
/-! #### struct type 113 -/
structure S113 where
  f0 : Int
  f1 : Int
  f2 : Int
  f3 : Bool
/-! #### struct type 237 -/
structure S237 where
  f0 : Int
  f1 : Int
  f2 : ByteArray
def z237 : S237 := ⟨(0 : Int), (0 : Int), (⟨#[]⟩ : ByteArray)⟩
def k237 : Kd S237 := Kd.iso (Kd.pair (Kd.int .i64) (Kd.pair (Kd.int .i64) Kd.string)) (fun x : S237 => (x.f0, x.f1, x.f2))
theorem k237_open {w : World} {x : S237} {cs : List Value} (h : k237.K w x cs) : cs = [.int .i64 x.f0, .int .i64 x.f1, .string x.f2] := by
  obtain ⟨_, _, rfl, rfl, ⟨_, _, rfl, rfl, rfl⟩⟩ := h
  exact rfl
def rd_T237 (xs : List S237) (i : Int) : S237 := xs.getD i.toNat z237
theorem at_T237 {w : World} {A : Option Addr} {n : Nat} {xs : List S237} (h : Kd.C k237 w A n xs) (i : Int) (h0 : 0 ≤ i) (h1 : i < n) : ∃ ad , A = some ad ∧ w.cell? (ad.add (i.toNat * 3)) = some (.int .i64 (rd_T237 xs i).f0) ∧ w.cell? ⟨(ad.add (i.toNat * 3)).block, (ad.add (i.toNat * 3)).off + 1, none⟩ = some (.int .i64 (rd_T237 xs i).f1) ∧ w.cell? ⟨(ad.add (i.toNat * 3)).block, (ad.add (i.toNat * 3)).off + 2, none⟩ = some (.string (rd_T237 xs i).f2) := by
  obtain ⟨ad, c, e, _, hK, hc0⟩ := Kd.C_get h z237 i h0 h1
  have hc : ∀ j u, c[j]? = some u → w.cell? (ad.add (i.toNat * 3 + j)) = some u := hc0
  obtain rfl := k237_open hK
  exact ⟨ad, e, hc 0 _ rfl, by rw [← add_field _ _ 1 (by omega)]; exact hc 1 _ rfl, by rw [← add_field _ _ 2 (by omega)]; exact hc 2 _ rfl⟩

/-! #### struct type 191 -/
structure S191 where
  f0 : ByteArray
  f1 : Int
  f2 : Int
  f3 : Int
  f4 : (List Int)
  f5 : Int
  f6 : (List Int)
  f7 : (List S237)
def z191 : S191 := ⟨(⟨#[]⟩ : ByteArray), (0 : Int), (0 : Int), (0 : Int), ([] : List Int), (0 : Int), ([] : List Int), ([] : List S237)⟩
def k191 : Kd S191 := Kd.iso (Kd.pair Kd.string (Kd.pair (Kd.int .i64) (Kd.pair (Kd.int .i64) (Kd.pair (Kd.int .i64) (Kd.pair (Kd.slice 2 (Kd.int .i64)) (Kd.pair (Kd.int .i64) (Kd.pair (Kd.slice 5 (Kd.int .u8)) (Kd.slice 237 k237)))))))) (fun x : S191 => (x.f0, x.f1, x.f2, x.f3, x.f4, x.f5, x.f6, x.f7))
theorem k191_open {w : World} {x : S191} {cs : List Value} (h : k191.K w x cs) : ∃ A4 c4 A6 c6 A7 c7, cs = [.string x.f0, .int .i64 x.f1, .int .i64 x.f2, .int .i64 x.f3, .slice A4 x.f4.length c4, .int .i64 x.f5, .slice A6 x.f6.length c6, .slice A7 x.f7.length c7] ∧ x.f4.length ≤ c4 ∧ (Kd.int .i64).C w A4 x.f4.length x.f4 ∧ x.f6.length ≤ c6 ∧ (Kd.int .u8).C w A6 x.f6.length x.f6 ∧ x.f7.length ≤ c7 ∧ k237.C w A7 x.f7.length x.f7 := by
  obtain ⟨_, _, rfl, rfl, ⟨_, _, rfl, rfl, ⟨_, _, rfl, rfl, ⟨_, _, rfl, rfl, ⟨_, _, rfl, ⟨A4, c4, rfl, l4, g4⟩, ⟨_, _, rfl, rfl, ⟨_, _, rfl, ⟨A6, c6, rfl, l6, g6⟩, ⟨A7, c7, rfl, l7, g7⟩⟩⟩⟩⟩⟩⟩⟩ := h
  exact ⟨A4, c4, A6, c6, A7, c7, rfl, l4, g4, l6, g6, l7, g7⟩
def rd_T191 (xs : List S191) (i : Int) : S191 := xs.getD i.toNat z191
theorem at_T191 {w : World} {A : Option Addr} {n : Nat} {xs : List S191} (h : Kd.C k191 w A n xs) (i : Int) (h0 : 0 ≤ i) (h1 : i < n) : ∃ ad A4 c4 A6 c6 A7 c7, A = some ad ∧ w.cell? (ad.add (i.toNat * 8)) = some (.string (rd_T191 xs i).f0) ∧ w.cell? ⟨(ad.add (i.toNat * 8)).block, (ad.add (i.toNat * 8)).off + 1, none⟩ = some (.int .i64 (rd_T191 xs i).f1) ∧ w.cell? ⟨(ad.add (i.toNat * 8)).block, (ad.add (i.toNat * 8)).off + 2, none⟩ = some (.int .i64 (rd_T191 xs i).f2) ∧ w.cell? ⟨(ad.add (i.toNat * 8)).block, (ad.add (i.toNat * 8)).off + 3, none⟩ = some (.int .i64 (rd_T191 xs i).f3) ∧ w.cell? ⟨(ad.add (i.toNat * 8)).block, (ad.add (i.toNat * 8)).off + 4, none⟩ = some (.slice A4 (rd_T191 xs i).f4.length c4) ∧ w.cell? ⟨(ad.add (i.toNat * 8)).block, (ad.add (i.toNat * 8)).off + 5, none⟩ = some (.int .i64 (rd_T191 xs i).f5) ∧ w.cell? ⟨(ad.add (i.toNat * 8)).block, (ad.add (i.toNat * 8)).off + 6, none⟩ = some (.slice A6 (rd_T191 xs i).f6.length c6) ∧ w.cell? ⟨(ad.add (i.toNat * 8)).block, (ad.add (i.toNat * 8)).off + 7, none⟩ = some (.slice A7 (rd_T191 xs i).f7.length c7) ∧ (rd_T191 xs i).f4.length ≤ c4 ∧ (Kd.int .i64).C w A4 (rd_T191 xs i).f4.length (rd_T191 xs i).f4 ∧ (rd_T191 xs i).f6.length ≤ c6 ∧ (Kd.int .u8).C w A6 (rd_T191 xs i).f6.length (rd_T191 xs i).f6 ∧ (rd_T191 xs i).f7.length ≤ c7 ∧ k237.C w A7 (rd_T191 xs i).f7.length (rd_T191 xs i).f7 := by
  obtain ⟨ad, c, e, _, hK, hc0⟩ := Kd.C_get h z191 i h0 h1
  have hc : ∀ j u, c[j]? = some u → w.cell? (ad.add (i.toNat * 8 + j)) = some u := hc0
  obtain ⟨A4, c4, A6, c6, A7, c7, rfl, l4, g4, l6, g6, l7, g7⟩ := k191_open hK
  exact ⟨ad, A4, c4, A6, c6, A7, c7, e, hc 0 _ rfl, by rw [← add_field _ _ 1 (by omega)]; exact hc 1 _ rfl, by rw [← add_field _ _ 2 (by omega)]; exact hc 2 _ rfl, by rw [← add_field _ _ 3 (by omega)]; exact hc 3 _ rfl, by rw [← add_field _ _ 4 (by omega)]; exact hc 4 _ rfl, by rw [← add_field _ _ 5 (by omega)]; exact hc 5 _ rfl, by rw [← add_field _ _ 6 (by omega)]; exact hc 6 _ rfl, by rw [← add_field _ _ 7 (by omega)]; exact hc 7 _ rfl, l4, g4, l6, g6, l7, g7⟩

/-! #### struct type 63 -/
structure S63 where
  f0 : (List S191)
def z63 : S63 := ⟨([] : List S191)⟩
def k63 : Kd S63 := Kd.iso (Kd.slice 191 k191) (fun x : S63 => x.f0)
theorem k63_open {w : World} {x : S63} {cs : List Value} (h : k63.K w x cs) : ∃ A0 c0, cs = [.slice A0 x.f0.length c0] ∧ x.f0.length ≤ c0 ∧ k191.C w A0 x.f0.length x.f0 := by
  obtain ⟨A0, c0, rfl, l0, g0⟩ := h
  exact ⟨A0, c0, rfl, l0, g0⟩
def rd_T63 (xs : List S63) (i : Int) : S63 := xs.getD i.toNat z63
theorem at_T63 {w : World} {A : Option Addr} {n : Nat} {xs : List S63} (h : Kd.C k63 w A n xs) (i : Int) (h0 : 0 ≤ i) (h1 : i < n) : ∃ ad A0 c0, A = some ad ∧ w.cell? (ad.add i.toNat) = some (.slice A0 (rd_T63 xs i).f0.length c0) ∧ (rd_T63 xs i).f0.length ≤ c0 ∧ k191.C w A0 (rd_T63 xs i).f0.length (rd_T63 xs i).f0 := by
  obtain ⟨ad, c, e, _, hK, hc0⟩ := Kd.C_get h z63 i h0 h1
  have hc : ∀ j u, c[j]? = some u → w.cell? (ad.add (i.toNat * 1 + j)) = some u := hc0
  obtain ⟨A0, c0, rfl, l0, g0⟩ := k63_open hK
  exact ⟨ad, A0, c0, e, by have hq := hc 0 _ rfl; rwa [Nat.mul_one, Nat.add_zero] at hq, l0, g0⟩

/-! #### struct type 132 -/
structure S132 where
  f0 : Int
  f1 : Int
  f2 : ByteArray
def z132 : S132 := ⟨(0 : Int), (0 : Int), (⟨#[]⟩ : ByteArray)⟩
def k132 : Kd S132 := Kd.iso (Kd.pair (Kd.int .i64) (Kd.pair (Kd.int .i64) Kd.string)) (fun x : S132 => (x.f0, x.f1, x.f2))
theorem k132_open {w : World} {x : S132} {cs : List Value} (h : k132.K w x cs) : cs = [.int .i64 x.f0, .int .i64 x.f1, .string x.f2] := by
  obtain ⟨_, _, rfl, rfl, ⟨_, _, rfl, rfl, rfl⟩⟩ := h
  exact rfl
theorem k132_openM {w : World} {base : Nat} {ok : Nat → Prop} {x : S132} {cs : List Value} (h : k132.M w base ok x cs) : cs = [.int .i64 x.f0, .int .i64 x.f1, .string x.f2] := by
  obtain ⟨_, _, rfl, rfl, ⟨_, _, rfl, rfl, rfl⟩⟩ := h
  exact rfl
theorem k132_mkM (w : World) (base : Nat) (ok : Nat → Prop) (x : S132)  : k132.M w base ok x [.int .i64 x.f0, .int .i64 x.f1, .string x.f2] := ⟨[.int .i64 x.f0], [.int .i64 x.f1, .string x.f2], rfl, rfl, ⟨[.int .i64 x.f1], [.string x.f2], rfl, rfl, rfl⟩⟩
def rd_T132 (xs : List S132) (i : Int) : S132 := xs.getD i.toNat z132
theorem at_T132 {w : World} {A : Option Addr} {n : Nat} {xs : List S132} (h : Kd.C k132 w A n xs) (i : Int) (h0 : 0 ≤ i) (h1 : i < n) : ∃ ad , A = some ad ∧ w.cell? (ad.add (i.toNat * 3)) = some (.int .i64 (rd_T132 xs i).f0) ∧ w.cell? ⟨(ad.add (i.toNat * 3)).block, (ad.add (i.toNat * 3)).off + 1, none⟩ = some (.int .i64 (rd_T132 xs i).f1) ∧ w.cell? ⟨(ad.add (i.toNat * 3)).block, (ad.add (i.toNat * 3)).off + 2, none⟩ = some (.string (rd_T132 xs i).f2) := by
  obtain ⟨ad, c, e, _, hK, hc0⟩ := Kd.C_get h z132 i h0 h1
  have hc : ∀ j u, c[j]? = some u → w.cell? (ad.add (i.toNat * 3 + j)) = some u := hc0
  obtain rfl := k132_open hK
  exact ⟨ad, e, hc 0 _ rfl, by rw [← add_field _ _ 1 (by omega)]; exact hc 1 _ rfl, by rw [← add_field _ _ 2 (by omega)]; exact hc 2 _ rfl⟩

/-! #### struct type 130 -/
structure S130 where
  f0 : ByteArray
  f1 : Int
  f2 : Int
  f3 : Int
  f4 : (List Int)
  f5 : Int
  f6 : (List Int)
  f7 : (List S132)
def z130 : S130 := ⟨(⟨#[]⟩ : ByteArray), (0 : Int), (0 : Int), (0 : Int), ([] : List Int), (0 : Int), ([] : List Int), ([] : List S132)⟩
def k130 : Kd S130 := Kd.iso (Kd.pair Kd.string (Kd.pair (Kd.int .i64) (Kd.pair (Kd.int .i64) (Kd.pair (Kd.int .i64) (Kd.pair (Kd.slice 2 (Kd.int .i64)) (Kd.pair (Kd.int .i64) (Kd.pair (Kd.slice 5 (Kd.int .u8)) (Kd.slice 132 k132)))))))) (fun x : S130 => (x.f0, x.f1, x.f2, x.f3, x.f4, x.f5, x.f6, x.f7))
theorem k130_open {w : World} {x : S130} {cs : List Value} (h : k130.K w x cs) : ∃ A4 c4 A6 c6 A7 c7, cs = [.string x.f0, .int .i64 x.f1, .int .i64 x.f2, .int .i64 x.f3, .slice A4 x.f4.length c4, .int .i64 x.f5, .slice A6 x.f6.length c6, .slice A7 x.f7.length c7] ∧ x.f4.length ≤ c4 ∧ (Kd.int .i64).C w A4 x.f4.length x.f4 ∧ x.f6.length ≤ c6 ∧ (Kd.int .u8).C w A6 x.f6.length x.f6 ∧ x.f7.length ≤ c7 ∧ k132.C w A7 x.f7.length x.f7 := by
  obtain ⟨_, _, rfl, rfl, ⟨_, _, rfl, rfl, ⟨_, _, rfl, rfl, ⟨_, _, rfl, rfl, ⟨_, _, rfl, ⟨A4, c4, rfl, l4, g4⟩, ⟨_, _, rfl, rfl, ⟨_, _, rfl, ⟨A6, c6, rfl, l6, g6⟩, ⟨A7, c7, rfl, l7, g7⟩⟩⟩⟩⟩⟩⟩⟩ := h
  exact ⟨A4, c4, A6, c6, A7, c7, rfl, l4, g4, l6, g6, l7, g7⟩
theorem k130_openM {w : World} {base : Nat} {ok : Nat → Prop} {x : S130} {cs : List Value} (h : k130.M w base ok x cs) : ∃ v4 v6 v7, cs = [.string x.f0, .int .i64 x.f1, .int .i64 x.f2, .int .i64 x.f3, v4, .int .i64 x.f5, v6, v7] ∧ (Kd.int .i64).R 2 w base ok v4 x.f4 ∧ (Kd.int .u8).R 5 w base ok v6 x.f6 ∧ k132.R 132 w base ok v7 x.f7 := by
  obtain ⟨_, _, rfl, rfl, ⟨_, _, rfl, rfl, ⟨_, _, rfl, rfl, ⟨_, _, rfl, rfl, ⟨_, _, rfl, ⟨v4, rfl, g4⟩, ⟨_, _, rfl, rfl, ⟨_, _, rfl, ⟨v6, rfl, g6⟩, ⟨v7, rfl, g7⟩⟩⟩⟩⟩⟩⟩⟩ := h
  exact ⟨v4, v6, v7, rfl, g4, g6, g7⟩
theorem k130_mkM (w : World) (base : Nat) (ok : Nat → Prop) (x : S130) {v4 : Value} (g4 : (Kd.int .i64).R 2 w base ok v4 x.f4) {v6 : Value} (g6 : (Kd.int .u8).R 5 w base ok v6 x.f6) {v7 : Value} (g7 : k132.R 132 w base ok v7 x.f7) : k130.M w base ok x [.string x.f0, .int .i64 x.f1, .int .i64 x.f2, .int .i64 x.f3, v4, .int .i64 x.f5, v6, v7] := ⟨[.string x.f0], [.int .i64 x.f1, .int .i64 x.f2, .int .i64 x.f3, v4, .int .i64 x.f5, v6, v7], rfl, rfl, ⟨[.int .i64 x.f1], [.int .i64 x.f2, .int .i64 x.f3, v4, .int .i64 x.f5, v6, v7], rfl, rfl, ⟨[.int .i64 x.f2], [.int .i64 x.f3, v4, .int .i64 x.f5, v6, v7], rfl, rfl, ⟨[.int .i64 x.f3], [v4, .int .i64 x.f5, v6, v7], rfl, rfl, ⟨[v4], [.int .i64 x.f5, v6, v7], rfl, ⟨v4, rfl, g4⟩, ⟨[.int .i64 x.f5], [v6, v7], rfl, rfl, ⟨[v6], [v7], rfl, ⟨v6, rfl, g6⟩, ⟨v7, rfl, g7⟩⟩⟩⟩⟩⟩⟩⟩
theorem k130_openF {W : World} {ok : Nat → Prop} {x : S130} {cs : List Value} (h : Kd.FK k130 W ok x cs) : ∃ A4 c4 A6 c6 A7 c7, cs = [.string x.f0, .int .i64 x.f1, .int .i64 x.f2, .int .i64 x.f3, .slice A4 x.f4.length c4, .int .i64 x.f5, .slice A6 x.f6.length c6, .slice A7 x.f7.length c7] ∧ x.f4.length ≤ c4 ∧ Kd.F (Kd.int .i64) W ok A4 x.f4.length x.f4 ∧ x.f6.length ≤ c6 ∧ Kd.F (Kd.int .u8) W ok A6 x.f6.length x.f6 ∧ x.f7.length ≤ c7 ∧ Kd.F k132 W ok A7 x.f7.length x.f7 := by
  obtain ⟨A4, c4, A6, c6, A7, c7, rfl, l4, _, l6, _, l7, _⟩ := k130_open (Kd.FK_now h)
  exact ⟨A4, c4, A6, c6, A7, c7, rfl, l4, (fun W' hW => by obtain ⟨A4_, c4_, A6_, c6_, A7_, c7_, he, l4_, g4_, l6_, g6_, l7_, g7_⟩ := k130_open (h W' hW); injection (Option.some.inj (show some (Value.slice A4 x.f4.length c4) = some (Value.slice A4_ x.f4.length c4_) from congrArg (fun l => l[4]?) he)) with ha_ _ _; rw [ha_]; exact g4_), l6, (fun W' hW => by obtain ⟨A4_, c4_, A6_, c6_, A7_, c7_, he, l4_, g4_, l6_, g6_, l7_, g7_⟩ := k130_open (h W' hW); injection (Option.some.inj (show some (Value.slice A6 x.f6.length c6) = some (Value.slice A6_ x.f6.length c6_) from congrArg (fun l => l[6]?) he)) with ha_ _ _; rw [ha_]; exact g6_), l7, (fun W' hW => by obtain ⟨A4_, c4_, A6_, c6_, A7_, c7_, he, l4_, g4_, l6_, g6_, l7_, g7_⟩ := k130_open (h W' hW); injection (Option.some.inj (show some (Value.slice A7 x.f7.length c7) = some (Value.slice A7_ x.f7.length c7_) from congrArg (fun l => l[7]?) he)) with ha_ _ _; rw [ha_]; exact g7_)⟩
def rd_T130 (xs : List S130) (i : Int) : S130 := xs.getD i.toNat z130
theorem at_T130 {w : World} {A : Option Addr} {n : Nat} {xs : List S130} (h : Kd.C k130 w A n xs) (i : Int) (h0 : 0 ≤ i) (h1 : i < n) : ∃ ad A4 c4 A6 c6 A7 c7, A = some ad ∧ w.cell? (ad.add (i.toNat * 8)) = some (.string (rd_T130 xs i).f0) ∧ w.cell? ⟨(ad.add (i.toNat * 8)).block, (ad.add (i.toNat * 8)).off + 1, none⟩ = some (.int .i64 (rd_T130 xs i).f1) ∧ w.cell? ⟨(ad.add (i.toNat * 8)).block, (ad.add (i.toNat * 8)).off + 2, none⟩ = some (.int .i64 (rd_T130 xs i).f2) ∧ w.cell? ⟨(ad.add (i.toNat * 8)).block, (ad.add (i.toNat * 8)).off + 3, none⟩ = some (.int .i64 (rd_T130 xs i).f3) ∧ w.cell? ⟨(ad.add (i.toNat * 8)).block, (ad.add (i.toNat * 8)).off + 4, none⟩ = some (.slice A4 (rd_T130 xs i).f4.length c4) ∧ w.cell? ⟨(ad.add (i.toNat * 8)).block, (ad.add (i.toNat * 8)).off + 5, none⟩ = some (.int .i64 (rd_T130 xs i).f5) ∧ w.cell? ⟨(ad.add (i.toNat * 8)).block, (ad.add (i.toNat * 8)).off + 6, none⟩ = some (.slice A6 (rd_T130 xs i).f6.length c6) ∧ w.cell? ⟨(ad.add (i.toNat * 8)).block, (ad.add (i.toNat * 8)).off + 7, none⟩ = some (.slice A7 (rd_T130 xs i).f7.length c7) ∧ (rd_T130 xs i).f4.length ≤ c4 ∧ (Kd.int .i64).C w A4 (rd_T130 xs i).f4.length (rd_T130 xs i).f4 ∧ (rd_T130 xs i).f6.length ≤ c6 ∧ (Kd.int .u8).C w A6 (rd_T130 xs i).f6.length (rd_T130 xs i).f6 ∧ (rd_T130 xs i).f7.length ≤ c7 ∧ k132.C w A7 (rd_T130 xs i).f7.length (rd_T130 xs i).f7 := by
  obtain ⟨ad, c, e, _, hK, hc0⟩ := Kd.C_get h z130 i h0 h1
  have hc : ∀ j u, c[j]? = some u → w.cell? (ad.add (i.toNat * 8 + j)) = some u := hc0
  obtain ⟨A4, c4, A6, c6, A7, c7, rfl, l4, g4, l6, g6, l7, g7⟩ := k130_open hK
  exact ⟨ad, A4, c4, A6, c6, A7, c7, e, hc 0 _ rfl, by rw [← add_field _ _ 1 (by omega)]; exact hc 1 _ rfl, by rw [← add_field _ _ 2 (by omega)]; exact hc 2 _ rfl, by rw [← add_field _ _ 3 (by omega)]; exact hc 3 _ rfl, by rw [← add_field _ _ 4 (by omega)]; exact hc 4 _ rfl, by rw [← add_field _ _ 5 (by omega)]; exact hc 5 _ rfl, by rw [← add_field _ _ 6 (by omega)]; exact hc 6 _ rfl, by rw [← add_field _ _ 7 (by omega)]; exact hc 7 _ rfl, l4, g4, l6, g6, l7, g7⟩

/-! #### struct type 68 -/
structure S68 where
  f0 : (List S130)
def z68 : S68 := ⟨([] : List S130)⟩
def k68 : Kd S68 := Kd.iso (Kd.slice 130 k130) (fun x : S68 => x.f0)
theorem k68_open {w : World} {x : S68} {cs : List Value} (h : k68.K w x cs) : ∃ A0 c0, cs = [.slice A0 x.f0.length c0] ∧ x.f0.length ≤ c0 ∧ k130.C w A0 x.f0.length x.f0 := by
  obtain ⟨A0, c0, rfl, l0, g0⟩ := h
  exact ⟨A0, c0, rfl, l0, g0⟩
theorem k68_openM {w : World} {base : Nat} {ok : Nat → Prop} {x : S68} {cs : List Value} (h : k68.M w base ok x cs) : ∃ v0, cs = [v0] ∧ k130.R 130 w base ok v0 x.f0 := by
  obtain ⟨v0, rfl, g0⟩ := h
  exact ⟨v0, rfl, g0⟩
theorem k68_mk (w : World) (x : S68) {A0 : Option Addr} {c0 : Nat} (l0 : x.f0.length ≤ c0) (g0 : k130.C w A0 x.f0.length x.f0) : k68.K w x [.slice A0 x.f0.length c0] := ⟨A0, c0, rfl, l0, g0⟩
theorem k68_mkM (w : World) (base : Nat) (ok : Nat → Prop) (x : S68) {v0 : Value} (g0 : k130.R 130 w base ok v0 x.f0) : k68.M w base ok x [v0] := ⟨v0, rfl, g0⟩
theorem k68_openF {W : World} {ok : Nat → Prop} {x : S68} {cs : List Value} (h : Kd.FK k68 W ok x cs) : ∃ A0 c0, cs = [.slice A0 x.f0.length c0] ∧ x.f0.length ≤ c0 ∧ Kd.F k130 W ok A0 x.f0.length x.f0 := by
  obtain ⟨A0, c0, rfl, l0, _⟩ := k68_open (Kd.FK_now h)
  exact ⟨A0, c0, rfl, l0, (fun W' hW => by obtain ⟨A0_, c0_, he, l0_, g0_⟩ := k68_open (h W' hW); injection (Option.some.inj (show some (Value.slice A0 x.f0.length c0) = some (Value.slice A0_ x.f0.length c0_) from congrArg (fun l => l[0]?) he)) with ha_ _ _; rw [ha_]; exact g0_)⟩
theorem k68_mkF (W : World) (ok : Nat → Prop) (x : S68) {A0 : Option Addr} {c0 : Nat} (l0 : x.f0.length ≤ c0) (g0 : Kd.F k130 W ok A0 x.f0.length x.f0) : Kd.FK k68 W ok x [.slice A0 x.f0.length c0] := fun W2 hW => k68_mk W2 x l0 (g0 W2 hW)
def rd_T68 (xs : List S68) (i : Int) : S68 := xs.getD i.toNat z68
theorem at_T68 {w : World} {A : Option Addr} {n : Nat} {xs : List S68} (h : Kd.C k68 w A n xs) (i : Int) (h0 : 0 ≤ i) (h1 : i < n) : ∃ ad A0 c0, A = some ad ∧ w.cell? (ad.add i.toNat) = some (.slice A0 (rd_T68 xs i).f0.length c0) ∧ (rd_T68 xs i).f0.length ≤ c0 ∧ k130.C w A0 (rd_T68 xs i).f0.length (rd_T68 xs i).f0 := by
  obtain ⟨ad, c, e, _, hK, hc0⟩ := Kd.C_get h z68 i h0 h1
  have hc : ∀ j u, c[j]? = some u → w.cell? (ad.add (i.toNat * 1 + j)) = some u := hc0
  obtain ⟨A0, c0, rfl, l0, g0⟩ := k68_open hK
  exact ⟨ad, A0, c0, e, by have hq := hc 0 _ rfl; rwa [Nat.mul_one, Nat.add_zero] at hq, l0, g0⟩

/-! #### struct type 125 -/
structure S125 where
  f0 : Int
  f1 : Int
set_option linter.unusedVariables false
set_option linter.unusedSimpArgs false

def laws_eqInt64S.l0 : Nat → List Int → List Int → Int → Option (Bool)
 | 0, _, _, _ => none
 | k + 1, x0, x1, x5 => if x5 < (x0.length : Int) then (if 0 ≤ x5 then (if x5 < (x1.length : Int) then (if (rd x0 x5) = (rd x1 x5) then (laws_eqInt64S.l0 k x0 x1 (wrap64 (x5 + 1))) else (some false)) else (none)) else (none)) else (some true)
def laws_eqInt64S.f (k : Nat) (l0 : List Int) (l1 : List Int) : Option (Bool) := if (l0.length : Int) = (l1.length : Int) then (laws_eqInt64S.l0 k l0 l1 0) else (some false)
set_option maxHeartbeats 8000000 in
set_option maxRecDepth 100000 in
theorem laws_eqInt64S.calls (k : Nat) (A0 : Option Addr) (c0 : Nat) (l0 : List Int) (A1 : Option Addr) (c1 : Nat) (l1 : List Int) (r : Bool) (w : World) (hr0 : Kd.C (Kd.int .i64) w A0 l0.length l0) (hc0 : l0.length ≤ c0) (hr1 : Kd.C (Kd.int .i64) w A1 l1.length l1) (hc1 : l1.length ≤ c1) (h : laws_eqInt64S.f k l0 l1 = some r) :
 Calls Try.prog 20 #[.slice A0 l0.length c0, .slice A1 l1.length c1] w fun e w' => e = .returned (.bool r) ∧ Drawn0 w w' := by
 have HR0 := Aside0.mk hr0
 have HC0 := Aside0.mk hc0
 clear hr0 hc0
 have HR1 := Aside0.mk hr1
 have HC1 := Aside0.mk hc1
 clear hr1 hc1
 have H : (if (l0.length : Int) = (l1.length : Int) then (laws_eqInt64S.l0 k l0 l1 0) else (some false)) = some r := h
 clear h
 by_cases c3 : (l0.length : Int) = (l1.length : Int)
 · rw [if_pos c3] at H
   have c3b0 : ((l0.length : Int) == (l1.length : Int)) = true := beq_iff_eq.mpr c3
   have c3b1 : ((l0.length : Int) != (l1.length : Int)) = false := bne_eq_false_iff_eq.mpr c3
   have c3b2 : (l0.length == l1.length) = true := by first | simpa using c3 | (simp at c3 ⊢; omega)
   clear c3
   have H' := Aside0.mk H
   clear H
   go_enter Try.func20, Try.ntmps20
   go_wp2
   repeat (go_quiet (fail); try go_wp2)
   go_loopg [5] k (fun kq v5 w' => ∃ (x5_1 : Int), v5 = .int .i64 x5_1 ∧ Aside0 (laws_eqInt64S.l0 kq l0 l1 x5_1 = some r) ∧ Aside0 (kq ≤ k) ∧ Drawn0 w w')
   case atStart => exact ⟨(0), sz_, H', ⟨Nat.le_refl _⟩, by repeat (first | exact Drawn0.refl _ | apply Drawn0.step)⟩
   case round =>
    clear H'
    try clear c1
    try clear c2
    try clear p2
    try clear c3
    try clear c3b0
    try clear c3b1
    try clear c3b2
    obtain ⟨x5_1, rfl, HA, HK1, ⟨m1, rfl⟩⟩ := hrel
    cases gk with
    | zero => exact absurd HA.out (by simp [laws_eqInt64S.l0])
    | succ k1 =>
     have H := HA.out
     clear HA
     simp only [laws_eqInt64S.l0] at H
     by_cases c4 : x5_1 < (l0.length : Int)
     · rw [if_pos c4] at H
       have c4b0 : decide (x5_1 < (l0.length : Int)) = true := decide_eq_true c4
       clear c4
       by_cases c5 : 0 ≤ x5_1
       · rw [if_pos c5] at H
         have c5b0 : decide (0 ≤ x5_1) = true := decide_eq_true c5
         clear c5
         by_cases c6 : x5_1 < (l1.length : Int)
         · rw [if_pos c6] at H
           have c6b0 : decide (x5_1 < (l1.length : Int)) = true := decide_eq_true c6
           clear c6
           by_cases c7 : (rd l0 x5_1) = (rd l1 x5_1)
           · rw [if_pos c7] at H
             have c7b0 : ((rd l0 x5_1) == (rd l1 x5_1)) = true := beq_iff_eq.mpr c7
             have c7b1 : ((rd l0 x5_1) != (rd l1 x5_1)) = false := bne_eq_false_iff_eq.mpr c7
             clear c7
             have H' := Aside0.mk H
             clear H
             have p271 : 0 ≤ (x5_1 : Int) := of_decide_eq_true az
             have q271 : x5_1 < (l0.length : Int) := of_decide_eq_true az
             obtain ⟨ad271, e271, hx271_0⟩ := Kd.at_int HR0.out x5_1 p271 q271
             cases e271
             replace p271 := eq_true p271
             replace q271 := eq_true q271
             have p272 : 0 ≤ (x5_1 : Int) := of_decide_eq_true az
             have q272 : x5_1 < (l1.length : Int) := of_decide_eq_true az
             obtain ⟨ad272, e272, hx272_0⟩ := Kd.at_int HR1.out x5_1 p272 q272
             cases e272
             replace p272 := eq_true p272
             replace q272 := eq_true q272
             go_wp2
             repeat (go_quiet (fail); try go_wp2)
             go_roundg k1
             case measure => have := HK1.out; omega
             case rel => exact ⟨(wrap64 (x5_1 + 1)), sz_, H', ⟨by have := HK1.out; omega⟩, by repeat (first | exact Drawn0.refl _ | apply Drawn0.step)⟩
           · rw [if_neg c7] at H
             have c7b0 : ((rd l0 x5_1) == (rd l1 x5_1)) = false := beq_eq_false_iff_ne.mpr c7
             have c7b1 : ((rd l0 x5_1) != (rd l1 x5_1)) = true := bne_iff_ne.mpr c7
             obtain rfl := Option.some.inj H
             have p271 : 0 ≤ (x5_1 : Int) := of_decide_eq_true az
             have q271 : x5_1 < (l0.length : Int) := of_decide_eq_true az
             obtain ⟨ad271, e271, hx271_0⟩ := Kd.at_int HR0.out x5_1 p271 q271
             cases e271
             replace p271 := eq_true p271
             replace q271 := eq_true q271
             have p272 : 0 ≤ (x5_1 : Int) := of_decide_eq_true az
             have q272 : x5_1 < (l1.length : Int) := of_decide_eq_true az
             obtain ⟨ad272, e272, hx272_0⟩ := Kd.at_int HR1.out x5_1 p272 q272
             cases e272
             replace p272 := eq_true p272
             replace q272 := eq_true q272
             go_wp2
             repeat (go_quiet (fail); try go_wp2)
             go_ret
             exact ⟨by first | rfl | (simp; done) | (simp [*]; done), by repeat (first | exact Drawn0.refl _ | apply Drawn0.step)⟩
         · rw [if_neg c6] at H
           exact absurd H (by simp)
       · rw [if_neg c5] at H
         exact absurd H (by simp)
     · rw [if_neg c4] at H
       have c4b0 : decide (x5_1 < (l0.length : Int)) = false := decide_eq_false c4
       clear c4
       obtain rfl := Option.some.inj H
       go_wp2
       repeat (go_quiet (fail); try go_wp2)
       go_ret
       exact ⟨by first | rfl | (simp; done) | (simp [*]; done), by repeat (first | exact Drawn0.refl _ | apply Drawn0.step)⟩
 · rw [if_neg c3] at H
   have c3b0 : ((l0.length : Int) == (l1.length : Int)) = false := beq_eq_false_iff_ne.mpr c3
   have c3b1 : ((l0.length : Int) != (l1.length : Int)) = true := bne_iff_ne.mpr c3
   have c3b2 : (l0.length == l1.length) = false := by first | simpa using c3 | (simp at c3 ⊢; omega)
   obtain rfl := Option.some.inj H
   go_enter Try.func20, Try.ntmps20
   go_wp2
   repeat (go_quiet (fail); try go_wp2)
   go_ret
   exact ⟨by first | rfl | (simp; done) | (simp [*]; done), by repeat (first | exact Drawn0.refl _ | apply Drawn0.step)⟩

set_option linter.unusedVariables false
set_option linter.unusedSimpArgs false

def laws_markInt64S.l0 : Nat → List Int → Int → Int → Option (Int × List Int)
 | 0, _, _, _ => none
 | k + 1, x0, x1, x5 => if x5 < (x0.length : Int) then (if 0 ≤ x5 then (laws_markInt64S.l0 k (x0.set (x5 : Int).toNat x1) (wrap64 (x1 + 1)) (wrap64 (x5 + 1))) else (none)) else (some (x1, x0))
def laws_markInt64S.f (k : Nat) (l0 : List Int) (a1 : Int) : Option (Int × List Int) := laws_markInt64S.l0 k l0 a1 0
set_option maxHeartbeats 8000000 in
set_option maxRecDepth 100000 in
theorem laws_markInt64S.calls (k : Nat) (P0_ : Nat → Prop) (u9000_ : Value) (l0 : List Int) (a1 : Int) (r1 : Int) (r2 : List Int) (w0 w : World) (hB : Below w0.heap.size w0 w) (ho0 : Kd.R (Kd.int .i64) 2 w w0.heap.size P0_ u9000_ l0) (h : laws_markInt64S.f k l0 a1 = some (r1, r2)) :
 Calls Try.prog 21 #[u9000_, .int .i64 a1] w fun e w' => e = .returned (.int .i64 r1) ∧ Kd.R (Kd.int .i64) 2 w' w0.heap.size (fun k_ => (P0_ k_ ∨ w.heap.size ≤ k_)) u9000_ r2 ∧ Below w0.heap.size w0 w' ∧ Kept w w' (fun k_ => P0_ k_) := by
 have HO0 := Aside0.mk (show Kd.R (Kd.int .i64) 2 w w0.heap.size (fun k_ => (P0_ k_ ∨ w.heap.size ≤ k_)) u9000_ l0 from Kd.R_mono ho0 (fun k_ hk => (.inl hk)))
 have HK := Aside0.mk (Kept.refl w (fun k_ => P0_ k_))
 have HW0 := Aside0.mk hB.size
 have HB := Aside0.mk hB
 clear hB
 have H : (laws_markInt64S.l0 k l0 a1 0) = some (r1, r2) := h
 clear h
 have H' := Aside0.mk H
 clear H
 go_enter Try.func21, Try.ntmps21
 go_wp2
 go_loopg [1, 5] k (fun kq v1 v5 w' => ∃ (x0_1 : List Int) (x1_1 : Int) (x5_1 : Int), v1 = .int .i64 x1_1 ∧ v5 = .int .i64 x5_1 ∧ Aside0 (laws_markInt64S.l0 kq x0_1 x1_1 x5_1 = some (r1, r2)) ∧ Aside0 (kq ≤ k) ∧ Aside0 (Kd.R (Kd.int .i64) 2 w' w0.heap.size (fun k_ => (P0_ k_ ∨ w.heap.size ≤ k_)) u9000_ x0_1) ∧ Aside0 (Kept w w' (fun k_ => P0_ k_)) ∧ Aside0 (Below w0.heap.size w0 w'))
 case atStart => exact ⟨(l0), (a1), (0), sz_, sz_, H', ⟨Nat.le_refl _⟩, ⟨by (with_reducible repeat (first | apply Kd.R_alloc | apply Kd.R_drewN | apply Kd.R_drew)); exact HO0.out⟩, ⟨by repeat (first | (with_reducible first | exact HK.out | apply Kept.alloc | apply Kept.drewN | apply Kept.drew) | exact HK.out)⟩, ⟨ bz⟩⟩
 case round =>
  clear H'
  try clear c2
  try clear p2
  obtain ⟨x0_1, x1_1, x5_1, rfl, rfl, HA, HK1, HO_0, HK, HB⟩ := hrel
  cases gk with
  | zero => exact absurd HA.out (by simp [laws_markInt64S.l0])
  | succ k1 =>
   have H := HA.out
   clear HA
   simp only [laws_markInt64S.l0] at H
   by_cases c3 : x5_1 < (x0_1.length : Int)
   · rw [if_pos c3] at H
     have c3b0 : decide (x5_1 < (x0_1.length : Int)) = true := decide_eq_true c3
     clear c3
     by_cases c4 : 0 ≤ x5_1
     · rw [if_pos c4] at H
       have c4b0 : decide (0 ≤ x5_1) = true := decide_eq_true c4
       clear c4
       obtain ⟨y282, hy282⟩ : ∃ y_ : List Int, y_ = (x0_1.set (x5_1 : Int).toNat x1_1) := ⟨_, rfl⟩
       replace H : (laws_markInt64S.l0 k1 y282 (wrap64 (x1_1 + 1)) (wrap64 (x5_1 + 1))) = some (r1, r2) := by first | (rw [hy282]; with_reducible exact H) | (have H2_ := (Option.bind_some _ _).symm.trans H; rw [hy282]; with_reducible exact H2_) | (have H2_ := (Option.bind_some _ _).symm.trans H; with_reducible exact H2_) | with_reducible exact H | (rw [hy282]; exact H) | exact H
       have Ny282 := Aside0.mk hy282
       clear hy282
       have H' := Aside0.mk H
       clear H
       obtain ⟨Ao6, co6, eo6⟩ := Kd.R_slice HO_0.out
       subst eo6
       have p5 : 0 ≤ (x5_1 : Int) := of_decide_eq_true az
       have q5 : (x5_1 : Int) < ((x0_1.length : Int) : Int) := of_decide_eq_true az
       obtain ⟨go5, co5, eo5, gb5, gl5, cl5, HG5⟩ := Kd.R_form HO_0.out (by omega)
       (first | cases eo5 | (injection eo5 with ea_ en_ ec_; (first | subst ea_ | (injection ea_ with ea_; subst ea_)); subst ec_; clear en_))
       have GB5 := Aside0.mk gb5
       have GG5 := Aside0.mk HG5
       clear gb5 gl5 HG5
       have HMgo5 := Aside0.mk (show (P0_ go5 ∨ w.heap.size ≤ go5) from (HO_0.out.1 _ rfl))
       obtain ⟨hx5_0, hf5_0⟩ := Kd.R_celln 0 HO_0.out (x5_1 : Int) p5 q5
       replace p5 := eq_true p5
       replace q5 := eq_true q5
       have HP7 := Kd.R_putg HO_0.out (x5_1 : Int) x1_1
       go_wp2_with (first | ((with_reducible refine gate_store (t := 2) (p := 15) rfl ?_); refine store_event (t := 2) (p := 15) (v := ?vo_w8) (w1 := (wr.setCell ⟨go5, (x5_1 : Int).toNat, none⟩ (.int .i64 x1_1))) ?hg ?ho ?hn ?hr ?_; (case ho => rfl); (case hg => rfl); (case hn => rfl); (case hr => first | (go_simp; done) | (go_simp; rfl)); intro w8 hw; have hg : wr.grownBy w8 (some go5) := (by rw [hw]; exact HP7.2); have hp_ : Kd.R (Kd.int .i64) 2 w8 w0.heap.size (fun k_ => (P0_ k_ ∨ w.heap.size ≤ k_)) (.slice (some ⟨go5, 0, none⟩) x0_1.length co6) y282 := (by rw [hw, Ny282.out]; exact HP7.1); clear HP7; have n0_ := Aside0.mk (hp_); have n1_ := Aside0.mk ((by rw [hw]; exact below_set (HB.out) GB5.out : Below w0.heap.size w0 w8)); have n2_ := Aside0.mk (Kept.of_grown (S := (fun k_ => P0_ k_)) hg (by repeat (first | (with_reducible first | exact HK.out | apply Kept.alloc | apply Kept.drewN | apply Kept.drew) | exact HK.out)) (fun k_ e_ => (HO_0.out.1 k_ e_))); clear HO_0; clear HB; clear HK; have HO_0 := n0_; have HB := n1_; have HK := n2_; clear n0_ n1_ n2_; clear hg hw hp_))
       go_roundg k1
       case measure => have := HK1.out; omega
       case rel => exact ⟨(y282), (wrap64 (x1_1 + 1)), (wrap64 (x5_1 + 1)), sz_, sz_, H', ⟨by have := HK1.out; omega⟩, ⟨by (with_reducible repeat (first | apply Kd.R_alloc | apply Kd.R_drewN | apply Kd.R_drew)); exact HO_0.out⟩, ⟨by repeat (first | (with_reducible first | exact HK.out | apply Kept.alloc | apply Kept.drewN | apply Kept.drew) | exact HK.out)⟩, ⟨ bz⟩⟩
     · rw [if_neg c4] at H
       exact absurd H (by simp)
   · rw [if_neg c3] at H
     have c3b0 : decide (x5_1 < (x0_1.length : Int)) = false := decide_eq_false c3
     clear c3
     simp only [Option.some.injEq, Prod.mk.injEq] at H
     obtain ⟨rfl, rfl⟩ := H
     obtain ⟨Ao9, co9, eo9⟩ := Kd.R_slice HO_0.out
     subst eo9
     go_wp2
     go_ret
     exact ⟨by first | rfl | (simp [errW_none, errW_some] <;> rfl) | (simp [*, errW_none, errW_some] <;> rfl), by (with_reducible repeat (first | apply Kd.R_alloc | apply Kd.R_drewN | apply Kd.R_drew)); exact HO_0.out, bz, by repeat (first | (with_reducible first | exact HK.out | apply Kept.alloc | apply Kept.drewN | apply Kept.drew) | exact HK.out)⟩

set_option linter.unusedVariables false
set_option linter.unusedSimpArgs false

def laws_heldInt64S.l0 : Nat → List Int → Int → Int → Option (Int)
 | 0, _, _, _ => none
 | k + 1, x0, x1, x5 => if x5 < (x0.length : Int) then (if 0 ≤ x5 then (if (rd x0 x5) = x1 then (laws_heldInt64S.l0 k x0 (wrap64 (x1 + 1)) (wrap64 (x5 + 1))) else (some (-1))) else (none)) else (some x1)
def laws_heldInt64S.f (k : Nat) (l0 : List Int) (a1 : Int) : Option (Int) := laws_heldInt64S.l0 k l0 a1 0
set_option maxHeartbeats 8000000 in
set_option maxRecDepth 100000 in
theorem laws_heldInt64S.calls (k : Nat) (A0 : Option Addr) (c0 : Nat) (l0 : List Int) (a1 : Int) (r : Int) (w : World) (hr0 : Kd.C (Kd.int .i64) w A0 l0.length l0) (hc0 : l0.length ≤ c0) (h : laws_heldInt64S.f k l0 a1 = some r) :
 Calls Try.prog 22 #[.slice A0 l0.length c0, .int .i64 a1] w fun e w' => e = .returned (.int .i64 r) ∧ Drawn0 w w' := by
 have HR0 := Aside0.mk hr0
 have HC0 := Aside0.mk hc0
 clear hr0 hc0
 have H : (laws_heldInt64S.l0 k l0 a1 0) = some r := h
 clear h
 have H' := Aside0.mk H
 clear H
 go_enter Try.func22, Try.ntmps22
 go_wp2
 go_loopg [1, 5] k (fun kq v1 v5 w' => ∃ (x1_1 : Int) (x5_1 : Int), v1 = .int .i64 x1_1 ∧ v5 = .int .i64 x5_1 ∧ Aside0 (laws_heldInt64S.l0 kq l0 x1_1 x5_1 = some r) ∧ Aside0 (kq ≤ k) ∧ Drawn0 w w')
 case atStart => exact ⟨(a1), (0), sz_, sz_, H', ⟨Nat.le_refl _⟩, by repeat (first | exact Drawn0.refl _ | apply Drawn0.step)⟩
 case round =>
  clear H'
  try clear c2
  try clear p2
  obtain ⟨x1_1, x5_1, rfl, rfl, HA, HK1, ⟨m1, rfl⟩⟩ := hrel
  cases gk with
  | zero => exact absurd HA.out (by simp [laws_heldInt64S.l0])
  | succ k1 =>
   have H := HA.out
   clear HA
   simp only [laws_heldInt64S.l0] at H
   by_cases c3 : x5_1 < (l0.length : Int)
   · rw [if_pos c3] at H
     have c3b0 : decide (x5_1 < (l0.length : Int)) = true := decide_eq_true c3
     clear c3
     by_cases c4 : 0 ≤ x5_1
     · rw [if_pos c4] at H
       have c4b0 : decide (0 ≤ x5_1) = true := decide_eq_true c4
       clear c4
       by_cases c5 : (rd l0 x5_1) = x1_1
       · rw [if_pos c5] at H
         have c5b0 : ((rd l0 x5_1) == x1_1) = true := beq_iff_eq.mpr c5
         have c5b1 : ((rd l0 x5_1) != x1_1) = false := bne_eq_false_iff_eq.mpr c5
         clear c5
         have H' := Aside0.mk H
         clear H
         have p287 : 0 ≤ (x5_1 : Int) := of_decide_eq_true az
         have q287 : x5_1 < (l0.length : Int) := of_decide_eq_true az
         obtain ⟨ad287, e287, hx287_0⟩ := Kd.at_int HR0.out x5_1 p287 q287
         cases e287
         replace p287 := eq_true p287
         replace q287 := eq_true q287
         go_wp2
         go_roundg k1
         case measure => have := HK1.out; omega
         case rel => exact ⟨(wrap64 (x1_1 + 1)), (wrap64 (x5_1 + 1)), sz_, sz_, H', ⟨by have := HK1.out; omega⟩, by repeat (first | exact Drawn0.refl _ | apply Drawn0.step)⟩
       · rw [if_neg c5] at H
         have c5b0 : ((rd l0 x5_1) == x1_1) = false := beq_eq_false_iff_ne.mpr c5
         have c5b1 : ((rd l0 x5_1) != x1_1) = true := bne_iff_ne.mpr c5
         obtain rfl := Option.some.inj H
         have p287 : 0 ≤ (x5_1 : Int) := of_decide_eq_true az
         have q287 : x5_1 < (l0.length : Int) := of_decide_eq_true az
         obtain ⟨ad287, e287, hx287_0⟩ := Kd.at_int HR0.out x5_1 p287 q287
         cases e287
         replace p287 := eq_true p287
         replace q287 := eq_true q287
         go_wp2
         go_ret
         exact ⟨by first | rfl | (simp; done) | (simp [*]; done), by repeat (first | exact Drawn0.refl _ | apply Drawn0.step)⟩
     · rw [if_neg c4] at H
       exact absurd H (by simp)
   · rw [if_neg c3] at H
     have c3b0 : decide (x5_1 < (l0.length : Int)) = false := decide_eq_false c3
     clear c3
     obtain rfl := Option.some.inj H
     go_wp2
     go_ret
     exact ⟨by first | rfl | (simp; done) | (simp [*]; done), by repeat (first | exact Drawn0.refl _ | apply Drawn0.step)⟩

set_option linter.unusedVariables false
set_option linter.unusedSimpArgs false

def laws_szInt64S.f (l0 : List Int) (a1 : Int) : Option (Int) := if (wrap64 (a1 - (l0.length : Int))) < 0 then (some (-1)) else (some (wrap64 (a1 - (l0.length : Int))))
set_option maxHeartbeats 8000000 in
set_option maxRecDepth 100000 in
theorem laws_szInt64S.calls (A0 : Option Addr) (c0 : Nat) (l0 : List Int) (a1 : Int) (r : Int) (w : World) (hr0 : Kd.C (Kd.int .i64) w A0 l0.length l0) (hc0 : l0.length ≤ c0) (h : laws_szInt64S.f l0 a1 = some r) :
 Calls Try.prog 57 #[.slice A0 l0.length c0, .int .i64 a1] w fun e w' => e = .returned (.int .i64 r) ∧ Drawn0 w w' := by
 have HR0 := Aside0.mk hr0
 have HC0 := Aside0.mk hc0
 clear hr0 hc0
 have H : (if (wrap64 (a1 - (l0.length : Int))) < 0 then (some (-1)) else (some (wrap64 (a1 - (l0.length : Int))))) = some r := h
 clear h
 by_cases c3 : (wrap64 (a1 - (l0.length : Int))) < 0
 · rw [if_pos c3] at H
   have c3b0 : decide ((wrap64 (a1 - (l0.length : Int))) < 0) = true := decide_eq_true c3
   clear c3
   obtain rfl := Option.some.inj H
   go_enter Try.func57, Try.ntmps57
   go_wp2
   go_ret
   exact ⟨by first | rfl | (simp; done) | (simp [*]; done), by repeat (first | exact Drawn0.refl _ | apply Drawn0.step)⟩
 · rw [if_neg c3] at H
   have c3b0 : decide ((wrap64 (a1 - (l0.length : Int))) < 0) = false := decide_eq_false c3
   clear c3
   obtain rfl := Option.some.inj H
   go_enter Try.func57, Try.ntmps57
   go_wp2
   go_ret
   exact ⟨by first | rfl | (simp; done) | (simp [*]; done), by repeat (first | exact Drawn0.refl _ | apply Drawn0.step)⟩

set_option linter.unusedVariables false
set_option linter.unusedSimpArgs false

def laws_szByteS.f (l0 : List Int) (a1 : Int) : Option (Int) := if (wrap64 (a1 - (l0.length : Int))) < 0 then (some (-1)) else (some (wrap64 (a1 - (l0.length : Int))))
set_option maxHeartbeats 8000000 in
set_option maxRecDepth 100000 in
theorem laws_szByteS.calls (A0 : Option Addr) (c0 : Nat) (l0 : List Int) (a1 : Int) (r : Int) (w : World) (hr0 : Kd.C (Kd.int .u8) w A0 l0.length l0) (hc0 : l0.length ≤ c0) (h : laws_szByteS.f l0 a1 = some r) :
 Calls Try.prog 171 #[.slice A0 l0.length c0, .int .i64 a1] w fun e w' => e = .returned (.int .i64 r) ∧ Drawn0 w w' := by
 have HR0 := Aside0.mk hr0
 have HC0 := Aside0.mk hc0
 clear hr0 hc0
 have H : (if (wrap64 (a1 - (l0.length : Int))) < 0 then (some (-1)) else (some (wrap64 (a1 - (l0.length : Int))))) = some r := h
 clear h
 by_cases c3 : (wrap64 (a1 - (l0.length : Int))) < 0
 · rw [if_pos c3] at H
   have c3b0 : decide ((wrap64 (a1 - (l0.length : Int))) < 0) = true := decide_eq_true c3
   clear c3
   obtain rfl := Option.some.inj H
   go_enter Try.func171, Try.ntmps171
   go_wp2
   go_ret
   exact ⟨by first | rfl | (simp; done) | (simp [*]; done), by repeat (first | exact Drawn0.refl _ | apply Drawn0.step)⟩
 · rw [if_neg c3] at H
   have c3b0 : decide ((wrap64 (a1 - (l0.length : Int))) < 0) = false := decide_eq_false c3
   clear c3
   obtain rfl := Option.some.inj H
   go_enter Try.func171, Try.ntmps171
   go_wp2
   go_ret
   exact ⟨by first | rfl | (simp; done) | (simp [*]; done), by repeat (first | exact Drawn0.refl _ | apply Drawn0.step)⟩

set_option linter.unusedVariables false
set_option linter.unusedSimpArgs false

def laws_szReloc.f (a0_0 : Int) (a0_1 : Int) (a0_2 : ByteArray) (a1 : Int) : Option (Int) := if (wrap64 (a1 - (a0_2.size : Int))) < 0 then (some (-1)) else (some (wrap64 (a1 - (a0_2.size : Int))))
set_option maxHeartbeats 8000000 in
set_option maxRecDepth 100000 in
theorem laws_szReloc.calls (a0_0 : Int) (a0_1 : Int) (a0_2 : ByteArray) (a1 : Int) (r : Int) (w : World) (h : laws_szReloc.f a0_0 a0_1 a0_2 a1 = some r) :
 Calls Try.prog 200 #[.agg #[.int .i64 a0_0, .int .i64 a0_1, .string a0_2], .int .i64 a1] w fun e w' => e = .returned (.int .i64 r) ∧ Below w.heap.size w w' := by
 have hu237 := Try.underlying237
 have HB := Aside0.mk (Below.refl w.heap.size w)
 have H : (if (wrap64 (a1 - (a0_2.size : Int))) < 0 then (some (-1)) else (some (wrap64 (a1 - (a0_2.size : Int))))) = some r := h
 clear h
 by_cases c3 : (wrap64 (a1 - (a0_2.size : Int))) < 0
 · rw [if_pos c3] at H
   have c3b0 : decide ((wrap64 (a1 - (a0_2.size : Int))) < 0) = true := decide_eq_true c3
   clear c3
   obtain rfl := Option.some.inj H
   go_enter Try.func200, Try.ntmps200
   go_wp2_with (first | ((with_reducible refine gate_dst (N := 2) rfl ?_); refine box_event ?hg (N := 2) ?hd (cs := #[.int .i64 a0_0, .int .i64 a0_1, .string a0_2]) (t := 237) ?hr ?_; (case hd => rfl); (case hg => rfl); (case hr => first | (go_simp; done) | (go_simp; rfl)); intro gb666 hg w4 hbox hb; have n0_ := Aside0.mk (below_step bz hb); have n1_ := Aside0.mk (hbox); have n2_ := Aside0.mk ((by rw [hg]; exact (below_size bz) : w.heap.size ≤ gb666)); have n3_ := Aside0.mk ((by rw [hg]; exact (below_size bz) : w.heap.size ≤ gb666)); clear HB; have HB := n0_; have BK666 := n1_; have GW666 := n2_; have GE666 := n3_; clear n0_ n1_ n2_ n3_; clear hb hbox hg; have hcz5_0 : w4.cell? ⟨gb666, 0, none⟩ = some (.int .i64 a0_0) := (blk_cell BK666.out 0).trans rfl; have hcz5_1 : w4.cell? ⟨gb666, 1, none⟩ = some (.int .i64 a0_1) := (blk_cell BK666.out 1).trans rfl; have hcz5_2 : w4.cell? ⟨gb666, 2, none⟩ = some (.string a0_2) := (blk_cell BK666.out 2).trans rfl; have hfz5_0 := blk_frozen BK666.out 0; have hfz5_1 := blk_frozen BK666.out 1; have hfz5_2 := blk_frozen BK666.out 2))
   go_ret
   exact ⟨by first | rfl | (simp [errW_none, errW_some] <;> rfl) | (simp [*, errW_none, errW_some] <;> rfl), bz⟩
 · rw [if_neg c3] at H
   have c3b0 : decide ((wrap64 (a1 - (a0_2.size : Int))) < 0) = false := decide_eq_false c3
   clear c3
   obtain rfl := Option.some.inj H
   go_enter Try.func200, Try.ntmps200
   go_wp2_with (first | ((with_reducible refine gate_dst (N := 2) rfl ?_); refine box_event ?hg (N := 2) ?hd (cs := #[.int .i64 a0_0, .int .i64 a0_1, .string a0_2]) (t := 237) ?hr ?_; (case hd => rfl); (case hg => rfl); (case hr => first | (go_simp; done) | (go_simp; rfl)); intro gb666 hg w6 hbox hb; have n0_ := Aside0.mk (below_step bz hb); have n1_ := Aside0.mk (hbox); have n2_ := Aside0.mk ((by rw [hg]; exact (below_size bz) : w.heap.size ≤ gb666)); have n3_ := Aside0.mk ((by rw [hg]; exact (below_size bz) : w.heap.size ≤ gb666)); clear HB; have HB := n0_; have BK666 := n1_; have GW666 := n2_; have GE666 := n3_; clear n0_ n1_ n2_ n3_; clear hb hbox hg; have hcz7_0 : w6.cell? ⟨gb666, 0, none⟩ = some (.int .i64 a0_0) := (blk_cell BK666.out 0).trans rfl; have hcz7_1 : w6.cell? ⟨gb666, 1, none⟩ = some (.int .i64 a0_1) := (blk_cell BK666.out 1).trans rfl; have hcz7_2 : w6.cell? ⟨gb666, 2, none⟩ = some (.string a0_2) := (blk_cell BK666.out 2).trans rfl; have hfz7_0 := blk_frozen BK666.out 0; have hfz7_1 := blk_frozen BK666.out 1; have hfz7_2 := blk_frozen BK666.out 2))
   go_ret
   exact ⟨by first | rfl | (simp [errW_none, errW_some] <;> rfl) | (simp [*, errW_none, errW_some] <;> rfl), bz⟩

set_option linter.unusedVariables false
set_option linter.unusedSimpArgs false

def laws_szRelocS.l0 : Nat → List (S237) → Int → Int → Option (Int)
 | 0, _, _, _ => none
 | k + 1, x0, x1, x5 => if x5 < (x0.length : Int) then (if 0 ≤ x5 then ((laws_szReloc.f ((rd_T237 x0 x5).f0) ((rd_T237 x0 x5).f1) ((rd_T237 x0 x5).f2) x1).bind fun t668 => (if t668 < 0 then (some (-1)) else (laws_szRelocS.l0 k x0 t668 (wrap64 (x5 + 1))))) else (none)) else (some x1)
def laws_szRelocS.f (k : Nat) (l0 : List (S237)) (a1 : Int) : Option (Int) := if (wrap64 (a1 - (l0.length : Int))) < 0 then (some (-1)) else (laws_szRelocS.l0 k l0 (wrap64 (a1 - (l0.length : Int))) 0)
set_option maxHeartbeats 8000000 in
set_option maxRecDepth 100000 in
theorem laws_szRelocS.calls (k : Nat) (A0 : Option Addr) (c0 : Nat) (l0 : List (S237)) (a1 : Int) (r : Int) (w : World) (hr0 : Kd.C k237 w A0 l0.length l0) (hc0 : l0.length ≤ c0) (h : laws_szRelocS.f k l0 a1 = some r) :
 Calls Try.prog 172 #[.slice A0 l0.length c0, .int .i64 a1] w fun e w' => e = .returned (.int .i64 r) ∧ Below w.heap.size w w' := by
 have hu237 := Try.underlying237
 have HR0 := Aside0.mk hr0
 have HC0 := Aside0.mk hc0
 clear hr0 hc0
 have HB := Aside0.mk (Below.refl w.heap.size w)
 have H : (if (wrap64 (a1 - (l0.length : Int))) < 0 then (some (-1)) else (laws_szRelocS.l0 k l0 (wrap64 (a1 - (l0.length : Int))) 0)) = some r := h
 clear h
 by_cases c3 : (wrap64 (a1 - (l0.length : Int))) < 0
 · rw [if_pos c3] at H
   have c3b0 : decide ((wrap64 (a1 - (l0.length : Int))) < 0) = true := decide_eq_true c3
   clear c3
   obtain rfl := Option.some.inj H
   go_enter Try.func172, Try.ntmps172
   go_wp2
   go_ret
   exact ⟨by first | rfl | (simp [errW_none, errW_some] <;> rfl) | (simp [*, errW_none, errW_some] <;> rfl), bz⟩
 · rw [if_neg c3] at H
   have c3b0 : decide ((wrap64 (a1 - (l0.length : Int))) < 0) = false := decide_eq_false c3
   clear c3
   have H' := Aside0.mk H
   clear H
   go_enter Try.func172, Try.ntmps172
   go_wp2
   go_loopg [1, 5] k (fun kq v1 v5 w' => ∃ (x1_1 : Int) (x5_1 : Int), v1 = .int .i64 x1_1 ∧ v5 = .int .i64 x5_1 ∧ Aside0 (laws_szRelocS.l0 kq l0 x1_1 x5_1 = some r) ∧ Aside0 (kq ≤ k) ∧ Aside0 (Below w.heap.size w w'))
   case atStart => exact ⟨(wrap64 (a1 - (l0.length : Int))), (0), sz_, sz_, H', ⟨Nat.le_refl _⟩, ⟨ bz⟩⟩
   case round =>
    clear H'
    try clear c1
    try clear p2
    try clear c3
    try clear c3b0
    obtain ⟨x1_1, x5_1, rfl, rfl, HA, HK1, HB⟩ := hrel
    cases gk with
    | zero => exact absurd HA.out (by simp [laws_szRelocS.l0])
    | succ k1 =>
     have H := HA.out
     clear HA
     simp only [laws_szRelocS.l0] at H
     by_cases c4 : x5_1 < (l0.length : Int)
     · rw [if_pos c4] at H
       have c4b0 : decide (x5_1 < (l0.length : Int)) = true := decide_eq_true c4
       clear c4
       by_cases c5 : 0 ≤ x5_1
       · rw [if_pos c5] at H
         have c5b0 : decide (0 ≤ x5_1) = true := decide_eq_true c5
         clear c5
         replace H := Option.bind_eq_some_iff.mp H
         obtain ⟨t668, A60, H⟩ := H
         replace H : (if t668 < 0 then (some (-1)) else (laws_szRelocS.l0 k1 l0 t668 (wrap64 (x5_1 + 1)))) = some r := H
         have A6 := Aside0.mk A60
         clear A60
         by_cases c7 : t668 < 0
         · rw [if_pos c7] at H
           have c7b0 : decide (t668 < 0) = true := decide_eq_true c7
           clear c7
           obtain rfl := Option.some.inj H
           have p667 : 0 ≤ (x5_1 : Int) := of_decide_eq_true az
           have q667 : x5_1 < (l0.length : Int) := of_decide_eq_true az
           obtain ⟨ad667, e667, hx667_0, hx667_1, hx667_2⟩ := at_T237 HR0.out x5_1 p667 q667
           cases e667
           replace hx667_0 := ck HB hx667_0
           replace hx667_1 := ck HB hx667_1
           replace hx667_2 := ck HB hx667_2
           replace p667 := eq_true p667
           replace q667 := eq_true q667
           go_wp2_with (first | ((with_reducible refine gate_callee (f := 200) rfl ?_); refine goesL_ (some 23) rfl rfl Try.func200 (by kernel_rfl) rfl #[.agg #[.int .i64 ((rd_T237 l0 x5_1).f0), .int .i64 ((rd_T237 l0 x5_1).f1), .string ((rd_T237 l0 x5_1).f2)], .int .i64 x1_1] rfl lz ?_; (with_reducible refine (laws_szReloc.calls ((rd_T237 l0 x5_1).f0) ((rd_T237 l0 x5_1).f1) ((rd_T237 l0 x5_1).f2) x1_1 t668 _ A6.out).mono ?_); rintro e w8 ⟨rfl, hb⟩; refine ⟨_, rfl, ?_⟩; have n0_ := Aside0.mk (below_step bz hb); clear HB; have HB := n0_; clear n0_; (try clear hb); (try clear hb2); (try clear hk); (try clear hi)))
           go_ret
           exact ⟨by first | rfl | (simp [errW_none, errW_some] <;> rfl) | (simp [*, errW_none, errW_some] <;> rfl), bz⟩
         · rw [if_neg c7] at H
           have c7b0 : decide (t668 < 0) = false := decide_eq_false c7
           clear c7
           have H' := Aside0.mk H
           clear H
           have p667 : 0 ≤ (x5_1 : Int) := of_decide_eq_true az
           have q667 : x5_1 < (l0.length : Int) := of_decide_eq_true az
           obtain ⟨ad667, e667, hx667_0, hx667_1, hx667_2⟩ := at_T237 HR0.out x5_1 p667 q667
           cases e667
           replace hx667_0 := ck HB hx667_0
           replace hx667_1 := ck HB hx667_1
           replace hx667_2 := ck HB hx667_2
           replace p667 := eq_true p667
           replace q667 := eq_true q667
           go_wp2_with (first | ((with_reducible refine gate_callee (f := 200) rfl ?_); refine goesL_ (some 23) rfl rfl Try.func200 (by kernel_rfl) rfl #[.agg #[.int .i64 ((rd_T237 l0 x5_1).f0), .int .i64 ((rd_T237 l0 x5_1).f1), .string ((rd_T237 l0 x5_1).f2)], .int .i64 x1_1] rfl lz ?_; (with_reducible refine (laws_szReloc.calls ((rd_T237 l0 x5_1).f0) ((rd_T237 l0 x5_1).f1) ((rd_T237 l0 x5_1).f2) x1_1 t668 _ A6.out).mono ?_); rintro e w9 ⟨rfl, hb⟩; refine ⟨_, rfl, ?_⟩; have n0_ := Aside0.mk (below_step bz hb); clear HB; have HB := n0_; clear n0_; (try clear hb); (try clear hb2); (try clear hk); (try clear hi)))
           go_roundg k1
           case measure => have := HK1.out; omega
           case rel => exact ⟨(t668), (wrap64 (x5_1 + 1)), sz_, sz_, H', ⟨by have := HK1.out; omega⟩, ⟨ bz⟩⟩
       · rw [if_neg c5] at H
         exact absurd H (by simp)
     · rw [if_neg c4] at H
       have c4b0 : decide (x5_1 < (l0.length : Int)) = false := decide_eq_false c4
       clear c4
       obtain rfl := Option.some.inj H
       go_wp2
       go_ret
       exact ⟨by first | rfl | (simp [errW_none, errW_some] <;> rfl) | (simp [*, errW_none, errW_some] <;> rfl), bz⟩

set_option linter.unusedVariables false
set_option linter.unusedSimpArgs false

def laws_szSection.f (k : Nat) (a0_0 : ByteArray) (a0_1 : Int) (a0_2 : Int) (a0_3 : Int) (l0_4 : List Int) (a0_5 : Int) (l0_6 : List Int) (l0_7 : List (S237)) (a1 : Int) : Option (Int) := if (wrap64 (a1 - (a0_0.size : Int))) < 0 then (some (-1)) else ((laws_szInt64S.f l0_4 (wrap64 (a1 - (a0_0.size : Int)))).bind fun t670 => (if t670 < 0 then (some (-1)) else ((laws_szByteS.f l0_6 t670).bind fun t671 => (if t671 < 0 then (some (-1)) else ((laws_szRelocS.f k l0_7 t671).bind fun t672 => (if t672 < 0 then (some (-1)) else (some t672)))))))
set_option maxHeartbeats 8000000 in
set_option maxRecDepth 100000 in
theorem laws_szSection.calls (k : Nat) (a0_0 : ByteArray) (a0_1 : Int) (a0_2 : Int) (a0_3 : Int) (A0_4 : Option Addr) (c0_4 : Nat) (l0_4 : List Int) (a0_5 : Int) (A0_6 : Option Addr) (c0_6 : Nat) (l0_6 : List Int) (A0_7 : Option Addr) (c0_7 : Nat) (l0_7 : List (S237)) (a1 : Int) (r : Int) (w : World) (hr0_4 : Kd.C (Kd.int .i64) w A0_4 l0_4.length l0_4) (hc0_4 : l0_4.length ≤ c0_4) (hr0_6 : Kd.C (Kd.int .u8) w A0_6 l0_6.length l0_6) (hc0_6 : l0_6.length ≤ c0_6) (hr0_7 : Kd.C k237 w A0_7 l0_7.length l0_7) (hc0_7 : l0_7.length ≤ c0_7) (h : laws_szSection.f k a0_0 a0_1 a0_2 a0_3 l0_4 a0_5 l0_6 l0_7 a1 = some r) :
 Calls Try.prog 138 #[.agg #[.string a0_0, .int .i64 a0_1, .int .i64 a0_2, .int .i64 a0_3, .slice A0_4 l0_4.length c0_4, .int .i64 a0_5, .slice A0_6 l0_6.length c0_6, .slice A0_7 l0_7.length c0_7], .int .i64 a1] w fun e w' => e = .returned (.int .i64 r) ∧ Below w.heap.size w w' := by
 have hu191 := Try.underlying191
 have HR0_4 := Aside0.mk hr0_4
 have HC0_4 := Aside0.mk hc0_4
 clear hr0_4 hc0_4
 have HR0_6 := Aside0.mk hr0_6
 have HC0_6 := Aside0.mk hc0_6
 clear hr0_6 hc0_6
 have HR0_7 := Aside0.mk hr0_7
 have HC0_7 := Aside0.mk hc0_7
 clear hr0_7 hc0_7
 have HB := Aside0.mk (Below.refl w.heap.size w)
 have H : (if (wrap64 (a1 - (a0_0.size : Int))) < 0 then (some (-1)) else ((laws_szInt64S.f l0_4 (wrap64 (a1 - (a0_0.size : Int)))).bind fun t670 => (if t670 < 0 then (some (-1)) else ((laws_szByteS.f l0_6 t670).bind fun t671 => (if t671 < 0 then (some (-1)) else ((laws_szRelocS.f k l0_7 t671).bind fun t672 => (if t672 < 0 then (some (-1)) else (some t672)))))))) = some r := h
 clear h
 by_cases c3 : (wrap64 (a1 - (a0_0.size : Int))) < 0
 · rw [if_pos c3] at H
   have c3b0 : decide ((wrap64 (a1 - (a0_0.size : Int))) < 0) = true := decide_eq_true c3
   clear c3
   obtain rfl := Option.some.inj H
   go_enter Try.func138, Try.ntmps138
   go_wp2_with (first | ((with_reducible refine gate_dst (N := 2) rfl ?_); refine box_event ?hg (N := 2) ?hd (cs := #[.string a0_0, .int .i64 a0_1, .int .i64 a0_2, .int .i64 a0_3, .slice A0_4 l0_4.length c0_4, .int .i64 a0_5, .slice A0_6 l0_6.length c0_6, .slice A0_7 l0_7.length c0_7]) (t := 191) ?hr ?_; (case hd => rfl); (case hg => rfl); (case hr => first | (go_simp; done) | (go_simp; rfl)); intro gb669 hg w4 hbox hb; have n0_ := Aside0.mk (below_step bz hb); have n1_ := Aside0.mk (hbox); have n2_ := Aside0.mk ((by rw [hg]; exact (below_size bz) : w.heap.size ≤ gb669)); have n3_ := Aside0.mk ((by rw [hg]; exact (below_size bz) : w.heap.size ≤ gb669)); clear HB; have HB := n0_; have BK669 := n1_; have GW669 := n2_; have GE669 := n3_; clear n0_ n1_ n2_ n3_; clear hb hbox hg; have hcz5_0 : w4.cell? ⟨gb669, 0, none⟩ = some (.string a0_0) := (blk_cell BK669.out 0).trans rfl; have hcz5_1 : w4.cell? ⟨gb669, 1, none⟩ = some (.int .i64 a0_1) := (blk_cell BK669.out 1).trans rfl; have hcz5_2 : w4.cell? ⟨gb669, 2, none⟩ = some (.int .i64 a0_2) := (blk_cell BK669.out 2).trans rfl; have hcz5_3 : w4.cell? ⟨gb669, 3, none⟩ = some (.int .i64 a0_3) := (blk_cell BK669.out 3).trans rfl; have hcz5_4 : w4.cell? ⟨gb669, 4, none⟩ = some (.slice A0_4 l0_4.length c0_4) := (blk_cell BK669.out 4).trans rfl; have hcz5_5 : w4.cell? ⟨gb669, 5, none⟩ = some (.int .i64 a0_5) := (blk_cell BK669.out 5).trans rfl; have hcz5_6 : w4.cell? ⟨gb669, 6, none⟩ = some (.slice A0_6 l0_6.length c0_6) := (blk_cell BK669.out 6).trans rfl; have hcz5_7 : w4.cell? ⟨gb669, 7, none⟩ = some (.slice A0_7 l0_7.length c0_7) := (blk_cell BK669.out 7).trans rfl; have hfz5_0 := blk_frozen BK669.out 0; have hfz5_1 := blk_frozen BK669.out 1; have hfz5_2 := blk_frozen BK669.out 2; have hfz5_3 := blk_frozen BK669.out 3; have hfz5_4 := blk_frozen BK669.out 4; have hfz5_5 := blk_frozen BK669.out 5; have hfz5_6 := blk_frozen BK669.out 6; have hfz5_7 := blk_frozen BK669.out 7))
   go_ret
   exact ⟨by first | rfl | (simp [errW_none, errW_some] <;> rfl) | (simp [*, errW_none, errW_some] <;> rfl), bz⟩
 · rw [if_neg c3] at H
   have c3b0 : decide ((wrap64 (a1 - (a0_0.size : Int))) < 0) = false := decide_eq_false c3
   clear c3
   replace H := Option.bind_eq_some_iff.mp H
   obtain ⟨t670, A60, H⟩ := H
   replace H : (if t670 < 0 then (some (-1)) else ((laws_szByteS.f l0_6 t670).bind fun t671 => (if t671 < 0 then (some (-1)) else ((laws_szRelocS.f k l0_7 t671).bind fun t672 => (if t672 < 0 then (some (-1)) else (some t672)))))) = some r := H
   have A6 := Aside0.mk A60
   clear A60
   by_cases c7 : t670 < 0
   · rw [if_pos c7] at H
     have c7b0 : decide (t670 < 0) = true := decide_eq_true c7
     clear c7
     obtain rfl := Option.some.inj H
     go_enter Try.func138, Try.ntmps138
     go_wp2_with (first | ((with_reducible refine gate_dst (N := 2) rfl ?_); refine box_event ?hg (N := 2) ?hd (cs := #[.string a0_0, .int .i64 a0_1, .int .i64 a0_2, .int .i64 a0_3, .slice A0_4 l0_4.length c0_4, .int .i64 a0_5, .slice A0_6 l0_6.length c0_6, .slice A0_7 l0_7.length c0_7]) (t := 191) ?hr ?_; (case hd => rfl); (case hg => rfl); (case hr => first | (go_simp; done) | (go_simp; rfl)); intro gb669 hg w8 hbox hb; have n0_ := Aside0.mk (below_step bz hb); have n1_ := Aside0.mk (hbox); have n2_ := Aside0.mk ((by rw [hg]; exact (below_size bz) : w.heap.size ≤ gb669)); have n3_ := Aside0.mk ((by rw [hg]; exact (below_size bz) : w.heap.size ≤ gb669)); clear HB; have HB := n0_; have BK669 := n1_; have GW669 := n2_; have GE669 := n3_; clear n0_ n1_ n2_ n3_; clear hb hbox hg; have hcz9_0 : w8.cell? ⟨gb669, 0, none⟩ = some (.string a0_0) := (blk_cell BK669.out 0).trans rfl; have hcz9_1 : w8.cell? ⟨gb669, 1, none⟩ = some (.int .i64 a0_1) := (blk_cell BK669.out 1).trans rfl; have hcz9_2 : w8.cell? ⟨gb669, 2, none⟩ = some (.int .i64 a0_2) := (blk_cell BK669.out 2).trans rfl; have hcz9_3 : w8.cell? ⟨gb669, 3, none⟩ = some (.int .i64 a0_3) := (blk_cell BK669.out 3).trans rfl; have hcz9_4 : w8.cell? ⟨gb669, 4, none⟩ = some (.slice A0_4 l0_4.length c0_4) := (blk_cell BK669.out 4).trans rfl; have hcz9_5 : w8.cell? ⟨gb669, 5, none⟩ = some (.int .i64 a0_5) := (blk_cell BK669.out 5).trans rfl; have hcz9_6 : w8.cell? ⟨gb669, 6, none⟩ = some (.slice A0_6 l0_6.length c0_6) := (blk_cell BK669.out 6).trans rfl; have hcz9_7 : w8.cell? ⟨gb669, 7, none⟩ = some (.slice A0_7 l0_7.length c0_7) := (blk_cell BK669.out 7).trans rfl; have hfz9_0 := blk_frozen BK669.out 0; have hfz9_1 := blk_frozen BK669.out 1; have hfz9_2 := blk_frozen BK669.out 2; have hfz9_3 := blk_frozen BK669.out 3; have hfz9_4 := blk_frozen BK669.out 4; have hfz9_5 := blk_frozen BK669.out 5; have hfz9_6 := blk_frozen BK669.out 6; have hfz9_7 := blk_frozen BK669.out 7) | ((with_reducible refine gate_callee (f := 57) rfl ?_); refine goesL_ (some 15) rfl rfl Try.func57 (by kernel_rfl) rfl #[.slice A0_4 l0_4.length c0_4, .int .i64 (wrap64 (a1 - (a0_0.size : Int)))] rfl lz ?_; (with_reducible refine (laws_szInt64S.calls _ _ l0_4 (wrap64 (a1 - (a0_0.size : Int))) t670 _ ?side1 ?side2 A6.out).mono ?_); (case side1 => exact cz HR0_4.out); (case side2 => exact HC0_4.out); rintro e w' ⟨rfl, ⟨nd, rfl⟩⟩; refine ⟨_, rfl, ?_⟩))
     go_ret
     exact ⟨by first | rfl | (simp [errW_none, errW_some] <;> rfl) | (simp [*, errW_none, errW_some] <;> rfl), bz⟩
   · rw [if_neg c7] at H
     have c7b0 : decide (t670 < 0) = false := decide_eq_false c7
     clear c7
     replace H := Option.bind_eq_some_iff.mp H
     obtain ⟨t671, A100, H⟩ := H
     replace H : (if t671 < 0 then (some (-1)) else ((laws_szRelocS.f k l0_7 t671).bind fun t672 => (if t672 < 0 then (some (-1)) else (some t672)))) = some r := H
     have A10 := Aside0.mk A100
     clear A100
     by_cases c11 : t671 < 0
     · rw [if_pos c11] at H
       have c11b0 : decide (t671 < 0) = true := decide_eq_true c11
       clear c11
       obtain rfl := Option.some.inj H
       go_enter Try.func138, Try.ntmps138
       go_wp2_with (first | ((with_reducible refine gate_dst (N := 2) rfl ?_); refine box_event ?hg (N := 2) ?hd (cs := #[.string a0_0, .int .i64 a0_1, .int .i64 a0_2, .int .i64 a0_3, .slice A0_4 l0_4.length c0_4, .int .i64 a0_5, .slice A0_6 l0_6.length c0_6, .slice A0_7 l0_7.length c0_7]) (t := 191) ?hr ?_; (case hd => rfl); (case hg => rfl); (case hr => first | (go_simp; done) | (go_simp; rfl)); intro gb669 hg w12 hbox hb; have n0_ := Aside0.mk (below_step bz hb); have n1_ := Aside0.mk (hbox); have n2_ := Aside0.mk ((by rw [hg]; exact (below_size bz) : w.heap.size ≤ gb669)); have n3_ := Aside0.mk ((by rw [hg]; exact (below_size bz) : w.heap.size ≤ gb669)); clear HB; have HB := n0_; have BK669 := n1_; have GW669 := n2_; have GE669 := n3_; clear n0_ n1_ n2_ n3_; clear hb hbox hg; have hcz13_0 : w12.cell? ⟨gb669, 0, none⟩ = some (.string a0_0) := (blk_cell BK669.out 0).trans rfl; have hcz13_1 : w12.cell? ⟨gb669, 1, none⟩ = some (.int .i64 a0_1) := (blk_cell BK669.out 1).trans rfl; have hcz13_2 : w12.cell? ⟨gb669, 2, none⟩ = some (.int .i64 a0_2) := (blk_cell BK669.out 2).trans rfl; have hcz13_3 : w12.cell? ⟨gb669, 3, none⟩ = some (.int .i64 a0_3) := (blk_cell BK669.out 3).trans rfl; have hcz13_4 : w12.cell? ⟨gb669, 4, none⟩ = some (.slice A0_4 l0_4.length c0_4) := (blk_cell BK669.out 4).trans rfl; have hcz13_5 : w12.cell? ⟨gb669, 5, none⟩ = some (.int .i64 a0_5) := (blk_cell BK669.out 5).trans rfl; have hcz13_6 : w12.cell? ⟨gb669, 6, none⟩ = some (.slice A0_6 l0_6.length c0_6) := (blk_cell BK669.out 6).trans rfl; have hcz13_7 : w12.cell? ⟨gb669, 7, none⟩ = some (.slice A0_7 l0_7.length c0_7) := (blk_cell BK669.out 7).trans rfl; have hfz13_0 := blk_frozen BK669.out 0; have hfz13_1 := blk_frozen BK669.out 1; have hfz13_2 := blk_frozen BK669.out 2; have hfz13_3 := blk_frozen BK669.out 3; have hfz13_4 := blk_frozen BK669.out 4; have hfz13_5 := blk_frozen BK669.out 5; have hfz13_6 := blk_frozen BK669.out 6; have hfz13_7 := blk_frozen BK669.out 7) | ((with_reducible refine gate_callee (f := 57) rfl ?_); refine goesL_ (some 15) rfl rfl Try.func57 (by kernel_rfl) rfl #[.slice A0_4 l0_4.length c0_4, .int .i64 (wrap64 (a1 - (a0_0.size : Int)))] rfl lz ?_; (with_reducible refine (laws_szInt64S.calls _ _ l0_4 (wrap64 (a1 - (a0_0.size : Int))) t670 _ ?side1 ?side2 A6.out).mono ?_); (case side1 => exact cz HR0_4.out); (case side2 => exact HC0_4.out); rintro e w' ⟨rfl, ⟨nd, rfl⟩⟩; refine ⟨_, rfl, ?_⟩) | ((with_reducible refine gate_callee (f := 171) rfl ?_); refine goesL_ (some 21) rfl rfl Try.func171 (by kernel_rfl) rfl #[.slice A0_6 l0_6.length c0_6, .int .i64 t670] rfl lz ?_; (with_reducible refine (laws_szByteS.calls _ _ l0_6 t670 t671 _ ?side1 ?side2 A10.out).mono ?_); (case side1 => exact cz HR0_6.out); (case side2 => exact HC0_6.out); rintro e w' ⟨rfl, ⟨nd, rfl⟩⟩; refine ⟨_, rfl, ?_⟩))
       go_ret
       exact ⟨by first | rfl | (simp [errW_none, errW_some] <;> rfl) | (simp [*, errW_none, errW_some] <;> rfl), bz⟩
     · rw [if_neg c11] at H
       have c11b0 : decide (t671 < 0) = false := decide_eq_false c11
       clear c11
       replace H := Option.bind_eq_some_iff.mp H
       obtain ⟨t672, A140, H⟩ := H
       replace H : (if t672 < 0 then (some (-1)) else (some t672)) = some r := H
       have A14 := Aside0.mk A140
       clear A140
       by_cases c15 : t672 < 0
       · rw [if_pos c15] at H
         have c15b0 : decide (t672 < 0) = true := decide_eq_true c15
         clear c15
         obtain rfl := Option.some.inj H
         go_enter Try.func138, Try.ntmps138
         go_wp2_with (first | ((with_reducible refine gate_dst (N := 2) rfl ?_); refine box_event ?hg (N := 2) ?hd (cs := #[.string a0_0, .int .i64 a0_1, .int .i64 a0_2, .int .i64 a0_3, .slice A0_4 l0_4.length c0_4, .int .i64 a0_5, .slice A0_6 l0_6.length c0_6, .slice A0_7 l0_7.length c0_7]) (t := 191) ?hr ?_; (case hd => rfl); (case hg => rfl); (case hr => first | (go_simp; done) | (go_simp; rfl)); intro gb669 hg w16 hbox hb; have n0_ := Aside0.mk (below_step bz hb); have n1_ := Aside0.mk (hbox); have n2_ := Aside0.mk ((by rw [hg]; exact (below_size bz) : w.heap.size ≤ gb669)); have n3_ := Aside0.mk ((by rw [hg]; exact (below_size bz) : w.heap.size ≤ gb669)); clear HB; have HB := n0_; have BK669 := n1_; have GW669 := n2_; have GE669 := n3_; clear n0_ n1_ n2_ n3_; clear hb hbox hg; have hcz17_0 : w16.cell? ⟨gb669, 0, none⟩ = some (.string a0_0) := (blk_cell BK669.out 0).trans rfl; have hcz17_1 : w16.cell? ⟨gb669, 1, none⟩ = some (.int .i64 a0_1) := (blk_cell BK669.out 1).trans rfl; have hcz17_2 : w16.cell? ⟨gb669, 2, none⟩ = some (.int .i64 a0_2) := (blk_cell BK669.out 2).trans rfl; have hcz17_3 : w16.cell? ⟨gb669, 3, none⟩ = some (.int .i64 a0_3) := (blk_cell BK669.out 3).trans rfl; have hcz17_4 : w16.cell? ⟨gb669, 4, none⟩ = some (.slice A0_4 l0_4.length c0_4) := (blk_cell BK669.out 4).trans rfl; have hcz17_5 : w16.cell? ⟨gb669, 5, none⟩ = some (.int .i64 a0_5) := (blk_cell BK669.out 5).trans rfl; have hcz17_6 : w16.cell? ⟨gb669, 6, none⟩ = some (.slice A0_6 l0_6.length c0_6) := (blk_cell BK669.out 6).trans rfl; have hcz17_7 : w16.cell? ⟨gb669, 7, none⟩ = some (.slice A0_7 l0_7.length c0_7) := (blk_cell BK669.out 7).trans rfl; have hfz17_0 := blk_frozen BK669.out 0; have hfz17_1 := blk_frozen BK669.out 1; have hfz17_2 := blk_frozen BK669.out 2; have hfz17_3 := blk_frozen BK669.out 3; have hfz17_4 := blk_frozen BK669.out 4; have hfz17_5 := blk_frozen BK669.out 5; have hfz17_6 := blk_frozen BK669.out 6; have hfz17_7 := blk_frozen BK669.out 7) | ((with_reducible refine gate_callee (f := 57) rfl ?_); refine goesL_ (some 15) rfl rfl Try.func57 (by kernel_rfl) rfl #[.slice A0_4 l0_4.length c0_4, .int .i64 (wrap64 (a1 - (a0_0.size : Int)))] rfl lz ?_; (with_reducible refine (laws_szInt64S.calls _ _ l0_4 (wrap64 (a1 - (a0_0.size : Int))) t670 _ ?side1 ?side2 A6.out).mono ?_); (case side1 => exact cz HR0_4.out); (case side2 => exact HC0_4.out); rintro e w' ⟨rfl, ⟨nd, rfl⟩⟩; refine ⟨_, rfl, ?_⟩) | ((with_reducible refine gate_callee (f := 171) rfl ?_); refine goesL_ (some 21) rfl rfl Try.func171 (by kernel_rfl) rfl #[.slice A0_6 l0_6.length c0_6, .int .i64 t670] rfl lz ?_; (with_reducible refine (laws_szByteS.calls _ _ l0_6 t670 t671 _ ?side1 ?side2 A10.out).mono ?_); (case side1 => exact cz HR0_6.out); (case side2 => exact HC0_6.out); rintro e w' ⟨rfl, ⟨nd, rfl⟩⟩; refine ⟨_, rfl, ?_⟩) | ((with_reducible refine gate_callee (f := 172) rfl ?_); refine goesL_ (some 27) rfl rfl Try.func172 (by kernel_rfl) rfl #[.slice A0_7 l0_7.length c0_7, .int .i64 t671] rfl lz ?_; (with_reducible refine (laws_szRelocS.calls k _ _ l0_7 t671 t672 _ ?side1 ?side2 A14.out).mono ?_); (case side1 => exact cz HR0_7.out); (case side2 => exact HC0_7.out); rintro e w18 ⟨rfl, hb⟩; refine ⟨_, rfl, ?_⟩; have n0_ := Aside0.mk (blk_below (g := gb669) (o := .cells #[.string a0_0, .int .i64 a0_1, .int .i64 a0_2, .int .i64 a0_3, .slice A0_4 l0_4.length c0_4, .int .i64 a0_5, .slice A0_6 l0_6.length c0_6, .slice A0_7 l0_7.length c0_7] 191 (0, 0)) kz hb); have n1_ := Aside0.mk (below_step bz hb); clear BK669; clear HB; have BK669 := n0_; have HB := n1_; clear n0_ n1_; (try clear hb); (try clear hb2); (try clear hk); (try clear hi)))
         go_ret
         exact ⟨by first | rfl | (simp [errW_none, errW_some] <;> rfl) | (simp [*, errW_none, errW_some] <;> rfl), bz⟩
       · rw [if_neg c15] at H
         have c15b0 : decide (t672 < 0) = false := decide_eq_false c15
         clear c15
         obtain rfl := Option.some.inj H
         go_enter Try.func138, Try.ntmps138
         go_wp2_with (first | ((with_reducible refine gate_dst (N := 2) rfl ?_); refine box_event ?hg (N := 2) ?hd (cs := #[.string a0_0, .int .i64 a0_1, .int .i64 a0_2, .int .i64 a0_3, .slice A0_4 l0_4.length c0_4, .int .i64 a0_5, .slice A0_6 l0_6.length c0_6, .slice A0_7 l0_7.length c0_7]) (t := 191) ?hr ?_; (case hd => rfl); (case hg => rfl); (case hr => first | (go_simp; done) | (go_simp; rfl)); intro gb669 hg w19 hbox hb; have n0_ := Aside0.mk (below_step bz hb); have n1_ := Aside0.mk (hbox); have n2_ := Aside0.mk ((by rw [hg]; exact (below_size bz) : w.heap.size ≤ gb669)); have n3_ := Aside0.mk ((by rw [hg]; exact (below_size bz) : w.heap.size ≤ gb669)); clear HB; have HB := n0_; have BK669 := n1_; have GW669 := n2_; have GE669 := n3_; clear n0_ n1_ n2_ n3_; clear hb hbox hg; have hcz20_0 : w19.cell? ⟨gb669, 0, none⟩ = some (.string a0_0) := (blk_cell BK669.out 0).trans rfl; have hcz20_1 : w19.cell? ⟨gb669, 1, none⟩ = some (.int .i64 a0_1) := (blk_cell BK669.out 1).trans rfl; have hcz20_2 : w19.cell? ⟨gb669, 2, none⟩ = some (.int .i64 a0_2) := (blk_cell BK669.out 2).trans rfl; have hcz20_3 : w19.cell? ⟨gb669, 3, none⟩ = some (.int .i64 a0_3) := (blk_cell BK669.out 3).trans rfl; have hcz20_4 : w19.cell? ⟨gb669, 4, none⟩ = some (.slice A0_4 l0_4.length c0_4) := (blk_cell BK669.out 4).trans rfl; have hcz20_5 : w19.cell? ⟨gb669, 5, none⟩ = some (.int .i64 a0_5) := (blk_cell BK669.out 5).trans rfl; have hcz20_6 : w19.cell? ⟨gb669, 6, none⟩ = some (.slice A0_6 l0_6.length c0_6) := (blk_cell BK669.out 6).trans rfl; have hcz20_7 : w19.cell? ⟨gb669, 7, none⟩ = some (.slice A0_7 l0_7.length c0_7) := (blk_cell BK669.out 7).trans rfl; have hfz20_0 := blk_frozen BK669.out 0; have hfz20_1 := blk_frozen BK669.out 1; have hfz20_2 := blk_frozen BK669.out 2; have hfz20_3 := blk_frozen BK669.out 3; have hfz20_4 := blk_frozen BK669.out 4; have hfz20_5 := blk_frozen BK669.out 5; have hfz20_6 := blk_frozen BK669.out 6; have hfz20_7 := blk_frozen BK669.out 7) | ((with_reducible refine gate_callee (f := 57) rfl ?_); refine goesL_ (some 15) rfl rfl Try.func57 (by kernel_rfl) rfl #[.slice A0_4 l0_4.length c0_4, .int .i64 (wrap64 (a1 - (a0_0.size : Int)))] rfl lz ?_; (with_reducible refine (laws_szInt64S.calls _ _ l0_4 (wrap64 (a1 - (a0_0.size : Int))) t670 _ ?side1 ?side2 A6.out).mono ?_); (case side1 => exact cz HR0_4.out); (case side2 => exact HC0_4.out); rintro e w' ⟨rfl, ⟨nd, rfl⟩⟩; refine ⟨_, rfl, ?_⟩) | ((with_reducible refine gate_callee (f := 171) rfl ?_); refine goesL_ (some 21) rfl rfl Try.func171 (by kernel_rfl) rfl #[.slice A0_6 l0_6.length c0_6, .int .i64 t670] rfl lz ?_; (with_reducible refine (laws_szByteS.calls _ _ l0_6 t670 t671 _ ?side1 ?side2 A10.out).mono ?_); (case side1 => exact cz HR0_6.out); (case side2 => exact HC0_6.out); rintro e w' ⟨rfl, ⟨nd, rfl⟩⟩; refine ⟨_, rfl, ?_⟩) | ((with_reducible refine gate_callee (f := 172) rfl ?_); refine goesL_ (some 27) rfl rfl Try.func172 (by kernel_rfl) rfl #[.slice A0_7 l0_7.length c0_7, .int .i64 t671] rfl lz ?_; (with_reducible refine (laws_szRelocS.calls k _ _ l0_7 t671 t672 _ ?side1 ?side2 A14.out).mono ?_); (case side1 => exact cz HR0_7.out); (case side2 => exact HC0_7.out); rintro e w21 ⟨rfl, hb⟩; refine ⟨_, rfl, ?_⟩; have n0_ := Aside0.mk (blk_below (g := gb669) (o := .cells #[.string a0_0, .int .i64 a0_1, .int .i64 a0_2, .int .i64 a0_3, .slice A0_4 l0_4.length c0_4, .int .i64 a0_5, .slice A0_6 l0_6.length c0_6, .slice A0_7 l0_7.length c0_7] 191 (0, 0)) kz hb); have n1_ := Aside0.mk (below_step bz hb); clear BK669; clear HB; have BK669 := n0_; have HB := n1_; clear n0_ n1_; (try clear hb); (try clear hb2); (try clear hk); (try clear hi)))
         go_ret
         exact ⟨by first | rfl | (simp [errW_none, errW_some] <;> rfl) | (simp [*, errW_none, errW_some] <;> rfl), bz⟩

set_option linter.unusedVariables false
set_option linter.unusedSimpArgs false

def laws_szSectionS.l0 : Nat → List (S191) → Int → Int → Option (Int)
 | 0, _, _, _ => none
 | k + 1, x0, x1, x5 => if x5 < (x0.length : Int) then (if 0 ≤ x5 then ((laws_szSection.f k ((rd_T191 x0 x5).f0) ((rd_T191 x0 x5).f1) ((rd_T191 x0 x5).f2) ((rd_T191 x0 x5).f3) ((rd_T191 x0 x5).f4) ((rd_T191 x0 x5).f5) ((rd_T191 x0 x5).f6) ((rd_T191 x0 x5).f7) x1).bind fun t674 => (if t674 < 0 then (some (-1)) else (laws_szSectionS.l0 k x0 t674 (wrap64 (x5 + 1))))) else (none)) else (some x1)
def laws_szSectionS.f (k : Nat) (l0 : List (S191)) (a1 : Int) : Option (Int) := if (wrap64 (a1 - (l0.length : Int))) < 0 then (some (-1)) else (laws_szSectionS.l0 k l0 (wrap64 (a1 - (l0.length : Int))) 0)
set_option maxHeartbeats 8000000 in
set_option maxRecDepth 100000 in
theorem laws_szSectionS.calls (k : Nat) (A0 : Option Addr) (c0 : Nat) (l0 : List (S191)) (a1 : Int) (r : Int) (w : World) (hr0 : Kd.C k191 w A0 l0.length l0) (hc0 : l0.length ≤ c0) (h : laws_szSectionS.f k l0 a1 = some r) :
 Calls Try.prog 94 #[.slice A0 l0.length c0, .int .i64 a1] w fun e w' => e = .returned (.int .i64 r) ∧ Below w.heap.size w w' := by
 have hu191 := Try.underlying191
 have HR0 := Aside0.mk hr0
 have HC0 := Aside0.mk hc0
 clear hr0 hc0
 have HB := Aside0.mk (Below.refl w.heap.size w)
 have H : (if (wrap64 (a1 - (l0.length : Int))) < 0 then (some (-1)) else (laws_szSectionS.l0 k l0 (wrap64 (a1 - (l0.length : Int))) 0)) = some r := h
 clear h
 by_cases c3 : (wrap64 (a1 - (l0.length : Int))) < 0
 · rw [if_pos c3] at H
   have c3b0 : decide ((wrap64 (a1 - (l0.length : Int))) < 0) = true := decide_eq_true c3
   clear c3
   obtain rfl := Option.some.inj H
   go_enter Try.func94, Try.ntmps94
   go_wp2
   go_ret
   exact ⟨by first | rfl | (simp [errW_none, errW_some] <;> rfl) | (simp [*, errW_none, errW_some] <;> rfl), bz⟩
 · rw [if_neg c3] at H
   have c3b0 : decide ((wrap64 (a1 - (l0.length : Int))) < 0) = false := decide_eq_false c3
   clear c3
   have H' := Aside0.mk H
   clear H
   go_enter Try.func94, Try.ntmps94
   go_wp2
   go_loopg [1, 5] k (fun kq v1 v5 w' => ∃ (x1_1 : Int) (x5_1 : Int), v1 = .int .i64 x1_1 ∧ v5 = .int .i64 x5_1 ∧ Aside0 (laws_szSectionS.l0 kq l0 x1_1 x5_1 = some r) ∧ Aside0 (kq ≤ k) ∧ Aside0 (Below w.heap.size w w'))
   case atStart => exact ⟨(wrap64 (a1 - (l0.length : Int))), (0), sz_, sz_, H', ⟨Nat.le_refl _⟩, ⟨ bz⟩⟩
   case round =>
    clear H'
    try clear p2
    try clear c3
    try clear c3b0
    obtain ⟨x1_1, x5_1, rfl, rfl, HA, HK1, HB⟩ := hrel
    cases gk with
    | zero => exact absurd HA.out (by simp [laws_szSectionS.l0])
    | succ k1 =>
     have H := HA.out
     clear HA
     simp only [laws_szSectionS.l0] at H
     by_cases c4 : x5_1 < (l0.length : Int)
     · rw [if_pos c4] at H
       have c4b0 : decide (x5_1 < (l0.length : Int)) = true := decide_eq_true c4
       clear c4
       by_cases c5 : 0 ≤ x5_1
       · rw [if_pos c5] at H
         have c5b0 : decide (0 ≤ x5_1) = true := decide_eq_true c5
         clear c5
         replace H := Option.bind_eq_some_iff.mp H
         obtain ⟨t674, A60, H⟩ := H
         replace H : (if t674 < 0 then (some (-1)) else (laws_szSectionS.l0 k1 l0 t674 (wrap64 (x5_1 + 1)))) = some r := H
         have A6 := Aside0.mk A60
         clear A60
         by_cases c7 : t674 < 0
         · rw [if_pos c7] at H
           have c7b0 : decide (t674 < 0) = true := decide_eq_true c7
           clear c7
           obtain rfl := Option.some.inj H
           have p673 : 0 ≤ (x5_1 : Int) := of_decide_eq_true az
           have q673 : x5_1 < (l0.length : Int) := of_decide_eq_true az
           obtain ⟨ad673, A673_4, c673_4, A673_6, c673_6, A673_7, c673_7, e673, hx673_0, hx673_1, hx673_2, hx673_3, hx673_4, hx673_5, hx673_6, hx673_7, hl673_4, hi673_4, hl673_6, hi673_6, hl673_7, hi673_7⟩ := at_T191 HR0.out x5_1 p673 q673
           cases e673
           replace hx673_0 := ck HB hx673_0
           replace hx673_1 := ck HB hx673_1
           replace hx673_2 := ck HB hx673_2
           replace hx673_3 := ck HB hx673_3
           replace hx673_4 := ck HB hx673_4
           replace hx673_5 := ck HB hx673_5
           replace hx673_6 := ck HB hx673_6
           replace hx673_7 := ck HB hx673_7
           have HR673_4 := Aside0.mk hi673_4
           have HC673_4 := Aside0.mk hl673_4
           clear hi673_4 hl673_4
           have HR673_6 := Aside0.mk hi673_6
           have HC673_6 := Aside0.mk hl673_6
           clear hi673_6 hl673_6
           have HR673_7 := Aside0.mk hi673_7
           have HC673_7 := Aside0.mk hl673_7
           clear hi673_7 hl673_7
           replace p673 := eq_true p673
           replace q673 := eq_true q673
           go_wp2_with (first | ((with_reducible refine gate_callee (f := 138) rfl ?_); refine goesL_ (some 23) rfl rfl Try.func138 (by kernel_rfl) rfl #[.agg #[.string ((rd_T191 l0 x5_1).f0), .int .i64 ((rd_T191 l0 x5_1).f1), .int .i64 ((rd_T191 l0 x5_1).f2), .int .i64 ((rd_T191 l0 x5_1).f3), .slice A673_4 ((rd_T191 l0 x5_1).f4).length c673_4, .int .i64 ((rd_T191 l0 x5_1).f5), .slice A673_6 ((rd_T191 l0 x5_1).f6).length c673_6, .slice A673_7 ((rd_T191 l0 x5_1).f7).length c673_7], .int .i64 x1_1] rfl lz ?_; (with_reducible refine (laws_szSection.calls k1 ((rd_T191 l0 x5_1).f0) ((rd_T191 l0 x5_1).f1) ((rd_T191 l0 x5_1).f2) ((rd_T191 l0 x5_1).f3) _ _ ((rd_T191 l0 x5_1).f4) ((rd_T191 l0 x5_1).f5) _ _ ((rd_T191 l0 x5_1).f6) _ _ ((rd_T191 l0 x5_1).f7) x1_1 t674 _ ?side1 ?side2 ?side3 ?side4 ?side5 ?side6 A6.out).mono ?_); (case side1 => exact cz HR673_4.out); (case side2 => exact HC673_4.out); (case side3 => exact cz HR673_6.out); (case side4 => exact HC673_6.out); (case side5 => exact cz HR673_7.out); (case side6 => exact HC673_7.out); rintro e w8 ⟨rfl, hb⟩; refine ⟨_, rfl, ?_⟩; have n0_ := Aside0.mk (below_step bz hb); clear HB; have HB := n0_; clear n0_; (try clear hb); (try clear hb2); (try clear hk); (try clear hi)))
           go_ret
           exact ⟨by first | rfl | (simp [errW_none, errW_some] <;> rfl) | (simp [*, errW_none, errW_some] <;> rfl), bz⟩
         · rw [if_neg c7] at H
           have c7b0 : decide (t674 < 0) = false := decide_eq_false c7
           clear c7
           have H' := Aside0.mk H
           clear H
           have p673 : 0 ≤ (x5_1 : Int) := of_decide_eq_true az
           have q673 : x5_1 < (l0.length : Int) := of_decide_eq_true az
           obtain ⟨ad673, A673_4, c673_4, A673_6, c673_6, A673_7, c673_7, e673, hx673_0, hx673_1, hx673_2, hx673_3, hx673_4, hx673_5, hx673_6, hx673_7, hl673_4, hi673_4, hl673_6, hi673_6, hl673_7, hi673_7⟩ := at_T191 HR0.out x5_1 p673 q673
           cases e673
           replace hx673_0 := ck HB hx673_0
           replace hx673_1 := ck HB hx673_1
           replace hx673_2 := ck HB hx673_2
           replace hx673_3 := ck HB hx673_3
           replace hx673_4 := ck HB hx673_4
           replace hx673_5 := ck HB hx673_5
           replace hx673_6 := ck HB hx673_6
           replace hx673_7 := ck HB hx673_7
           have HR673_4 := Aside0.mk hi673_4
           have HC673_4 := Aside0.mk hl673_4
           clear hi673_4 hl673_4
           have HR673_6 := Aside0.mk hi673_6
           have HC673_6 := Aside0.mk hl673_6
           clear hi673_6 hl673_6
           have HR673_7 := Aside0.mk hi673_7
           have HC673_7 := Aside0.mk hl673_7
           clear hi673_7 hl673_7
           replace p673 := eq_true p673
           replace q673 := eq_true q673
           go_wp2_with (first | ((with_reducible refine gate_callee (f := 138) rfl ?_); refine goesL_ (some 23) rfl rfl Try.func138 (by kernel_rfl) rfl #[.agg #[.string ((rd_T191 l0 x5_1).f0), .int .i64 ((rd_T191 l0 x5_1).f1), .int .i64 ((rd_T191 l0 x5_1).f2), .int .i64 ((rd_T191 l0 x5_1).f3), .slice A673_4 ((rd_T191 l0 x5_1).f4).length c673_4, .int .i64 ((rd_T191 l0 x5_1).f5), .slice A673_6 ((rd_T191 l0 x5_1).f6).length c673_6, .slice A673_7 ((rd_T191 l0 x5_1).f7).length c673_7], .int .i64 x1_1] rfl lz ?_; (with_reducible refine (laws_szSection.calls k1 ((rd_T191 l0 x5_1).f0) ((rd_T191 l0 x5_1).f1) ((rd_T191 l0 x5_1).f2) ((rd_T191 l0 x5_1).f3) _ _ ((rd_T191 l0 x5_1).f4) ((rd_T191 l0 x5_1).f5) _ _ ((rd_T191 l0 x5_1).f6) _ _ ((rd_T191 l0 x5_1).f7) x1_1 t674 _ ?side1 ?side2 ?side3 ?side4 ?side5 ?side6 A6.out).mono ?_); (case side1 => exact cz HR673_4.out); (case side2 => exact HC673_4.out); (case side3 => exact cz HR673_6.out); (case side4 => exact HC673_6.out); (case side5 => exact cz HR673_7.out); (case side6 => exact HC673_7.out); rintro e w9 ⟨rfl, hb⟩; refine ⟨_, rfl, ?_⟩; have n0_ := Aside0.mk (below_step bz hb); clear HB; have HB := n0_; clear n0_; (try clear hb); (try clear hb2); (try clear hk); (try clear hi)))
           go_roundg k1
           case measure => have := HK1.out; omega
           case rel => exact ⟨(t674), (wrap64 (x5_1 + 1)), sz_, sz_, H', ⟨by have := HK1.out; omega⟩, ⟨ bz⟩⟩
       · rw [if_neg c5] at H
         exact absurd H (by simp)
     · rw [if_neg c4] at H
       have c4b0 : decide (x5_1 < (l0.length : Int)) = false := decide_eq_false c4
       clear c4
       obtain rfl := Option.some.inj H
       go_wp2
       go_ret
       exact ⟨by first | rfl | (simp [errW_none, errW_some] <;> rfl) | (simp [*, errW_none, errW_some] <;> rfl), bz⟩

set_option linter.unusedVariables false
set_option linter.unusedSimpArgs false

def laws_szObject.f (k : Nat) (l0_0 : List (S191)) (a1 : Int) : Option (Int) := (laws_szSectionS.f k l0_0 a1).bind fun t676 => (if t676 < 0 then (some (-1)) else (some t676))
set_option maxHeartbeats 8000000 in
set_option maxRecDepth 100000 in
theorem laws_szObject.calls (k : Nat) (A0_0 : Option Addr) (c0_0 : Nat) (l0_0 : List (S191)) (a1 : Int) (r : Int) (w : World) (hr0_0 : Kd.C k191 w A0_0 l0_0.length l0_0) (hc0_0 : l0_0.length ≤ c0_0) (h : laws_szObject.f k l0_0 a1 = some r) :
 Calls Try.prog 44 #[.agg #[.slice A0_0 l0_0.length c0_0], .int .i64 a1] w fun e w' => e = .returned (.int .i64 r) ∧ Below w.heap.size w w' := by
 have hu63 := Try.underlying63
 have HR0_0 := Aside0.mk hr0_0
 have HC0_0 := Aside0.mk hc0_0
 clear hr0_0 hc0_0
 have HB := Aside0.mk (Below.refl w.heap.size w)
 have H : ((laws_szSectionS.f k l0_0 a1).bind fun t676 => (if t676 < 0 then (some (-1)) else (some t676))) = some r := h
 clear h
 replace H := Option.bind_eq_some_iff.mp H
 obtain ⟨t676, A30, H⟩ := H
 replace H : (if t676 < 0 then (some (-1)) else (some t676)) = some r := H
 have A3 := Aside0.mk A30
 clear A30
 by_cases c4 : t676 < 0
 · rw [if_pos c4] at H
   have c4b0 : decide (t676 < 0) = true := decide_eq_true c4
   clear c4
   obtain rfl := Option.some.inj H
   go_enter Try.func44, Try.ntmps44
   go_wp2_with (first | ((with_reducible refine gate_dst (N := 2) rfl ?_); refine box_event ?hg (N := 2) ?hd (cs := #[.slice A0_0 l0_0.length c0_0]) (t := 63) ?hr ?_; (case hd => rfl); (case hg => rfl); (case hr => first | (go_simp; done) | (go_simp; rfl)); intro gb675 hg w5 hbox hb; have n0_ := Aside0.mk (below_step bz hb); have n1_ := Aside0.mk (hbox); have n2_ := Aside0.mk ((by rw [hg]; exact (below_size bz) : w.heap.size ≤ gb675)); have n3_ := Aside0.mk ((by rw [hg]; exact (below_size bz) : w.heap.size ≤ gb675)); clear HB; have HB := n0_; have BK675 := n1_; have GW675 := n2_; have GE675 := n3_; clear n0_ n1_ n2_ n3_; clear hb hbox hg; have hcz6_0 : w5.cell? ⟨gb675, 0, none⟩ = some (.slice A0_0 l0_0.length c0_0) := (blk_cell BK675.out 0).trans rfl; have hfz6_0 := blk_frozen BK675.out 0) | ((with_reducible refine gate_callee (f := 94) rfl ?_); refine goesL_ (some 8) rfl rfl Try.func94 (by kernel_rfl) rfl #[.slice A0_0 l0_0.length c0_0, .int .i64 a1] rfl lz ?_; (with_reducible refine (laws_szSectionS.calls k _ _ l0_0 a1 t676 _ ?side1 ?side2 A3.out).mono ?_); (case side1 => exact cz HR0_0.out); (case side2 => exact HC0_0.out); rintro e w7 ⟨rfl, hb⟩; refine ⟨_, rfl, ?_⟩; have n0_ := Aside0.mk (blk_below (g := gb675) (o := .cells #[.slice A0_0 l0_0.length c0_0] 63 (0, 0)) kz hb); have n1_ := Aside0.mk (below_step bz hb); clear BK675; clear HB; have BK675 := n0_; have HB := n1_; clear n0_ n1_; (try clear hb); (try clear hb2); (try clear hk); (try clear hi)))
   go_ret
   exact ⟨by first | rfl | (simp [errW_none, errW_some] <;> rfl) | (simp [*, errW_none, errW_some] <;> rfl), bz⟩
 · rw [if_neg c4] at H
   have c4b0 : decide (t676 < 0) = false := decide_eq_false c4
   clear c4
   obtain rfl := Option.some.inj H
   go_enter Try.func44, Try.ntmps44
   go_wp2_with (first | ((with_reducible refine gate_dst (N := 2) rfl ?_); refine box_event ?hg (N := 2) ?hd (cs := #[.slice A0_0 l0_0.length c0_0]) (t := 63) ?hr ?_; (case hd => rfl); (case hg => rfl); (case hr => first | (go_simp; done) | (go_simp; rfl)); intro gb675 hg w8 hbox hb; have n0_ := Aside0.mk (below_step bz hb); have n1_ := Aside0.mk (hbox); have n2_ := Aside0.mk ((by rw [hg]; exact (below_size bz) : w.heap.size ≤ gb675)); have n3_ := Aside0.mk ((by rw [hg]; exact (below_size bz) : w.heap.size ≤ gb675)); clear HB; have HB := n0_; have BK675 := n1_; have GW675 := n2_; have GE675 := n3_; clear n0_ n1_ n2_ n3_; clear hb hbox hg; have hcz9_0 : w8.cell? ⟨gb675, 0, none⟩ = some (.slice A0_0 l0_0.length c0_0) := (blk_cell BK675.out 0).trans rfl; have hfz9_0 := blk_frozen BK675.out 0) | ((with_reducible refine gate_callee (f := 94) rfl ?_); refine goesL_ (some 8) rfl rfl Try.func94 (by kernel_rfl) rfl #[.slice A0_0 l0_0.length c0_0, .int .i64 a1] rfl lz ?_; (with_reducible refine (laws_szSectionS.calls k _ _ l0_0 a1 t676 _ ?side1 ?side2 A3.out).mono ?_); (case side1 => exact cz HR0_0.out); (case side2 => exact HC0_0.out); rintro e w10 ⟨rfl, hb⟩; refine ⟨_, rfl, ?_⟩; have n0_ := Aside0.mk (blk_below (g := gb675) (o := .cells #[.slice A0_0 l0_0.length c0_0] 63 (0, 0)) kz hb); have n1_ := Aside0.mk (below_step bz hb); clear BK675; clear HB; have BK675 := n0_; have HB := n1_; clear n0_ n1_; (try clear hb); (try clear hb2); (try clear hk); (try clear hi)))
   go_ret
   exact ⟨by first | rfl | (simp [errW_none, errW_some] <;> rfl) | (simp [*, errW_none, errW_some] <;> rfl), bz⟩

set_option linter.unusedVariables false
set_option linter.unusedSimpArgs false

def laws_szObjectS.l0 : Nat → List (S63) → Int → Int → Option (Int)
 | 0, _, _, _ => none
 | k + 1, x0, x1, x5 => if x5 < (x0.length : Int) then (if 0 ≤ x5 then ((laws_szObject.f k ((rd_T63 x0 x5).f0) x1).bind fun t678 => (if t678 < 0 then (some (-1)) else (laws_szObjectS.l0 k x0 t678 (wrap64 (x5 + 1))))) else (none)) else (some x1)
def laws_szObjectS.f (k : Nat) (l0 : List (S63)) (a1 : Int) : Option (Int) := if (wrap64 (a1 - (l0.length : Int))) < 0 then (some (-1)) else (laws_szObjectS.l0 k l0 (wrap64 (a1 - (l0.length : Int))) 0)
set_option maxHeartbeats 8000000 in
set_option maxRecDepth 100000 in
theorem laws_szObjectS.calls (k : Nat) (A0 : Option Addr) (c0 : Nat) (l0 : List (S63)) (a1 : Int) (r : Int) (w : World) (hr0 : Kd.C k63 w A0 l0.length l0) (hc0 : l0.length ≤ c0) (h : laws_szObjectS.f k l0 a1 = some r) :
 Calls Try.prog 33 #[.slice A0 l0.length c0, .int .i64 a1] w fun e w' => e = .returned (.int .i64 r) ∧ Below w.heap.size w w' := by
 have hu63 := Try.underlying63
 have HR0 := Aside0.mk hr0
 have HC0 := Aside0.mk hc0
 clear hr0 hc0
 have HB := Aside0.mk (Below.refl w.heap.size w)
 have H : (if (wrap64 (a1 - (l0.length : Int))) < 0 then (some (-1)) else (laws_szObjectS.l0 k l0 (wrap64 (a1 - (l0.length : Int))) 0)) = some r := h
 clear h
 by_cases c3 : (wrap64 (a1 - (l0.length : Int))) < 0
 · rw [if_pos c3] at H
   have c3b0 : decide ((wrap64 (a1 - (l0.length : Int))) < 0) = true := decide_eq_true c3
   clear c3
   obtain rfl := Option.some.inj H
   go_enter Try.func33, Try.ntmps33
   go_wp2
   go_ret
   exact ⟨by first | rfl | (simp [errW_none, errW_some] <;> rfl) | (simp [*, errW_none, errW_some] <;> rfl), bz⟩
 · rw [if_neg c3] at H
   have c3b0 : decide ((wrap64 (a1 - (l0.length : Int))) < 0) = false := decide_eq_false c3
   clear c3
   have H' := Aside0.mk H
   clear H
   go_enter Try.func33, Try.ntmps33
   go_wp2
   go_loopg [1, 5] k (fun kq v1 v5 w' => ∃ (x1_1 : Int) (x5_1 : Int), v1 = .int .i64 x1_1 ∧ v5 = .int .i64 x5_1 ∧ Aside0 (laws_szObjectS.l0 kq l0 x1_1 x5_1 = some r) ∧ Aside0 (kq ≤ k) ∧ Aside0 (Below w.heap.size w w'))
   case atStart => exact ⟨(wrap64 (a1 - (l0.length : Int))), (0), sz_, sz_, H', ⟨Nat.le_refl _⟩, ⟨ bz⟩⟩
   case round =>
    clear H'
    try clear p2
    try clear c3
    try clear c3b0
    obtain ⟨x1_1, x5_1, rfl, rfl, HA, HK1, HB⟩ := hrel
    cases gk with
    | zero => exact absurd HA.out (by simp [laws_szObjectS.l0])
    | succ k1 =>
     have H := HA.out
     clear HA
     simp only [laws_szObjectS.l0] at H
     by_cases c4 : x5_1 < (l0.length : Int)
     · rw [if_pos c4] at H
       have c4b0 : decide (x5_1 < (l0.length : Int)) = true := decide_eq_true c4
       clear c4
       by_cases c5 : 0 ≤ x5_1
       · rw [if_pos c5] at H
         have c5b0 : decide (0 ≤ x5_1) = true := decide_eq_true c5
         clear c5
         replace H := Option.bind_eq_some_iff.mp H
         obtain ⟨t678, A60, H⟩ := H
         replace H : (if t678 < 0 then (some (-1)) else (laws_szObjectS.l0 k1 l0 t678 (wrap64 (x5_1 + 1)))) = some r := H
         have A6 := Aside0.mk A60
         clear A60
         by_cases c7 : t678 < 0
         · rw [if_pos c7] at H
           have c7b0 : decide (t678 < 0) = true := decide_eq_true c7
           clear c7
           obtain rfl := Option.some.inj H
           have p677 : 0 ≤ (x5_1 : Int) := of_decide_eq_true az
           have q677 : x5_1 < (l0.length : Int) := of_decide_eq_true az
           obtain ⟨ad677, A677_0, c677_0, e677, hx677_0, hl677_0, hi677_0⟩ := at_T63 HR0.out x5_1 p677 q677
           cases e677
           replace hx677_0 := ck HB hx677_0
           have HR677_0 := Aside0.mk hi677_0
           have HC677_0 := Aside0.mk hl677_0
           clear hi677_0 hl677_0
           replace p677 := eq_true p677
           replace q677 := eq_true q677
           go_wp2_with (first | ((with_reducible refine gate_callee (f := 44) rfl ?_); refine goesL_ (some 23) rfl rfl Try.func44 (by kernel_rfl) rfl #[.agg #[.slice A677_0 ((rd_T63 l0 x5_1).f0).length c677_0], .int .i64 x1_1] rfl lz ?_; (with_reducible refine (laws_szObject.calls k1 _ _ ((rd_T63 l0 x5_1).f0) x1_1 t678 _ ?side1 ?side2 A6.out).mono ?_); (case side1 => exact cz HR677_0.out); (case side2 => exact HC677_0.out); rintro e w8 ⟨rfl, hb⟩; refine ⟨_, rfl, ?_⟩; have n0_ := Aside0.mk (below_step bz hb); clear HB; have HB := n0_; clear n0_; (try clear hb); (try clear hb2); (try clear hk); (try clear hi)))
           go_ret
           exact ⟨by first | rfl | (simp [errW_none, errW_some] <;> rfl) | (simp [*, errW_none, errW_some] <;> rfl), bz⟩
         · rw [if_neg c7] at H
           have c7b0 : decide (t678 < 0) = false := decide_eq_false c7
           clear c7
           have H' := Aside0.mk H
           clear H
           have p677 : 0 ≤ (x5_1 : Int) := of_decide_eq_true az
           have q677 : x5_1 < (l0.length : Int) := of_decide_eq_true az
           obtain ⟨ad677, A677_0, c677_0, e677, hx677_0, hl677_0, hi677_0⟩ := at_T63 HR0.out x5_1 p677 q677
           cases e677
           replace hx677_0 := ck HB hx677_0
           have HR677_0 := Aside0.mk hi677_0
           have HC677_0 := Aside0.mk hl677_0
           clear hi677_0 hl677_0
           replace p677 := eq_true p677
           replace q677 := eq_true q677
           go_wp2_with (first | ((with_reducible refine gate_callee (f := 44) rfl ?_); refine goesL_ (some 23) rfl rfl Try.func44 (by kernel_rfl) rfl #[.agg #[.slice A677_0 ((rd_T63 l0 x5_1).f0).length c677_0], .int .i64 x1_1] rfl lz ?_; (with_reducible refine (laws_szObject.calls k1 _ _ ((rd_T63 l0 x5_1).f0) x1_1 t678 _ ?side1 ?side2 A6.out).mono ?_); (case side1 => exact cz HR677_0.out); (case side2 => exact HC677_0.out); rintro e w9 ⟨rfl, hb⟩; refine ⟨_, rfl, ?_⟩; have n0_ := Aside0.mk (below_step bz hb); clear HB; have HB := n0_; clear n0_; (try clear hb); (try clear hb2); (try clear hk); (try clear hi)))
           go_roundg k1
           case measure => have := HK1.out; omega
           case rel => exact ⟨(t678), (wrap64 (x5_1 + 1)), sz_, sz_, H', ⟨by have := HK1.out; omega⟩, ⟨ bz⟩⟩
       · rw [if_neg c5] at H
         exact absurd H (by simp)
     · rw [if_neg c4] at H
       have c4b0 : decide (x5_1 < (l0.length : Int)) = false := decide_eq_false c4
       clear c4
       obtain rfl := Option.some.inj H
       go_wp2
       go_ret
       exact ⟨by first | rfl | (simp [errW_none, errW_some] <;> rfl) | (simp [*, errW_none, errW_some] <;> rfl), bz⟩

set_option linter.unusedVariables false
set_option linter.unusedSimpArgs false

def laws_toInt64S.l0 : Nat → List Int → List Int → Int → Option (List Int)
 | 0, _, _, _ => none
 | k + 1, x0, x3, x4 => if x4 < (x0.length : Int) then (if 0 ≤ x4 then (if x4 < (x3.length : Int) then (laws_toInt64S.l0 k x0 (x3.set (x4 : Int).toNat (rd x0 x4)) (wrap64 (x4 + 1))) else (none)) else (none)) else (some x3)
def laws_toInt64S.f (k : Nat) (l0 : List Int) : Option (List Int) := if 0 ≤ (l0.length : Int) then (if ((l0.length : Int) : Int).toNat ≤ 35184372088832 then (laws_toInt64S.l0 k l0 (List.replicate ((l0.length : Int) : Int).toNat 0) 0) else (none)) else (none)
set_option maxHeartbeats 8000000 in
set_option maxRecDepth 100000 in
theorem laws_toInt64S.calls (k : Nat) (A0 : Option Addr) (c0 : Nat) (l0 : List Int) (r : List Int) (w : World) (hr0 : Kd.C (Kd.int .i64) w A0 l0.length l0) (hc0 : l0.length ≤ c0) (h : laws_toInt64S.f k l0 = some r) :
 Calls Try.prog 62 #[.slice A0 l0.length c0] w fun e w' => ∃ v0_ : Value, e = .returned (v0_) ∧ Kd.R (Kd.int .i64) 2 w' w.heap.size (fun _ => True) v0_ r ∧ Below w.heap.size w w' := by
 have HR0 := Aside0.mk hr0
 have HC0 := Aside0.mk hc0
 clear hr0 hc0
 have HB := Aside0.mk (Below.refl w.heap.size w)
 have H : (if 0 ≤ (l0.length : Int) then (if ((l0.length : Int) : Int).toNat ≤ 35184372088832 then (laws_toInt64S.l0 k l0 (List.replicate ((l0.length : Int) : Int).toNat 0) 0) else (none)) else (none)) = some r := h
 clear h
 by_cases c2 : 0 ≤ (l0.length : Int)
 · rw [if_pos c2] at H
   have c2b0 := eq_true c2
   have c2b1 : decide (0 ≤ (l0.length : Int)) = true := decide_eq_true c2
   clear c2
   by_cases c3 : ((l0.length : Int) : Int).toNat ≤ 35184372088832
   · rw [if_pos c3] at H
     have c3b0 := eq_true c3
     have c3b1 : decide (((l0.length : Int) : Int).toNat ≤ 35184372088832) = true := decide_eq_true c3
     clear c3
     obtain ⟨y192, hy192⟩ : ∃ y_ : List Int, y_ = (List.replicate ((l0.length : Int) : Int).toNat 0) := ⟨_, rfl⟩
     replace H : (laws_toInt64S.l0 k l0 y192 0) = some r := by first | (rw [hy192]; with_reducible exact H) | (have H2_ := (Option.bind_some _ _).symm.trans H; rw [hy192]; with_reducible exact H2_) | (have H2_ := (Option.bind_some _ _).symm.trans H; with_reducible exact H2_) | with_reducible exact H | (rw [hy192]; exact H) | exact H
     have Ny192 := Aside0.mk hy192
     clear hy192
     have H' := Aside0.mk H
     clear H
     go_enter Try.func62, Try.ntmps62
     go_wp2_with (first | ((with_reducible refine gate_dst (N := 7) rfl ?_); refine Kd.R_make (Kd.int .i64) _ 2 rfl (N := 7) rfl 22 _ _ rfl (l0.length : Int) rfl rfl Try.underlying22 (.int .i64 0) 8 info2 rfl (by decide) (by omega) 0 (ok := fun _ => True) (okp := fun _ => True) rfl (fun _ hk => hk) trivial (of_decide_eq_true az) (Nat.le_trans (Nat.mul_le_mul_right _ (of_decide_eq_true az : (l0.length : Int).toNat ≤ 35184372088832)) (by omega)) (Below.refl _ _) (Nat.le_refl _) ?_; intro v193 w4 ho5 hb hg_ hnew_; clear hg_ hnew_; (first | rw [← Ny192.out] at ho5 | (simp only [Int.reduceToNat] at ho5; rw [← Ny192.out] at ho5)); have n0_ := Aside0.mk (Kd.R_lower ho5 (below_size bz)); have n1_ := Aside0.mk (below_step bz hb); clear HB; have HO194 := n0_; have HB := n1_; clear n0_ n1_; clear hb ho5))
     go_loopg [4] k (fun kq v4 w' => ∃ (x3_1 : List Int) (x4_1 : Int), v4 = .int .i64 x4_1 ∧ Aside0 (laws_toInt64S.l0 kq l0 x3_1 x4_1 = some r) ∧ Aside0 (kq ≤ k) ∧ Aside0 (Kd.R (Kd.int .i64) 2 w' w.heap.size (fun _ => True) v193 x3_1) ∧ Aside0 (Below w.heap.size w w'))
     case atStart => exact ⟨(y192), (0), sz_, H', ⟨Nat.le_refl _⟩, ⟨by (with_reducible repeat (first | apply Kd.R_alloc | apply Kd.R_drewN | apply Kd.R_drew)); exact HO194.out⟩, ⟨ bz⟩⟩
     case round =>
      clear H'
      try clear c2
      try clear c2b0
      try clear c2b1
      try clear p2
      try clear c3
      try clear c3b0
      try clear c3b1
      obtain ⟨x3_1, x4_1, rfl, HA, HK1, HO_3, HB⟩ := hrel
      cases gk with
      | zero => exact absurd HA.out (by simp [laws_toInt64S.l0])
      | succ k1 =>
       have H := HA.out
       clear HA
       simp only [laws_toInt64S.l0] at H
       by_cases c6 : x4_1 < (l0.length : Int)
       · rw [if_pos c6] at H
         have c6b0 : decide (x4_1 < (l0.length : Int)) = true := decide_eq_true c6
         clear c6
         by_cases c7 : 0 ≤ x4_1
         · rw [if_pos c7] at H
           have c7b0 : decide (0 ≤ x4_1) = true := decide_eq_true c7
           clear c7
           by_cases c8 : x4_1 < (x3_1.length : Int)
           · rw [if_pos c8] at H
             have c8b0 : decide (x4_1 < (x3_1.length : Int)) = true := decide_eq_true c8
             clear c8
             obtain ⟨y196, hy196⟩ : ∃ y_ : List Int, y_ = (x3_1.set (x4_1 : Int).toNat (rd l0 x4_1)) := ⟨_, rfl⟩
             replace H : (laws_toInt64S.l0 k1 l0 y196 (wrap64 (x4_1 + 1))) = some r := by first | (rw [hy196]; with_reducible exact H) | (have H2_ := (Option.bind_some _ _).symm.trans H; rw [hy196]; with_reducible exact H2_) | (have H2_ := (Option.bind_some _ _).symm.trans H; with_reducible exact H2_) | with_reducible exact H | (rw [hy196]; exact H) | exact H
             have Ny196 := Aside0.mk hy196
             clear hy196
             have H' := Aside0.mk H
             clear H
             have p195 : 0 ≤ (x4_1 : Int) := of_decide_eq_true az
             have q195 : x4_1 < (l0.length : Int) := of_decide_eq_true az
             obtain ⟨ad195, e195, hx195_0⟩ := Kd.at_int HR0.out x4_1 p195 q195
             cases e195
             replace hx195_0 := ck HB hx195_0
             replace p195 := eq_true p195
             replace q195 := eq_true q195
             have p9 : 0 ≤ (x4_1 : Int) := of_decide_eq_true az
             have q9 : (x4_1 : Int) < ((x3_1.length : Int) : Int) := of_decide_eq_true az
             obtain ⟨go9, co9, eo9, gb9, gl9, cl9, HG9⟩ := Kd.R_form HO_3.out (by omega)
             (first | cases eo9 | (injection eo9 with ea_ en_ ec_; (first | subst ea_ | (injection ea_ with ea_; subst ea_)); subst ec_; clear en_))
             have GB9 := Aside0.mk gb9
             have GG9 := Aside0.mk HG9
             clear gb9 gl9 HG9
             obtain ⟨hx9_0, hf9_0⟩ := Kd.R_celln 0 HO_3.out (x4_1 : Int) p9 q9
             replace p9 := eq_true p9
             replace q9 := eq_true q9
             have HP10 := Kd.R_putg HO_3.out (x4_1 : Int) (rd l0 x4_1)
             go_wp2_with (first | ((with_reducible refine gate_store (t := 2) (p := 20) rfl ?_); refine store_event (t := 2) (p := 20) (v := ?vo_w11) (w1 := (wr.setCell ⟨go9, (x4_1 : Int).toNat, none⟩ (.int .i64 (rd l0 x4_1)))) ?hg ?ho ?hn ?hr ?_; (case ho => rfl); (case hg => rfl); (case hn => rfl); (case hr => first | (go_simp; done) | (go_simp; rfl)); intro w11 hw; have hg : wr.grownBy w11 (some go9) := (by rw [hw]; exact HP10.2); have hp_ : Kd.R (Kd.int .i64) 2 w11 w.heap.size (fun _ => True) (.slice (some ⟨go9, 0, none⟩) x3_1.length co9) y196 := (by rw [hw, Ny196.out]; exact HP10.1); clear HP10; have n0_ := Aside0.mk (hp_); have n1_ := Aside0.mk ((by rw [hw]; exact below_set (HB.out) GB9.out : Below w.heap.size w w11)); clear HO_3; clear HB; have HO_3 := n0_; have HB := n1_; clear n0_ n1_; clear hg hw hp_))
             go_roundg k1
             case measure => have := HK1.out; omega
             case rel => exact ⟨(y196), (wrap64 (x4_1 + 1)), sz_, H', ⟨by have := HK1.out; omega⟩, ⟨by (with_reducible repeat (first | apply Kd.R_alloc | apply Kd.R_drewN | apply Kd.R_drew)); exact HO_3.out⟩, ⟨ bz⟩⟩
           · rw [if_neg c8] at H
             exact absurd H (by simp)
         · rw [if_neg c7] at H
           exact absurd H (by simp)
       · rw [if_neg c6] at H
         have c6b0 : decide (x4_1 < (l0.length : Int)) = false := decide_eq_false c6
         clear c6
         obtain rfl := Option.some.inj H
         go_wp2
         go_ret
         exact ⟨_, by first | rfl | (simp [errW_none, errW_some] <;> rfl) | (simp [*, errW_none, errW_some] <;> rfl), by (with_reducible repeat (first | apply Kd.R_alloc | apply Kd.R_drewN | apply Kd.R_drew)); exact HO_3.out, bz⟩
   · rw [if_neg c3] at H
     exact absurd H (by simp)
 · rw [if_neg c2] at H
   exact absurd H (by simp)

set_option linter.unusedVariables false
set_option linter.unusedSimpArgs false

def laws_toByteS.l0 : Nat → List Int → List Int → Int → Option (List Int)
 | 0, _, _, _ => none
 | k + 1, x0, x3, x4 => if x4 < (x0.length : Int) then (if 0 ≤ x4 then (if x4 < (x3.length : Int) then (laws_toByteS.l0 k x0 (x3.set (x4 : Int).toNat (rd x0 x4)) (wrap64 (x4 + 1))) else (none)) else (none)) else (some x3)
def laws_toByteS.f (k : Nat) (l0 : List Int) : Option (List Int) := if 0 ≤ (l0.length : Int) then (if ((l0.length : Int) : Int).toNat ≤ 281474976710656 then (laws_toByteS.l0 k l0 (List.replicate ((l0.length : Int) : Int).toNat 0) 0) else (none)) else (none)
set_option maxHeartbeats 8000000 in
set_option maxRecDepth 100000 in
theorem laws_toByteS.calls (k : Nat) (A0 : Option Addr) (c0 : Nat) (l0 : List Int) (r : List Int) (w : World) (hr0 : Kd.C (Kd.int .u8) w A0 l0.length l0) (hc0 : l0.length ≤ c0) (h : laws_toByteS.f k l0 = some r) :
 Calls Try.prog 50 #[.slice A0 l0.length c0] w fun e w' => ∃ v0_ : Value, e = .returned (v0_) ∧ Kd.R (Kd.int .u8) 5 w' w.heap.size (fun _ => True) v0_ r ∧ Below w.heap.size w w' := by
 have HR0 := Aside0.mk hr0
 have HC0 := Aside0.mk hc0
 clear hr0 hc0
 have HB := Aside0.mk (Below.refl w.heap.size w)
 have H : (if 0 ≤ (l0.length : Int) then (if ((l0.length : Int) : Int).toNat ≤ 281474976710656 then (laws_toByteS.l0 k l0 (List.replicate ((l0.length : Int) : Int).toNat 0) 0) else (none)) else (none)) = some r := h
 clear h
 by_cases c2 : 0 ≤ (l0.length : Int)
 · rw [if_pos c2] at H
   have c2b0 := eq_true c2
   have c2b1 : decide (0 ≤ (l0.length : Int)) = true := decide_eq_true c2
   clear c2
   by_cases c3 : ((l0.length : Int) : Int).toNat ≤ 281474976710656
   · rw [if_pos c3] at H
     have c3b0 := eq_true c3
     have c3b1 : decide (((l0.length : Int) : Int).toNat ≤ 281474976710656) = true := decide_eq_true c3
     clear c3
     obtain ⟨y722, hy722⟩ : ∃ y_ : List Int, y_ = (List.replicate ((l0.length : Int) : Int).toNat 0) := ⟨_, rfl⟩
     replace H : (laws_toByteS.l0 k l0 y722 0) = some r := by first | (rw [hy722]; with_reducible exact H) | (have H2_ := (Option.bind_some _ _).symm.trans H; rw [hy722]; with_reducible exact H2_) | (have H2_ := (Option.bind_some _ _).symm.trans H; with_reducible exact H2_) | with_reducible exact H | (rw [hy722]; exact H) | exact H
     have Ny722 := Aside0.mk hy722
     clear hy722
     have H' := Aside0.mk H
     clear H
     go_enter Try.func50, Try.ntmps50
     go_wp2_with (first | ((with_reducible refine gate_dst (N := 7) rfl ?_); refine Kd.R_make (Kd.int .u8) _ 5 rfl (N := 7) rfl 72 _ _ rfl (l0.length : Int) rfl rfl Try.underlying72 (.int .u8 0) 1 info5 rfl (by decide) (by omega) 0 (ok := fun _ => True) (okp := fun _ => True) rfl (fun _ hk => hk) trivial (of_decide_eq_true az) (Nat.le_trans (Nat.mul_le_mul_right _ (of_decide_eq_true az : (l0.length : Int).toNat ≤ 281474976710656)) (by omega)) (Below.refl _ _) (Nat.le_refl _) ?_; intro v723 w4 ho5 hb hg_ hnew_; clear hg_ hnew_; (first | rw [← Ny722.out] at ho5 | (simp only [Int.reduceToNat] at ho5; rw [← Ny722.out] at ho5)); have n0_ := Aside0.mk (Kd.R_lower ho5 (below_size bz)); have n1_ := Aside0.mk (below_step bz hb); clear HB; have HO724 := n0_; have HB := n1_; clear n0_ n1_; clear hb ho5))
     go_loopg [4] k (fun kq v4 w' => ∃ (x3_1 : List Int) (x4_1 : Int), v4 = .int .i64 x4_1 ∧ Aside0 (laws_toByteS.l0 kq l0 x3_1 x4_1 = some r) ∧ Aside0 (kq ≤ k) ∧ Aside0 (Kd.R (Kd.int .u8) 5 w' w.heap.size (fun _ => True) v723 x3_1) ∧ Aside0 (Below w.heap.size w w'))
     case atStart => exact ⟨(y722), (0), sz_, H', ⟨Nat.le_refl _⟩, ⟨by (with_reducible repeat (first | apply Kd.R_alloc | apply Kd.R_drewN | apply Kd.R_drew)); exact HO724.out⟩, ⟨ bz⟩⟩
     case round =>
      clear H'
      try clear c2
      try clear c2b0
      try clear c2b1
      try clear p2
      try clear c3
      try clear c3b0
      try clear c3b1
      try clear c5
      obtain ⟨x3_1, x4_1, rfl, HA, HK1, HO_3, HB⟩ := hrel
      cases gk with
      | zero => exact absurd HA.out (by simp [laws_toByteS.l0])
      | succ k1 =>
       have H := HA.out
       clear HA
       simp only [laws_toByteS.l0] at H
       by_cases c6 : x4_1 < (l0.length : Int)
       · rw [if_pos c6] at H
         have c6b0 : decide (x4_1 < (l0.length : Int)) = true := decide_eq_true c6
         clear c6
         by_cases c7 : 0 ≤ x4_1
         · rw [if_pos c7] at H
           have c7b0 : decide (0 ≤ x4_1) = true := decide_eq_true c7
           clear c7
           by_cases c8 : x4_1 < (x3_1.length : Int)
           · rw [if_pos c8] at H
             have c8b0 : decide (x4_1 < (x3_1.length : Int)) = true := decide_eq_true c8
             clear c8
             obtain ⟨y726, hy726⟩ : ∃ y_ : List Int, y_ = (x3_1.set (x4_1 : Int).toNat (rd l0 x4_1)) := ⟨_, rfl⟩
             replace H : (laws_toByteS.l0 k1 l0 y726 (wrap64 (x4_1 + 1))) = some r := by first | (rw [hy726]; with_reducible exact H) | (have H2_ := (Option.bind_some _ _).symm.trans H; rw [hy726]; with_reducible exact H2_) | (have H2_ := (Option.bind_some _ _).symm.trans H; with_reducible exact H2_) | with_reducible exact H | (rw [hy726]; exact H) | exact H
             have Ny726 := Aside0.mk hy726
             clear hy726
             have H' := Aside0.mk H
             clear H
             have p725 : 0 ≤ (x4_1 : Int) := of_decide_eq_true az
             have q725 : x4_1 < (l0.length : Int) := of_decide_eq_true az
             obtain ⟨ad725, e725, hx725_0⟩ := Kd.at_int HR0.out x4_1 p725 q725
             cases e725
             replace hx725_0 := ck HB hx725_0
             replace p725 := eq_true p725
             replace q725 := eq_true q725
             have p9 : 0 ≤ (x4_1 : Int) := of_decide_eq_true az
             have q9 : (x4_1 : Int) < ((x3_1.length : Int) : Int) := of_decide_eq_true az
             obtain ⟨go9, co9, eo9, gb9, gl9, cl9, HG9⟩ := Kd.R_form HO_3.out (by omega)
             (first | cases eo9 | (injection eo9 with ea_ en_ ec_; (first | subst ea_ | (injection ea_ with ea_; subst ea_)); subst ec_; clear en_))
             have GB9 := Aside0.mk gb9
             have GG9 := Aside0.mk HG9
             clear gb9 gl9 HG9
             obtain ⟨hx9_0, hf9_0⟩ := Kd.R_celln 0 HO_3.out (x4_1 : Int) p9 q9
             replace p9 := eq_true p9
             replace q9 := eq_true q9
             have HP10 := Kd.R_putg HO_3.out (x4_1 : Int) (rd l0 x4_1)
             go_wp2_with (first | ((with_reducible refine gate_store (t := 5) (p := 20) rfl ?_); refine store_event (t := 5) (p := 20) (v := ?vo_w11) (w1 := (wr.setCell ⟨go9, (x4_1 : Int).toNat, none⟩ (.int .u8 (rd l0 x4_1)))) ?hg ?ho ?hn ?hr ?_; (case ho => rfl); (case hg => rfl); (case hn => rfl); (case hr => first | (go_simp; done) | (go_simp; rfl)); intro w11 hw; have hg : wr.grownBy w11 (some go9) := (by rw [hw]; exact HP10.2); have hp_ : Kd.R (Kd.int .u8) 5 w11 w.heap.size (fun _ => True) (.slice (some ⟨go9, 0, none⟩) x3_1.length co9) y726 := (by rw [hw, Ny726.out]; exact HP10.1); clear HP10; have n0_ := Aside0.mk (hp_); have n1_ := Aside0.mk ((by rw [hw]; exact below_set (HB.out) GB9.out : Below w.heap.size w w11)); clear HO_3; clear HB; have HO_3 := n0_; have HB := n1_; clear n0_ n1_; clear hg hw hp_))
             go_roundg k1
             case measure => have := HK1.out; omega
             case rel => exact ⟨(y726), (wrap64 (x4_1 + 1)), sz_, H', ⟨by have := HK1.out; omega⟩, ⟨by (with_reducible repeat (first | apply Kd.R_alloc | apply Kd.R_drewN | apply Kd.R_drew)); exact HO_3.out⟩, ⟨ bz⟩⟩
           · rw [if_neg c8] at H
             exact absurd H (by simp)
         · rw [if_neg c7] at H
           exact absurd H (by simp)
       · rw [if_neg c6] at H
         have c6b0 : decide (x4_1 < (l0.length : Int)) = false := decide_eq_false c6
         clear c6
         obtain rfl := Option.some.inj H
         go_wp2
         go_ret
         exact ⟨_, by first | rfl | (simp [errW_none, errW_some] <;> rfl) | (simp [*, errW_none, errW_some] <;> rfl), by (with_reducible repeat (first | apply Kd.R_alloc | apply Kd.R_drewN | apply Kd.R_drew)); exact HO_3.out, bz⟩
   · rw [if_neg c3] at H
     exact absurd H (by simp)
 · rw [if_neg c2] at H
   exact absurd H (by simp)

set_option linter.unusedVariables false
set_option linter.unusedSimpArgs false

def laws_toReloc.f (a0_0 : Int) (a0_1 : Int) (a0_2 : ByteArray) : Option (Int × Int × ByteArray) := some (a0_0, a0_1, a0_2)
set_option maxHeartbeats 8000000 in
set_option maxRecDepth 100000 in
theorem laws_toReloc.calls (a0_0 : Int) (a0_1 : Int) (a0_2 : ByteArray) (r1 : Int) (r2 : Int) (r3 : ByteArray) (w : World) (h : laws_toReloc.f a0_0 a0_1 a0_2 = some (r1, r2, r3)) :
 Calls Try.prog 205 #[.agg #[.int .i64 a0_0, .int .i64 a0_1, .string a0_2]] w fun e w' => e = .returned (.agg #[.int .i64 r1, .int .i64 r2, .string r3]) ∧ Below w.heap.size w w' := by
 have hu237 := Try.underlying237
 have hu132 := Try.underlying132
 have HB := Aside0.mk (Below.refl w.heap.size w)
 have H : (some (a0_0, a0_1, a0_2)) = some (r1, r2, r3) := h
 clear h
 simp only [Option.some.injEq, Prod.mk.injEq] at H
 obtain ⟨rfl, rfl, rfl⟩ := H
 go_enter Try.func205, Try.ntmps205
 go_wp2_with (first | ((with_reducible refine gate_dst (N := 1) rfl ?_); refine box_event ?hg (N := 1) ?hd (cs := #[.int .i64 a0_0, .int .i64 a0_1, .string a0_2]) (t := 237) ?hr ?_; (case hd => rfl); (case hg => rfl); (case hr => first | (go_simp; done) | (go_simp; rfl)); intro gb727 hg w2 hbox hb; have n0_ := Aside0.mk (below_step bz hb); have n1_ := Aside0.mk (hbox); have n2_ := Aside0.mk ((by rw [hg]; exact (below_size bz) : w.heap.size ≤ gb727)); have n3_ := Aside0.mk ((by rw [hg]; exact (below_size bz) : w.heap.size ≤ gb727)); clear HB; have HB := n0_; have BK727 := n1_; have GW727 := n2_; have GE727 := n3_; clear n0_ n1_ n2_ n3_; clear hb hbox hg) | ((with_reducible refine gate_dst (N := 2) rfl ?_); refine box_event ?hg (N := 2) ?hd (cs := #[.int .i64 0, .int .i64 0, .string (⟨#[]⟩ : ByteArray)]) (t := 132) ?hr ?_; (case hd => rfl); (case hg => rfl); (case hr => first | (go_simp; done) | (go_simp; rfl)); intro gb728 hg w3 hbox hb; have n0_ := Aside0.mk (blk_below (g := gb727) (o := .cells #[.int .i64 a0_0, .int .i64 a0_1, .string a0_2] 237 (0, 0)) kz hb); have n1_ := Aside0.mk (below_step bz hb); have n2_ := Aside0.mk (hbox); have n3_ := Aside0.mk ((by rw [hg]; exact (below_size bz) : w.heap.size ≤ gb728)); have n4_ := Aside0.mk ((by rw [hg]; exact (below_size bz) : w.heap.size ≤ gb728)); have n5_ := Aside0.mk ((by rw [hg]; exact Nat.ne_of_lt (blk_lt (g := gb727) (o := .cells #[.int .i64 a0_0, .int .i64 a0_1, .string a0_2] 237 (0, 0)) kz) : gb727 ≠ gb728)); have n6_ := Aside0.mk ((by rw [hg]; exact Nat.ne_of_gt (blk_lt (g := gb727) (o := .cells #[.int .i64 a0_0, .int .i64 a0_1, .string a0_2] 237 (0, 0)) kz) : gb728 ≠ gb727)); clear BK727; clear HB; have BK727 := n0_; have HB := n1_; have BK728 := n2_; have GW728 := n3_; have GE728 := n4_; have NB727_728 := n5_; have NB728_727 := n6_; clear n0_ n1_ n2_ n3_ n4_ n5_ n6_; clear hb hbox hg) | ((with_reducible refine gate_dst (N := 3) rfl ?_); refine box_event ?hg (N := 3) ?hd (cs := #[.int .i64 0, .int .i64 0, .string (⟨#[]⟩ : ByteArray)]) (t := 132) ?hr ?_; (case hd => rfl); (case hg => rfl); (case hr => first | (go_simp; done) | (go_simp; rfl)); intro gb729 hg w4 hbox hb; have n0_ := Aside0.mk (blk_below (g := gb727) (o := .cells #[.int .i64 a0_0, .int .i64 a0_1, .string a0_2] 237 (0, 0)) kz hb); have n1_ := Aside0.mk (blk_below (g := gb728) (o := .cells #[.int .i64 0, .int .i64 0, .string (⟨#[]⟩ : ByteArray)] 132 (0, 0)) kz hb); have n2_ := Aside0.mk (below_step bz hb); have n3_ := Aside0.mk (hbox); have n4_ := Aside0.mk ((by rw [hg]; exact (below_size bz) : w.heap.size ≤ gb729)); have n5_ := Aside0.mk ((by rw [hg]; exact (below_size bz) : w.heap.size ≤ gb729)); have n6_ := Aside0.mk ((by rw [hg]; exact Nat.ne_of_lt (blk_lt (g := gb727) (o := .cells #[.int .i64 a0_0, .int .i64 a0_1, .string a0_2] 237 (0, 0)) kz) : gb727 ≠ gb729)); have n7_ := Aside0.mk ((by rw [hg]; exact Nat.ne_of_gt (blk_lt (g := gb727) (o := .cells #[.int .i64 a0_0, .int .i64 a0_1, .string a0_2] 237 (0, 0)) kz) : gb729 ≠ gb727)); have n8_ := Aside0.mk ((by rw [hg]; exact Nat.ne_of_lt (blk_lt (g := gb728) (o := .cells #[.int .i64 0, .int .i64 0, .string (⟨#[]⟩ : ByteArray)] 132 (0, 0)) kz) : gb728 ≠ gb729)); have n9_ := Aside0.mk ((by rw [hg]; exact Nat.ne_of_gt (blk_lt (g := gb728) (o := .cells #[.int .i64 0, .int .i64 0, .string (⟨#[]⟩ : ByteArray)] 132 (0, 0)) kz) : gb729 ≠ gb728)); clear BK727; clear BK728; clear HB; have BK727 := n0_; have BK728 := n1_; have HB := n2_; have BK729 := n3_; have GW729 := n4_; have GE729 := n5_; have NB727_729 := n6_; have NB729_727 := n7_; have NB728_729 := n8_; have NB729_728 := n9_; clear n0_ n1_ n2_ n3_ n4_ n5_ n6_ n7_ n8_ n9_; clear hb hbox hg; have hnb5 := NB727_728.out; have hnc5 := NB728_727.out; have hnb6 := NB727_729.out; have hnc6 := NB729_727.out; have hcz7_0 : w4.cell? ⟨gb727, 0, none⟩ = some (.int .i64 a0_0) := (blk_cell BK727.out 0).trans rfl; have hcz7_1 : w4.cell? ⟨gb727, 1, none⟩ = some (.int .i64 a0_1) := (blk_cell BK727.out 1).trans rfl; have hcz7_2 : w4.cell? ⟨gb727, 2, none⟩ = some (.string a0_2) := (blk_cell BK727.out 2).trans rfl; have hfz7_0 := blk_frozen BK727.out 0; have hfz7_1 := blk_frozen BK727.out 1; have hfz7_2 := blk_frozen BK727.out 2; have hnb8 := NB729_728.out; have hnc8 := NB728_729.out; have hcz9_0 : w4.cell? ⟨gb729, 0, none⟩ = some (.int .i64 0) := (blk_cell BK729.out 0).trans rfl; have hcz9_1 : w4.cell? ⟨gb729, 1, none⟩ = some (.int .i64 0) := (blk_cell BK729.out 1).trans rfl; have hcz9_2 : w4.cell? ⟨gb729, 2, none⟩ = some (.string (⟨#[]⟩ : ByteArray)) := (blk_cell BK729.out 2).trans rfl; have hfz9_0 := blk_frozen BK729.out 0; have hfz9_1 := blk_frozen BK729.out 1; have hfz9_2 := blk_frozen BK729.out 2; have hcz10_0 : w4.cell? ⟨gb728, 0, none⟩ = some (.int .i64 0) := (blk_cell BK728.out 0).trans rfl; have hcz10_1 : w4.cell? ⟨gb728, 1, none⟩ = some (.int .i64 0) := (blk_cell BK728.out 1).trans rfl; have hcz10_2 : w4.cell? ⟨gb728, 2, none⟩ = some (.string (⟨#[]⟩ : ByteArray)) := (blk_cell BK728.out 2).trans rfl; have hfz10_0 := blk_frozen BK728.out 0; have hfz10_1 := blk_frozen BK728.out 1; have hfz10_2 := blk_frozen BK728.out 2))
 refine bodyPost_ret (results_cell_row rfl _ _ gb728 132 #[.int .i64 a0_0, .int .i64 a0_1, .string a0_2] (0, 0) _ rfl (by (with_reducible repeat (first | refine blk_drewN ?_ _ | refine blk_drew ?_ | refine blk_alloc ?_ _)); refine blk_put (cs := #[.int .i64 a0_0, .int .i64 a0_1, .string (⟨#[]⟩ : ByteArray)]) ?_ 2 _ rfl; (with_reducible repeat (first | refine blk_drewN ?_ _ | refine blk_drew ?_ | refine blk_alloc ?_ _)); refine blk_put (cs := #[.int .i64 a0_0, .int .i64 0, .string (⟨#[]⟩ : ByteArray)]) ?_ 1 _ rfl; (with_reducible repeat (first | refine blk_drewN ?_ _ | refine blk_drew ?_ | refine blk_alloc ?_ _)); refine blk_put (cs := #[.int .i64 0, .int .i64 0, .string (⟨#[]⟩ : ByteArray)]) ?_ 0 _ rfl; (with_reducible repeat (first | refine blk_drewN ?_ _ | refine blk_drew ?_ | refine blk_alloc ?_ _)); refine blk_far ?_ NB728_729.out _; (with_reducible repeat (first | refine blk_drewN ?_ _ | refine blk_drew ?_ | refine blk_alloc ?_ _)); refine blk_far ?_ NB728_729.out _; (with_reducible repeat (first | refine blk_drewN ?_ _ | refine blk_drew ?_ | refine blk_alloc ?_ _)); refine blk_far ?_ NB728_729.out _; (with_reducible repeat (first | refine blk_drewN ?_ _ | refine blk_drew ?_ | refine blk_alloc ?_ _)); exact BK728.out) Try.underlying132 rfl (by kernel_rfl)) rfl ?_
 exact ⟨by first | rfl | (simp [errW_none, errW_some] <;> rfl) | (simp [*, errW_none, errW_some] <;> rfl), bz⟩

set_option linter.unusedVariables false
set_option linter.unusedSimpArgs false

def laws_toRelocS.l0 : Nat → List (S237) → List (S132) → Int → Option ((List (S132)))
 | 0, _, _, _ => none
 | k + 1, x0, x3, x4 => if x4 < (x0.length : Int) then (if 0 ≤ x4 then ((laws_toReloc.f ((rd_T237 x0 x4).f0) ((rd_T237 x0 x4).f1) ((rd_T237 x0 x4).f2)).bind fun bt734 => (if x4 < (x3.length : Int) then (laws_toRelocS.l0 k x0 (x3.set (x4 : Int).toNat (⟨bt734.1, bt734.2.1, bt734.2.2⟩ : S132)) (wrap64 (x4 + 1))) else (none))) else (none)) else (some x3)
def laws_toRelocS.f (k : Nat) (l0 : List (S237)) : Option ((List (S132))) := if 0 ≤ (l0.length : Int) then (if ((l0.length : Int) : Int).toNat ≤ 8796093022208 then (laws_toRelocS.l0 k l0 (List.replicate ((l0.length : Int) : Int).toNat z132) 0) else (none)) else (none)
set_option maxHeartbeats 8000000 in
set_option maxRecDepth 100000 in
theorem laws_toRelocS.calls (k : Nat) (A0 : Option Addr) (c0 : Nat) (l0 : List (S237)) (r : List (S132)) (w : World) (hr0 : Kd.C k237 w A0 l0.length l0) (hc0 : l0.length ≤ c0) (h : laws_toRelocS.f k l0 = some r) :
 Calls Try.prog 181 #[.slice A0 l0.length c0] w fun e w' => ∃ v0_ : Value, e = .returned (v0_) ∧ Kd.R k132 132 w' w.heap.size (fun _ => True) v0_ r ∧ Below w.heap.size w w' := by
 have hu237 := Try.underlying237
 have hu132 := Try.underlying132
 have HR0 := Aside0.mk hr0
 have HC0 := Aside0.mk hc0
 clear hr0 hc0
 have HB := Aside0.mk (Below.refl w.heap.size w)
 have H : (if 0 ≤ (l0.length : Int) then (if ((l0.length : Int) : Int).toNat ≤ 8796093022208 then (laws_toRelocS.l0 k l0 (List.replicate ((l0.length : Int) : Int).toNat z132) 0) else (none)) else (none)) = some r := h
 clear h
 by_cases c2 : 0 ≤ (l0.length : Int)
 · rw [if_pos c2] at H
   have c2b0 := eq_true c2
   have c2b1 : decide (0 ≤ (l0.length : Int)) = true := decide_eq_true c2
   clear c2
   by_cases c3 : ((l0.length : Int) : Int).toNat ≤ 8796093022208
   · rw [if_pos c3] at H
     have c3b0 := eq_true c3
     have c3b1 : decide (((l0.length : Int) : Int).toNat ≤ 8796093022208) = true := decide_eq_true c3
     clear c3
     obtain ⟨y730, hy730⟩ : ∃ y_ : List (S132), y_ = (List.replicate ((l0.length : Int) : Int).toNat z132) := ⟨_, rfl⟩
     replace H : (laws_toRelocS.l0 k l0 y730 0) = some r := by first | (rw [hy730]; with_reducible exact H) | (have H2_ := (Option.bind_some _ _).symm.trans H; rw [hy730]; with_reducible exact H2_) | (have H2_ := (Option.bind_some _ _).symm.trans H; with_reducible exact H2_) | with_reducible exact H | (rw [hy730]; exact H) | exact H
     have Ny730 := Aside0.mk hy730
     clear hy730
     have H' := Aside0.mk H
     clear H
     go_enter Try.func181, Try.ntmps181
     go_wp2_with (first | ((with_reducible refine gate_dst (N := 7) rfl ?_); refine Kd.R_make k132 _ 132 rfl (N := 7) rfl 128 _ _ rfl (l0.length : Int) rfl rfl Try.underlying128 (.agg #[(.int .i64 0), (.int .i64 0), (.string ⟨#[]⟩)]) 32 info132 rfl (by decide) (by omega) z132 (ok := fun _ => True) (okp := fun _ => True) (k132_mkM _ _ _ z132 ) (fun _ hk => hk) trivial (of_decide_eq_true az) (Nat.le_trans (Nat.mul_le_mul_right _ (of_decide_eq_true az : (l0.length : Int).toNat ≤ 8796093022208)) (by omega)) (Below.refl _ _) (Nat.le_refl _) ?_; intro v731 w4 ho5 hb hg_ hnew_; clear hg_ hnew_; (first | rw [← Ny730.out] at ho5 | (simp only [Int.reduceToNat] at ho5; rw [← Ny730.out] at ho5)); have n0_ := Aside0.mk (Kd.R_lower ho5 (below_size bz)); have n1_ := Aside0.mk (below_step bz hb); clear HB; have HO732 := n0_; have HB := n1_; clear n0_ n1_; clear hb ho5))
     go_loopg [4] k (fun kq v4 w' => ∃ (x3_1 : List (S132)) (x4_1 : Int), v4 = .int .i64 x4_1 ∧ Aside0 (laws_toRelocS.l0 kq l0 x3_1 x4_1 = some r) ∧ Aside0 (kq ≤ k) ∧ Aside0 (Kd.R k132 132 w' w.heap.size (fun _ => True) v731 x3_1) ∧ Aside0 (Below w.heap.size w w'))
     case atStart => exact ⟨(y730), (0), sz_, H', ⟨Nat.le_refl _⟩, ⟨by (with_reducible repeat (first | apply Kd.R_alloc | apply Kd.R_drewN | apply Kd.R_drew)); exact HO732.out⟩, ⟨ bz⟩⟩
     case round =>
      clear H'
      try clear c1
      try clear c2
      try clear c2b0
      try clear c2b1
      try clear p2
      try clear c3
      try clear c3b0
      try clear c3b1
      obtain ⟨x3_1, x4_1, rfl, HA, HK1, HO_3, HB⟩ := hrel
      cases gk with
      | zero => exact absurd HA.out (by simp [laws_toRelocS.l0])
      | succ k1 =>
       have H := HA.out
       clear HA
       simp only [laws_toRelocS.l0] at H
       by_cases c6 : x4_1 < (l0.length : Int)
       · rw [if_pos c6] at H
         have c6b0 : decide (x4_1 < (l0.length : Int)) = true := decide_eq_true c6
         clear c6
         by_cases c7 : 0 ≤ x4_1
         · rw [if_pos c7] at H
           have c7b0 : decide (0 ≤ x4_1) = true := decide_eq_true c7
           clear c7
           replace H := Option.bind_eq_some_iff.mp H
           obtain ⟨⟨t734, t735, t736⟩, A80, H⟩ := H
           replace H : (if x4_1 < (x3_1.length : Int) then (laws_toRelocS.l0 k1 l0 (x3_1.set (x4_1 : Int).toNat (⟨t734, t735, t736⟩ : S132)) (wrap64 (x4_1 + 1))) else (none)) = some r := H
           have A8 := Aside0.mk A80
           clear A80
           by_cases c9 : x4_1 < (x3_1.length : Int)
           · rw [if_pos c9] at H
             have c9b0 : decide (x4_1 < (x3_1.length : Int)) = true := decide_eq_true c9
             clear c9
             obtain ⟨y737, hy737⟩ : ∃ y_ : List (S132), y_ = (x3_1.set (x4_1 : Int).toNat (⟨t734, t735, t736⟩ : S132)) := ⟨_, rfl⟩
             replace H : (laws_toRelocS.l0 k1 l0 y737 (wrap64 (x4_1 + 1))) = some r := by first | (rw [hy737]; with_reducible exact H) | (have H2_ := (Option.bind_some _ _).symm.trans H; rw [hy737]; with_reducible exact H2_) | (have H2_ := (Option.bind_some _ _).symm.trans H; with_reducible exact H2_) | with_reducible exact H | (rw [hy737]; exact H) | exact H
             have Ny737 := Aside0.mk hy737
             clear hy737
             have H' := Aside0.mk H
             clear H
             have p733 : 0 ≤ (x4_1 : Int) := of_decide_eq_true az
             have q733 : x4_1 < (l0.length : Int) := of_decide_eq_true az
             obtain ⟨ad733, e733, hx733_0, hx733_1, hx733_2⟩ := at_T237 HR0.out x4_1 p733 q733
             cases e733
             replace hx733_0 := ck HB hx733_0
             replace hx733_1 := ck HB hx733_1
             replace hx733_2 := ck HB hx733_2
             replace p733 := eq_true p733
             replace q733 := eq_true q733
             go_wp2_with (first | ((with_reducible refine gate_callee (f := 205) rfl ?_); refine goesL_ (some 20) rfl rfl Try.func205 (by kernel_rfl) rfl #[.agg #[.int .i64 ((rd_T237 l0 x4_1).f0), .int .i64 ((rd_T237 l0 x4_1).f1), .string ((rd_T237 l0 x4_1).f2)]] rfl lz ?_; (with_reducible refine (laws_toReloc.calls ((rd_T237 l0 x4_1).f0) ((rd_T237 l0 x4_1).f1) ((rd_T237 l0 x4_1).f2) t734 t735 t736 _ A8.out).mono ?_); rintro e w11 ⟨rfl, hb⟩; refine ⟨_, rfl, ?_⟩; have n0_ := Aside0.mk (Kd.R_below (rz HO_3.out) hb); have n1_ := Aside0.mk (below_step bz hb); clear HO_3; clear HB; have HO_3 := n0_; have HB := n1_; clear n0_ n1_; (try clear hb); (try clear hb2); (try clear hk); (try clear hi); have p10 : 0 ≤ (x4_1 : Int) := of_decide_eq_true az; have q10 : (x4_1 : Int) < ((x3_1.length : Int) : Int) := of_decide_eq_true az; obtain ⟨go10, co10, eo10, gb10, gl10, cl10, HG10⟩ := Kd.R_form HO_3.out (by omega); (first | cases eo10 | (injection eo10 with ea_ en_ ec_; (first | subst ea_ | (injection ea_ with ea_; subst ea_)); subst ec_; clear en_)); have GB10 := Aside0.mk gb10; have GG10 := Aside0.mk HG10; clear gb10 gl10 HG10; obtain ⟨ce10, hcl10, hM10, hcc10, hfr10⟩ := Kd.R_elem HO_3.out z132 (x4_1 : Int) p10 q10; obtain rfl := k132_openM hM10; have hx10_0 : w11.cell? ⟨go10, (x4_1 : Int).toNat * 3, none⟩ = some (.int .i64 ((rd_T132 x3_1 x4_1).f0)) := hcc10 0 _ rfl; have hx10_1 : w11.cell? ⟨go10, (x4_1 : Int).toNat * 3 + 1, none⟩ = some (.int .i64 ((rd_T132 x3_1 x4_1).f1)) := hcc10 1 _ rfl; have hx10_2 : w11.cell? ⟨go10, (x4_1 : Int).toNat * 3 + 2, none⟩ = some (.string ((rd_T132 x3_1 x4_1).f2)) := hcc10 2 _ rfl; have hf10_0 : w11.frozen? ⟨go10, (x4_1 : Int).toNat * 3, none⟩ = false := hfr10 0; have hf10_1 : w11.frozen? ⟨go10, (x4_1 : Int).toNat * 3 + 1, none⟩ = false := hfr10 1; have hf10_2 : w11.frozen? ⟨go10, (x4_1 : Int).toNat * 3 + 2, none⟩ = false := hfr10 2; clear hcl10 hcc10 hfr10 hM10; replace p10 := eq_true p10; replace q10 := eq_true q10; have HX12 := Aside0.mk (show Kd.R k132 132 w11 w.heap.size (fun _ => True) (.slice (some ⟨go10, 0, none⟩) x3_1.length co10) x3_1 from (rz HO_3.out)); obtain ⟨ce12, hcl12, hM12, hcc12, hfr12⟩ := Kd.R_elem HX12.out z132 (x4_1 : Int) (of_decide_eq_true az) (by have h_ : (x4_1 : Int) < ((x3_1.length : Int) : Int) := of_decide_eq_true az; first | exact h_ | (have e_ := (Kd.R_reads' HO_3.out).1; omega) | simpa using h_); obtain rfl := k132_openM hM12; have HP12 := Kd.R_seg HX12.out (x4_1 : Int) (of_decide_eq_true az) (by have h_ : (x4_1 : Int) < ((x3_1.length : Int) : Int) := of_decide_eq_true az; first | exact h_ | (have e_ := (Kd.R_reads' HO_3.out).1; omega) | simpa using h_) (seg := [.int .i64 t734, .int .i64 t735, .string t736]) (j := 0) hcl12 hcc12 (show 3 ≤ 3 from by decide) (x' := (⟨t734, t735, t736⟩ : S132)) (k132_mkM _ _ _ (⟨t734, t735, t736⟩ : S132) ) (fun _ hk => hk); have hx12_0 := hcc12 0 _ rfl; (try simp only [show (k132).sz = 3 from rfl, Nat.mul_one, Nat.add_zero] at hx12_0); have hf12_0 := hfr12 0; (try simp only [show (k132).sz = 3 from rfl, Nat.mul_one, Nat.add_zero] at hf12_0); have hx12_1 := hcc12 1 _ rfl; (try simp only [show (k132).sz = 3 from rfl, Nat.mul_one, Nat.add_zero] at hx12_1); have hf12_1 := hfr12 1; (try simp only [show (k132).sz = 3 from rfl, Nat.mul_one, Nat.add_zero] at hf12_1); have hx12_2 := hcc12 2 _ rfl; (try simp only [show (k132).sz = 3 from rfl, Nat.mul_one, Nat.add_zero] at hx12_2); have hf12_2 := hfr12 2; (try simp only [show (k132).sz = 3 from rfl, Nat.mul_one, Nat.add_zero] at hf12_2); clear hcl12 hcc12 hfr12 hM12) | ((with_reducible refine gate_store (t := 132) (p := 21) rfl ?_); refine store_event (t := 132) (p := 21) (v := ?vo_w13) (w1 := (((w11.setCell ⟨go10, (x4_1 : Int).toNat * 3, none⟩ (.int .i64 t734)).setCell ⟨go10, (x4_1 : Int).toNat * 3 + 1, none⟩ (.int .i64 t735)).setCell ⟨go10, (x4_1 : Int).toNat * 3 + 2, none⟩ (.string t736))) ?hg ?ho ?hn ?hr ?_; (case ho => rfl); (case hg => rfl); (case hn => rfl); (case hr => first | (go_simp; done) | (go_simp; rfl)); intro w13 hw; have hg : w11.grownBy w13 (some go10) := (by rw [hw]; exact HP12.2); have hp_ : Kd.R k132 132 w13 w.heap.size (fun _ => True) (.slice (some ⟨go10, 0, none⟩) x3_1.length co10) y737 := (by rw [hw, Ny737.out]; exact HP12.1); clear HP12; have n0_ := Aside0.mk (hp_); have n1_ := Aside0.mk ((by rw [hw]; exact below_set (below_set (below_set (HB.out) GB10.out) GB10.out) GB10.out : Below w.heap.size w w13)); clear HO_3; clear HB; have HO_3 := n0_; have HB := n1_; clear n0_ n1_; clear hg hw hp_))
             go_roundg k1
             case measure => have := HK1.out; omega
             case rel => exact ⟨(y737), (wrap64 (x4_1 + 1)), sz_, H', ⟨by have := HK1.out; omega⟩, ⟨by (with_reducible repeat (first | apply Kd.R_alloc | apply Kd.R_drewN | apply Kd.R_drew)); exact HO_3.out⟩, ⟨ bz⟩⟩
           · rw [if_neg c9] at H
             exact absurd H (by simp)
         · rw [if_neg c7] at H
           exact absurd H (by simp)
       · rw [if_neg c6] at H
         have c6b0 : decide (x4_1 < (l0.length : Int)) = false := decide_eq_false c6
         clear c6
         obtain rfl := Option.some.inj H
         go_wp2
         go_ret
         exact ⟨_, by first | rfl | (simp [errW_none, errW_some] <;> rfl) | (simp [*, errW_none, errW_some] <;> rfl), by (with_reducible repeat (first | apply Kd.R_alloc | apply Kd.R_drewN | apply Kd.R_drew)); exact HO_3.out, bz⟩
   · rw [if_neg c3] at H
     exact absurd H (by simp)
 · rw [if_neg c2] at H
   exact absurd H (by simp)

set_option linter.unusedVariables false
set_option linter.unusedSimpArgs false

def laws_toSection.f (k : Nat) (a0_0 : ByteArray) (a0_1 : Int) (a0_2 : Int) (a0_3 : Int) (l0_4 : List Int) (a0_5 : Int) (l0_6 : List Int) (l0_7 : List (S237)) : Option (ByteArray × Int × Int × Int × List Int × Int × List Int × (List (S132))) := (laws_toInt64S.f k l0_4).bind fun t741 => ((laws_toByteS.f k l0_6).bind fun t744 => ((laws_toRelocS.f k l0_7).bind fun t747 => (some (a0_0, a0_1, a0_2, a0_3, t741, a0_5, t744, t747))))
set_option maxHeartbeats 8000000 in
set_option maxRecDepth 100000 in
theorem laws_toSection.calls (k : Nat) (a0_0 : ByteArray) (a0_1 : Int) (a0_2 : Int) (a0_3 : Int) (A0_4 : Option Addr) (c0_4 : Nat) (l0_4 : List Int) (a0_5 : Int) (A0_6 : Option Addr) (c0_6 : Nat) (l0_6 : List Int) (A0_7 : Option Addr) (c0_7 : Nat) (l0_7 : List (S237)) (r1 : ByteArray) (r2 : Int) (r3 : Int) (r4 : Int) (r5 : List Int) (r6 : Int) (r7 : List Int) (r8 : List (S132)) (w : World) (hr0_4 : Kd.C (Kd.int .i64) w A0_4 l0_4.length l0_4) (hc0_4 : l0_4.length ≤ c0_4) (hr0_6 : Kd.C (Kd.int .u8) w A0_6 l0_6.length l0_6) (hc0_6 : l0_6.length ≤ c0_6) (hr0_7 : Kd.C k237 w A0_7 l0_7.length l0_7) (hc0_7 : l0_7.length ≤ c0_7) (h : laws_toSection.f k a0_0 a0_1 a0_2 a0_3 l0_4 a0_5 l0_6 l0_7 = some (r1, r2, r3, r4, r5, r6, r7, r8)) :
 Calls Try.prog 143 #[.agg #[.string a0_0, .int .i64 a0_1, .int .i64 a0_2, .int .i64 a0_3, .slice A0_4 l0_4.length c0_4, .int .i64 a0_5, .slice A0_6 l0_6.length c0_6, .slice A0_7 l0_7.length c0_7]] w fun e w' => ∃ v4_ v6_ v7_ : Value, e = .returned (.agg #[.string r1, .int .i64 r2, .int .i64 r3, .int .i64 r4, v4_, .int .i64 r6, v6_, v7_]) ∧ Kd.R (Kd.int .i64) 2 w' w.heap.size (fun _ => True) v4_ r5 ∧ Kd.R (Kd.int .u8) 5 w' w.heap.size (fun _ => True) v6_ r7 ∧ Kd.R k132 132 w' w.heap.size (fun _ => True) v7_ r8 ∧ Below w.heap.size w w' := by
 have hu191 := Try.underlying191
 have hu130 := Try.underlying130
 have HR0_4 := Aside0.mk hr0_4
 have HC0_4 := Aside0.mk hc0_4
 clear hr0_4 hc0_4
 have HR0_6 := Aside0.mk hr0_6
 have HC0_6 := Aside0.mk hc0_6
 clear hr0_6 hc0_6
 have HR0_7 := Aside0.mk hr0_7
 have HC0_7 := Aside0.mk hc0_7
 clear hr0_7 hc0_7
 have HB := Aside0.mk (Below.refl w.heap.size w)
 have H : ((laws_toInt64S.f k l0_4).bind fun t741 => ((laws_toByteS.f k l0_6).bind fun t744 => ((laws_toRelocS.f k l0_7).bind fun t747 => (some (a0_0, a0_1, a0_2, a0_3, t741, a0_5, t744, t747))))) = some (r1, r2, r3, r4, r5, r6, r7, r8) := h
 clear h
 replace H := Option.bind_eq_some_iff.mp H
 obtain ⟨t741, A20, H⟩ := H
 replace H : ((laws_toByteS.f k l0_6).bind fun t744 => ((laws_toRelocS.f k l0_7).bind fun t747 => (some (a0_0, a0_1, a0_2, a0_3, t741, a0_5, t744, t747)))) = some (r1, r2, r3, r4, r5, r6, r7, r8) := H
 have A2 := Aside0.mk A20
 clear A20
 replace H := Option.bind_eq_some_iff.mp H
 obtain ⟨t744, A30, H⟩ := H
 replace H : ((laws_toRelocS.f k l0_7).bind fun t747 => (some (a0_0, a0_1, a0_2, a0_3, t741, a0_5, t744, t747))) = some (r1, r2, r3, r4, r5, r6, r7, r8) := H
 have A3 := Aside0.mk A30
 clear A30
 replace H := Option.bind_eq_some_iff.mp H
 obtain ⟨t747, A40, H⟩ := H
 replace H : (some (a0_0, a0_1, a0_2, a0_3, t741, a0_5, t744, t747)) = some (r1, r2, r3, r4, r5, r6, r7, r8) := H
 have A4 := Aside0.mk A40
 clear A40
 simp only [Option.some.injEq, Prod.mk.injEq] at H
 obtain ⟨rfl, rfl, rfl, rfl, rfl, rfl, rfl, rfl⟩ := H
 go_enter Try.func143, Try.ntmps143
 go_wp2_with (first | ((with_reducible refine gate_dst (N := 1) rfl ?_); refine box_event ?hg (N := 1) ?hd (cs := #[.string a0_0, .int .i64 a0_1, .int .i64 a0_2, .int .i64 a0_3, .slice A0_4 l0_4.length c0_4, .int .i64 a0_5, .slice A0_6 l0_6.length c0_6, .slice A0_7 l0_7.length c0_7]) (t := 191) ?hr ?_; (case hd => rfl); (case hg => rfl); (case hr => first | (go_simp; done) | (go_simp; rfl)); intro gb738 hg w5 hbox hb; have n0_ := Aside0.mk (below_step bz hb); have n1_ := Aside0.mk (hbox); have n2_ := Aside0.mk ((by rw [hg]; exact (below_size bz) : w.heap.size ≤ gb738)); have n3_ := Aside0.mk ((by rw [hg]; exact (below_size bz) : w.heap.size ≤ gb738)); clear HB; have HB := n0_; have BK738 := n1_; have GW738 := n2_; have GE738 := n3_; clear n0_ n1_ n2_ n3_; clear hb hbox hg) | ((with_reducible refine gate_dst (N := 2) rfl ?_); refine box_event ?hg (N := 2) ?hd (cs := #[.string (⟨#[]⟩ : ByteArray), .int .i64 0, .int .i64 0, .int .i64 0, .slice none 0 0, .int .i64 0, .slice none 0 0, .slice none 0 0]) (t := 130) ?hr ?_; (case hd => rfl); (case hg => rfl); (case hr => first | (go_simp; done) | (go_simp; rfl)); intro gb739 hg w6 hbox hb; have n0_ := Aside0.mk (blk_below (g := gb738) (o := .cells #[.string a0_0, .int .i64 a0_1, .int .i64 a0_2, .int .i64 a0_3, .slice A0_4 l0_4.length c0_4, .int .i64 a0_5, .slice A0_6 l0_6.length c0_6, .slice A0_7 l0_7.length c0_7] 191 (0, 0)) kz hb); have n1_ := Aside0.mk (below_step bz hb); have n2_ := Aside0.mk (hbox); have n3_ := Aside0.mk ((by rw [hg]; exact (below_size bz) : w.heap.size ≤ gb739)); have n4_ := Aside0.mk ((by rw [hg]; exact (below_size bz) : w.heap.size ≤ gb739)); have n5_ := Aside0.mk ((by rw [hg]; exact Nat.ne_of_lt (blk_lt (g := gb738) (o := .cells #[.string a0_0, .int .i64 a0_1, .int .i64 a0_2, .int .i64 a0_3, .slice A0_4 l0_4.length c0_4, .int .i64 a0_5, .slice A0_6 l0_6.length c0_6, .slice A0_7 l0_7.length c0_7] 191 (0, 0)) kz) : gb738 ≠ gb739)); have n6_ := Aside0.mk ((by rw [hg]; exact Nat.ne_of_gt (blk_lt (g := gb738) (o := .cells #[.string a0_0, .int .i64 a0_1, .int .i64 a0_2, .int .i64 a0_3, .slice A0_4 l0_4.length c0_4, .int .i64 a0_5, .slice A0_6 l0_6.length c0_6, .slice A0_7 l0_7.length c0_7] 191 (0, 0)) kz) : gb739 ≠ gb738)); clear BK738; clear HB; have BK738 := n0_; have HB := n1_; have BK739 := n2_; have GW739 := n3_; have GE739 := n4_; have NB738_739 := n5_; have NB739_738 := n6_; clear n0_ n1_ n2_ n3_ n4_ n5_ n6_; clear hb hbox hg) | ((with_reducible refine gate_dst (N := 3) rfl ?_); refine box_event ?hg (N := 3) ?hd (cs := #[.string (⟨#[]⟩ : ByteArray), .int .i64 0, .int .i64 0, .int .i64 0, .slice none 0 0, .int .i64 0, .slice none 0 0, .slice none 0 0]) (t := 130) ?hr ?_; (case hd => rfl); (case hg => rfl); (case hr => first | (go_simp; done) | (go_simp; rfl)); intro gb740 hg w7 hbox hb; have n0_ := Aside0.mk (blk_below (g := gb738) (o := .cells #[.string a0_0, .int .i64 a0_1, .int .i64 a0_2, .int .i64 a0_3, .slice A0_4 l0_4.length c0_4, .int .i64 a0_5, .slice A0_6 l0_6.length c0_6, .slice A0_7 l0_7.length c0_7] 191 (0, 0)) kz hb); have n1_ := Aside0.mk (blk_below (g := gb739) (o := .cells #[.string (⟨#[]⟩ : ByteArray), .int .i64 0, .int .i64 0, .int .i64 0, .slice none 0 0, .int .i64 0, .slice none 0 0, .slice none 0 0] 130 (0, 0)) kz hb); have n2_ := Aside0.mk (below_step bz hb); have n3_ := Aside0.mk (hbox); have n4_ := Aside0.mk ((by rw [hg]; exact (below_size bz) : w.heap.size ≤ gb740)); have n5_ := Aside0.mk ((by rw [hg]; exact (below_size bz) : w.heap.size ≤ gb740)); have n6_ := Aside0.mk ((by rw [hg]; exact Nat.ne_of_lt (blk_lt (g := gb738) (o := .cells #[.string a0_0, .int .i64 a0_1, .int .i64 a0_2, .int .i64 a0_3, .slice A0_4 l0_4.length c0_4, .int .i64 a0_5, .slice A0_6 l0_6.length c0_6, .slice A0_7 l0_7.length c0_7] 191 (0, 0)) kz) : gb738 ≠ gb740)); have n7_ := Aside0.mk ((by rw [hg]; exact Nat.ne_of_gt (blk_lt (g := gb738) (o := .cells #[.string a0_0, .int .i64 a0_1, .int .i64 a0_2, .int .i64 a0_3, .slice A0_4 l0_4.length c0_4, .int .i64 a0_5, .slice A0_6 l0_6.length c0_6, .slice A0_7 l0_7.length c0_7] 191 (0, 0)) kz) : gb740 ≠ gb738)); have n8_ := Aside0.mk ((by rw [hg]; exact Nat.ne_of_lt (blk_lt (g := gb739) (o := .cells #[.string (⟨#[]⟩ : ByteArray), .int .i64 0, .int .i64 0, .int .i64 0, .slice none 0 0, .int .i64 0, .slice none 0 0, .slice none 0 0] 130 (0, 0)) kz) : gb739 ≠ gb740)); have n9_ := Aside0.mk ((by rw [hg]; exact Nat.ne_of_gt (blk_lt (g := gb739) (o := .cells #[.string (⟨#[]⟩ : ByteArray), .int .i64 0, .int .i64 0, .int .i64 0, .slice none 0 0, .int .i64 0, .slice none 0 0, .slice none 0 0] 130 (0, 0)) kz) : gb740 ≠ gb739)); clear BK738; clear BK739; clear HB; have BK738 := n0_; have BK739 := n1_; have HB := n2_; have BK740 := n3_; have GW740 := n4_; have GE740 := n5_; have NB738_740 := n6_; have NB740_738 := n7_; have NB739_740 := n8_; have NB740_739 := n9_; clear n0_ n1_ n2_ n3_ n4_ n5_ n6_ n7_ n8_ n9_; clear hb hbox hg; have hnb8 := NB738_739.out; have hnc8 := NB739_738.out; have hnb9 := NB738_740.out; have hnc9 := NB740_738.out; have hcz10_0 : w7.cell? ⟨gb738, 0, none⟩ = some (.string a0_0) := (blk_cell BK738.out 0).trans rfl; have hcz10_1 : w7.cell? ⟨gb738, 1, none⟩ = some (.int .i64 a0_1) := (blk_cell BK738.out 1).trans rfl; have hcz10_2 : w7.cell? ⟨gb738, 2, none⟩ = some (.int .i64 a0_2) := (blk_cell BK738.out 2).trans rfl; have hcz10_3 : w7.cell? ⟨gb738, 3, none⟩ = some (.int .i64 a0_3) := (blk_cell BK738.out 3).trans rfl; have hcz10_4 : w7.cell? ⟨gb738, 4, none⟩ = some (.slice A0_4 l0_4.length c0_4) := (blk_cell BK738.out 4).trans rfl; have hcz10_5 : w7.cell? ⟨gb738, 5, none⟩ = some (.int .i64 a0_5) := (blk_cell BK738.out 5).trans rfl; have hcz10_6 : w7.cell? ⟨gb738, 6, none⟩ = some (.slice A0_6 l0_6.length c0_6) := (blk_cell BK738.out 6).trans rfl; have hcz10_7 : w7.cell? ⟨gb738, 7, none⟩ = some (.slice A0_7 l0_7.length c0_7) := (blk_cell BK738.out 7).trans rfl; have hfz10_0 := blk_frozen BK738.out 0; have hfz10_1 := blk_frozen BK738.out 1; have hfz10_2 := blk_frozen BK738.out 2; have hfz10_3 := blk_frozen BK738.out 3; have hfz10_4 := blk_frozen BK738.out 4; have hfz10_5 := blk_frozen BK738.out 5; have hfz10_6 := blk_frozen BK738.out 6; have hfz10_7 := blk_frozen BK738.out 7; have hnb11 := NB740_739.out; have hnc11 := NB739_740.out; have hcz12_0 : w7.cell? ⟨gb740, 0, none⟩ = some (.string (⟨#[]⟩ : ByteArray)) := (blk_cell BK740.out 0).trans rfl; have hcz12_1 : w7.cell? ⟨gb740, 1, none⟩ = some (.int .i64 0) := (blk_cell BK740.out 1).trans rfl; have hcz12_2 : w7.cell? ⟨gb740, 2, none⟩ = some (.int .i64 0) := (blk_cell BK740.out 2).trans rfl; have hcz12_3 : w7.cell? ⟨gb740, 3, none⟩ = some (.int .i64 0) := (blk_cell BK740.out 3).trans rfl; have hcz12_4 : w7.cell? ⟨gb740, 4, none⟩ = some (.slice none 0 0) := (blk_cell BK740.out 4).trans rfl; have hcz12_5 : w7.cell? ⟨gb740, 5, none⟩ = some (.int .i64 0) := (blk_cell BK740.out 5).trans rfl; have hcz12_6 : w7.cell? ⟨gb740, 6, none⟩ = some (.slice none 0 0) := (blk_cell BK740.out 6).trans rfl; have hcz12_7 : w7.cell? ⟨gb740, 7, none⟩ = some (.slice none 0 0) := (blk_cell BK740.out 7).trans rfl; have hfz12_0 := blk_frozen BK740.out 0; have hfz12_1 := blk_frozen BK740.out 1; have hfz12_2 := blk_frozen BK740.out 2; have hfz12_3 := blk_frozen BK740.out 3; have hfz12_4 := blk_frozen BK740.out 4; have hfz12_5 := blk_frozen BK740.out 5; have hfz12_6 := blk_frozen BK740.out 6; have hfz12_7 := blk_frozen BK740.out 7) | ((with_reducible refine gate_callee (f := 62) rfl ?_); refine goesL_ (some 18) rfl rfl Try.func62 (by kernel_rfl) rfl #[.slice A0_4 l0_4.length c0_4] rfl lz ?_; (with_reducible refine (laws_toInt64S.calls k _ _ l0_4 t741 _ ?side1 ?side2 A2.out).mono ?_); (case side1 => exact Kd.C_below HR0_4.out bz); (case side2 => exact HC0_4.out); rintro e w13 ⟨v742, rfl, ho0, hb⟩; refine ⟨_, rfl, ?_⟩; have n0_ := Aside0.mk (Kd.R_lower ho0 (below_size bz)); have n1_ := Aside0.mk (blk_below (g := gb738) (o := .cells #[.string a0_0, .int .i64 a0_1, .int .i64 a0_2, .int .i64 a0_3, .slice A0_4 l0_4.length c0_4, .int .i64 a0_5, .slice A0_6 l0_6.length c0_6, .slice A0_7 l0_7.length c0_7] 191 (0, 0)) (by (with_reducible repeat (first | refine blk_drewN ?_ _ | refine blk_drew ?_ | refine blk_alloc ?_ _)); refine blk_far ?_ NB738_740.out _; (with_reducible repeat (first | refine blk_drewN ?_ _ | refine blk_drew ?_ | refine blk_alloc ?_ _)); refine blk_far ?_ NB738_740.out _; (with_reducible repeat (first | refine blk_drewN ?_ _ | refine blk_drew ?_ | refine blk_alloc ?_ _)); refine blk_far ?_ NB738_740.out _; (with_reducible repeat (first | refine blk_drewN ?_ _ | refine blk_drew ?_ | refine blk_alloc ?_ _)); refine blk_far ?_ NB738_740.out _; (with_reducible repeat (first | refine blk_drewN ?_ _ | refine blk_drew ?_ | refine blk_alloc ?_ _)); exact BK738.out) hb); have n2_ := Aside0.mk (blk_below (g := gb739) (o := .cells #[.string (⟨#[]⟩ : ByteArray), .int .i64 0, .int .i64 0, .int .i64 0, .slice none 0 0, .int .i64 0, .slice none 0 0, .slice none 0 0] 130 (0, 0)) (by (with_reducible repeat (first | refine blk_drewN ?_ _ | refine blk_drew ?_ | refine blk_alloc ?_ _)); refine blk_far ?_ NB739_740.out _; (with_reducible repeat (first | refine blk_drewN ?_ _ | refine blk_drew ?_ | refine blk_alloc ?_ _)); refine blk_far ?_ NB739_740.out _; (with_reducible repeat (first | refine blk_drewN ?_ _ | refine blk_drew ?_ | refine blk_alloc ?_ _)); refine blk_far ?_ NB739_740.out _; (with_reducible repeat (first | refine blk_drewN ?_ _ | refine blk_drew ?_ | refine blk_alloc ?_ _)); refine blk_far ?_ NB739_740.out _; (with_reducible repeat (first | refine blk_drewN ?_ _ | refine blk_drew ?_ | refine blk_alloc ?_ _)); exact BK739.out) hb); have n3_ := Aside0.mk (blk_below (g := gb740) (o := .cells #[.string a0_0, .int .i64 a0_1, .int .i64 a0_2, .int .i64 a0_3, .slice none 0 0, .int .i64 0, .slice none 0 0, .slice none 0 0] 130 (0, 0)) (by (with_reducible repeat (first | refine blk_drewN ?_ _ | refine blk_drew ?_ | refine blk_alloc ?_ _)); refine blk_put (cs := #[.string a0_0, .int .i64 a0_1, .int .i64 a0_2, .int .i64 0, .slice none 0 0, .int .i64 0, .slice none 0 0, .slice none 0 0]) ?_ 3 _ rfl; (with_reducible repeat (first | refine blk_drewN ?_ _ | refine blk_drew ?_ | refine blk_alloc ?_ _)); refine blk_put (cs := #[.string a0_0, .int .i64 a0_1, .int .i64 0, .int .i64 0, .slice none 0 0, .int .i64 0, .slice none 0 0, .slice none 0 0]) ?_ 2 _ rfl; (with_reducible repeat (first | refine blk_drewN ?_ _ | refine blk_drew ?_ | refine blk_alloc ?_ _)); refine blk_put (cs := #[.string a0_0, .int .i64 0, .int .i64 0, .int .i64 0, .slice none 0 0, .int .i64 0, .slice none 0 0, .slice none 0 0]) ?_ 1 _ rfl; (with_reducible repeat (first | refine blk_drewN ?_ _ | refine blk_drew ?_ | refine blk_alloc ?_ _)); refine blk_put (cs := #[.string (⟨#[]⟩ : ByteArray), .int .i64 0, .int .i64 0, .int .i64 0, .slice none 0 0, .int .i64 0, .slice none 0 0, .slice none 0 0]) ?_ 0 _ rfl; (with_reducible repeat (first | refine blk_drewN ?_ _ | refine blk_drew ?_ | refine blk_alloc ?_ _)); exact BK740.out) hb); have n4_ := Aside0.mk (below_step bz hb); clear BK738; clear BK739; clear BK740; clear HB; have HO743 := n0_; have BK738 := n1_; have BK739 := n2_; have BK740 := n3_; have HB := n4_; clear n0_ n1_ n2_ n3_ n4_; (try clear hb); (try clear hb2); (try clear hk); (try clear hi); (try clear ho0); obtain ⟨Ao14, co14, eo14⟩ := Kd.R_slice HO743.out; subst eo14; have hcz15_0 : w13.cell? ⟨gb740, 0, none⟩ = some (.string a0_0) := (blk_cell BK740.out 0).trans rfl; have hcz15_1 : w13.cell? ⟨gb740, 1, none⟩ = some (.int .i64 a0_1) := (blk_cell BK740.out 1).trans rfl; have hcz15_2 : w13.cell? ⟨gb740, 2, none⟩ = some (.int .i64 a0_2) := (blk_cell BK740.out 2).trans rfl; have hcz15_3 : w13.cell? ⟨gb740, 3, none⟩ = some (.int .i64 a0_3) := (blk_cell BK740.out 3).trans rfl; have hcz15_4 : w13.cell? ⟨gb740, 4, none⟩ = some (.slice none 0 0) := (blk_cell BK740.out 4).trans rfl; have hcz15_5 : w13.cell? ⟨gb740, 5, none⟩ = some (.int .i64 0) := (blk_cell BK740.out 5).trans rfl; have hcz15_6 : w13.cell? ⟨gb740, 6, none⟩ = some (.slice none 0 0) := (blk_cell BK740.out 6).trans rfl; have hcz15_7 : w13.cell? ⟨gb740, 7, none⟩ = some (.slice none 0 0) := (blk_cell BK740.out 7).trans rfl; have hfz15_0 := blk_frozen BK740.out 0; have hfz15_1 := blk_frozen BK740.out 1; have hfz15_2 := blk_frozen BK740.out 2; have hfz15_3 := blk_frozen BK740.out 3; have hfz15_4 := blk_frozen BK740.out 4; have hfz15_5 := blk_frozen BK740.out 5; have hfz15_6 := blk_frozen BK740.out 6; have hfz15_7 := blk_frozen BK740.out 7; have hcz16_0 : w13.cell? ⟨gb738, 0, none⟩ = some (.string a0_0) := (blk_cell BK738.out 0).trans rfl; have hcz16_1 : w13.cell? ⟨gb738, 1, none⟩ = some (.int .i64 a0_1) := (blk_cell BK738.out 1).trans rfl; have hcz16_2 : w13.cell? ⟨gb738, 2, none⟩ = some (.int .i64 a0_2) := (blk_cell BK738.out 2).trans rfl; have hcz16_3 : w13.cell? ⟨gb738, 3, none⟩ = some (.int .i64 a0_3) := (blk_cell BK738.out 3).trans rfl; have hcz16_4 : w13.cell? ⟨gb738, 4, none⟩ = some (.slice A0_4 l0_4.length c0_4) := (blk_cell BK738.out 4).trans rfl; have hcz16_5 : w13.cell? ⟨gb738, 5, none⟩ = some (.int .i64 a0_5) := (blk_cell BK738.out 5).trans rfl; have hcz16_6 : w13.cell? ⟨gb738, 6, none⟩ = some (.slice A0_6 l0_6.length c0_6) := (blk_cell BK738.out 6).trans rfl; have hcz16_7 : w13.cell? ⟨gb738, 7, none⟩ = some (.slice A0_7 l0_7.length c0_7) := (blk_cell BK738.out 7).trans rfl; have hfz16_0 := blk_frozen BK738.out 0; have hfz16_1 := blk_frozen BK738.out 1; have hfz16_2 := blk_frozen BK738.out 2; have hfz16_3 := blk_frozen BK738.out 3; have hfz16_4 := blk_frozen BK738.out 4; have hfz16_5 := blk_frozen BK738.out 5; have hfz16_6 := blk_frozen BK738.out 6; have hfz16_7 := blk_frozen BK738.out 7) | ((with_reducible refine gate_callee (f := 50) rfl ?_); refine goesL_ (some 25) rfl rfl Try.func50 (by kernel_rfl) rfl #[.slice A0_6 l0_6.length c0_6] rfl lz ?_; (with_reducible refine (laws_toByteS.calls k _ _ l0_6 t744 _ ?side1 ?side2 A3.out).mono ?_); (case side1 => exact Kd.C_below HR0_6.out bz); (case side2 => exact HC0_6.out); rintro e w17 ⟨v745, rfl, ho0, hb⟩; refine ⟨_, rfl, ?_⟩; have n0_ := Aside0.mk (Kd.R_below (by (with_reducible repeat (first | apply Kd.R_alloc | apply Kd.R_drewN | apply Kd.R_drew)); exact (Kd.R_mono (Kd.R_far (p := ⟨gb740, 5, none⟩) (Kd.R_far (p := ⟨gb740, 4, none⟩) (Kd.R_types HO743.out BK740.out (by decide)) (fun _ hk => hk.2) (.slice Ao14 t741.length co14)) (fun _ hk => hk.2) (.int .i64 a0_5)) (fun _ h_ => h_.1))) hb); have n1_ := Aside0.mk (Kd.R_lower ho0 (below_size bz)); have n2_ := Aside0.mk (blk_below (g := gb738) (o := .cells #[.string a0_0, .int .i64 a0_1, .int .i64 a0_2, .int .i64 a0_3, .slice A0_4 l0_4.length c0_4, .int .i64 a0_5, .slice A0_6 l0_6.length c0_6, .slice A0_7 l0_7.length c0_7] 191 (0, 0)) (by (with_reducible repeat (first | refine blk_drewN ?_ _ | refine blk_drew ?_ | refine blk_alloc ?_ _)); refine blk_far ?_ NB738_740.out _; (with_reducible repeat (first | refine blk_drewN ?_ _ | refine blk_drew ?_ | refine blk_alloc ?_ _)); refine blk_far ?_ NB738_740.out _; (with_reducible repeat (first | refine blk_drewN ?_ _ | refine blk_drew ?_ | refine blk_alloc ?_ _)); exact BK738.out) hb); have n3_ := Aside0.mk (blk_below (g := gb739) (o := .cells #[.string (⟨#[]⟩ : ByteArray), .int .i64 0, .int .i64 0, .int .i64 0, .slice none 0 0, .int .i64 0, .slice none 0 0, .slice none 0 0] 130 (0, 0)) (by (with_reducible repeat (first | refine blk_drewN ?_ _ | refine blk_drew ?_ | refine blk_alloc ?_ _)); refine blk_far ?_ NB739_740.out _; (with_reducible repeat (first | refine blk_drewN ?_ _ | refine blk_drew ?_ | refine blk_alloc ?_ _)); refine blk_far ?_ NB739_740.out _; (with_reducible repeat (first | refine blk_drewN ?_ _ | refine blk_drew ?_ | refine blk_alloc ?_ _)); exact BK739.out) hb); have n4_ := Aside0.mk (blk_below (g := gb740) (o := .cells #[.string a0_0, .int .i64 a0_1, .int .i64 a0_2, .int .i64 a0_3, .slice Ao14 t741.length co14, .int .i64 a0_5, .slice none 0 0, .slice none 0 0] 130 (0, 0)) (by (with_reducible repeat (first | refine blk_drewN ?_ _ | refine blk_drew ?_ | refine blk_alloc ?_ _)); refine blk_put (cs := #[.string a0_0, .int .i64 a0_1, .int .i64 a0_2, .int .i64 a0_3, .slice Ao14 t741.length co14, .int .i64 0, .slice none 0 0, .slice none 0 0]) ?_ 5 _ rfl; (with_reducible repeat (first | refine blk_drewN ?_ _ | refine blk_drew ?_ | refine blk_alloc ?_ _)); refine blk_put (cs := #[.string a0_0, .int .i64 a0_1, .int .i64 a0_2, .int .i64 a0_3, .slice none 0 0, .int .i64 0, .slice none 0 0, .slice none 0 0]) ?_ 4 _ rfl; (with_reducible repeat (first | refine blk_drewN ?_ _ | refine blk_drew ?_ | refine blk_alloc ?_ _)); exact BK740.out) hb); have n5_ := Aside0.mk (below_step bz hb); clear HO743; clear BK738; clear BK739; clear BK740; clear HB; have HO743 := n0_; have HO746 := n1_; have BK738 := n2_; have BK739 := n3_; have BK740 := n4_; have HB := n5_; clear n0_ n1_ n2_ n3_ n4_ n5_; (try clear hb); (try clear hb2); (try clear hk); (try clear hi); (try clear ho0); obtain ⟨Ao18, co18, eo18⟩ := Kd.R_slice HO746.out; subst eo18; have hcz19_0 : w17.cell? ⟨gb740, 0, none⟩ = some (.string a0_0) := (blk_cell BK740.out 0).trans rfl; have hcz19_1 : w17.cell? ⟨gb740, 1, none⟩ = some (.int .i64 a0_1) := (blk_cell BK740.out 1).trans rfl; have hcz19_2 : w17.cell? ⟨gb740, 2, none⟩ = some (.int .i64 a0_2) := (blk_cell BK740.out 2).trans rfl; have hcz19_3 : w17.cell? ⟨gb740, 3, none⟩ = some (.int .i64 a0_3) := (blk_cell BK740.out 3).trans rfl; have hcz19_4 : w17.cell? ⟨gb740, 4, none⟩ = some (.slice Ao14 t741.length co14) := (blk_cell BK740.out 4).trans rfl; have hcz19_5 : w17.cell? ⟨gb740, 5, none⟩ = some (.int .i64 a0_5) := (blk_cell BK740.out 5).trans rfl; have hcz19_6 : w17.cell? ⟨gb740, 6, none⟩ = some (.slice none 0 0) := (blk_cell BK740.out 6).trans rfl; have hcz19_7 : w17.cell? ⟨gb740, 7, none⟩ = some (.slice none 0 0) := (blk_cell BK740.out 7).trans rfl; have hfz19_0 := blk_frozen BK740.out 0; have hfz19_1 := blk_frozen BK740.out 1; have hfz19_2 := blk_frozen BK740.out 2; have hfz19_3 := blk_frozen BK740.out 3; have hfz19_4 := blk_frozen BK740.out 4; have hfz19_5 := blk_frozen BK740.out 5; have hfz19_6 := blk_frozen BK740.out 6; have hfz19_7 := blk_frozen BK740.out 7; have hcz20_0 : w17.cell? ⟨gb738, 0, none⟩ = some (.string a0_0) := (blk_cell BK738.out 0).trans rfl; have hcz20_1 : w17.cell? ⟨gb738, 1, none⟩ = some (.int .i64 a0_1) := (blk_cell BK738.out 1).trans rfl; have hcz20_2 : w17.cell? ⟨gb738, 2, none⟩ = some (.int .i64 a0_2) := (blk_cell BK738.out 2).trans rfl; have hcz20_3 : w17.cell? ⟨gb738, 3, none⟩ = some (.int .i64 a0_3) := (blk_cell BK738.out 3).trans rfl; have hcz20_4 : w17.cell? ⟨gb738, 4, none⟩ = some (.slice A0_4 l0_4.length c0_4) := (blk_cell BK738.out 4).trans rfl; have hcz20_5 : w17.cell? ⟨gb738, 5, none⟩ = some (.int .i64 a0_5) := (blk_cell BK738.out 5).trans rfl; have hcz20_6 : w17.cell? ⟨gb738, 6, none⟩ = some (.slice A0_6 l0_6.length c0_6) := (blk_cell BK738.out 6).trans rfl; have hcz20_7 : w17.cell? ⟨gb738, 7, none⟩ = some (.slice A0_7 l0_7.length c0_7) := (blk_cell BK738.out 7).trans rfl; have hfz20_0 := blk_frozen BK738.out 0; have hfz20_1 := blk_frozen BK738.out 1; have hfz20_2 := blk_frozen BK738.out 2; have hfz20_3 := blk_frozen BK738.out 3; have hfz20_4 := blk_frozen BK738.out 4; have hfz20_5 := blk_frozen BK738.out 5; have hfz20_6 := blk_frozen BK738.out 6; have hfz20_7 := blk_frozen BK738.out 7) | ((with_reducible refine gate_callee (f := 181) rfl ?_); refine goesL_ (some 29) rfl rfl Try.func181 (by kernel_rfl) rfl #[.slice A0_7 l0_7.length c0_7] rfl lz ?_; (with_reducible refine (laws_toRelocS.calls k _ _ l0_7 t747 _ ?side1 ?side2 A4.out).mono ?_); (case side1 => exact Kd.C_below HR0_7.out bz); (case side2 => exact HC0_7.out); rintro e w21 ⟨v748, rfl, ho0, hb⟩; refine ⟨_, rfl, ?_⟩; have n0_ := Aside0.mk (Kd.R_below (by (with_reducible repeat (first | apply Kd.R_alloc | apply Kd.R_drewN | apply Kd.R_drew)); exact (Kd.R_mono (Kd.R_far (p := ⟨gb740, 6, none⟩) (Kd.R_types HO743.out BK740.out (by decide)) (fun _ hk => hk.2) (.slice Ao18 t744.length co18)) (fun _ h_ => h_.1))) hb); have n1_ := Aside0.mk (Kd.R_below (by (with_reducible repeat (first | apply Kd.R_alloc | apply Kd.R_drewN | apply Kd.R_drew)); exact (Kd.R_mono (Kd.R_far (p := ⟨gb740, 6, none⟩) (Kd.R_types HO746.out BK740.out (by decide)) (fun _ hk => hk.2) (.slice Ao18 t744.length co18)) (fun _ h_ => h_.1))) hb); have n2_ := Aside0.mk (Kd.R_lower ho0 (below_size bz)); have n3_ := Aside0.mk (blk_below (g := gb738) (o := .cells #[.string a0_0, .int .i64 a0_1, .int .i64 a0_2, .int .i64 a0_3, .slice A0_4 l0_4.length c0_4, .int .i64 a0_5, .slice A0_6 l0_6.length c0_6, .slice A0_7 l0_7.length c0_7] 191 (0, 0)) (by (with_reducible repeat (first | refine blk_drewN ?_ _ | refine blk_drew ?_ | refine blk_alloc ?_ _)); refine blk_far ?_ NB738_740.out _; (with_reducible repeat (first | refine blk_drewN ?_ _ | refine blk_drew ?_ | refine blk_alloc ?_ _)); exact BK738.out) hb); have n4_ := Aside0.mk (blk_below (g := gb739) (o := .cells #[.string (⟨#[]⟩ : ByteArray), .int .i64 0, .int .i64 0, .int .i64 0, .slice none 0 0, .int .i64 0, .slice none 0 0, .slice none 0 0] 130 (0, 0)) (by (with_reducible repeat (first | refine blk_drewN ?_ _ | refine blk_drew ?_ | refine blk_alloc ?_ _)); refine blk_far ?_ NB739_740.out _; (with_reducible repeat (first | refine blk_drewN ?_ _ | refine blk_drew ?_ | refine blk_alloc ?_ _)); exact BK739.out) hb); have n5_ := Aside0.mk (blk_below (g := gb740) (o := .cells #[.string a0_0, .int .i64 a0_1, .int .i64 a0_2, .int .i64 a0_3, .slice Ao14 t741.length co14, .int .i64 a0_5, .slice Ao18 t744.length co18, .slice none 0 0] 130 (0, 0)) (by (with_reducible repeat (first | refine blk_drewN ?_ _ | refine blk_drew ?_ | refine blk_alloc ?_ _)); refine blk_put (cs := #[.string a0_0, .int .i64 a0_1, .int .i64 a0_2, .int .i64 a0_3, .slice Ao14 t741.length co14, .int .i64 a0_5, .slice none 0 0, .slice none 0 0]) ?_ 6 _ rfl; (with_reducible repeat (first | refine blk_drewN ?_ _ | refine blk_drew ?_ | refine blk_alloc ?_ _)); exact BK740.out) hb); have n6_ := Aside0.mk (below_step bz hb); clear HO743; clear HO746; clear BK738; clear BK739; clear BK740; clear HB; have HO743 := n0_; have HO746 := n1_; have HO749 := n2_; have BK738 := n3_; have BK739 := n4_; have BK740 := n5_; have HB := n6_; clear n0_ n1_ n2_ n3_ n4_ n5_ n6_; (try clear hb); (try clear hb2); (try clear hk); (try clear hi); (try clear ho0); obtain ⟨Ao22, co22, eo22⟩ := Kd.R_slice HO749.out; subst eo22; have hcz23_0 : w21.cell? ⟨gb740, 0, none⟩ = some (.string a0_0) := (blk_cell BK740.out 0).trans rfl; have hcz23_1 : w21.cell? ⟨gb740, 1, none⟩ = some (.int .i64 a0_1) := (blk_cell BK740.out 1).trans rfl; have hcz23_2 : w21.cell? ⟨gb740, 2, none⟩ = some (.int .i64 a0_2) := (blk_cell BK740.out 2).trans rfl; have hcz23_3 : w21.cell? ⟨gb740, 3, none⟩ = some (.int .i64 a0_3) := (blk_cell BK740.out 3).trans rfl; have hcz23_4 : w21.cell? ⟨gb740, 4, none⟩ = some (.slice Ao14 t741.length co14) := (blk_cell BK740.out 4).trans rfl; have hcz23_5 : w21.cell? ⟨gb740, 5, none⟩ = some (.int .i64 a0_5) := (blk_cell BK740.out 5).trans rfl; have hcz23_6 : w21.cell? ⟨gb740, 6, none⟩ = some (.slice Ao18 t744.length co18) := (blk_cell BK740.out 6).trans rfl; have hcz23_7 : w21.cell? ⟨gb740, 7, none⟩ = some (.slice none 0 0) := (blk_cell BK740.out 7).trans rfl; have hfz23_0 := blk_frozen BK740.out 0; have hfz23_1 := blk_frozen BK740.out 1; have hfz23_2 := blk_frozen BK740.out 2; have hfz23_3 := blk_frozen BK740.out 3; have hfz23_4 := blk_frozen BK740.out 4; have hfz23_5 := blk_frozen BK740.out 5; have hfz23_6 := blk_frozen BK740.out 6; have hfz23_7 := blk_frozen BK740.out 7; have hcz24_0 : w21.cell? ⟨gb739, 0, none⟩ = some (.string (⟨#[]⟩ : ByteArray)) := (blk_cell BK739.out 0).trans rfl; have hcz24_1 : w21.cell? ⟨gb739, 1, none⟩ = some (.int .i64 0) := (blk_cell BK739.out 1).trans rfl; have hcz24_2 : w21.cell? ⟨gb739, 2, none⟩ = some (.int .i64 0) := (blk_cell BK739.out 2).trans rfl; have hcz24_3 : w21.cell? ⟨gb739, 3, none⟩ = some (.int .i64 0) := (blk_cell BK739.out 3).trans rfl; have hcz24_4 : w21.cell? ⟨gb739, 4, none⟩ = some (.slice none 0 0) := (blk_cell BK739.out 4).trans rfl; have hcz24_5 : w21.cell? ⟨gb739, 5, none⟩ = some (.int .i64 0) := (blk_cell BK739.out 5).trans rfl; have hcz24_6 : w21.cell? ⟨gb739, 6, none⟩ = some (.slice none 0 0) := (blk_cell BK739.out 6).trans rfl; have hcz24_7 : w21.cell? ⟨gb739, 7, none⟩ = some (.slice none 0 0) := (blk_cell BK739.out 7).trans rfl; have hfz24_0 := blk_frozen BK739.out 0; have hfz24_1 := blk_frozen BK739.out 1; have hfz24_2 := blk_frozen BK739.out 2; have hfz24_3 := blk_frozen BK739.out 3; have hfz24_4 := blk_frozen BK739.out 4; have hfz24_5 := blk_frozen BK739.out 5; have hfz24_6 := blk_frozen BK739.out 6; have hfz24_7 := blk_frozen BK739.out 7))
 refine bodyPost_ret (results_cell_row rfl _ _ gb739 130 #[.string a0_0, .int .i64 a0_1, .int .i64 a0_2, .int .i64 a0_3, .slice Ao14 t741.length co14, .int .i64 a0_5, .slice Ao18 t744.length co18, .slice Ao22 t747.length co22] (0, 0) _ rfl (by (with_reducible repeat (first | refine blk_drewN ?_ _ | refine blk_drew ?_ | refine blk_alloc ?_ _)); refine blk_put (cs := #[.string a0_0, .int .i64 a0_1, .int .i64 a0_2, .int .i64 a0_3, .slice Ao14 t741.length co14, .int .i64 a0_5, .slice Ao18 t744.length co18, .slice none 0 0]) ?_ 7 _ rfl; (with_reducible repeat (first | refine blk_drewN ?_ _ | refine blk_drew ?_ | refine blk_alloc ?_ _)); refine blk_put (cs := #[.string a0_0, .int .i64 a0_1, .int .i64 a0_2, .int .i64 a0_3, .slice Ao14 t741.length co14, .int .i64 a0_5, .slice none 0 0, .slice none 0 0]) ?_ 6 _ rfl; (with_reducible repeat (first | refine blk_drewN ?_ _ | refine blk_drew ?_ | refine blk_alloc ?_ _)); refine blk_put (cs := #[.string a0_0, .int .i64 a0_1, .int .i64 a0_2, .int .i64 a0_3, .slice Ao14 t741.length co14, .int .i64 0, .slice none 0 0, .slice none 0 0]) ?_ 5 _ rfl; (with_reducible repeat (first | refine blk_drewN ?_ _ | refine blk_drew ?_ | refine blk_alloc ?_ _)); refine blk_put (cs := #[.string a0_0, .int .i64 a0_1, .int .i64 a0_2, .int .i64 a0_3, .slice none 0 0, .int .i64 0, .slice none 0 0, .slice none 0 0]) ?_ 4 _ rfl; (with_reducible repeat (first | refine blk_drewN ?_ _ | refine blk_drew ?_ | refine blk_alloc ?_ _)); refine blk_put (cs := #[.string a0_0, .int .i64 a0_1, .int .i64 a0_2, .int .i64 0, .slice none 0 0, .int .i64 0, .slice none 0 0, .slice none 0 0]) ?_ 3 _ rfl; (with_reducible repeat (first | refine blk_drewN ?_ _ | refine blk_drew ?_ | refine blk_alloc ?_ _)); refine blk_put (cs := #[.string a0_0, .int .i64 a0_1, .int .i64 0, .int .i64 0, .slice none 0 0, .int .i64 0, .slice none 0 0, .slice none 0 0]) ?_ 2 _ rfl; (with_reducible repeat (first | refine blk_drewN ?_ _ | refine blk_drew ?_ | refine blk_alloc ?_ _)); refine blk_put (cs := #[.string a0_0, .int .i64 0, .int .i64 0, .int .i64 0, .slice none 0 0, .int .i64 0, .slice none 0 0, .slice none 0 0]) ?_ 1 _ rfl; (with_reducible repeat (first | refine blk_drewN ?_ _ | refine blk_drew ?_ | refine blk_alloc ?_ _)); refine blk_put (cs := #[.string (⟨#[]⟩ : ByteArray), .int .i64 0, .int .i64 0, .int .i64 0, .slice none 0 0, .int .i64 0, .slice none 0 0, .slice none 0 0]) ?_ 0 _ rfl; (with_reducible repeat (first | refine blk_drewN ?_ _ | refine blk_drew ?_ | refine blk_alloc ?_ _)); refine blk_far ?_ NB739_740.out _; (with_reducible repeat (first | refine blk_drewN ?_ _ | refine blk_drew ?_ | refine blk_alloc ?_ _)); exact BK739.out) Try.underlying130 rfl (by kernel_rfl)) rfl ?_
 exact ⟨_, _, _, by first | rfl | (simp [errW_none, errW_some] <;> rfl) | (simp [*, errW_none, errW_some] <;> rfl), by (with_reducible repeat (first | apply Kd.R_alloc | apply Kd.R_drewN | apply Kd.R_drew)); exact Kd.R_mono (Kd.R_far (p := ⟨gb739, 7, none⟩) (Kd.R_far (p := ⟨gb739, 6, none⟩) (Kd.R_far (p := ⟨gb739, 5, none⟩) (Kd.R_far (p := ⟨gb739, 4, none⟩) (Kd.R_far (p := ⟨gb739, 3, none⟩) (Kd.R_far (p := ⟨gb739, 2, none⟩) (Kd.R_far (p := ⟨gb739, 1, none⟩) (Kd.R_far (p := ⟨gb739, 0, none⟩) (Kd.R_far (p := ⟨gb740, 7, none⟩) (Kd.R_types (Kd.R_types HO743.out BK740.out (by decide)) BK739.out (by decide)) (fun _ hk => hk.1.2) (.slice Ao22 t747.length co22)) (fun _ hk => hk.2) (.string a0_0)) (fun _ hk => hk.2) (.int .i64 a0_1)) (fun _ hk => hk.2) (.int .i64 a0_2)) (fun _ hk => hk.2) (.int .i64 a0_3)) (fun _ hk => hk.2) (.slice Ao14 t741.length co14)) (fun _ hk => hk.2) (.int .i64 a0_5)) (fun _ hk => hk.2) (.slice Ao18 t744.length co18)) (fun _ hk => hk.2) (.slice Ao22 t747.length co22)) (fun _ hk => trivial), by (with_reducible repeat (first | apply Kd.R_alloc | apply Kd.R_drewN | apply Kd.R_drew)); exact Kd.R_mono (Kd.R_far (p := ⟨gb739, 7, none⟩) (Kd.R_far (p := ⟨gb739, 6, none⟩) (Kd.R_far (p := ⟨gb739, 5, none⟩) (Kd.R_far (p := ⟨gb739, 4, none⟩) (Kd.R_far (p := ⟨gb739, 3, none⟩) (Kd.R_far (p := ⟨gb739, 2, none⟩) (Kd.R_far (p := ⟨gb739, 1, none⟩) (Kd.R_far (p := ⟨gb739, 0, none⟩) (Kd.R_far (p := ⟨gb740, 7, none⟩) (Kd.R_types (Kd.R_types HO746.out BK740.out (by decide)) BK739.out (by decide)) (fun _ hk => hk.1.2) (.slice Ao22 t747.length co22)) (fun _ hk => hk.2) (.string a0_0)) (fun _ hk => hk.2) (.int .i64 a0_1)) (fun _ hk => hk.2) (.int .i64 a0_2)) (fun _ hk => hk.2) (.int .i64 a0_3)) (fun _ hk => hk.2) (.slice Ao14 t741.length co14)) (fun _ hk => hk.2) (.int .i64 a0_5)) (fun _ hk => hk.2) (.slice Ao18 t744.length co18)) (fun _ hk => hk.2) (.slice Ao22 t747.length co22)) (fun _ hk => trivial), by (with_reducible repeat (first | apply Kd.R_alloc | apply Kd.R_drewN | apply Kd.R_drew)); exact Kd.R_mono (Kd.R_far (p := ⟨gb739, 7, none⟩) (Kd.R_far (p := ⟨gb739, 6, none⟩) (Kd.R_far (p := ⟨gb739, 5, none⟩) (Kd.R_far (p := ⟨gb739, 4, none⟩) (Kd.R_far (p := ⟨gb739, 3, none⟩) (Kd.R_far (p := ⟨gb739, 2, none⟩) (Kd.R_far (p := ⟨gb739, 1, none⟩) (Kd.R_far (p := ⟨gb739, 0, none⟩) (Kd.R_far (p := ⟨gb740, 7, none⟩) (Kd.R_types (Kd.R_types HO749.out BK740.out (by decide)) BK739.out (by decide)) (fun _ hk => hk.1.2) (.slice Ao22 t747.length co22)) (fun _ hk => hk.2) (.string a0_0)) (fun _ hk => hk.2) (.int .i64 a0_1)) (fun _ hk => hk.2) (.int .i64 a0_2)) (fun _ hk => hk.2) (.int .i64 a0_3)) (fun _ hk => hk.2) (.slice Ao14 t741.length co14)) (fun _ hk => hk.2) (.int .i64 a0_5)) (fun _ hk => hk.2) (.slice Ao18 t744.length co18)) (fun _ hk => hk.2) (.slice Ao22 t747.length co22)) (fun _ hk => trivial), bz⟩

set_option linter.unusedVariables false
set_option linter.unusedSimpArgs false

def laws_toSectionS.l0 : Nat → List (S191) → List (S130) → Int → Option ((List (S130)))
 | 0, _, _, _ => none
 | k + 1, x0, x3, x4 => if x4 < (x0.length : Int) then (if 0 ≤ x4 then ((laws_toSection.f k ((rd_T191 x0 x4).f0) ((rd_T191 x0 x4).f1) ((rd_T191 x0 x4).f2) ((rd_T191 x0 x4).f3) ((rd_T191 x0 x4).f4) ((rd_T191 x0 x4).f5) ((rd_T191 x0 x4).f6) ((rd_T191 x0 x4).f7)).bind fun bt754 => (if x4 < (x3.length : Int) then (laws_toSectionS.l0 k x0 (x3.set (x4 : Int).toNat (⟨bt754.1, bt754.2.1, bt754.2.2.1, bt754.2.2.2.1, bt754.2.2.2.2.1, bt754.2.2.2.2.2.1, bt754.2.2.2.2.2.2.1, bt754.2.2.2.2.2.2.2⟩ : S130)) (wrap64 (x4 + 1))) else (none))) else (none)) else (some x3)
def laws_toSectionS.f (k : Nat) (l0 : List (S191)) : Option ((List (S130))) := if 0 ≤ (l0.length : Int) then (if ((l0.length : Int) : Int).toNat ≤ 2345624805922 then (laws_toSectionS.l0 k l0 (List.replicate ((l0.length : Int) : Int).toNat z130) 0) else (none)) else (none)
set_option maxHeartbeats 8000000 in
set_option maxRecDepth 100000 in
theorem laws_toSectionS.calls (k : Nat) (A0 : Option Addr) (c0 : Nat) (l0 : List (S191)) (r : List (S130)) (w : World) (hr0 : Kd.C k191 w A0 l0.length l0) (hc0 : l0.length ≤ c0) (h : laws_toSectionS.f k l0 = some r) :
 Calls Try.prog 99 #[.slice A0 l0.length c0] w fun e w' => ∃ v0_ : Value, e = .returned (v0_) ∧ Kd.S k130 130 w' w.heap.size (fun _ => True) v0_ r ∧ Below w.heap.size w w' := by
 have hu191 := Try.underlying191
 have hu130 := Try.underlying130
 have HR0 := Aside0.mk hr0
 have HC0 := Aside0.mk hc0
 clear hr0 hc0
 have HB := Aside0.mk (Below.refl w.heap.size w)
 have H : (if 0 ≤ (l0.length : Int) then (if ((l0.length : Int) : Int).toNat ≤ 2345624805922 then (laws_toSectionS.l0 k l0 (List.replicate ((l0.length : Int) : Int).toNat z130) 0) else (none)) else (none)) = some r := h
 clear h
 by_cases c2 : 0 ≤ (l0.length : Int)
 · rw [if_pos c2] at H
   have c2b0 := eq_true c2
   have c2b1 : decide (0 ≤ (l0.length : Int)) = true := decide_eq_true c2
   clear c2
   by_cases c3 : ((l0.length : Int) : Int).toNat ≤ 2345624805922
   · rw [if_pos c3] at H
     have c3b0 := eq_true c3
     have c3b1 : decide (((l0.length : Int) : Int).toNat ≤ 2345624805922) = true := decide_eq_true c3
     clear c3
     obtain ⟨y750, hy750⟩ : ∃ y_ : List (S130), y_ = (List.replicate ((l0.length : Int) : Int).toNat z130) := ⟨_, rfl⟩
     replace H : (laws_toSectionS.l0 k l0 y750 0) = some r := by first | (rw [hy750]; with_reducible exact H) | (have H2_ := (Option.bind_some _ _).symm.trans H; rw [hy750]; with_reducible exact H2_) | (have H2_ := (Option.bind_some _ _).symm.trans H; with_reducible exact H2_) | with_reducible exact H | (rw [hy750]; exact H) | exact H
     have Ny750 := Aside0.mk hy750
     clear hy750
     have H' := Aside0.mk H
     clear H
     go_enter Try.func99, Try.ntmps99
     go_wp2_with (first | ((with_reducible refine gate_dst (N := 7) rfl ?_); refine Kd.S_make k130 _ 130 rfl (N := 7) rfl 66 _ _ rfl (l0.length : Int) rfl rfl Try.underlying66 (.agg #[(.string ⟨#[]⟩), (.int .i64 0), (.int .i64 0), (.int .i64 0), (.slice none 0 0), (.int .i64 0), (.slice none 0 0), (.slice none 0 0)]) 120 info130 rfl (by decide) (by omega) z130 (ok := fun _ => True) (okp := fun _ => True) (k130_mkM _ _ _ z130 (Kd.R_nil _ _ _ _ _) (Kd.R_nil _ _ _ _ _) (Kd.R_nil _ _ _ _ _)) (fun _ hk => hk) trivial (of_decide_eq_true az) (Nat.le_trans (Nat.mul_le_mul_right _ (of_decide_eq_true az : (l0.length : Int).toNat ≤ 2345624805922)) (by omega)) (Below.refl _ _) (Nat.le_refl _) ?_; intro v751 w4 ho5 hb hg_ hnew_; clear hg_ hnew_; (first | rw [← Ny750.out] at ho5 | (simp only [Int.reduceToNat] at ho5; rw [← Ny750.out] at ho5)); have n0_ := Aside0.mk (Kd.S_lower ho5 (below_size bz)); have n1_ := Aside0.mk (below_step bz hb); clear HB; have HO752 := n0_; have HB := n1_; clear n0_ n1_; clear hb ho5))
     go_loopg [4] k (fun kq v4 w' => ∃ (x3_1 : List (S130)) (x4_1 : Int), v4 = .int .i64 x4_1 ∧ Aside0 (laws_toSectionS.l0 kq l0 x3_1 x4_1 = some r) ∧ Aside0 (kq ≤ k) ∧ Aside0 (Kd.S k130 130 w' w.heap.size (fun _ => True) v751 x3_1) ∧ Aside0 (Below w.heap.size w w'))
     case atStart => exact ⟨(y750), (0), sz_, H', ⟨Nat.le_refl _⟩, ⟨by (with_reducible repeat (first | apply Kd.S_alloc | apply Kd.S_drewN | apply Kd.S_drew)); exact HO752.out⟩, ⟨ bz⟩⟩
     case round =>
      clear H'
      try clear c2
      try clear c2b0
      try clear c2b1
      try clear p2
      try clear c3
      try clear c3b0
      try clear c3b1
      obtain ⟨x3_1, x4_1, rfl, HA, HK1, HO_3, HB⟩ := hrel
      cases gk with
      | zero => exact absurd HA.out (by simp [laws_toSectionS.l0])
      | succ k1 =>
       have H := HA.out
       clear HA
       simp only [laws_toSectionS.l0] at H
       by_cases c6 : x4_1 < (l0.length : Int)
       · rw [if_pos c6] at H
         have c6b0 : decide (x4_1 < (l0.length : Int)) = true := decide_eq_true c6
         clear c6
         by_cases c7 : 0 ≤ x4_1
         · rw [if_pos c7] at H
           have c7b0 : decide (0 ≤ x4_1) = true := decide_eq_true c7
           clear c7
           replace H := Option.bind_eq_some_iff.mp H
           obtain ⟨⟨t754, t755, t756, t757, t758, t761, t762, t765⟩, A80, H⟩ := H
           replace H : (if x4_1 < (x3_1.length : Int) then (laws_toSectionS.l0 k1 l0 (x3_1.set (x4_1 : Int).toNat (⟨t754, t755, t756, t757, t758, t761, t762, t765⟩ : S130)) (wrap64 (x4_1 + 1))) else (none)) = some r := H
           have A8 := Aside0.mk A80
           clear A80
           by_cases c9 : x4_1 < (x3_1.length : Int)
           · rw [if_pos c9] at H
             have c9b0 : decide (x4_1 < (x3_1.length : Int)) = true := decide_eq_true c9
             clear c9
             obtain ⟨y768, hy768⟩ : ∃ y_ : List (S130), y_ = (x3_1.set (x4_1 : Int).toNat (⟨t754, t755, t756, t757, t758, t761, t762, t765⟩ : S130)) := ⟨_, rfl⟩
             replace H : (laws_toSectionS.l0 k1 l0 y768 (wrap64 (x4_1 + 1))) = some r := by first | (rw [hy768]; with_reducible exact H) | (have H2_ := (Option.bind_some _ _).symm.trans H; rw [hy768]; with_reducible exact H2_) | (have H2_ := (Option.bind_some _ _).symm.trans H; with_reducible exact H2_) | with_reducible exact H | (rw [hy768]; exact H) | exact H
             have Ny768 := Aside0.mk hy768
             clear hy768
             have H' := Aside0.mk H
             clear H
             have p753 : 0 ≤ (x4_1 : Int) := of_decide_eq_true az
             have q753 : x4_1 < (l0.length : Int) := of_decide_eq_true az
             obtain ⟨ad753, A753_4, c753_4, A753_6, c753_6, A753_7, c753_7, e753, hx753_0, hx753_1, hx753_2, hx753_3, hx753_4, hx753_5, hx753_6, hx753_7, hl753_4, hi753_4, hl753_6, hi753_6, hl753_7, hi753_7⟩ := at_T191 HR0.out x4_1 p753 q753
             cases e753
             replace hx753_0 := ck HB hx753_0
             replace hx753_1 := ck HB hx753_1
             replace hx753_2 := ck HB hx753_2
             replace hx753_3 := ck HB hx753_3
             replace hx753_4 := ck HB hx753_4
             replace hx753_5 := ck HB hx753_5
             replace hx753_6 := ck HB hx753_6
             replace hx753_7 := ck HB hx753_7
             have HR753_4 := Aside0.mk hi753_4
             have HC753_4 := Aside0.mk hl753_4
             clear hi753_4 hl753_4
             have HR753_6 := Aside0.mk hi753_6
             have HC753_6 := Aside0.mk hl753_6
             clear hi753_6 hl753_6
             have HR753_7 := Aside0.mk hi753_7
             have HC753_7 := Aside0.mk hl753_7
             clear hi753_7 hl753_7
             replace p753 := eq_true p753
             replace q753 := eq_true q753
             go_wp2_with (first | ((with_reducible refine gate_callee (f := 143) rfl ?_); refine goesL_ (some 20) rfl rfl Try.func143 (by kernel_rfl) rfl #[.agg #[.string ((rd_T191 l0 x4_1).f0), .int .i64 ((rd_T191 l0 x4_1).f1), .int .i64 ((rd_T191 l0 x4_1).f2), .int .i64 ((rd_T191 l0 x4_1).f3), .slice A753_4 ((rd_T191 l0 x4_1).f4).length c753_4, .int .i64 ((rd_T191 l0 x4_1).f5), .slice A753_6 ((rd_T191 l0 x4_1).f6).length c753_6, .slice A753_7 ((rd_T191 l0 x4_1).f7).length c753_7]] rfl lz ?_; (with_reducible refine (laws_toSection.calls k1 ((rd_T191 l0 x4_1).f0) ((rd_T191 l0 x4_1).f1) ((rd_T191 l0 x4_1).f2) ((rd_T191 l0 x4_1).f3) _ _ ((rd_T191 l0 x4_1).f4) ((rd_T191 l0 x4_1).f5) _ _ ((rd_T191 l0 x4_1).f6) _ _ ((rd_T191 l0 x4_1).f7) t754 t755 t756 t757 t758 t761 t762 t765 _ ?side1 ?side2 ?side3 ?side4 ?side5 ?side6 A8.out).mono ?_); (case side1 => exact cz HR753_4.out); (case side2 => exact HC753_4.out); (case side3 => exact cz HR753_6.out); (case side4 => exact HC753_6.out); (case side5 => exact cz HR753_7.out); (case side6 => exact HC753_7.out); rintro e w11 ⟨v759, v763, v766, rfl, ho0, ho1, ho2, hb⟩; refine ⟨_, rfl, ?_⟩; have n0_ := Aside0.mk (Kd.S_mono (Kd.S_told (Kd.S_told (Kd.S_told (Kd.S_old (rs HO_3.out) hb) (Kd.R_base ho0)) (Kd.R_base ho1)) (Kd.R_base ho2)) (fun _ h_ => h_.1)); have n1_ := Aside0.mk (Kd.R_lower ho0 (below_size bz)); have n2_ := Aside0.mk (Kd.R_lower ho1 (below_size bz)); have n3_ := Aside0.mk (Kd.R_lower ho2 (below_size bz)); have n4_ := Aside0.mk (below_step bz hb); clear HO_3; clear HB; have HO_3 := n0_; have HO760 := n1_; have HO764 := n2_; have HO767 := n3_; have HB := n4_; clear n0_ n1_ n2_ n3_ n4_; (try clear hb); (try clear hb2); (try clear hk); (try clear hi); (try clear ho0); (try clear ho1); (try clear ho2); have p10 : 0 ≤ (x4_1 : Int) := of_decide_eq_true az; have q10 : (x4_1 : Int) < ((x3_1.length : Int) : Int) := of_decide_eq_true az; obtain ⟨go10, co10, eo10, gb10, gl10, cl10, HG10⟩ := Kd.S_form HO_3.out (by omega); (first | cases eo10 | (injection eo10 with ea_ en_ ec_; (first | subst ea_ | (injection ea_ with ea_; subst ea_)); subst ec_; clear en_)); have GB10 := Aside0.mk gb10; have GG10 := Aside0.mk HG10; clear gb10 gl10 HG10; obtain ⟨_, ce10, hcl10, hM10, hcc10, hfr10, _, _⟩ := Kd.S_elem HO_3.out z130 (x4_1 : Int) p10 q10; obtain ⟨ve10_4, ve10_6, ve10_7, rfl, ge10_4, ge10_6, ge10_7⟩ := k130_openM hM10; have hx10_0 : w11.cell? ⟨go10, (x4_1 : Int).toNat * 8, none⟩ = some (.string ((rd_T130 x3_1 x4_1).f0)) := hcc10 0 _ rfl; have hx10_1 : w11.cell? ⟨go10, (x4_1 : Int).toNat * 8 + 1, none⟩ = some (.int .i64 ((rd_T130 x3_1 x4_1).f1)) := hcc10 1 _ rfl; have hx10_2 : w11.cell? ⟨go10, (x4_1 : Int).toNat * 8 + 2, none⟩ = some (.int .i64 ((rd_T130 x3_1 x4_1).f2)) := hcc10 2 _ rfl; have hx10_3 : w11.cell? ⟨go10, (x4_1 : Int).toNat * 8 + 3, none⟩ = some (.int .i64 ((rd_T130 x3_1 x4_1).f3)) := hcc10 3 _ rfl; have hx10_4 : w11.cell? ⟨go10, (x4_1 : Int).toNat * 8 + 4, none⟩ = some (ve10_4) := hcc10 4 _ rfl; have hx10_5 : w11.cell? ⟨go10, (x4_1 : Int).toNat * 8 + 5, none⟩ = some (.int .i64 ((rd_T130 x3_1 x4_1).f5)) := hcc10 5 _ rfl; have hx10_6 : w11.cell? ⟨go10, (x4_1 : Int).toNat * 8 + 6, none⟩ = some (ve10_6) := hcc10 6 _ rfl; have hx10_7 : w11.cell? ⟨go10, (x4_1 : Int).toNat * 8 + 7, none⟩ = some (ve10_7) := hcc10 7 _ rfl; have hf10_0 : w11.frozen? ⟨go10, (x4_1 : Int).toNat * 8, none⟩ = false := hfr10 0; have hf10_1 : w11.frozen? ⟨go10, (x4_1 : Int).toNat * 8 + 1, none⟩ = false := hfr10 1; have hf10_2 : w11.frozen? ⟨go10, (x4_1 : Int).toNat * 8 + 2, none⟩ = false := hfr10 2; have hf10_3 : w11.frozen? ⟨go10, (x4_1 : Int).toNat * 8 + 3, none⟩ = false := hfr10 3; have hf10_4 : w11.frozen? ⟨go10, (x4_1 : Int).toNat * 8 + 4, none⟩ = false := hfr10 4; have hf10_5 : w11.frozen? ⟨go10, (x4_1 : Int).toNat * 8 + 5, none⟩ = false := hfr10 5; have hf10_6 : w11.frozen? ⟨go10, (x4_1 : Int).toNat * 8 + 6, none⟩ = false := hfr10 6; have hf10_7 : w11.frozen? ⟨go10, (x4_1 : Int).toNat * 8 + 7, none⟩ = false := hfr10 7; clear hcl10 hcc10 hfr10 hM10; replace p10 := eq_true p10; replace q10 := eq_true q10; have n_ := Aside0.mk (Kd.S_mono (ok' := (fun k_ => some k_ ≠ (v759 : Value).ownBlock ∧ some k_ ≠ (v763 : Value).ownBlock ∧ some k_ ≠ (v766 : Value).ownBlock)) HO_3.out (fun k_ hk => ⟨hk.1.1.2, ⟨hk.1.2, hk.2⟩⟩)); clear HO_3; have HO_3 := n_; clear n_; have HX12 := Aside0.mk (show Kd.S k130 130 w11 w.heap.size (fun k_ => ((fun _ => True)) k_ ∧ ¬ ((fun k_ => some k_ = (v759 : Value).ownBlock ∨ some k_ = (v763 : Value).ownBlock ∨ some k_ = (v766 : Value).ownBlock)) k_) (.slice (some ⟨go10, 0, none⟩) x3_1.length co10) x3_1 from (by (with_reducible repeat (first | apply Kd.S_alloc | apply Kd.S_drewN | apply Kd.S_drew)); exact Kd.S_mono HO_3.out (fun k_ hk => ⟨trivial, fun e_ => e_.elim (fun h_ => hk.1 h_) (fun h_ => h_.elim (fun h_ => hk.2.1 h_) (fun h_ => hk.2.2 h_))⟩))); obtain ⟨oki12, ce12, hcl12, hM12, hcc12, hfr12, hoki12, hH12⟩ := Kd.S_elem HX12.out z130 (x4_1 : Int) (of_decide_eq_true az) (by have h_ : (x4_1 : Int) < ((x3_1.length : Int) : Int) := of_decide_eq_true az; first | exact h_ | (have e_ := (Kd.S_reads' HO_3.out).1; omega) | simpa using h_); obtain ⟨ve12_4, ve12_6, ve12_7, rfl, ge12_4, ge12_6, ge12_7⟩ := k130_openM hM12; have HP12 := Kd.S_seg hH12 (of_decide_eq_true az) (by have h_ : (x4_1 : Int) < ((x3_1.length : Int) : Int) := of_decide_eq_true az; first | exact h_ | (have e_ := (Kd.S_reads' HO_3.out).1; omega) | simpa using h_) (seg := [.string t754, .int .i64 t755, .int .i64 t756, .int .i64 t757, v759, .int .i64 t761, v763, v766]) (j := 0) (show 8 ≤ 8 from by decide) (x' := (⟨t754, t755, t756, t757, t758, t761, t762, t765⟩ : S130)) (k130_mkM _ _ _ (⟨t754, t755, t756, t757, t758, t761, t762, t765⟩ : S130) (Kd.R_mono (Kd.R_tight rfl (Kd.R_mono (ok' := fun k_ => ((fun _ => True)) k_ ∧ k_ ≠ go10) (Kd.R_apart' (HO760.out) (Kd.S_typed HO_3.out) (by decide)) (fun k_ hk => ⟨trivial, fun e_ => (hk.2) (by rw [e_]; rfl)⟩))) (fun _ h_ => Or.inr (Or.inl h_))) (Kd.R_mono (Kd.R_tight rfl (Kd.R_mono (ok' := fun k_ => ((fun _ => True)) k_ ∧ k_ ≠ go10) (Kd.R_apart' (HO764.out) (Kd.S_typed HO_3.out) (by decide)) (fun k_ hk => ⟨trivial, fun e_ => (hk.2) (by rw [e_]; rfl)⟩))) (fun _ h_ => Or.inr (Or.inr (Or.inl h_)))) (Kd.R_mono (Kd.R_tight rfl (Kd.R_mono (ok' := fun k_ => ((fun _ => True)) k_ ∧ k_ ≠ go10) (Kd.R_apart' (HO767.out) (Kd.S_typed HO_3.out) (by decide)) (fun k_ hk => ⟨trivial, fun e_ => (hk.2) (by rw [e_]; rfl)⟩))) (fun _ h_ => Or.inr (Or.inr (Or.inr (h_)))))) (fun _ hk => hk) (fun k_ hk_ => hk_.elim (fun h_ => ((Kd.R_mono (ok' := fun k_ => ((fun _ => True)) k_ ∧ k_ ≠ go10) (Kd.R_apart' (HO760.out) (Kd.S_typed HO_3.out) (by decide)) (fun k_ hk => ⟨trivial, fun e_ => (hk.2) (by rw [e_]; rfl)⟩))).1 k_ h_.symm) (fun h_ => h_.elim (fun h_ => ((Kd.R_mono (ok' := fun k_ => ((fun _ => True)) k_ ∧ k_ ≠ go10) (Kd.R_apart' (HO764.out) (Kd.S_typed HO_3.out) (by decide)) (fun k_ hk => ⟨trivial, fun e_ => (hk.2) (by rw [e_]; rfl)⟩))).1 k_ h_.symm) (fun h_ => ((Kd.R_mono (ok' := fun k_ => ((fun _ => True)) k_ ∧ k_ ≠ go10) (Kd.R_apart' (HO767.out) (Kd.S_typed HO_3.out) (by decide)) (fun k_ hk => ⟨trivial, fun e_ => (hk.2) (by rw [e_]; rfl)⟩))).1 k_ h_.symm))); have hx12_0 := hcc12 0 _ rfl; (try simp only [show (k130).sz = 8 from rfl, Nat.mul_one, Nat.add_zero] at hx12_0); have hf12_0 := hfr12 0; (try simp only [show (k130).sz = 8 from rfl, Nat.mul_one, Nat.add_zero] at hf12_0); have hx12_1 := hcc12 1 _ rfl; (try simp only [show (k130).sz = 8 from rfl, Nat.mul_one, Nat.add_zero] at hx12_1); have hf12_1 := hfr12 1; (try simp only [show (k130).sz = 8 from rfl, Nat.mul_one, Nat.add_zero] at hf12_1); have hx12_2 := hcc12 2 _ rfl; (try simp only [show (k130).sz = 8 from rfl, Nat.mul_one, Nat.add_zero] at hx12_2); have hf12_2 := hfr12 2; (try simp only [show (k130).sz = 8 from rfl, Nat.mul_one, Nat.add_zero] at hf12_2); have hx12_3 := hcc12 3 _ rfl; (try simp only [show (k130).sz = 8 from rfl, Nat.mul_one, Nat.add_zero] at hx12_3); have hf12_3 := hfr12 3; (try simp only [show (k130).sz = 8 from rfl, Nat.mul_one, Nat.add_zero] at hf12_3); have hx12_4 := hcc12 4 _ rfl; (try simp only [show (k130).sz = 8 from rfl, Nat.mul_one, Nat.add_zero] at hx12_4); have hf12_4 := hfr12 4; (try simp only [show (k130).sz = 8 from rfl, Nat.mul_one, Nat.add_zero] at hf12_4); have hx12_5 := hcc12 5 _ rfl; (try simp only [show (k130).sz = 8 from rfl, Nat.mul_one, Nat.add_zero] at hx12_5); have hf12_5 := hfr12 5; (try simp only [show (k130).sz = 8 from rfl, Nat.mul_one, Nat.add_zero] at hf12_5); have hx12_6 := hcc12 6 _ rfl; (try simp only [show (k130).sz = 8 from rfl, Nat.mul_one, Nat.add_zero] at hx12_6); have hf12_6 := hfr12 6; (try simp only [show (k130).sz = 8 from rfl, Nat.mul_one, Nat.add_zero] at hf12_6); have hx12_7 := hcc12 7 _ rfl; (try simp only [show (k130).sz = 8 from rfl, Nat.mul_one, Nat.add_zero] at hx12_7); have hf12_7 := hfr12 7; (try simp only [show (k130).sz = 8 from rfl, Nat.mul_one, Nat.add_zero] at hf12_7); clear hcl12 hcc12 hfr12 hM12 hoki12 hH12) | ((with_reducible refine gate_store (t := 130) (p := 21) rfl ?_); (try have st12_4 := fun (a_ : Addr) (m_ : Mode) (W_ : World) => run_store Try.prog W_ a_ v759 m_ (Kd.R_val HO760.out).2); (try have st12_6 := fun (a_ : Addr) (m_ : Mode) (W_ : World) => run_store Try.prog W_ a_ v763 m_ (Kd.R_val HO764.out).2); (try have st12_7 := fun (a_ : Addr) (m_ : Mode) (W_ : World) => run_store Try.prog W_ a_ v766 m_ (Kd.R_val HO767.out).2); refine store_event (t := 130) (p := 21) (v := ?vo_w13) (w1 := ((((((((w11.setCell ⟨go10, (x4_1 : Int).toNat * 8, none⟩ (.string t754)).setCell ⟨go10, (x4_1 : Int).toNat * 8 + 1, none⟩ (.int .i64 t755)).setCell ⟨go10, (x4_1 : Int).toNat * 8 + 2, none⟩ (.int .i64 t756)).setCell ⟨go10, (x4_1 : Int).toNat * 8 + 3, none⟩ (.int .i64 t757)).setCell ⟨go10, (x4_1 : Int).toNat * 8 + 4, none⟩ (v759)).setCell ⟨go10, (x4_1 : Int).toNat * 8 + 5, none⟩ (.int .i64 t761)).setCell ⟨go10, (x4_1 : Int).toNat * 8 + 6, none⟩ (v763)).setCell ⟨go10, (x4_1 : Int).toNat * 8 + 7, none⟩ (v766))) ?hg ?ho ?hn ?hr ?_; (case ho => rfl); (case hg => rfl); (case hn => rfl); (case hr => first | (go_simp; done) | (go_simp; rfl)); intro w13 hw; have hg : w11.grownBy w13 (some go10) := (by rw [hw]; exact HP12.2); have hp_ : Kd.S k130 130 w13 w.heap.size (fun _ => True) (.slice (some ⟨go10, 0, none⟩) x3_1.length co10) y768 := (by rw [hw, Ny768.out]; exact HP12.1); clear HP12; (try clear st12_4); (try clear st12_6); (try clear st12_7); have n0_ := Aside0.mk (hp_); have n1_ := Aside0.mk ((by rw [hw]; exact below_set (below_set (below_set (below_set (below_set (below_set (below_set (below_set (HB.out) GB10.out) GB10.out) GB10.out) GB10.out) GB10.out) GB10.out) GB10.out) GB10.out : Below w.heap.size w w13)); clear HO_3; clear HB; clear HO760; clear HO764; clear HO767; have HO_3 := n0_; have HB := n1_; clear n0_ n1_; clear hg hw hp_))
             go_roundg k1
             case measure => have := HK1.out; omega
             case rel => exact ⟨(y768), (wrap64 (x4_1 + 1)), sz_, H', ⟨by have := HK1.out; omega⟩, ⟨by (with_reducible repeat (first | apply Kd.S_alloc | apply Kd.S_drewN | apply Kd.S_drew)); exact HO_3.out⟩, ⟨ bz⟩⟩
           · rw [if_neg c9] at H
             exact absurd H (by simp)
         · rw [if_neg c7] at H
           exact absurd H (by simp)
       · rw [if_neg c6] at H
         have c6b0 : decide (x4_1 < (l0.length : Int)) = false := decide_eq_false c6
         clear c6
         obtain rfl := Option.some.inj H
         go_wp2
         go_ret
         exact ⟨_, by first | rfl | (simp [errW_none, errW_some] <;> rfl) | (simp [*, errW_none, errW_some] <;> rfl), by (with_reducible repeat (first | apply Kd.S_alloc | apply Kd.S_drewN | apply Kd.S_drew)); exact HO_3.out, bz⟩
   · rw [if_neg c3] at H
     exact absurd H (by simp)
 · rw [if_neg c2] at H
   exact absurd H (by simp)

set_option linter.unusedVariables false
set_option linter.unusedSimpArgs false

def laws_toObject.f (k : Nat) (l0_0 : List (S191)) : Option ((List (S130))) := (laws_toSectionS.f k l0_0).bind fun t772 => (some t772)
set_option maxHeartbeats 8000000 in
set_option maxRecDepth 100000 in
theorem laws_toObject.calls (k : Nat) (A0_0 : Option Addr) (c0_0 : Nat) (l0_0 : List (S191)) (r : List (S130)) (w : World) (hr0_0 : Kd.C k191 w A0_0 l0_0.length l0_0) (hc0_0 : l0_0.length ≤ c0_0) (h : laws_toObject.f k l0_0 = some r) :
 Calls Try.prog 46 #[.agg #[.slice A0_0 l0_0.length c0_0]] w fun e w' => ∃ v0_ : Value, e = .returned (.agg #[v0_]) ∧ Kd.S k130 130 w' w.heap.size (fun _ => True) v0_ r ∧ Below w.heap.size w w' := by
 have hu63 := Try.underlying63
 have hu68 := Try.underlying68
 have HR0_0 := Aside0.mk hr0_0
 have HC0_0 := Aside0.mk hc0_0
 clear hr0_0 hc0_0
 have HB := Aside0.mk (Below.refl w.heap.size w)
 have H : ((laws_toSectionS.f k l0_0).bind fun t772 => (some t772)) = some r := h
 clear h
 replace H := Option.bind_eq_some_iff.mp H
 obtain ⟨t772, A20, H⟩ := H
 replace H : (some t772) = some r := H
 have A2 := Aside0.mk A20
 clear A20
 obtain rfl := Option.some.inj H
 go_enter Try.func46, Try.ntmps46
 go_wp2_with (first | ((with_reducible refine gate_dst (N := 1) rfl ?_); refine box_event ?hg (N := 1) ?hd (cs := #[.slice A0_0 l0_0.length c0_0]) (t := 63) ?hr ?_; (case hd => rfl); (case hg => rfl); (case hr => first | (go_simp; done) | (go_simp; rfl)); intro gb769 hg w3 hbox hb; have n0_ := Aside0.mk (below_step bz hb); have n1_ := Aside0.mk (hbox); have n2_ := Aside0.mk ((by rw [hg]; exact (below_size bz) : w.heap.size ≤ gb769)); have n3_ := Aside0.mk ((by rw [hg]; exact (below_size bz) : w.heap.size ≤ gb769)); clear HB; have HB := n0_; have BK769 := n1_; have GW769 := n2_; have GE769 := n3_; clear n0_ n1_ n2_ n3_; clear hb hbox hg) | ((with_reducible refine gate_dst (N := 2) rfl ?_); refine box_event ?hg (N := 2) ?hd (cs := #[.slice none 0 0]) (t := 68) ?hr ?_; (case hd => rfl); (case hg => rfl); (case hr => first | (go_simp; done) | (go_simp; rfl)); intro gb770 hg w4 hbox hb; have n0_ := Aside0.mk (blk_below (g := gb769) (o := .cells #[.slice A0_0 l0_0.length c0_0] 63 (0, 0)) kz hb); have n1_ := Aside0.mk (below_step bz hb); have n2_ := Aside0.mk (hbox); have n3_ := Aside0.mk ((by rw [hg]; exact (below_size bz) : w.heap.size ≤ gb770)); have n4_ := Aside0.mk ((by rw [hg]; exact (below_size bz) : w.heap.size ≤ gb770)); have n5_ := Aside0.mk ((by rw [hg]; exact Nat.ne_of_lt (blk_lt (g := gb769) (o := .cells #[.slice A0_0 l0_0.length c0_0] 63 (0, 0)) kz) : gb769 ≠ gb770)); have n6_ := Aside0.mk ((by rw [hg]; exact Nat.ne_of_gt (blk_lt (g := gb769) (o := .cells #[.slice A0_0 l0_0.length c0_0] 63 (0, 0)) kz) : gb770 ≠ gb769)); clear BK769; clear HB; have BK769 := n0_; have HB := n1_; have BK770 := n2_; have GW770 := n3_; have GE770 := n4_; have NB769_770 := n5_; have NB770_769 := n6_; clear n0_ n1_ n2_ n3_ n4_ n5_ n6_; clear hb hbox hg) | ((with_reducible refine gate_dst (N := 3) rfl ?_); refine box_event ?hg (N := 3) ?hd (cs := #[.slice none 0 0]) (t := 68) ?hr ?_; (case hd => rfl); (case hg => rfl); (case hr => first | (go_simp; done) | (go_simp; rfl)); intro gb771 hg w5 hbox hb; have n0_ := Aside0.mk (blk_below (g := gb769) (o := .cells #[.slice A0_0 l0_0.length c0_0] 63 (0, 0)) kz hb); have n1_ := Aside0.mk (blk_below (g := gb770) (o := .cells #[.slice none 0 0] 68 (0, 0)) kz hb); have n2_ := Aside0.mk (below_step bz hb); have n3_ := Aside0.mk (hbox); have n4_ := Aside0.mk ((by rw [hg]; exact (below_size bz) : w.heap.size ≤ gb771)); have n5_ := Aside0.mk ((by rw [hg]; exact (below_size bz) : w.heap.size ≤ gb771)); have n6_ := Aside0.mk ((by rw [hg]; exact Nat.ne_of_lt (blk_lt (g := gb769) (o := .cells #[.slice A0_0 l0_0.length c0_0] 63 (0, 0)) kz) : gb769 ≠ gb771)); have n7_ := Aside0.mk ((by rw [hg]; exact Nat.ne_of_gt (blk_lt (g := gb769) (o := .cells #[.slice A0_0 l0_0.length c0_0] 63 (0, 0)) kz) : gb771 ≠ gb769)); have n8_ := Aside0.mk ((by rw [hg]; exact Nat.ne_of_lt (blk_lt (g := gb770) (o := .cells #[.slice none 0 0] 68 (0, 0)) kz) : gb770 ≠ gb771)); have n9_ := Aside0.mk ((by rw [hg]; exact Nat.ne_of_gt (blk_lt (g := gb770) (o := .cells #[.slice none 0 0] 68 (0, 0)) kz) : gb771 ≠ gb770)); clear BK769; clear BK770; clear HB; have BK769 := n0_; have BK770 := n1_; have HB := n2_; have BK771 := n3_; have GW771 := n4_; have GE771 := n5_; have NB769_771 := n6_; have NB771_769 := n7_; have NB770_771 := n8_; have NB771_770 := n9_; clear n0_ n1_ n2_ n3_ n4_ n5_ n6_ n7_ n8_ n9_; clear hb hbox hg; have hnb6 := NB769_770.out; have hnc6 := NB770_769.out; have hnb7 := NB769_771.out; have hnc7 := NB771_769.out; have hcz8_0 : w5.cell? ⟨gb769, 0, none⟩ = some (.slice A0_0 l0_0.length c0_0) := (blk_cell BK769.out 0).trans rfl; have hfz8_0 := blk_frozen BK769.out 0) | ((with_reducible refine gate_callee (f := 99) rfl ?_); refine goesL_ (some 6) rfl rfl Try.func99 (by kernel_rfl) rfl #[.slice A0_0 l0_0.length c0_0] rfl lz ?_; (with_reducible refine (laws_toSectionS.calls k _ _ l0_0 t772 _ ?side1 ?side2 A2.out).mono ?_); (case side1 => exact cz HR0_0.out); (case side2 => exact HC0_0.out); rintro e w9 ⟨v773, rfl, ho0, hb⟩; refine ⟨_, rfl, ?_⟩; have n0_ := Aside0.mk (Kd.S_lower ho0 (below_size bz)); have n1_ := Aside0.mk (blk_below (g := gb769) (o := .cells #[.slice A0_0 l0_0.length c0_0] 63 (0, 0)) kz hb); have n2_ := Aside0.mk (blk_below (g := gb770) (o := .cells #[.slice none 0 0] 68 (0, 0)) kz hb); have n3_ := Aside0.mk (blk_below (g := gb771) (o := .cells #[.slice none 0 0] 68 (0, 0)) kz hb); have n4_ := Aside0.mk (below_step bz hb); clear BK769; clear BK770; clear BK771; clear HB; have HO774 := n0_; have BK769 := n1_; have BK770 := n2_; have BK771 := n3_; have HB := n4_; clear n0_ n1_ n2_ n3_ n4_; (try clear hb); (try clear hb2); (try clear hk); (try clear hi); (try clear ho0); obtain ⟨Ao10, co10, eo10⟩ := Kd.S_slice HO774.out; subst eo10; have hnb11 := NB771_770.out; have hnc11 := NB770_771.out; have hcz12_0 : w9.cell? ⟨gb771, 0, none⟩ = some (.slice none 0 0) := (blk_cell BK771.out 0).trans rfl; have hfz12_0 := blk_frozen BK771.out 0; have hcz13_0 : w9.cell? ⟨gb770, 0, none⟩ = some (.slice none 0 0) := (blk_cell BK770.out 0).trans rfl; have hfz13_0 := blk_frozen BK770.out 0))
 refine bodyPost_ret (results_cell_row rfl _ _ gb770 68 #[.slice Ao10 t772.length co10] (0, 0) _ rfl (by (with_reducible repeat (first | refine blk_drewN ?_ _ | refine blk_drew ?_ | refine blk_alloc ?_ _)); refine blk_put (cs := #[.slice none 0 0]) ?_ 0 _ rfl; (with_reducible repeat (first | refine blk_drewN ?_ _ | refine blk_drew ?_ | refine blk_alloc ?_ _)); refine blk_far ?_ NB770_771.out _; (with_reducible repeat (first | refine blk_drewN ?_ _ | refine blk_drew ?_ | refine blk_alloc ?_ _)); exact BK770.out) Try.underlying68 rfl (by kernel_rfl)) rfl ?_
 exact ⟨_, by first | rfl | (simp [errW_none, errW_some] <;> rfl) | (simp [*, errW_none, errW_some] <;> rfl), by (with_reducible repeat (first | apply Kd.S_alloc | apply Kd.S_drewN | apply Kd.S_drew)); exact Kd.S_mono (Kd.S_far (p := ⟨gb770, 0, none⟩) (Kd.S_far (p := ⟨gb771, 0, none⟩) (Kd.S_types (Kd.S_types HO774.out BK771.out (by decide)) BK770.out (by decide)) (fun _ hk => hk.1.2) (.slice Ao10 t772.length co10)) (fun _ hk => hk.2) (.slice Ao10 t772.length co10)) (fun _ hk => trivial), bz⟩

set_option linter.unusedVariables false
set_option linter.unusedSimpArgs false

def laws_toObjectS.l0 : Nat → List (S63) → List (S68) → Int → Option ((List (S68)))
 | 0, _, _, _ => none
 | k + 1, x0, x3, x4 => if x4 < (x0.length : Int) then (if 0 ≤ x4 then ((laws_toObject.f k ((rd_T63 x0 x4).f0)).bind fun t779 => (if x4 < (x3.length : Int) then (laws_toObjectS.l0 k x0 (x3.set (x4 : Int).toNat (⟨t779⟩ : S68)) (wrap64 (x4 + 1))) else (none))) else (none)) else (some x3)
def laws_toObjectS.f (k : Nat) (l0 : List (S63)) : Option ((List (S68))) := if 0 ≤ (l0.length : Int) then (if ((l0.length : Int) : Int).toNat ≤ 11728124029610 then (laws_toObjectS.l0 k l0 (List.replicate ((l0.length : Int) : Int).toNat z68) 0) else (none)) else (none)
set_option maxHeartbeats 8000000 in
set_option maxRecDepth 100000 in
theorem laws_toObjectS.calls (k : Nat) (A0 : Option Addr) (c0 : Nat) (l0 : List (S63)) (r : List (S68)) (w : World) (hr0 : Kd.C k63 w A0 l0.length l0) (hc0 : l0.length ≤ c0) (h : laws_toObjectS.f k l0 = some r) :
 Calls Try.prog 35 #[.slice A0 l0.length c0] w fun e w' => ∃ v0_ : Value, e = .returned (v0_) ∧ Kd.R k68 68 w' w.heap.size (fun _ => True) v0_ r ∧ Below w.heap.size w w' := by
 have hu63 := Try.underlying63
 have hu68 := Try.underlying68
 have HR0 := Aside0.mk hr0
 have HC0 := Aside0.mk hc0
 clear hr0 hc0
 have HB := Aside0.mk (Below.refl w.heap.size w)
 have H : (if 0 ≤ (l0.length : Int) then (if ((l0.length : Int) : Int).toNat ≤ 11728124029610 then (laws_toObjectS.l0 k l0 (List.replicate ((l0.length : Int) : Int).toNat z68) 0) else (none)) else (none)) = some r := h
 clear h
 by_cases c2 : 0 ≤ (l0.length : Int)
 · rw [if_pos c2] at H
   have c2b0 := eq_true c2
   have c2b1 : decide (0 ≤ (l0.length : Int)) = true := decide_eq_true c2
   clear c2
   by_cases c3 : ((l0.length : Int) : Int).toNat ≤ 11728124029610
   · rw [if_pos c3] at H
     have c3b0 := eq_true c3
     have c3b1 : decide (((l0.length : Int) : Int).toNat ≤ 11728124029610) = true := decide_eq_true c3
     clear c3
     obtain ⟨y775, hy775⟩ : ∃ y_ : List (S68), y_ = (List.replicate ((l0.length : Int) : Int).toNat z68) := ⟨_, rfl⟩
     replace H : (laws_toObjectS.l0 k l0 y775 0) = some r := by first | (rw [hy775]; with_reducible exact H) | (have H2_ := (Option.bind_some _ _).symm.trans H; rw [hy775]; with_reducible exact H2_) | (have H2_ := (Option.bind_some _ _).symm.trans H; with_reducible exact H2_) | with_reducible exact H | (rw [hy775]; exact H) | exact H
     have Ny775 := Aside0.mk hy775
     clear hy775
     have H' := Aside0.mk H
     clear H
     go_enter Try.func35, Try.ntmps35
     go_wp2_with (first | ((with_reducible refine gate_dst (N := 7) rfl ?_); refine Kd.R_make k68 _ 68 rfl (N := 7) rfl 52 _ _ rfl (l0.length : Int) rfl rfl Try.underlying52 (.agg #[(.slice none 0 0)]) 24 info68 rfl (by decide) (by omega) z68 (ok := fun _ => True) (okp := fun _ => True) (k68_mkM _ _ _ z68 (Kd.R_nil _ _ _ _ _)) (fun _ hk => hk) trivial (of_decide_eq_true az) (Nat.le_trans (Nat.mul_le_mul_right _ (of_decide_eq_true az : (l0.length : Int).toNat ≤ 11728124029610)) (by omega)) (Below.refl _ _) (Nat.le_refl _) ?_; intro v776 w4 ho5 hb hg_ hnew_; clear hg_ hnew_; (first | rw [← Ny775.out] at ho5 | (simp only [Int.reduceToNat] at ho5; rw [← Ny775.out] at ho5)); have n0_ := Aside0.mk (Kd.R_lower ho5 (below_size bz)); have n1_ := Aside0.mk (below_step bz hb); clear HB; have HO777 := n0_; have HB := n1_; clear n0_ n1_; clear hb ho5))
     go_loopg [4] k (fun kq v4 w' => ∃ (x3_1 : List (S68)) (x4_1 : Int), v4 = .int .i64 x4_1 ∧ Aside0 (laws_toObjectS.l0 kq l0 x3_1 x4_1 = some r) ∧ Aside0 (kq ≤ k) ∧ Aside0 (Kd.R k68 68 w' w.heap.size (fun _ => True) v776 x3_1) ∧ Aside0 (Below w.heap.size w w'))
     case atStart => exact ⟨(y775), (0), sz_, H', ⟨Nat.le_refl _⟩, ⟨by (with_reducible repeat (first | apply Kd.R_alloc | apply Kd.R_drewN | apply Kd.R_drew)); exact HO777.out⟩, ⟨ bz⟩⟩
     case round =>
      clear H'
      try clear c2
      try clear c2b0
      try clear c2b1
      try clear p2
      try clear c3
      try clear c3b0
      try clear c3b1
      obtain ⟨x3_1, x4_1, rfl, HA, HK1, HO_3, HB⟩ := hrel
      cases gk with
      | zero => exact absurd HA.out (by simp [laws_toObjectS.l0])
      | succ k1 =>
       have H := HA.out
       clear HA
       simp only [laws_toObjectS.l0] at H
       by_cases c6 : x4_1 < (l0.length : Int)
       · rw [if_pos c6] at H
         have c6b0 : decide (x4_1 < (l0.length : Int)) = true := decide_eq_true c6
         clear c6
         by_cases c7 : 0 ≤ x4_1
         · rw [if_pos c7] at H
           have c7b0 : decide (0 ≤ x4_1) = true := decide_eq_true c7
           clear c7
           replace H := Option.bind_eq_some_iff.mp H
           obtain ⟨t779, A80, H⟩ := H
           replace H : (if x4_1 < (x3_1.length : Int) then (laws_toObjectS.l0 k1 l0 (x3_1.set (x4_1 : Int).toNat (⟨t779⟩ : S68)) (wrap64 (x4_1 + 1))) else (none)) = some r := H
           have A8 := Aside0.mk A80
           clear A80
           by_cases c9 : x4_1 < (x3_1.length : Int)
           · rw [if_pos c9] at H
             have c9b0 : decide (x4_1 < (x3_1.length : Int)) = true := decide_eq_true c9
             clear c9
             obtain ⟨y782, hy782⟩ : ∃ y_ : List (S68), y_ = (x3_1.set (x4_1 : Int).toNat (⟨t779⟩ : S68)) := ⟨_, rfl⟩
             replace H : (laws_toObjectS.l0 k1 l0 y782 (wrap64 (x4_1 + 1))) = some r := by first | (rw [hy782]; with_reducible exact H) | (have H2_ := (Option.bind_some _ _).symm.trans H; rw [hy782]; with_reducible exact H2_) | (have H2_ := (Option.bind_some _ _).symm.trans H; with_reducible exact H2_) | with_reducible exact H | (rw [hy782]; exact H) | exact H
             have Ny782 := Aside0.mk hy782
             clear hy782
             have H' := Aside0.mk H
             clear H
             have p778 : 0 ≤ (x4_1 : Int) := of_decide_eq_true az
             have q778 : x4_1 < (l0.length : Int) := of_decide_eq_true az
             obtain ⟨ad778, A778_0, c778_0, e778, hx778_0, hl778_0, hi778_0⟩ := at_T63 HR0.out x4_1 p778 q778
             cases e778
             replace hx778_0 := ck HB hx778_0
             have HR778_0 := Aside0.mk hi778_0
             have HC778_0 := Aside0.mk hl778_0
             clear hi778_0 hl778_0
             replace p778 := eq_true p778
             replace q778 := eq_true q778
             go_wp2_with (first | ((with_reducible refine gate_callee (f := 46) rfl ?_); refine goesL_ (some 20) rfl rfl Try.func46 (by kernel_rfl) rfl #[.agg #[.slice A778_0 ((rd_T63 l0 x4_1).f0).length c778_0]] rfl lz ?_; (with_reducible refine (laws_toObject.calls k1 _ _ ((rd_T63 l0 x4_1).f0) t779 _ ?side1 ?side2 A8.out).mono ?_); (case side1 => exact cz HR778_0.out); (case side2 => exact HC778_0.out); rintro e w11 ⟨v780, rfl, ho0, hb⟩; refine ⟨_, rfl, ?_⟩; have n0_ := Aside0.mk (Kd.R_elder' (rz HO_3.out) (Kd.S_base ho0) hb); have n1_ := Aside0.mk (Kd.S_lower ho0 (below_size bz)); have n2_ := Aside0.mk (below_step bz hb); clear HO_3; clear HB; have HO_3 := n0_; have HO781 := n1_; have HB := n2_; clear n0_ n1_ n2_; (try clear hb); (try clear hb2); (try clear hk); (try clear hi); (try clear ho0); have p10 : 0 ≤ (x4_1 : Int) := of_decide_eq_true az; have q10 : (x4_1 : Int) < ((x3_1.length : Int) : Int) := of_decide_eq_true az; obtain ⟨go10, co10, eo10, gb10, gl10, cl10, HG10⟩ := Kd.R_form HO_3.out (by omega); (first | cases eo10 | (injection eo10 with ea_ en_ ec_; (first | subst ea_ | (injection ea_ with ea_; subst ea_)); subst ec_; clear en_)); have GB10 := Aside0.mk gb10; have GG10 := Aside0.mk HG10; clear gb10 gl10 HG10; obtain ⟨ce10, hcl10, hM10, hcc10, hfr10⟩ := Kd.R_elem HO_3.out z68 (x4_1 : Int) p10 q10; obtain ⟨ve10_0, rfl, ge10_0⟩ := k68_openM hM10; have hx10_0 := hcc10 0 _ rfl; have hf10_0 := hfr10 0; (try simp only [show (k68).sz = 1 from rfl, Nat.mul_one, Nat.add_zero] at hx10_0); (try simp only [show (k68).sz = 1 from rfl, Nat.mul_one, Nat.add_zero] at hf10_0); clear hcl10 hcc10 hfr10 hM10; replace p10 := eq_true p10; replace q10 := eq_true q10; have n_ := Aside0.mk (Kd.R_mono (ok' := (fun k_ => some k_ ≠ (v780 : Value).ownBlock)) HO_3.out (fun k_ hk => hk.2)); clear HO_3; have HO_3 := n_; clear n_; have HX12 := Aside0.mk (show Kd.R k68 68 w11 w.heap.size (fun _ => True) (.slice (some ⟨go10, 0, none⟩) x3_1.length co10) x3_1 from (by (with_reducible repeat (first | apply Kd.R_alloc | apply Kd.R_drewN | apply Kd.R_drew)); exact Kd.R_mono HO_3.out (fun _ hk => trivial))); obtain ⟨ce12, hcl12, hM12, hcc12, hfr12⟩ := Kd.R_elem HX12.out z68 (x4_1 : Int) (of_decide_eq_true az) (by have h_ : (x4_1 : Int) < ((x3_1.length : Int) : Int) := of_decide_eq_true az; first | exact h_ | (have e_ := (Kd.R_reads' HO_3.out).1; omega) | simpa using h_); obtain ⟨ve12_0, rfl, ge12_0⟩ := k68_openM hM12; have HP12 := Kd.R_seg HX12.out (x4_1 : Int) (of_decide_eq_true az) (by have h_ : (x4_1 : Int) < ((x3_1.length : Int) : Int) := of_decide_eq_true az; first | exact h_ | (have e_ := (Kd.R_reads' HO_3.out).1; omega) | simpa using h_) (seg := [v780]) (j := 0) hcl12 hcc12 (show 1 ≤ 1 from by decide) (x' := (⟨t779⟩ : S68)) (k68_mkM _ _ _ (⟨t779⟩ : S68) (Kd.R_mono (Kd.R_apart' ((Kd.S_R HO781.out)) (Kd.R_typed HO_3.out) (by decide)) (fun k_ hk => ⟨trivial, fun e_ => (hk.2) (by rw [e_]; rfl)⟩))) (fun _ hk => hk); have hx12_0 := hcc12 0 _ rfl; (try simp only [show (k68).sz = 1 from rfl, Nat.mul_one, Nat.add_zero] at hx12_0); have hf12_0 := hfr12 0; (try simp only [show (k68).sz = 1 from rfl, Nat.mul_one, Nat.add_zero] at hf12_0); clear hcl12 hcc12 hfr12 hM12; (try simp only [show (k68).sz = 1 from rfl, Nat.mul_one, Nat.add_zero] at HP12)) | ((with_reducible refine gate_store (t := 68) (p := 21) rfl ?_); (try have st12_0 := fun (a_ : Addr) (m_ : Mode) (W_ : World) => run_store Try.prog W_ a_ v780 m_ (Kd.R_val (Kd.S_R HO781.out)).2); refine store_event (t := 68) (p := 21) (v := ?vo_w13) (w1 := (w11.setCell ⟨go10, (x4_1 : Int).toNat, none⟩ (v780))) ?hg ?ho ?hn ?hr ?_; (case ho => rfl); (case hg => rfl); (case hn => rfl); (case hr => first | (go_simp; done) | (go_simp; rfl)); intro w13 hw; have hg : w11.grownBy w13 (some go10) := (by rw [hw]; exact HP12.2); have hp_ : Kd.R k68 68 w13 w.heap.size (fun _ => True) (.slice (some ⟨go10, 0, none⟩) x3_1.length co10) y782 := (by rw [hw, Ny782.out]; exact HP12.1); clear HP12; (try clear st12_0); have n0_ := Aside0.mk (hp_); have n1_ := Aside0.mk ((by rw [hw]; exact below_set (HB.out) GB10.out : Below w.heap.size w w13)); clear HO_3; clear HB; clear HO781; have HO_3 := n0_; have HB := n1_; clear n0_ n1_; clear hg hw hp_))
             go_roundg k1
             case measure => have := HK1.out; omega
             case rel => exact ⟨(y782), (wrap64 (x4_1 + 1)), sz_, H', ⟨by have := HK1.out; omega⟩, ⟨by (with_reducible repeat (first | apply Kd.R_alloc | apply Kd.R_drewN | apply Kd.R_drew)); exact HO_3.out⟩, ⟨ bz⟩⟩
           · rw [if_neg c9] at H
             exact absurd H (by simp)
         · rw [if_neg c7] at H
           exact absurd H (by simp)
       · rw [if_neg c6] at H
         have c6b0 : decide (x4_1 < (l0.length : Int)) = false := decide_eq_false c6
         clear c6
         obtain rfl := Option.some.inj H
         go_wp2
         go_ret
         exact ⟨_, by first | rfl | (simp [errW_none, errW_some] <;> rfl) | (simp [*, errW_none, errW_some] <;> rfl), by (with_reducible repeat (first | apply Kd.R_alloc | apply Kd.R_drewN | apply Kd.R_drew)); exact HO_3.out, bz⟩
   · rw [if_neg c3] at H
     exact absurd H (by simp)
 · rw [if_neg c2] at H
   exact absurd H (by simp)

set_option linter.unusedVariables false
set_option linter.unusedSimpArgs false

def laws_eqByteS.l0 : Nat → List Int → List Int → Int → Option (Bool)
 | 0, _, _, _ => none
 | k + 1, x0, x1, x5 => if x5 < (x0.length : Int) then (if 0 ≤ x5 then (if x5 < (x1.length : Int) then (if (rd x0 x5) = (rd x1 x5) then (laws_eqByteS.l0 k x0 x1 (wrap64 (x5 + 1))) else (some false)) else (none)) else (none)) else (some true)
def laws_eqByteS.f (k : Nat) (l0 : List Int) (l1 : List Int) : Option (Bool) := if (l0.length : Int) = (l1.length : Int) then (laws_eqByteS.l0 k l0 l1 0) else (some false)
set_option maxHeartbeats 8000000 in
set_option maxRecDepth 100000 in
theorem laws_eqByteS.calls (k : Nat) (A0 : Option Addr) (c0 : Nat) (l0 : List Int) (A1 : Option Addr) (c1 : Nat) (l1 : List Int) (r : Bool) (w : World) (hr0 : Kd.C (Kd.int .u8) w A0 l0.length l0) (hc0 : l0.length ≤ c0) (hr1 : Kd.C (Kd.int .u8) w A1 l1.length l1) (hc1 : l1.length ≤ c1) (h : laws_eqByteS.f k l0 l1 = some r) :
 Calls Try.prog 53 #[.slice A0 l0.length c0, .slice A1 l1.length c1] w fun e w' => e = .returned (.bool r) ∧ Drawn0 w w' := by
 have HR0 := Aside0.mk hr0
 have HC0 := Aside0.mk hc0
 clear hr0 hc0
 have HR1 := Aside0.mk hr1
 have HC1 := Aside0.mk hc1
 clear hr1 hc1
 have H : (if (l0.length : Int) = (l1.length : Int) then (laws_eqByteS.l0 k l0 l1 0) else (some false)) = some r := h
 clear h
 by_cases c3 : (l0.length : Int) = (l1.length : Int)
 · rw [if_pos c3] at H
   have c3b0 : ((l0.length : Int) == (l1.length : Int)) = true := beq_iff_eq.mpr c3
   have c3b1 : ((l0.length : Int) != (l1.length : Int)) = false := bne_eq_false_iff_eq.mpr c3
   have c3b2 : (l0.length == l1.length) = true := by first | simpa using c3 | (simp at c3 ⊢; omega)
   clear c3
   have H' := Aside0.mk H
   clear H
   go_enter Try.func53, Try.ntmps53
   go_wp2
   repeat (go_quiet (fail); try go_wp2)
   go_loopg [5] k (fun kq v5 w' => ∃ (x5_1 : Int), v5 = .int .i64 x5_1 ∧ Aside0 (laws_eqByteS.l0 kq l0 l1 x5_1 = some r) ∧ Aside0 (kq ≤ k) ∧ Drawn0 w w')
   case atStart => exact ⟨(0), sz_, H', ⟨Nat.le_refl _⟩, by repeat (first | exact Drawn0.refl _ | apply Drawn0.step)⟩
   case round =>
    clear H'
    try clear c1
    try clear p2
    try clear c3
    try clear c3b0
    try clear c3b1
    try clear c3b2
    obtain ⟨x5_1, rfl, HA, HK1, ⟨m1, rfl⟩⟩ := hrel
    cases gk with
    | zero => exact absurd HA.out (by simp [laws_eqByteS.l0])
    | succ k1 =>
     have H := HA.out
     clear HA
     simp only [laws_eqByteS.l0] at H
     by_cases c4 : x5_1 < (l0.length : Int)
     · rw [if_pos c4] at H
       have c4b0 : decide (x5_1 < (l0.length : Int)) = true := decide_eq_true c4
       clear c4
       by_cases c5 : 0 ≤ x5_1
       · rw [if_pos c5] at H
         have c5b0 : decide (0 ≤ x5_1) = true := decide_eq_true c5
         clear c5
         by_cases c6 : x5_1 < (l1.length : Int)
         · rw [if_pos c6] at H
           have c6b0 : decide (x5_1 < (l1.length : Int)) = true := decide_eq_true c6
           clear c6
           by_cases c7 : (rd l0 x5_1) = (rd l1 x5_1)
           · rw [if_pos c7] at H
             have c7b0 : ((rd l0 x5_1) == (rd l1 x5_1)) = true := beq_iff_eq.mpr c7
             have c7b1 : ((rd l0 x5_1) != (rd l1 x5_1)) = false := bne_eq_false_iff_eq.mpr c7
             clear c7
             have H' := Aside0.mk H
             clear H
             have p788 : 0 ≤ (x5_1 : Int) := of_decide_eq_true az
             have q788 : x5_1 < (l0.length : Int) := of_decide_eq_true az
             obtain ⟨ad788, e788, hx788_0⟩ := Kd.at_int HR0.out x5_1 p788 q788
             cases e788
             replace p788 := eq_true p788
             replace q788 := eq_true q788
             have p789 : 0 ≤ (x5_1 : Int) := of_decide_eq_true az
             have q789 : x5_1 < (l1.length : Int) := of_decide_eq_true az
             obtain ⟨ad789, e789, hx789_0⟩ := Kd.at_int HR1.out x5_1 p789 q789
             cases e789
             replace p789 := eq_true p789
             replace q789 := eq_true q789
             go_wp2
             repeat (go_quiet (fail); try go_wp2)
             go_roundg k1
             case measure => have := HK1.out; omega
             case rel => exact ⟨(wrap64 (x5_1 + 1)), sz_, H', ⟨by have := HK1.out; omega⟩, by repeat (first | exact Drawn0.refl _ | apply Drawn0.step)⟩
           · rw [if_neg c7] at H
             have c7b0 : ((rd l0 x5_1) == (rd l1 x5_1)) = false := beq_eq_false_iff_ne.mpr c7
             have c7b1 : ((rd l0 x5_1) != (rd l1 x5_1)) = true := bne_iff_ne.mpr c7
             obtain rfl := Option.some.inj H
             have p788 : 0 ≤ (x5_1 : Int) := of_decide_eq_true az
             have q788 : x5_1 < (l0.length : Int) := of_decide_eq_true az
             obtain ⟨ad788, e788, hx788_0⟩ := Kd.at_int HR0.out x5_1 p788 q788
             cases e788
             replace p788 := eq_true p788
             replace q788 := eq_true q788
             have p789 : 0 ≤ (x5_1 : Int) := of_decide_eq_true az
             have q789 : x5_1 < (l1.length : Int) := of_decide_eq_true az
             obtain ⟨ad789, e789, hx789_0⟩ := Kd.at_int HR1.out x5_1 p789 q789
             cases e789
             replace p789 := eq_true p789
             replace q789 := eq_true q789
             go_wp2
             repeat (go_quiet (fail); try go_wp2)
             go_ret
             exact ⟨by first | rfl | (simp; done) | (simp [*]; done), by repeat (first | exact Drawn0.refl _ | apply Drawn0.step)⟩
         · rw [if_neg c6] at H
           exact absurd H (by simp)
       · rw [if_neg c5] at H
         exact absurd H (by simp)
     · rw [if_neg c4] at H
       have c4b0 : decide (x5_1 < (l0.length : Int)) = false := decide_eq_false c4
       clear c4
       obtain rfl := Option.some.inj H
       go_wp2
       repeat (go_quiet (fail); try go_wp2)
       go_ret
       exact ⟨by first | rfl | (simp; done) | (simp [*]; done), by repeat (first | exact Drawn0.refl _ | apply Drawn0.step)⟩
 · rw [if_neg c3] at H
   have c3b0 : ((l0.length : Int) == (l1.length : Int)) = false := beq_eq_false_iff_ne.mpr c3
   have c3b1 : ((l0.length : Int) != (l1.length : Int)) = true := bne_iff_ne.mpr c3
   have c3b2 : (l0.length == l1.length) = false := by first | simpa using c3 | (simp at c3 ⊢; omega)
   obtain rfl := Option.some.inj H
   go_enter Try.func53, Try.ntmps53
   go_wp2
   repeat (go_quiet (fail); try go_wp2)
   go_ret
   exact ⟨by first | rfl | (simp; done) | (simp [*]; done), by repeat (first | exact Drawn0.refl _ | apply Drawn0.step)⟩

set_option linter.unusedVariables false
set_option linter.unusedSimpArgs false

def laws_eqReloc.f (a0_0 : Int) (a0_1 : Int) (a0_2 : ByteArray) (a1_0 : Int) (a1_1 : Int) (a1_2 : ByteArray) : Option (Bool) := if a0_0 = a1_0 then (if a0_1 = a1_1 then (if a0_2.toList = a1_2.toList then (some true) else (some false)) else (some false)) else (some false)
set_option maxHeartbeats 8000000 in
set_option maxRecDepth 100000 in
theorem laws_eqReloc.calls (a0_0 : Int) (a0_1 : Int) (a0_2 : ByteArray) (a1_0 : Int) (a1_1 : Int) (a1_2 : ByteArray) (r : Bool) (w : World) (h : laws_eqReloc.f a0_0 a0_1 a0_2 a1_0 a1_1 a1_2 = some r) :
 Calls Try.prog 211 #[.agg #[.int .i64 a0_0, .int .i64 a0_1, .string a0_2], .agg #[.int .i64 a1_0, .int .i64 a1_1, .string a1_2]] w fun e w' => e = .returned (.bool r) ∧ Below w.heap.size w w' := by
 have hu132 := Try.underlying132
 have HB := Aside0.mk (Below.refl w.heap.size w)
 have H : (if a0_0 = a1_0 then (if a0_1 = a1_1 then (if a0_2.toList = a1_2.toList then (some true) else (some false)) else (some false)) else (some false)) = some r := h
 clear h
 by_cases c3 : a0_0 = a1_0
 · rw [if_pos c3] at H
   have c3b0 : (a0_0 == a1_0) = true := beq_iff_eq.mpr c3
   have c3b1 : (a0_0 != a1_0) = false := bne_eq_false_iff_eq.mpr c3
   clear c3
   by_cases c4 : a0_1 = a1_1
   · rw [if_pos c4] at H
     have c4b0 : (a0_1 == a1_1) = true := beq_iff_eq.mpr c4
     have c4b1 : (a0_1 != a1_1) = false := bne_eq_false_iff_eq.mpr c4
     clear c4
     by_cases c5 : a0_2.toList = a1_2.toList
     · rw [if_pos c5] at H
       have c5b0 : (a0_2.toList == a1_2.toList) = true := beq_iff_eq.mpr c5
       have c5b1 : (a0_2.toList != a1_2.toList) = false := bne_eq_false_iff_eq.mpr c5
       clear c5
       obtain rfl := Option.some.inj H
       go_enter Try.func211, Try.ntmps211
       go_wp2_with (first | ((with_reducible refine gate_dst (N := 2) rfl ?_); refine box_event ?hg (N := 2) ?hd (cs := #[.int .i64 a0_0, .int .i64 a0_1, .string a0_2]) (t := 132) ?hr ?_; (case hd => rfl); (case hg => rfl); (case hr => first | (go_simp; done) | (go_simp; rfl)); intro gb790 hg w6 hbox hb; have n0_ := Aside0.mk (below_step bz hb); have n1_ := Aside0.mk (hbox); have n2_ := Aside0.mk ((by rw [hg]; exact (below_size bz) : w.heap.size ≤ gb790)); have n3_ := Aside0.mk ((by rw [hg]; exact (below_size bz) : w.heap.size ≤ gb790)); clear HB; have HB := n0_; have BK790 := n1_; have GW790 := n2_; have GE790 := n3_; clear n0_ n1_ n2_ n3_; clear hb hbox hg) | ((with_reducible refine gate_dst (N := 3) rfl ?_); refine box_event ?hg (N := 3) ?hd (cs := #[.int .i64 a1_0, .int .i64 a1_1, .string a1_2]) (t := 132) ?hr ?_; (case hd => rfl); (case hg => rfl); (case hr => first | (go_simp; done) | (go_simp; rfl)); intro gb791 hg w7 hbox hb; have n0_ := Aside0.mk (blk_below (g := gb790) (o := .cells #[.int .i64 a0_0, .int .i64 a0_1, .string a0_2] 132 (0, 0)) kz hb); have n1_ := Aside0.mk (below_step bz hb); have n2_ := Aside0.mk (hbox); have n3_ := Aside0.mk ((by rw [hg]; exact (below_size bz) : w.heap.size ≤ gb791)); have n4_ := Aside0.mk ((by rw [hg]; exact (below_size bz) : w.heap.size ≤ gb791)); have n5_ := Aside0.mk ((by rw [hg]; exact Nat.ne_of_lt (blk_lt (g := gb790) (o := .cells #[.int .i64 a0_0, .int .i64 a0_1, .string a0_2] 132 (0, 0)) kz) : gb790 ≠ gb791)); have n6_ := Aside0.mk ((by rw [hg]; exact Nat.ne_of_gt (blk_lt (g := gb790) (o := .cells #[.int .i64 a0_0, .int .i64 a0_1, .string a0_2] 132 (0, 0)) kz) : gb791 ≠ gb790)); clear BK790; clear HB; have BK790 := n0_; have HB := n1_; have BK791 := n2_; have GW791 := n3_; have GE791 := n4_; have NB790_791 := n5_; have NB791_790 := n6_; clear n0_ n1_ n2_ n3_ n4_ n5_ n6_; clear hb hbox hg; have hnb8 := NB790_791.out; have hnc8 := NB791_790.out; have hcz9_0 : w7.cell? ⟨gb790, 0, none⟩ = some (.int .i64 a0_0) := (blk_cell BK790.out 0).trans rfl; have hcz9_1 : w7.cell? ⟨gb790, 1, none⟩ = some (.int .i64 a0_1) := (blk_cell BK790.out 1).trans rfl; have hcz9_2 : w7.cell? ⟨gb790, 2, none⟩ = some (.string a0_2) := (blk_cell BK790.out 2).trans rfl; have hfz9_0 := blk_frozen BK790.out 0; have hfz9_1 := blk_frozen BK790.out 1; have hfz9_2 := blk_frozen BK790.out 2; have hcz10_0 : w7.cell? ⟨gb791, 0, none⟩ = some (.int .i64 a1_0) := (blk_cell BK791.out 0).trans rfl; have hcz10_1 : w7.cell? ⟨gb791, 1, none⟩ = some (.int .i64 a1_1) := (blk_cell BK791.out 1).trans rfl; have hcz10_2 : w7.cell? ⟨gb791, 2, none⟩ = some (.string a1_2) := (blk_cell BK791.out 2).trans rfl; have hfz10_0 := blk_frozen BK791.out 0; have hfz10_1 := blk_frozen BK791.out 1; have hfz10_2 := blk_frozen BK791.out 2))
       go_ret
       exact ⟨by first | rfl | (simp [errW_none, errW_some] <;> rfl) | (simp [*, errW_none, errW_some] <;> rfl), bz⟩
     · rw [if_neg c5] at H
       have c5b0 : (a0_2.toList == a1_2.toList) = false := beq_eq_false_iff_ne.mpr c5
       have c5b1 : (a0_2.toList != a1_2.toList) = true := bne_iff_ne.mpr c5
       obtain rfl := Option.some.inj H
       go_enter Try.func211, Try.ntmps211
       go_wp2_with (first | ((with_reducible refine gate_dst (N := 2) rfl ?_); refine box_event ?hg (N := 2) ?hd (cs := #[.int .i64 a0_0, .int .i64 a0_1, .string a0_2]) (t := 132) ?hr ?_; (case hd => rfl); (case hg => rfl); (case hr => first | (go_simp; done) | (go_simp; rfl)); intro gb790 hg w11 hbox hb; have n0_ := Aside0.mk (below_step bz hb); have n1_ := Aside0.mk (hbox); have n2_ := Aside0.mk ((by rw [hg]; exact (below_size bz) : w.heap.size ≤ gb790)); have n3_ := Aside0.mk ((by rw [hg]; exact (below_size bz) : w.heap.size ≤ gb790)); clear HB; have HB := n0_; have BK790 := n1_; have GW790 := n2_; have GE790 := n3_; clear n0_ n1_ n2_ n3_; clear hb hbox hg) | ((with_reducible refine gate_dst (N := 3) rfl ?_); refine box_event ?hg (N := 3) ?hd (cs := #[.int .i64 a1_0, .int .i64 a1_1, .string a1_2]) (t := 132) ?hr ?_; (case hd => rfl); (case hg => rfl); (case hr => first | (go_simp; done) | (go_simp; rfl)); intro gb791 hg w12 hbox hb; have n0_ := Aside0.mk (blk_below (g := gb790) (o := .cells #[.int .i64 a0_0, .int .i64 a0_1, .string a0_2] 132 (0, 0)) kz hb); have n1_ := Aside0.mk (below_step bz hb); have n2_ := Aside0.mk (hbox); have n3_ := Aside0.mk ((by rw [hg]; exact (below_size bz) : w.heap.size ≤ gb791)); have n4_ := Aside0.mk ((by rw [hg]; exact (below_size bz) : w.heap.size ≤ gb791)); have n5_ := Aside0.mk ((by rw [hg]; exact Nat.ne_of_lt (blk_lt (g := gb790) (o := .cells #[.int .i64 a0_0, .int .i64 a0_1, .string a0_2] 132 (0, 0)) kz) : gb790 ≠ gb791)); have n6_ := Aside0.mk ((by rw [hg]; exact Nat.ne_of_gt (blk_lt (g := gb790) (o := .cells #[.int .i64 a0_0, .int .i64 a0_1, .string a0_2] 132 (0, 0)) kz) : gb791 ≠ gb790)); clear BK790; clear HB; have BK790 := n0_; have HB := n1_; have BK791 := n2_; have GW791 := n3_; have GE791 := n4_; have NB790_791 := n5_; have NB791_790 := n6_; clear n0_ n1_ n2_ n3_ n4_ n5_ n6_; clear hb hbox hg; have hnb13 := NB790_791.out; have hnc13 := NB791_790.out; have hcz14_0 : w12.cell? ⟨gb790, 0, none⟩ = some (.int .i64 a0_0) := (blk_cell BK790.out 0).trans rfl; have hcz14_1 : w12.cell? ⟨gb790, 1, none⟩ = some (.int .i64 a0_1) := (blk_cell BK790.out 1).trans rfl; have hcz14_2 : w12.cell? ⟨gb790, 2, none⟩ = some (.string a0_2) := (blk_cell BK790.out 2).trans rfl; have hfz14_0 := blk_frozen BK790.out 0; have hfz14_1 := blk_frozen BK790.out 1; have hfz14_2 := blk_frozen BK790.out 2; have hcz15_0 : w12.cell? ⟨gb791, 0, none⟩ = some (.int .i64 a1_0) := (blk_cell BK791.out 0).trans rfl; have hcz15_1 : w12.cell? ⟨gb791, 1, none⟩ = some (.int .i64 a1_1) := (blk_cell BK791.out 1).trans rfl; have hcz15_2 : w12.cell? ⟨gb791, 2, none⟩ = some (.string a1_2) := (blk_cell BK791.out 2).trans rfl; have hfz15_0 := blk_frozen BK791.out 0; have hfz15_1 := blk_frozen BK791.out 1; have hfz15_2 := blk_frozen BK791.out 2))
       go_ret
       exact ⟨by first | rfl | (simp [errW_none, errW_some] <;> rfl) | (simp [*, errW_none, errW_some] <;> rfl), bz⟩
   · rw [if_neg c4] at H
     have c4b0 : (a0_1 == a1_1) = false := beq_eq_false_iff_ne.mpr c4
     have c4b1 : (a0_1 != a1_1) = true := bne_iff_ne.mpr c4
     obtain rfl := Option.some.inj H
     go_enter Try.func211, Try.ntmps211
     go_wp2_with (first | ((with_reducible refine gate_dst (N := 2) rfl ?_); refine box_event ?hg (N := 2) ?hd (cs := #[.int .i64 a0_0, .int .i64 a0_1, .string a0_2]) (t := 132) ?hr ?_; (case hd => rfl); (case hg => rfl); (case hr => first | (go_simp; done) | (go_simp; rfl)); intro gb790 hg w16 hbox hb; have n0_ := Aside0.mk (below_step bz hb); have n1_ := Aside0.mk (hbox); have n2_ := Aside0.mk ((by rw [hg]; exact (below_size bz) : w.heap.size ≤ gb790)); have n3_ := Aside0.mk ((by rw [hg]; exact (below_size bz) : w.heap.size ≤ gb790)); clear HB; have HB := n0_; have BK790 := n1_; have GW790 := n2_; have GE790 := n3_; clear n0_ n1_ n2_ n3_; clear hb hbox hg) | ((with_reducible refine gate_dst (N := 3) rfl ?_); refine box_event ?hg (N := 3) ?hd (cs := #[.int .i64 a1_0, .int .i64 a1_1, .string a1_2]) (t := 132) ?hr ?_; (case hd => rfl); (case hg => rfl); (case hr => first | (go_simp; done) | (go_simp; rfl)); intro gb791 hg w17 hbox hb; have n0_ := Aside0.mk (blk_below (g := gb790) (o := .cells #[.int .i64 a0_0, .int .i64 a0_1, .string a0_2] 132 (0, 0)) kz hb); have n1_ := Aside0.mk (below_step bz hb); have n2_ := Aside0.mk (hbox); have n3_ := Aside0.mk ((by rw [hg]; exact (below_size bz) : w.heap.size ≤ gb791)); have n4_ := Aside0.mk ((by rw [hg]; exact (below_size bz) : w.heap.size ≤ gb791)); have n5_ := Aside0.mk ((by rw [hg]; exact Nat.ne_of_lt (blk_lt (g := gb790) (o := .cells #[.int .i64 a0_0, .int .i64 a0_1, .string a0_2] 132 (0, 0)) kz) : gb790 ≠ gb791)); have n6_ := Aside0.mk ((by rw [hg]; exact Nat.ne_of_gt (blk_lt (g := gb790) (o := .cells #[.int .i64 a0_0, .int .i64 a0_1, .string a0_2] 132 (0, 0)) kz) : gb791 ≠ gb790)); clear BK790; clear HB; have BK790 := n0_; have HB := n1_; have BK791 := n2_; have GW791 := n3_; have GE791 := n4_; have NB790_791 := n5_; have NB791_790 := n6_; clear n0_ n1_ n2_ n3_ n4_ n5_ n6_; clear hb hbox hg; have hnb18 := NB790_791.out; have hnc18 := NB791_790.out; have hcz19_0 : w17.cell? ⟨gb790, 0, none⟩ = some (.int .i64 a0_0) := (blk_cell BK790.out 0).trans rfl; have hcz19_1 : w17.cell? ⟨gb790, 1, none⟩ = some (.int .i64 a0_1) := (blk_cell BK790.out 1).trans rfl; have hcz19_2 : w17.cell? ⟨gb790, 2, none⟩ = some (.string a0_2) := (blk_cell BK790.out 2).trans rfl; have hfz19_0 := blk_frozen BK790.out 0; have hfz19_1 := blk_frozen BK790.out 1; have hfz19_2 := blk_frozen BK790.out 2; have hcz20_0 : w17.cell? ⟨gb791, 0, none⟩ = some (.int .i64 a1_0) := (blk_cell BK791.out 0).trans rfl; have hcz20_1 : w17.cell? ⟨gb791, 1, none⟩ = some (.int .i64 a1_1) := (blk_cell BK791.out 1).trans rfl; have hcz20_2 : w17.cell? ⟨gb791, 2, none⟩ = some (.string a1_2) := (blk_cell BK791.out 2).trans rfl; have hfz20_0 := blk_frozen BK791.out 0; have hfz20_1 := blk_frozen BK791.out 1; have hfz20_2 := blk_frozen BK791.out 2))
     go_ret
     exact ⟨by first | rfl | (simp [errW_none, errW_some] <;> rfl) | (simp [*, errW_none, errW_some] <;> rfl), bz⟩
 · rw [if_neg c3] at H
   have c3b0 : (a0_0 == a1_0) = false := beq_eq_false_iff_ne.mpr c3
   have c3b1 : (a0_0 != a1_0) = true := bne_iff_ne.mpr c3
   obtain rfl := Option.some.inj H
   go_enter Try.func211, Try.ntmps211
   go_wp2_with (first | ((with_reducible refine gate_dst (N := 2) rfl ?_); refine box_event ?hg (N := 2) ?hd (cs := #[.int .i64 a0_0, .int .i64 a0_1, .string a0_2]) (t := 132) ?hr ?_; (case hd => rfl); (case hg => rfl); (case hr => first | (go_simp; done) | (go_simp; rfl)); intro gb790 hg w21 hbox hb; have n0_ := Aside0.mk (below_step bz hb); have n1_ := Aside0.mk (hbox); have n2_ := Aside0.mk ((by rw [hg]; exact (below_size bz) : w.heap.size ≤ gb790)); have n3_ := Aside0.mk ((by rw [hg]; exact (below_size bz) : w.heap.size ≤ gb790)); clear HB; have HB := n0_; have BK790 := n1_; have GW790 := n2_; have GE790 := n3_; clear n0_ n1_ n2_ n3_; clear hb hbox hg) | ((with_reducible refine gate_dst (N := 3) rfl ?_); refine box_event ?hg (N := 3) ?hd (cs := #[.int .i64 a1_0, .int .i64 a1_1, .string a1_2]) (t := 132) ?hr ?_; (case hd => rfl); (case hg => rfl); (case hr => first | (go_simp; done) | (go_simp; rfl)); intro gb791 hg w22 hbox hb; have n0_ := Aside0.mk (blk_below (g := gb790) (o := .cells #[.int .i64 a0_0, .int .i64 a0_1, .string a0_2] 132 (0, 0)) kz hb); have n1_ := Aside0.mk (below_step bz hb); have n2_ := Aside0.mk (hbox); have n3_ := Aside0.mk ((by rw [hg]; exact (below_size bz) : w.heap.size ≤ gb791)); have n4_ := Aside0.mk ((by rw [hg]; exact (below_size bz) : w.heap.size ≤ gb791)); have n5_ := Aside0.mk ((by rw [hg]; exact Nat.ne_of_lt (blk_lt (g := gb790) (o := .cells #[.int .i64 a0_0, .int .i64 a0_1, .string a0_2] 132 (0, 0)) kz) : gb790 ≠ gb791)); have n6_ := Aside0.mk ((by rw [hg]; exact Nat.ne_of_gt (blk_lt (g := gb790) (o := .cells #[.int .i64 a0_0, .int .i64 a0_1, .string a0_2] 132 (0, 0)) kz) : gb791 ≠ gb790)); clear BK790; clear HB; have BK790 := n0_; have HB := n1_; have BK791 := n2_; have GW791 := n3_; have GE791 := n4_; have NB790_791 := n5_; have NB791_790 := n6_; clear n0_ n1_ n2_ n3_ n4_ n5_ n6_; clear hb hbox hg; have hnb23 := NB790_791.out; have hnc23 := NB791_790.out; have hcz24_0 : w22.cell? ⟨gb790, 0, none⟩ = some (.int .i64 a0_0) := (blk_cell BK790.out 0).trans rfl; have hcz24_1 : w22.cell? ⟨gb790, 1, none⟩ = some (.int .i64 a0_1) := (blk_cell BK790.out 1).trans rfl; have hcz24_2 : w22.cell? ⟨gb790, 2, none⟩ = some (.string a0_2) := (blk_cell BK790.out 2).trans rfl; have hfz24_0 := blk_frozen BK790.out 0; have hfz24_1 := blk_frozen BK790.out 1; have hfz24_2 := blk_frozen BK790.out 2; have hcz25_0 : w22.cell? ⟨gb791, 0, none⟩ = some (.int .i64 a1_0) := (blk_cell BK791.out 0).trans rfl; have hcz25_1 : w22.cell? ⟨gb791, 1, none⟩ = some (.int .i64 a1_1) := (blk_cell BK791.out 1).trans rfl; have hcz25_2 : w22.cell? ⟨gb791, 2, none⟩ = some (.string a1_2) := (blk_cell BK791.out 2).trans rfl; have hfz25_0 := blk_frozen BK791.out 0; have hfz25_1 := blk_frozen BK791.out 1; have hfz25_2 := blk_frozen BK791.out 2))
   go_ret
   exact ⟨by first | rfl | (simp [errW_none, errW_some] <;> rfl) | (simp [*, errW_none, errW_some] <;> rfl), bz⟩

set_option linter.unusedVariables false
set_option linter.unusedSimpArgs false

def laws_eqRelocS.l0 : Nat → List (S132) → List (S132) → Int → Option (Bool)
 | 0, _, _, _ => none
 | k + 1, x0, x1, x5 => if x5 < (x0.length : Int) then (if 0 ≤ x5 then (if x5 < (x1.length : Int) then ((laws_eqReloc.f ((rd_T132 x0 x5).f0) ((rd_T132 x0 x5).f1) ((rd_T132 x0 x5).f2) ((rd_T132 x1 x5).f0) ((rd_T132 x1 x5).f1) ((rd_T132 x1 x5).f2)).bind fun t794 => (if t794 = true then (laws_eqRelocS.l0 k x0 x1 (wrap64 (x5 + 1))) else (some false))) else (none)) else (none)) else (some true)
def laws_eqRelocS.f (k : Nat) (l0 : List (S132)) (l1 : List (S132)) : Option (Bool) := if (l0.length : Int) = (l1.length : Int) then (laws_eqRelocS.l0 k l0 l1 0) else (some false)
def laws_eqRelocS.T6 : Bool × List (List Nat × List Nat) := (true, [([], []), ([], []), ([0, 1], [0, 1]), ([2], [2]), ([], []), ([], []), ([4, 5], [4, 5]), ([6], [6]), ([3, 7], [3, 7]), ([8], [8])])
def laws_eqRelocS.B6 : List Nat := [0, 0, 3, 7, 0, 0, 48, 112, 255, 511]
theorem laws_eqRelocS.tab6 : rtab .any (opsOf Try.f184 6) = laws_eqRelocS.T6 := by kernel_rfl
theorem laws_eqRelocS.bits6 : waitsOk laws_eqRelocS.T6.2 laws_eqRelocS.B6 = true := by kernel_rfl
set_option maxHeartbeats 8000000 in
set_option maxRecDepth 100000 in
theorem laws_eqRelocS.calls (k : Nat) (A0 : Option Addr) (c0 : Nat) (l0 : List (S132)) (A1 : Option Addr) (c1 : Nat) (l1 : List (S132)) (r : Bool) (w : World) (hr0 : Kd.C k132 w A0 l0.length l0) (hc0 : l0.length ≤ c0) (hr1 : Kd.C k132 w A1 l1.length l1) (hc1 : l1.length ≤ c1) (h : laws_eqRelocS.f k l0 l1 = some r) :
 Calls Try.prog 184 #[.slice A0 l0.length c0, .slice A1 l1.length c1] w fun e w' => e = .returned (.bool r) ∧ Below w.heap.size w w' := by
 have hu132 := Try.underlying132
 have HR0 := Aside0.mk hr0
 have HC0 := Aside0.mk hc0
 clear hr0 hc0
 have HR1 := Aside0.mk hr1
 have HC1 := Aside0.mk hc1
 clear hr1 hc1
 have HB := Aside0.mk (Below.refl w.heap.size w)
 have H : (if (l0.length : Int) = (l1.length : Int) then (laws_eqRelocS.l0 k l0 l1 0) else (some false)) = some r := h
 clear h
 by_cases c3 : (l0.length : Int) = (l1.length : Int)
 · rw [if_pos c3] at H
   have c3b0 : ((l0.length : Int) == (l1.length : Int)) = true := beq_iff_eq.mpr c3
   have c3b1 : ((l0.length : Int) != (l1.length : Int)) = false := bne_eq_false_iff_eq.mpr c3
   have c3b2 : (l0.length == l1.length) = true := by first | simpa using c3 | (simp at c3 ⊢; omega)
   clear c3
   have H' := Aside0.mk H
   clear H
   go_enter Try.func184, Try.ntmps184
   go_wp2
   go_loopg [5] k (fun kq v5 w' => ∃ (x5_1 : Int), v5 = .int .i64 x5_1 ∧ Aside0 (laws_eqRelocS.l0 kq l0 l1 x5_1 = some r) ∧ Aside0 (kq ≤ k) ∧ Aside0 (Below w.heap.size w w'))
   case atStart => exact ⟨(0), sz_, H', ⟨Nat.le_refl _⟩, ⟨ bz⟩⟩
   case round =>
    clear H'
    try clear c1
    try clear p2
    try clear c3
    try clear c3b0
    try clear c3b1
    try clear c3b2
    obtain ⟨x5_1, rfl, HA, HK1, HB⟩ := hrel
    cases gk with
    | zero => exact absurd HA.out (by simp [laws_eqRelocS.l0])
    | succ k1 =>
     have H := HA.out
     clear HA
     simp only [laws_eqRelocS.l0] at H
     by_cases c4 : x5_1 < (l0.length : Int)
     · rw [if_pos c4] at H
       have c4b0 : decide (x5_1 < (l0.length : Int)) = true := decide_eq_true c4
       clear c4
       by_cases c5 : 0 ≤ x5_1
       · rw [if_pos c5] at H
         have c5b0 : decide (0 ≤ x5_1) = true := decide_eq_true c5
         clear c5
         by_cases c6 : x5_1 < (l1.length : Int)
         · rw [if_pos c6] at H
           have c6b0 : decide (x5_1 < (l1.length : Int)) = true := decide_eq_true c6
           clear c6
           replace H := Option.bind_eq_some_iff.mp H
           obtain ⟨t794, A70, H⟩ := H
           replace H : (if t794 = true then (laws_eqRelocS.l0 k1 l0 l1 (wrap64 (x5_1 + 1))) else (some false)) = some r := H
           have A7 := Aside0.mk A70
           clear A70
           by_cases c8 : t794 = true
           · subst c8
             have H1 : (laws_eqRelocS.l0 k1 l0 l1 (wrap64 (x5_1 + 1))) = some r := by rw [if_pos rfl] at H; exact H
             clear H
             have H := H1
             clear H1
             have H' := Aside0.mk H
             clear H
             try go_wp2
             have n0_ := Aside0.mk (below_drew1 HB.out)
             clear HB
             have HB := n0_
             clear n0_
             have p792 : 0 ≤ (x5_1 : Int) := of_decide_eq_true az
             have q792 : x5_1 < (l0.length : Int) := of_decide_eq_true az
             obtain ⟨ad792, e792, hx792_0, hx792_1, hx792_2⟩ := at_T132 HR0.out x5_1 p792 q792
             have hw792_2 := hx792_2
             have hw792_1 := hx792_1
             have hw792_0 := hx792_0
             cases e792
             replace hx792_0 := ck HB hx792_0
             replace hx792_1 := ck HB hx792_1
             replace hx792_2 := ck HB hx792_2
             replace p792 := eq_true p792
             replace q792 := eq_true q792
             have p793 : 0 ≤ (x5_1 : Int) := of_decide_eq_true az
             have q793 : x5_1 < (l1.length : Int) := of_decide_eq_true az
             obtain ⟨ad793, e793, hx793_0, hx793_1, hx793_2⟩ := at_T132 HR1.out x5_1 p793 q793
             have hw793_2 := hx793_2
             have hw793_1 := hx793_1
             have hw793_0 := hx793_0
             cases e793
             replace hx793_0 := ck HB hx793_0
             replace hx793_1 := ck HB hx793_1
             replace hx793_2 := ck HB hx793_2
             replace p793 := eq_true p793
             replace q793 := eq_true q793
             refine start_ (n := 10) (S := fun w' => w'.cell? (ad792.add ((x5_1).toNat * 3)) = some (.int .i64 ((rd_T132 l0 x5_1).f0)) ∧ w'.cell? ⟨(ad792.add ((x5_1).toNat * 3)).block, (ad792.add ((x5_1).toNat * 3)).off + 1, none⟩ = some (.int .i64 ((rd_T132 l0 x5_1).f1)) ∧ w'.cell? ⟨(ad792.add ((x5_1).toNat * 3)).block, (ad792.add ((x5_1).toNat * 3)).off + 2, none⟩ = some (.string ((rd_T132 l0 x5_1).f2)) ∧ w'.cell? (ad793.add ((x5_1).toNat * 3)) = some (.int .i64 ((rd_T132 l1 x5_1).f0)) ∧ w'.cell? ⟨(ad793.add ((x5_1).toNat * 3)).block, (ad793.add ((x5_1).toNat * 3)).off + 1, none⟩ = some (.int .i64 ((rd_T132 l1 x5_1).f1)) ∧ w'.cell? ⟨(ad793.add ((x5_1).toNat * 3)).block, (ad793.add ((x5_1).toNat * 3)).off + 2, none⟩ = some (.string ((rd_T132 l1 x5_1).f2))) (ds := []) #[false, false, false, false, false, false, false, false, false, false] (by kernel_rfl) rfl rfl ⟨(ck HB hw792_0), (ck HB hw792_1), (ck HB hw792_2), (ck HB hw793_0), (ck HB hw793_1), (ck HB hw793_2)⟩ (fun hHeld => ?_); refine with_tabW laws_eqRelocS.tab6 laws_eqRelocS.bits6 (fun HT_ HW_ => ?_)
             generalize wr.drew = w9 at HB hx792_0 hx792_1 hx792_2 hx793_0 hx793_1 hx793_2 hHeld ⊢
             refine pure_ (i := 0) (N := some 17) (v := ?_) (a' := ?_) #[true, false, false, false, false, false, false, false, false, false] rfl rfl (any_of HT_.out (by kernel_rfl)) (fun _ _ _ h => h) (Or.inl ⟨by rfl, ?_⟩) ?_ ?_
             rotate_left
             · intro w'
               go_simp
               with_reducible rfl
             rotate_left
             · simp only [Act.put, sx1, sx2, sx3, i64_w, i32_w]
               rfl
             refine pure_ (i := 1) (N := some 18) (v := ?_) (a' := ?_) #[true, true, false, false, false, false, false, false, false, false] rfl rfl (any_of HT_.out (by kernel_rfl)) (fun _ _ _ h => h) (Or.inl ⟨by rfl, ?_⟩) ?_ ?_
             rotate_left
             · intro w'
               go_simp
               with_reducible rfl
             rotate_left
             · simp only [Act.put, sx1, sx2, sx3, i64_w, i32_w]
               rfl
             refine pure_ (i := 2) (N := some 19) (v := ?_) (a' := ?_) #[true, true, true, false, false, false, false, false, false, false] rfl rfl (any_of HT_.out (by kernel_rfl)) (fun _ _ _ h => h) (Or.inl ⟨by rfl, ?_⟩) ?_ ?_
             rotate_left
             · intro w'
               go_simp
               with_reducible rfl
             rotate_left
             · simp only [Act.put, sx1, sx2, sx3, i64_w, i32_w]
               rfl
             refine pure_ (i := 4) (N := some 21) (v := ?_) (a' := ?_) #[true, true, true, false, true, false, false, false, false, false] rfl rfl (any_of HT_.out (by kernel_rfl)) (fun _ _ _ h => h) (Or.inl ⟨by rfl, ?_⟩) ?_ ?_
             rotate_left
             · intro w'
               go_simp
               with_reducible rfl
             rotate_left
             · simp only [Act.put, sx1, sx2, sx3, i64_w, i32_w]
               rfl
             refine pure_ (i := 5) (N := some 22) (v := ?_) (a' := ?_) #[true, true, true, false, true, true, false, false, false, false] rfl rfl (any_of HT_.out (by kernel_rfl)) (fun _ _ _ h => h) (Or.inl ⟨by rfl, ?_⟩) ?_ ?_
             rotate_left
             · intro w'
               go_simp
               with_reducible rfl
             rotate_left
             · simp only [Act.put, sx1, sx2, sx3, i64_w, i32_w]
               rfl
             refine pure_ (i := 6) (N := some 23) (v := ?_) (a' := ?_) #[true, true, true, false, true, true, true, false, false, false] rfl rfl (any_of HT_.out (by kernel_rfl)) (fun _ _ _ h => h) (Or.inl ⟨by rfl, ?_⟩) ?_ ?_
             rotate_left
             · intro w'
               go_simp
               with_reducible rfl
             rotate_left
             · simp only [Act.put, sx1, sx2, sx3, i64_w, i32_w]
               rfl
             refine take_ (i := 3) (N := some 20) (v := ?_) (a' := ?_) #[true, true, true, true, true, true, true, false, false, false] rfl rfl (take_ofW HT_.out HW_.out (by kernel_rfl)) (fun _ _ _ h => h) (Or.inl ⟨by rfl, ?_⟩) hHeld ?_ ?_
             rotate_left
             · rintro w' ⟨s0, s1, s2, s3, s4, s5⟩
               go_simp
               with_reducible rfl
             rotate_left
             · simp only [Act.put, sx1, sx2, sx3, i64_w, i32_w]
               rfl
             refine take_ (i := 7) (N := some 24) (v := ?_) (a' := ?_) #[true, true, true, true, true, true, true, true, false, false] rfl rfl (take_ofW HT_.out HW_.out (by kernel_rfl)) (fun _ _ _ h => h) (Or.inl ⟨by rfl, ?_⟩) hHeld ?_ ?_
             rotate_left
             · rintro w' ⟨s0, s1, s2, s3, s4, s5⟩
               go_simp
               with_reducible rfl
             rotate_left
             · simp only [Act.put, sx1, sx2, sx3, i64_w, i32_w]
               rfl
             refine one_ (i := 8) (N := some 25) #[true, true, true, true, true, true, true, true, true, false] rfl rfl (one_of HT_.out (by kernel_rfl)) (by decide) (fun K hK => ?_)
             refine goes_ Try.func211 (by kernel_rfl) rfl #[.agg #[.int .i64 ((rd_T132 l0 x5_1).f0), .int .i64 ((rd_T132 l0 x5_1).f1), .string ((rd_T132 l0 x5_1).f2)], .agg #[.int .i64 ((rd_T132 l1 x5_1).f0), .int .i64 ((rd_T132 l1 x5_1).f1), .string ((rd_T132 l1 x5_1).f2)]] (by rfl) rfl rfl lz ?_
             with_reducible refine (laws_eqReloc.calls ((rd_T132 l0 x5_1).f0) ((rd_T132 l0 x5_1).f1) ((rd_T132 l0 x5_1).f2) ((rd_T132 l1 x5_1).f0) ((rd_T132 l1 x5_1).f1) ((rd_T132 l1 x5_1).f2) true _ A7.out).mono ?_
             rintro e w10 ⟨rfl, hb⟩
             refine ⟨_, rfl, ?_⟩
             have n0_ := Aside0.mk (below_step bz hb)
             clear HB
             have HB := n0_
             clear n0_
             (try clear hb)
             (try clear hb2)
             (try clear hk)
             (try clear hi)
             refine hK.out _ _ ⟨(ck HB hw792_0), (ck HB hw792_1), (ck HB hw792_2), (ck HB hw793_0), (ck HB hw793_1), (ck HB hw793_2)⟩ (fun hHeld => ?_)
             clear hK K
             refine norm_ (a' := ?_) ?_ ?_
             rotate_left
             · show Act.put _ (some 25) _ = _
               simp only [Act.put, sx1, sx2, sx3, i64_w, i32_w]
               rfl
             refine pure_ (i := 9) (N := some 26) (v := ?_) (a' := ?_) #[true, true, true, true, true, true, true, true, true, true] rfl rfl (any_of HT_.out (by kernel_rfl)) (fun _ _ _ h => h) (Or.inl ⟨by rfl, ?_⟩) ?_ ?_
             rotate_left
             · intro w'
               go_simp
               with_reducible rfl
             rotate_left
             · simp only [Act.put, sx1, sx2, sx3, i64_w, i32_w]
               rfl
             refine done_ (done_of HT_.out (by kernel_rfl)) ?_
             try go_wp2
             go_roundg k1
             case measure => have := HK1.out; omega
             case rel => exact ⟨(wrap64 (x5_1 + 1)), sz_, H', ⟨by have := HK1.out; omega⟩, ⟨ bz⟩⟩
           · replace c8 := Bool.eq_false_iff.mpr c8
             subst c8
             have H1 : (some false) = some r := by rw [if_neg (show ¬ (false = true) by decide)] at H; exact H
             clear H
             have H := H1
             clear H1
             obtain rfl := Option.some.inj H
             try go_wp2
             have n0_ := Aside0.mk (below_drew1 HB.out)
             clear HB
             have HB := n0_
             clear n0_
             have p792 : 0 ≤ (x5_1 : Int) := of_decide_eq_true az
             have q792 : x5_1 < (l0.length : Int) := of_decide_eq_true az
             obtain ⟨ad792, e792, hx792_0, hx792_1, hx792_2⟩ := at_T132 HR0.out x5_1 p792 q792
             have hw792_2 := hx792_2
             have hw792_1 := hx792_1
             have hw792_0 := hx792_0
             cases e792
             replace hx792_0 := ck HB hx792_0
             replace hx792_1 := ck HB hx792_1
             replace hx792_2 := ck HB hx792_2
             replace p792 := eq_true p792
             replace q792 := eq_true q792
             have p793 : 0 ≤ (x5_1 : Int) := of_decide_eq_true az
             have q793 : x5_1 < (l1.length : Int) := of_decide_eq_true az
             obtain ⟨ad793, e793, hx793_0, hx793_1, hx793_2⟩ := at_T132 HR1.out x5_1 p793 q793
             have hw793_2 := hx793_2
             have hw793_1 := hx793_1
             have hw793_0 := hx793_0
             cases e793
             replace hx793_0 := ck HB hx793_0
             replace hx793_1 := ck HB hx793_1
             replace hx793_2 := ck HB hx793_2
             replace p793 := eq_true p793
             replace q793 := eq_true q793
             refine start_ (n := 10) (S := fun w' => w'.cell? (ad792.add ((x5_1).toNat * 3)) = some (.int .i64 ((rd_T132 l0 x5_1).f0)) ∧ w'.cell? ⟨(ad792.add ((x5_1).toNat * 3)).block, (ad792.add ((x5_1).toNat * 3)).off + 1, none⟩ = some (.int .i64 ((rd_T132 l0 x5_1).f1)) ∧ w'.cell? ⟨(ad792.add ((x5_1).toNat * 3)).block, (ad792.add ((x5_1).toNat * 3)).off + 2, none⟩ = some (.string ((rd_T132 l0 x5_1).f2)) ∧ w'.cell? (ad793.add ((x5_1).toNat * 3)) = some (.int .i64 ((rd_T132 l1 x5_1).f0)) ∧ w'.cell? ⟨(ad793.add ((x5_1).toNat * 3)).block, (ad793.add ((x5_1).toNat * 3)).off + 1, none⟩ = some (.int .i64 ((rd_T132 l1 x5_1).f1)) ∧ w'.cell? ⟨(ad793.add ((x5_1).toNat * 3)).block, (ad793.add ((x5_1).toNat * 3)).off + 2, none⟩ = some (.string ((rd_T132 l1 x5_1).f2))) (ds := []) #[false, false, false, false, false, false, false, false, false, false] (by kernel_rfl) rfl rfl ⟨(ck HB hw792_0), (ck HB hw792_1), (ck HB hw792_2), (ck HB hw793_0), (ck HB hw793_1), (ck HB hw793_2)⟩ (fun hHeld => ?_); refine with_tabW laws_eqRelocS.tab6 laws_eqRelocS.bits6 (fun HT_ HW_ => ?_)
             generalize wr.drew = w11 at HB hx792_0 hx792_1 hx792_2 hx793_0 hx793_1 hx793_2 hHeld ⊢
             refine pure_ (i := 0) (N := some 17) (v := ?_) (a' := ?_) #[true, false, false, false, false, false, false, false, false, false] rfl rfl (any_of HT_.out (by kernel_rfl)) (fun _ _ _ h => h) (Or.inl ⟨by rfl, ?_⟩) ?_ ?_
             rotate_left
             · intro w'
               go_simp
               with_reducible rfl
             rotate_left
             · simp only [Act.put, sx1, sx2, sx3, i64_w, i32_w]
               rfl
             refine pure_ (i := 1) (N := some 18) (v := ?_) (a' := ?_) #[true, true, false, false, false, false, false, false, false, false] rfl rfl (any_of HT_.out (by kernel_rfl)) (fun _ _ _ h => h) (Or.inl ⟨by rfl, ?_⟩) ?_ ?_
             rotate_left
             · intro w'
               go_simp
               with_reducible rfl
             rotate_left
             · simp only [Act.put, sx1, sx2, sx3, i64_w, i32_w]
               rfl
             refine pure_ (i := 2) (N := some 19) (v := ?_) (a' := ?_) #[true, true, true, false, false, false, false, false, false, false] rfl rfl (any_of HT_.out (by kernel_rfl)) (fun _ _ _ h => h) (Or.inl ⟨by rfl, ?_⟩) ?_ ?_
             rotate_left
             · intro w'
               go_simp
               with_reducible rfl
             rotate_left
             · simp only [Act.put, sx1, sx2, sx3, i64_w, i32_w]
               rfl
             refine pure_ (i := 4) (N := some 21) (v := ?_) (a' := ?_) #[true, true, true, false, true, false, false, false, false, false] rfl rfl (any_of HT_.out (by kernel_rfl)) (fun _ _ _ h => h) (Or.inl ⟨by rfl, ?_⟩) ?_ ?_
             rotate_left
             · intro w'
               go_simp
               with_reducible rfl
             rotate_left
             · simp only [Act.put, sx1, sx2, sx3, i64_w, i32_w]
               rfl
             refine pure_ (i := 5) (N := some 22) (v := ?_) (a' := ?_) #[true, true, true, false, true, true, false, false, false, false] rfl rfl (any_of HT_.out (by kernel_rfl)) (fun _ _ _ h => h) (Or.inl ⟨by rfl, ?_⟩) ?_ ?_
             rotate_left
             · intro w'
               go_simp
               with_reducible rfl
             rotate_left
             · simp only [Act.put, sx1, sx2, sx3, i64_w, i32_w]
               rfl
             refine pure_ (i := 6) (N := some 23) (v := ?_) (a' := ?_) #[true, true, true, false, true, true, true, false, false, false] rfl rfl (any_of HT_.out (by kernel_rfl)) (fun _ _ _ h => h) (Or.inl ⟨by rfl, ?_⟩) ?_ ?_
             rotate_left
             · intro w'
               go_simp
               with_reducible rfl
             rotate_left
             · simp only [Act.put, sx1, sx2, sx3, i64_w, i32_w]
               rfl
             refine take_ (i := 3) (N := some 20) (v := ?_) (a' := ?_) #[true, true, true, true, true, true, true, false, false, false] rfl rfl (take_ofW HT_.out HW_.out (by kernel_rfl)) (fun _ _ _ h => h) (Or.inl ⟨by rfl, ?_⟩) hHeld ?_ ?_
             rotate_left
             · rintro w' ⟨s0, s1, s2, s3, s4, s5⟩
               go_simp
               with_reducible rfl
             rotate_left
             · simp only [Act.put, sx1, sx2, sx3, i64_w, i32_w]
               rfl
             refine take_ (i := 7) (N := some 24) (v := ?_) (a' := ?_) #[true, true, true, true, true, true, true, true, false, false] rfl rfl (take_ofW HT_.out HW_.out (by kernel_rfl)) (fun _ _ _ h => h) (Or.inl ⟨by rfl, ?_⟩) hHeld ?_ ?_
             rotate_left
             · rintro w' ⟨s0, s1, s2, s3, s4, s5⟩
               go_simp
               with_reducible rfl
             rotate_left
             · simp only [Act.put, sx1, sx2, sx3, i64_w, i32_w]
               rfl
             refine one_ (i := 8) (N := some 25) #[true, true, true, true, true, true, true, true, true, false] rfl rfl (one_of HT_.out (by kernel_rfl)) (by decide) (fun K hK => ?_)
             refine goes_ Try.func211 (by kernel_rfl) rfl #[.agg #[.int .i64 ((rd_T132 l0 x5_1).f0), .int .i64 ((rd_T132 l0 x5_1).f1), .string ((rd_T132 l0 x5_1).f2)], .agg #[.int .i64 ((rd_T132 l1 x5_1).f0), .int .i64 ((rd_T132 l1 x5_1).f1), .string ((rd_T132 l1 x5_1).f2)]] (by rfl) rfl rfl lz ?_
             with_reducible refine (laws_eqReloc.calls ((rd_T132 l0 x5_1).f0) ((rd_T132 l0 x5_1).f1) ((rd_T132 l0 x5_1).f2) ((rd_T132 l1 x5_1).f0) ((rd_T132 l1 x5_1).f1) ((rd_T132 l1 x5_1).f2) false _ A7.out).mono ?_
             rintro e w12 ⟨rfl, hb⟩
             refine ⟨_, rfl, ?_⟩
             have n0_ := Aside0.mk (below_step bz hb)
             clear HB
             have HB := n0_
             clear n0_
             (try clear hb)
             (try clear hb2)
             (try clear hk)
             (try clear hi)
             refine hK.out _ _ ⟨(ck HB hw792_0), (ck HB hw792_1), (ck HB hw792_2), (ck HB hw793_0), (ck HB hw793_1), (ck HB hw793_2)⟩ (fun hHeld => ?_)
             clear hK K
             refine norm_ (a' := ?_) ?_ ?_
             rotate_left
             · show Act.put _ (some 25) _ = _
               simp only [Act.put, sx1, sx2, sx3, i64_w, i32_w]
               rfl
             refine pure_ (i := 9) (N := some 26) (v := ?_) (a' := ?_) #[true, true, true, true, true, true, true, true, true, true] rfl rfl (any_of HT_.out (by kernel_rfl)) (fun _ _ _ h => h) (Or.inl ⟨by rfl, ?_⟩) ?_ ?_
             rotate_left
             · intro w'
               go_simp
               with_reducible rfl
             rotate_left
             · simp only [Act.put, sx1, sx2, sx3, i64_w, i32_w]
               rfl
             refine done_ (done_of HT_.out (by kernel_rfl)) ?_
             try go_wp2
             go_ret
             exact ⟨by first | rfl | (simp [errW_none, errW_some] <;> rfl) | (simp [*, errW_none, errW_some] <;> rfl), bz⟩
         · rw [if_neg c6] at H
           exact absurd H (by simp)
       · rw [if_neg c5] at H
         exact absurd H (by simp)
     · rw [if_neg c4] at H
       have c4b0 : decide (x5_1 < (l0.length : Int)) = false := decide_eq_false c4
       clear c4
       obtain rfl := Option.some.inj H
       go_wp2
       go_ret
       exact ⟨by first | rfl | (simp [errW_none, errW_some] <;> rfl) | (simp [*, errW_none, errW_some] <;> rfl), bz⟩
 · rw [if_neg c3] at H
   have c3b0 : ((l0.length : Int) == (l1.length : Int)) = false := beq_eq_false_iff_ne.mpr c3
   have c3b1 : ((l0.length : Int) != (l1.length : Int)) = true := bne_iff_ne.mpr c3
   have c3b2 : (l0.length == l1.length) = false := by first | simpa using c3 | (simp at c3 ⊢; omega)
   obtain rfl := Option.some.inj H
   go_enter Try.func184, Try.ntmps184
   go_wp2
   go_ret
   exact ⟨by first | rfl | (simp [errW_none, errW_some] <;> rfl) | (simp [*, errW_none, errW_some] <;> rfl), bz⟩

end Go.Proofs.Ythegbhfoleiegaa.All

