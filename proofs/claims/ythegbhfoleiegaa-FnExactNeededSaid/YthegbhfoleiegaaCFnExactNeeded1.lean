/- Part 1 of the proof of FnExactNeeded: functions of the translation with what they return, and plain laws of these. Written by programs of this session over the kit's print, and by hand. -/
import Derived.Test.YthegbhfoleiegaaProg
import Derived.Test.YthegbhfoleiegaaCFnExactNeededWApart
import Derived.Test.YthegbhfoleiegaaCFnExactNeededWArr
import Derived.Test.YthegbhfoleiegaaCFnExactNeededWEqStruct
import Derived.Test.YthegbhfoleiegaaCFnExactNeededWFoot
import Derived.Test.YthegbhfoleiegaaCFnExactNeededWGuard
import Derived.Test.YthegbhfoleiegaaCFnExactNeededWKept
import Derived.Test.YthegbhfoleiegaaCFnExactNeededWLast
import Derived.Test.YthegbhfoleiegaaCFnExactNeededWMore
import Derived.Test.YthegbhfoleiegaaCFnExactNeededWN
import Derived.Test.YthegbhfoleiegaaCFnExactNeededWNEv
import Derived.Test.YthegbhfoleiegaaCFnExactNeededWQPut
import Derived.Test.YthegbhfoleiegaaCFnExactNeededWRepsOne
import Derived.Test.YthegbhfoleiegaaCFnExactNeededWShare
import Derived.Test.YthegbhfoleiegaaCFnExactNeededWTab
import Derived.Test.YthegbhfoleiegaaCFnExactNeededWWords
import Derived.Test.YthegbhfoleiegaaCFnExactNeededWZeros
import Derived.Below
import Derived.Deep.Draws
import Derived.Deep.AppendLies
import Derived.Maps.AppendAt
import Derived.OwnWalk
import Derived.Laws.BytesArg
import Derived.Laws.MakeOwn
import Derived.Laws.OwnMore
import Derived.Deep.OwnRows
import Derived.Tactics
import Derived.Lib.ConvBytes
import Derived.Laws.Slices
import Derived.WalkKit
import Derived.KernelRfl
import Derived.RowKit3
import Derived.Deep.LoopGhost
import Derived.Deep.QuietTactic
import Derived.BigQuiet
import Derived.WideLaws
import Derived.Deep.DeepCutAuto
import Derived.Deep.CutBlock
import Derived.Deep.RegionHeld3
import Derived.Laws.Rows
import Derived.Lib.AppendStr
import Derived.ArgAppend
import Derived.Laws.IdiomCopy
import Derived.OrdersHeld
import Derived.Laws.BitsLemmas
import Derived.RowKit
import Derived.Laws.ResultCell
import Derived.Maps.OwnSet
import Derived.Maps.OwnOps
import Derived.DeepKeys4
import Derived.Deep.Slices
import Derived.ChangeArms
import Derived.ProofKit
import Derived.OpenShut
import Derived.ShutString
import Derived.ChangeOld
import Derived.SizedLaws
namespace Go.Proofs.Ythegbhfoleiegaa.All
open Go.RowKit Go.Proofs.YthegbhfoleiegaaW.PrintWords Go.Proofs.YthegbhfoleiegaaW.PrintLast Go.Proofs.YthegbhfoleiegaaW.PrintMore
attribute [local go_sem] max2_int min2_int max_two min_two max_three min_three max_four min_four   -- for this text's walks alone
set_option linter.unusedVariables false
set_option linter.unusedSimpArgs false



def errW : Option Int → Value
  | none => .nilIface
  | some c => .iface 0 (.int .i64 c)
theorem errW_none : errW none = .nilIface := rfl
theorem errW_some (c : Int) : errW (some c) = .iface 0 (.int .i64 c) := rfl

theorem info2 : (Try.prog.info? 2).map (fun i => (i.zero, i.size, i.bytes)) = some (some (.int .i64 0), 1, 8) := by kernel_rfl
theorem info5 : (Try.prog.info? 5).map (fun i => (i.zero, i.size, i.bytes)) = some (some (.int .u8 0), 1, 1) := by kernel_rfl
theorem info68 : (Try.prog.info? 68).map (fun i => (i.zero, i.size, i.bytes)) = some (some (.agg #[(.slice none 0 0)]), 1, 24) := by kernel_rfl
theorem info125 : (Try.prog.info? 125).map (fun i => (i.zero, i.size, i.bytes)) = some (some (.agg #[(.int .i64 0), (.int .i64 0)]), 2, 16) := by kernel_rfl
theorem info130 : (Try.prog.info? 130).map (fun i => (i.zero, i.size, i.bytes)) = some (some (.agg #[(.string ⟨#[]⟩), (.int .i64 0), (.int .i64 0), (.int .i64 0), (.slice none 0 0), (.int .i64 0), (.slice none 0 0), (.slice none 0 0)]), 8, 120) := by kernel_rfl
theorem info132 : (Try.prog.info? 132).map (fun i => (i.zero, i.size, i.bytes)) = some (some (.agg #[(.int .i64 0), (.int .i64 0), (.string ⟨#[]⟩)]), 3, 32) := by kernel_rfl
-- the values' own types
/-! #### struct type 224 -/
structure S224 where
  f0 : Int
  f1 : Int
  f2 : Int
  f3 : Int
  f4 : Int
  f5 : Int
  f6 : ByteArray
  f7 : (List Int)
/-! #### struct type 165 -/
structure S165 where
  f0 : (List S224)
/-! #### struct type 87 -/
structure S87 where
  f0 : Int
  f1 : Int
  f2 : Int
  f3 : Int
  f4 : Int
  f5 : Int
  f6 : ByteArray
  f7 : (List Int)
/-! #### struct type 85 -/
structure S85 where
  f0 : (List S87)
/-! #### struct type 111 -/
structure S111 where
  f0 : Bool
  f1 : Int
  f2 : Int
/-! #### struct type 113 -/
structure S113 where
  f0 : Int
  f1 : Int
  f2 : Int
  f3 : Bool
/-! #### struct type 237 -/
structure S237 where
  f0 : Int
  f1 : Int
  f2 : ByteArray
def z237 : S237 := ⟨(0 : Int), (0 : Int), (⟨#[]⟩ : ByteArray)⟩
def k237 : Kd S237 := Kd.iso (Kd.pair (Kd.int .i64) (Kd.pair (Kd.int .i64) Kd.string)) (fun x : S237 => (x.f0, x.f1, x.f2))
theorem k237_open {w : World} {x : S237} {cs : List Value} (h : k237.K w x cs) : cs = [.int .i64 x.f0, .int .i64 x.f1, .string x.f2] := by
  obtain ⟨_, _, rfl, rfl, ⟨_, _, rfl, rfl, rfl⟩⟩ := h
  exact rfl
def rd_T237 (xs : List S237) (i : Int) : S237 := xs.getD i.toNat z237
theorem at_T237 {w : World} {A : Option Addr} {n : Nat} {xs : List S237} (h : Kd.C k237 w A n xs) (i : Int) (h0 : 0 ≤ i) (h1 : i < n) : ∃ ad , A = some ad ∧ w.cell? (ad.add (i.toNat * 3)) = some (.int .i64 (rd_T237 xs i).f0) ∧ w.cell? ⟨(ad.add (i.toNat * 3)).block, (ad.add (i.toNat * 3)).off + 1, none⟩ = some (.int .i64 (rd_T237 xs i).f1) ∧ w.cell? ⟨(ad.add (i.toNat * 3)).block, (ad.add (i.toNat * 3)).off + 2, none⟩ = some (.string (rd_T237 xs i).f2) := by
  obtain ⟨ad, c, e, _, hK, hc0⟩ := Kd.C_get h z237 i h0 h1
  have hc : ∀ j u, c[j]? = some u → w.cell? (ad.add (i.toNat * 3 + j)) = some u := hc0
  obtain rfl := k237_open hK
  exact ⟨ad, e, hc 0 _ rfl, by rw [← add_field _ _ 1 (by omega)]; exact hc 1 _ rfl, by rw [← add_field _ _ 2 (by omega)]; exact hc 2 _ rfl⟩

/-! #### struct type 191 -/
structure S191 where
  f0 : ByteArray
  f1 : Int
  f2 : Int
  f3 : Int
  f4 : (List Int)
  f5 : Int
  f6 : (List Int)
  f7 : (List S237)
def z191 : S191 := ⟨(⟨#[]⟩ : ByteArray), (0 : Int), (0 : Int), (0 : Int), ([] : List Int), (0 : Int), ([] : List Int), ([] : List S237)⟩
def k191 : Kd S191 := Kd.iso (Kd.pair Kd.string (Kd.pair (Kd.int .i64) (Kd.pair (Kd.int .i64) (Kd.pair (Kd.int .i64) (Kd.pair (Kd.slice 2 (Kd.int .i64)) (Kd.pair (Kd.int .i64) (Kd.pair (Kd.slice 5 (Kd.int .u8)) (Kd.slice 237 k237)))))))) (fun x : S191 => (x.f0, x.f1, x.f2, x.f3, x.f4, x.f5, x.f6, x.f7))
theorem k191_open {w : World} {x : S191} {cs : List Value} (h : k191.K w x cs) : ∃ A4 c4 A6 c6 A7 c7, cs = [.string x.f0, .int .i64 x.f1, .int .i64 x.f2, .int .i64 x.f3, .slice A4 x.f4.length c4, .int .i64 x.f5, .slice A6 x.f6.length c6, .slice A7 x.f7.length c7] ∧ x.f4.length ≤ c4 ∧ (Kd.int .i64).C w A4 x.f4.length x.f4 ∧ x.f6.length ≤ c6 ∧ (Kd.int .u8).C w A6 x.f6.length x.f6 ∧ x.f7.length ≤ c7 ∧ k237.C w A7 x.f7.length x.f7 := by
  obtain ⟨_, _, rfl, rfl, ⟨_, _, rfl, rfl, ⟨_, _, rfl, rfl, ⟨_, _, rfl, rfl, ⟨_, _, rfl, ⟨A4, c4, rfl, l4, g4⟩, ⟨_, _, rfl, rfl, ⟨_, _, rfl, ⟨A6, c6, rfl, l6, g6⟩, ⟨A7, c7, rfl, l7, g7⟩⟩⟩⟩⟩⟩⟩⟩ := h
  exact ⟨A4, c4, A6, c6, A7, c7, rfl, l4, g4, l6, g6, l7, g7⟩
def rd_T191 (xs : List S191) (i : Int) : S191 := xs.getD i.toNat z191
theorem at_T191 {w : World} {A : Option Addr} {n : Nat} {xs : List S191} (h : Kd.C k191 w A n xs) (i : Int) (h0 : 0 ≤ i) (h1 : i < n) : ∃ ad A4 c4 A6 c6 A7 c7, A = some ad ∧ w.cell? (ad.add (i.toNat * 8)) = some (.string (rd_T191 xs i).f0) ∧ w.cell? ⟨(ad.add (i.toNat * 8)).block, (ad.add (i.toNat * 8)).off + 1, none⟩ = some (.int .i64 (rd_T191 xs i).f1) ∧ w.cell? ⟨(ad.add (i.toNat * 8)).block, (ad.add (i.toNat * 8)).off + 2, none⟩ = some (.int .i64 (rd_T191 xs i).f2) ∧ w.cell? ⟨(ad.add (i.toNat * 8)).block, (ad.add (i.toNat * 8)).off + 3, none⟩ = some (.int .i64 (rd_T191 xs i).f3) ∧ w.cell? ⟨(ad.add (i.toNat * 8)).block, (ad.add (i.toNat * 8)).off + 4, none⟩ = some (.slice A4 (rd_T191 xs i).f4.length c4) ∧ w.cell? ⟨(ad.add (i.toNat * 8)).block, (ad.add (i.toNat * 8)).off + 5, none⟩ = some (.int .i64 (rd_T191 xs i).f5) ∧ w.cell? ⟨(ad.add (i.toNat * 8)).block, (ad.add (i.toNat * 8)).off + 6, none⟩ = some (.slice A6 (rd_T191 xs i).f6.length c6) ∧ w.cell? ⟨(ad.add (i.toNat * 8)).block, (ad.add (i.toNat * 8)).off + 7, none⟩ = some (.slice A7 (rd_T191 xs i).f7.length c7) ∧ (rd_T191 xs i).f4.length ≤ c4 ∧ (Kd.int .i64).C w A4 (rd_T191 xs i).f4.length (rd_T191 xs i).f4 ∧ (rd_T191 xs i).f6.length ≤ c6 ∧ (Kd.int .u8).C w A6 (rd_T191 xs i).f6.length (rd_T191 xs i).f6 ∧ (rd_T191 xs i).f7.length ≤ c7 ∧ k237.C w A7 (rd_T191 xs i).f7.length (rd_T191 xs i).f7 := by
  obtain ⟨ad, c, e, _, hK, hc0⟩ := Kd.C_get h z191 i h0 h1
  have hc : ∀ j u, c[j]? = some u → w.cell? (ad.add (i.toNat * 8 + j)) = some u := hc0
  obtain ⟨A4, c4, A6, c6, A7, c7, rfl, l4, g4, l6, g6, l7, g7⟩ := k191_open hK
  exact ⟨ad, A4, c4, A6, c6, A7, c7, e, hc 0 _ rfl, by rw [← add_field _ _ 1 (by omega)]; exact hc 1 _ rfl, by rw [← add_field _ _ 2 (by omega)]; exact hc 2 _ rfl, by rw [← add_field _ _ 3 (by omega)]; exact hc 3 _ rfl, by rw [← add_field _ _ 4 (by omega)]; exact hc 4 _ rfl, by rw [← add_field _ _ 5 (by omega)]; exact hc 5 _ rfl, by rw [← add_field _ _ 6 (by omega)]; exact hc 6 _ rfl, by rw [← add_field _ _ 7 (by omega)]; exact hc 7 _ rfl, l4, g4, l6, g6, l7, g7⟩

/-! #### struct type 63 -/
structure S63 where
  f0 : (List S191)
def z63 : S63 := ⟨([] : List S191)⟩
def k63 : Kd S63 := Kd.iso (Kd.slice 191 k191) (fun x : S63 => x.f0)
theorem k63_open {w : World} {x : S63} {cs : List Value} (h : k63.K w x cs) : ∃ A0 c0, cs = [.slice A0 x.f0.length c0] ∧ x.f0.length ≤ c0 ∧ k191.C w A0 x.f0.length x.f0 := by
  obtain ⟨A0, c0, rfl, l0, g0⟩ := h
  exact ⟨A0, c0, rfl, l0, g0⟩
def rd_T63 (xs : List S63) (i : Int) : S63 := xs.getD i.toNat z63
theorem at_T63 {w : World} {A : Option Addr} {n : Nat} {xs : List S63} (h : Kd.C k63 w A n xs) (i : Int) (h0 : 0 ≤ i) (h1 : i < n) : ∃ ad A0 c0, A = some ad ∧ w.cell? (ad.add i.toNat) = some (.slice A0 (rd_T63 xs i).f0.length c0) ∧ (rd_T63 xs i).f0.length ≤ c0 ∧ k191.C w A0 (rd_T63 xs i).f0.length (rd_T63 xs i).f0 := by
  obtain ⟨ad, c, e, _, hK, hc0⟩ := Kd.C_get h z63 i h0 h1
  have hc : ∀ j u, c[j]? = some u → w.cell? (ad.add (i.toNat * 1 + j)) = some u := hc0
  obtain ⟨A0, c0, rfl, l0, g0⟩ := k63_open hK
  exact ⟨ad, A0, c0, e, by have hq := hc 0 _ rfl; rwa [Nat.mul_one, Nat.add_zero] at hq, l0, g0⟩

/-! #### struct type 132 -/
structure S132 where
  f0 : Int
  f1 : Int
  f2 : ByteArray
def z132 : S132 := ⟨(0 : Int), (0 : Int), (⟨#[]⟩ : ByteArray)⟩
def k132 : Kd S132 := Kd.iso (Kd.pair (Kd.int .i64) (Kd.pair (Kd.int .i64) Kd.string)) (fun x : S132 => (x.f0, x.f1, x.f2))
theorem k132_heap : Kd.Heap k132 := Kd.heap_iso _ (Kd.heap_pair (Kd.heap_int .i64) (Kd.heap_pair (Kd.heap_int .i64) Kd.heap_string))
theorem k132_open {w : World} {x : S132} {cs : List Value} (h : k132.K w x cs) : cs = [.int .i64 x.f0, .int .i64 x.f1, .string x.f2] := by
  obtain ⟨_, _, rfl, rfl, ⟨_, _, rfl, rfl, rfl⟩⟩ := h
  exact rfl
theorem k132_openM {w : World} {base : Nat} {ok : Nat → Prop} {x : S132} {cs : List Value} (h : k132.M w base ok x cs) : cs = [.int .i64 x.f0, .int .i64 x.f1, .string x.f2] := by
  obtain ⟨_, _, rfl, rfl, ⟨_, _, rfl, rfl, rfl⟩⟩ := h
  exact rfl
theorem k132_mkM (w : World) (base : Nat) (ok : Nat → Prop) (x : S132)  : k132.M w base ok x [.int .i64 x.f0, .int .i64 x.f1, .string x.f2] := ⟨[.int .i64 x.f0], [.int .i64 x.f1, .string x.f2], rfl, rfl, ⟨[.int .i64 x.f1], [.string x.f2], rfl, rfl, rfl⟩⟩
def rd_T132 (xs : List S132) (i : Int) : S132 := xs.getD i.toNat z132
theorem at_T132 {w : World} {A : Option Addr} {n : Nat} {xs : List S132} (h : Kd.C k132 w A n xs) (i : Int) (h0 : 0 ≤ i) (h1 : i < n) : ∃ ad , A = some ad ∧ w.cell? (ad.add (i.toNat * 3)) = some (.int .i64 (rd_T132 xs i).f0) ∧ w.cell? ⟨(ad.add (i.toNat * 3)).block, (ad.add (i.toNat * 3)).off + 1, none⟩ = some (.int .i64 (rd_T132 xs i).f1) ∧ w.cell? ⟨(ad.add (i.toNat * 3)).block, (ad.add (i.toNat * 3)).off + 2, none⟩ = some (.string (rd_T132 xs i).f2) := by
  obtain ⟨ad, c, e, _, hK, hc0⟩ := Kd.C_get h z132 i h0 h1
  have hc : ∀ j u, c[j]? = some u → w.cell? (ad.add (i.toNat * 3 + j)) = some u := hc0
  obtain rfl := k132_open hK
  exact ⟨ad, e, hc 0 _ rfl, by rw [← add_field _ _ 1 (by omega)]; exact hc 1 _ rfl, by rw [← add_field _ _ 2 (by omega)]; exact hc 2 _ rfl⟩

/-! #### struct type 130 -/
structure S130 where
  f0 : ByteArray
  f1 : Int
  f2 : Int
  f3 : Int
  f4 : (List Int)
  f5 : Int
  f6 : (List Int)
  f7 : (List S132)
def z130 : S130 := ⟨(⟨#[]⟩ : ByteArray), (0 : Int), (0 : Int), (0 : Int), ([] : List Int), (0 : Int), ([] : List Int), ([] : List S132)⟩
def k130 : Kd S130 := Kd.iso (Kd.pair Kd.string (Kd.pair (Kd.int .i64) (Kd.pair (Kd.int .i64) (Kd.pair (Kd.int .i64) (Kd.pair (Kd.slice 2 (Kd.int .i64)) (Kd.pair (Kd.int .i64) (Kd.pair (Kd.slice 5 (Kd.int .u8)) (Kd.slice 132 k132)))))))) (fun x : S130 => (x.f0, x.f1, x.f2, x.f3, x.f4, x.f5, x.f6, x.f7))
theorem k130_heap : Kd.Heap k130 := Kd.heap_iso _ (Kd.heap_pair Kd.heap_string (Kd.heap_pair (Kd.heap_int .i64) (Kd.heap_pair (Kd.heap_int .i64) (Kd.heap_pair (Kd.heap_int .i64) (Kd.heap_pair (Kd.heap_slice 2 (Kd.heap_int .i64)) (Kd.heap_pair (Kd.heap_int .i64) (Kd.heap_pair (Kd.heap_slice 5 (Kd.heap_int .u8)) (Kd.heap_slice 132 k132_heap))))))))
theorem k130_open {w : World} {x : S130} {cs : List Value} (h : k130.K w x cs) : ∃ A4 c4 A6 c6 A7 c7, cs = [.string x.f0, .int .i64 x.f1, .int .i64 x.f2, .int .i64 x.f3, .slice A4 x.f4.length c4, .int .i64 x.f5, .slice A6 x.f6.length c6, .slice A7 x.f7.length c7] ∧ x.f4.length ≤ c4 ∧ (Kd.int .i64).C w A4 x.f4.length x.f4 ∧ x.f6.length ≤ c6 ∧ (Kd.int .u8).C w A6 x.f6.length x.f6 ∧ x.f7.length ≤ c7 ∧ k132.C w A7 x.f7.length x.f7 := by
  obtain ⟨_, _, rfl, rfl, ⟨_, _, rfl, rfl, ⟨_, _, rfl, rfl, ⟨_, _, rfl, rfl, ⟨_, _, rfl, ⟨A4, c4, rfl, l4, g4⟩, ⟨_, _, rfl, rfl, ⟨_, _, rfl, ⟨A6, c6, rfl, l6, g6⟩, ⟨A7, c7, rfl, l7, g7⟩⟩⟩⟩⟩⟩⟩⟩ := h
  exact ⟨A4, c4, A6, c6, A7, c7, rfl, l4, g4, l6, g6, l7, g7⟩
theorem k130_openM {w : World} {base : Nat} {ok : Nat → Prop} {x : S130} {cs : List Value} (h : k130.M w base ok x cs) : ∃ v4 v6 v7, cs = [.string x.f0, .int .i64 x.f1, .int .i64 x.f2, .int .i64 x.f3, v4, .int .i64 x.f5, v6, v7] ∧ (Kd.int .i64).R 2 w base ok v4 x.f4 ∧ (Kd.int .u8).R 5 w base ok v6 x.f6 ∧ k132.R 132 w base ok v7 x.f7 := by
  obtain ⟨_, _, rfl, rfl, ⟨_, _, rfl, rfl, ⟨_, _, rfl, rfl, ⟨_, _, rfl, rfl, ⟨_, _, rfl, ⟨v4, rfl, g4⟩, ⟨_, _, rfl, rfl, ⟨_, _, rfl, ⟨v6, rfl, g6⟩, ⟨v7, rfl, g7⟩⟩⟩⟩⟩⟩⟩⟩ := h
  exact ⟨v4, v6, v7, rfl, g4, g6, g7⟩
theorem k130_mkM (w : World) (base : Nat) (ok : Nat → Prop) (x : S130) {v4 : Value} (g4 : (Kd.int .i64).R 2 w base ok v4 x.f4) {v6 : Value} (g6 : (Kd.int .u8).R 5 w base ok v6 x.f6) {v7 : Value} (g7 : k132.R 132 w base ok v7 x.f7) : k130.M w base ok x [.string x.f0, .int .i64 x.f1, .int .i64 x.f2, .int .i64 x.f3, v4, .int .i64 x.f5, v6, v7] := ⟨[.string x.f0], [.int .i64 x.f1, .int .i64 x.f2, .int .i64 x.f3, v4, .int .i64 x.f5, v6, v7], rfl, rfl, ⟨[.int .i64 x.f1], [.int .i64 x.f2, .int .i64 x.f3, v4, .int .i64 x.f5, v6, v7], rfl, rfl, ⟨[.int .i64 x.f2], [.int .i64 x.f3, v4, .int .i64 x.f5, v6, v7], rfl, rfl, ⟨[.int .i64 x.f3], [v4, .int .i64 x.f5, v6, v7], rfl, rfl, ⟨[v4], [.int .i64 x.f5, v6, v7], rfl, ⟨v4, rfl, g4⟩, ⟨[.int .i64 x.f5], [v6, v7], rfl, rfl, ⟨[v6], [v7], rfl, ⟨v6, rfl, g6⟩, ⟨v7, rfl, g7⟩⟩⟩⟩⟩⟩⟩⟩
theorem k130_openF {W : World} {ok : Nat → Prop} {x : S130} {cs : List Value} (h : Kd.FK k130 W ok x cs) : ∃ A4 c4 A6 c6 A7 c7, cs = [.string x.f0, .int .i64 x.f1, .int .i64 x.f2, .int .i64 x.f3, .slice A4 x.f4.length c4, .int .i64 x.f5, .slice A6 x.f6.length c6, .slice A7 x.f7.length c7] ∧ x.f4.length ≤ c4 ∧ Kd.F (Kd.int .i64) W ok A4 x.f4.length x.f4 ∧ x.f6.length ≤ c6 ∧ Kd.F (Kd.int .u8) W ok A6 x.f6.length x.f6 ∧ x.f7.length ≤ c7 ∧ Kd.F k132 W ok A7 x.f7.length x.f7 := by
  obtain ⟨A4, c4, A6, c6, A7, c7, rfl, l4, _, l6, _, l7, _⟩ := k130_open (Kd.FK_now h)
  exact ⟨A4, c4, A6, c6, A7, c7, rfl, l4, (fun W' hW => by obtain ⟨A4_, c4_, A6_, c6_, A7_, c7_, he, l4_, g4_, l6_, g6_, l7_, g7_⟩ := k130_open (h W' hW); injection (Option.some.inj (show some (Value.slice A4 x.f4.length c4) = some (Value.slice A4_ x.f4.length c4_) from congrArg (fun l => l[4]?) he)) with ha_ _ _; rw [ha_]; exact g4_), l6, (fun W' hW => by obtain ⟨A4_, c4_, A6_, c6_, A7_, c7_, he, l4_, g4_, l6_, g6_, l7_, g7_⟩ := k130_open (h W' hW); injection (Option.some.inj (show some (Value.slice A6 x.f6.length c6) = some (Value.slice A6_ x.f6.length c6_) from congrArg (fun l => l[6]?) he)) with ha_ _ _; rw [ha_]; exact g6_), l7, (fun W' hW => by obtain ⟨A4_, c4_, A6_, c6_, A7_, c7_, he, l4_, g4_, l6_, g6_, l7_, g7_⟩ := k130_open (h W' hW); injection (Option.some.inj (show some (Value.slice A7 x.f7.length c7) = some (Value.slice A7_ x.f7.length c7_) from congrArg (fun l => l[7]?) he)) with ha_ _ _; rw [ha_]; exact g7_)⟩
def rd_T130 (xs : List S130) (i : Int) : S130 := xs.getD i.toNat z130
theorem at_T130 {w : World} {A : Option Addr} {n : Nat} {xs : List S130} (h : Kd.C k130 w A n xs) (i : Int) (h0 : 0 ≤ i) (h1 : i < n) : ∃ ad A4 c4 A6 c6 A7 c7, A = some ad ∧ w.cell? (ad.add (i.toNat * 8)) = some (.string (rd_T130 xs i).f0) ∧ w.cell? ⟨(ad.add (i.toNat * 8)).block, (ad.add (i.toNat * 8)).off + 1, none⟩ = some (.int .i64 (rd_T130 xs i).f1) ∧ w.cell? ⟨(ad.add (i.toNat * 8)).block, (ad.add (i.toNat * 8)).off + 2, none⟩ = some (.int .i64 (rd_T130 xs i).f2) ∧ w.cell? ⟨(ad.add (i.toNat * 8)).block, (ad.add (i.toNat * 8)).off + 3, none⟩ = some (.int .i64 (rd_T130 xs i).f3) ∧ w.cell? ⟨(ad.add (i.toNat * 8)).block, (ad.add (i.toNat * 8)).off + 4, none⟩ = some (.slice A4 (rd_T130 xs i).f4.length c4) ∧ w.cell? ⟨(ad.add (i.toNat * 8)).block, (ad.add (i.toNat * 8)).off + 5, none⟩ = some (.int .i64 (rd_T130 xs i).f5) ∧ w.cell? ⟨(ad.add (i.toNat * 8)).block, (ad.add (i.toNat * 8)).off + 6, none⟩ = some (.slice A6 (rd_T130 xs i).f6.length c6) ∧ w.cell? ⟨(ad.add (i.toNat * 8)).block, (ad.add (i.toNat * 8)).off + 7, none⟩ = some (.slice A7 (rd_T130 xs i).f7.length c7) ∧ (rd_T130 xs i).f4.length ≤ c4 ∧ (Kd.int .i64).C w A4 (rd_T130 xs i).f4.length (rd_T130 xs i).f4 ∧ (rd_T130 xs i).f6.length ≤ c6 ∧ (Kd.int .u8).C w A6 (rd_T130 xs i).f6.length (rd_T130 xs i).f6 ∧ (rd_T130 xs i).f7.length ≤ c7 ∧ k132.C w A7 (rd_T130 xs i).f7.length (rd_T130 xs i).f7 := by
  obtain ⟨ad, c, e, _, hK, hc0⟩ := Kd.C_get h z130 i h0 h1
  have hc : ∀ j u, c[j]? = some u → w.cell? (ad.add (i.toNat * 8 + j)) = some u := hc0
  obtain ⟨A4, c4, A6, c6, A7, c7, rfl, l4, g4, l6, g6, l7, g7⟩ := k130_open hK
  exact ⟨ad, A4, c4, A6, c6, A7, c7, e, hc 0 _ rfl, by rw [← add_field _ _ 1 (by omega)]; exact hc 1 _ rfl, by rw [← add_field _ _ 2 (by omega)]; exact hc 2 _ rfl, by rw [← add_field _ _ 3 (by omega)]; exact hc 3 _ rfl, by rw [← add_field _ _ 4 (by omega)]; exact hc 4 _ rfl, by rw [← add_field _ _ 5 (by omega)]; exact hc 5 _ rfl, by rw [← add_field _ _ 6 (by omega)]; exact hc 6 _ rfl, by rw [← add_field _ _ 7 (by omega)]; exact hc 7 _ rfl, l4, g4, l6, g6, l7, g7⟩

/-! #### struct type 68 -/
structure S68 where
  f0 : (List S130)
def z68 : S68 := ⟨([] : List S130)⟩
def k68 : Kd S68 := Kd.iso (Kd.slice 130 k130) (fun x : S68 => x.f0)
theorem k68_heap : Kd.Heap k68 := Kd.heap_iso _ (Kd.heap_slice 130 k130_heap)
theorem k68_open {w : World} {x : S68} {cs : List Value} (h : k68.K w x cs) : ∃ A0 c0, cs = [.slice A0 x.f0.length c0] ∧ x.f0.length ≤ c0 ∧ k130.C w A0 x.f0.length x.f0 := by
  obtain ⟨A0, c0, rfl, l0, g0⟩ := h
  exact ⟨A0, c0, rfl, l0, g0⟩
theorem k68_openM {w : World} {base : Nat} {ok : Nat → Prop} {x : S68} {cs : List Value} (h : k68.M w base ok x cs) : ∃ v0, cs = [v0] ∧ k130.R 130 w base ok v0 x.f0 := by
  obtain ⟨v0, rfl, g0⟩ := h
  exact ⟨v0, rfl, g0⟩
theorem k68_mkM (w : World) (base : Nat) (ok : Nat → Prop) (x : S68) {v0 : Value} (g0 : k130.R 130 w base ok v0 x.f0) : k68.M w base ok x [v0] := ⟨v0, rfl, g0⟩
theorem k68_openF {W : World} {ok : Nat → Prop} {x : S68} {cs : List Value} (h : Kd.FK k68 W ok x cs) : ∃ A0 c0, cs = [.slice A0 x.f0.length c0] ∧ x.f0.length ≤ c0 ∧ Kd.F k130 W ok A0 x.f0.length x.f0 := by
  obtain ⟨A0, c0, rfl, l0, _⟩ := k68_open (Kd.FK_now h)
  exact ⟨A0, c0, rfl, l0, (fun W' hW => by obtain ⟨A0_, c0_, he, l0_, g0_⟩ := k68_open (h W' hW); injection (Option.some.inj (show some (Value.slice A0 x.f0.length c0) = some (Value.slice A0_ x.f0.length c0_) from congrArg (fun l => l[0]?) he)) with ha_ _ _; rw [ha_]; exact g0_)⟩
def rd_T68 (xs : List S68) (i : Int) : S68 := xs.getD i.toNat z68
theorem at_T68 {w : World} {A : Option Addr} {n : Nat} {xs : List S68} (h : Kd.C k68 w A n xs) (i : Int) (h0 : 0 ≤ i) (h1 : i < n) : ∃ ad A0 c0, A = some ad ∧ w.cell? (ad.add i.toNat) = some (.slice A0 (rd_T68 xs i).f0.length c0) ∧ (rd_T68 xs i).f0.length ≤ c0 ∧ k130.C w A0 (rd_T68 xs i).f0.length (rd_T68 xs i).f0 := by
  obtain ⟨ad, c, e, _, hK, hc0⟩ := Kd.C_get h z68 i h0 h1
  have hc : ∀ j u, c[j]? = some u → w.cell? (ad.add (i.toNat * 1 + j)) = some u := hc0
  obtain ⟨A0, c0, rfl, l0, g0⟩ := k68_open hK
  exact ⟨ad, A0, c0, e, by have hq := hc 0 _ rfl; rwa [Nat.mul_one, Nat.add_zero] at hq, l0, g0⟩

/-! #### struct type 125 -/
structure S125 where
  f0 : Int
  f1 : Int
def z125 : S125 := ⟨(0 : Int), (0 : Int)⟩
def k125 : Kd S125 := Kd.iso (Kd.pair (Kd.int .i64) (Kd.int .i64)) (fun x : S125 => (x.f0, x.f1))
theorem k125_open {w : World} {x : S125} {cs : List Value} (h : k125.K w x cs) : cs = [.int .i64 x.f0, .int .i64 x.f1] := by
  obtain ⟨_, _, rfl, rfl, rfl⟩ := h
  exact rfl
theorem k125_openM {w : World} {base : Nat} {ok : Nat → Prop} {x : S125} {cs : List Value} (h : k125.M w base ok x cs) : cs = [.int .i64 x.f0, .int .i64 x.f1] := by
  obtain ⟨_, _, rfl, rfl, rfl⟩ := h
  exact rfl
theorem k125_mkM (w : World) (base : Nat) (ok : Nat → Prop) (x : S125)  : k125.M w base ok x [.int .i64 x.f0, .int .i64 x.f1] := ⟨[.int .i64 x.f0], [.int .i64 x.f1], rfl, rfl, rfl⟩
def rd_T125 (xs : List S125) (i : Int) : S125 := xs.getD i.toNat z125
theorem at_T125 {w : World} {A : Option Addr} {n : Nat} {xs : List S125} (h : Kd.C k125 w A n xs) (i : Int) (h0 : 0 ≤ i) (h1 : i < n) : ∃ ad , A = some ad ∧ w.cell? (ad.add (i.toNat * 2)) = some (.int .i64 (rd_T125 xs i).f0) ∧ w.cell? ⟨(ad.add (i.toNat * 2)).block, (ad.add (i.toNat * 2)).off + 1, none⟩ = some (.int .i64 (rd_T125 xs i).f1) := by
  obtain ⟨ad, c, e, _, hK, hc0⟩ := Kd.C_get h z125 i h0 h1
  have hc : ∀ j u, c[j]? = some u → w.cell? (ad.add (i.toNat * 2 + j)) = some u := hc0
  obtain rfl := k125_open hK
  exact ⟨ad, e, hc 0 _ rfl, by rw [← add_field _ _ 1 (by omega)]; exact hc 1 _ rfl⟩

end Go.Proofs.Ythegbhfoleiegaa.All


namespace Go.Proofs.Ythegbhfoleiegaa.All
open Go.RowKit Go.Proofs.YthegbhfoleiegaaW.PrintWords Go.Proofs.YthegbhfoleiegaaW.PrintLast Go.Proofs.YthegbhfoleiegaaW.PrintMore
attribute [local go_sem] max2_int min2_int max_two min_two max_three min_three max_four min_four   -- for this text's walks alone
set_option linter.unusedVariables false
set_option linter.unusedSimpArgs false

/-! ### laws_szInt64S: function 57 -/
def laws_szInt64S.f (l0 : List Int) (a1 : Int) : Option (Int) := if (wrap64 (a1 - (l0.length : Int))) < 0 then (some (-1)) else (some (wrap64 (a1 - (l0.length : Int))))
set_option maxHeartbeats 8000000 in
set_option maxRecDepth 100000 in
theorem laws_szInt64S.calls (A0 : Option Addr) (c0 : Nat) (l0 : List Int) (a1 : Int) (r : Int) (w : World) (hr0 : Kd.C (Kd.int .i64) w A0 l0.length l0) (hc0 : l0.length ≤ c0) (h : laws_szInt64S.f l0 a1 = some r) :
 Calls Try.prog 57 #[.slice A0 l0.length c0, .int .i64 a1] w fun e w' => e = .returned (.int .i64 r) ∧ Drawn0 w w' := by
 have HR0 := Aside0.mk hr0
 have HC0 := Aside0.mk hc0
 clear hr0 hc0
 have H : (if (wrap64 (a1 - (l0.length : Int))) < 0 then (some (-1)) else (some (wrap64 (a1 - (l0.length : Int))))) = some r := h
 clear h
 by_cases c3 : (wrap64 (a1 - (l0.length : Int))) < 0
 · rw [if_pos c3] at H
   have c3b0 : decide ((wrap64 (a1 - (l0.length : Int))) < 0) = true := decide_eq_true c3
   clear c3
   obtain rfl := Option.some.inj H
   go_enter Try.func57, Try.ntmps57
   go_wp2
   go_ret
   exact ⟨by first | rfl | (simp; done) | (simp [*]; done), by repeat (first | exact Drawn0.refl _ | apply Drawn0.step)⟩
 · rw [if_neg c3] at H
   have c3b0 : decide ((wrap64 (a1 - (l0.length : Int))) < 0) = false := decide_eq_false c3
   clear c3
   obtain rfl := Option.some.inj H
   go_enter Try.func57, Try.ntmps57
   go_wp2
   go_ret
   exact ⟨by first | rfl | (simp; done) | (simp [*]; done), by repeat (first | exact Drawn0.refl _ | apply Drawn0.step)⟩

end Go.Proofs.Ythegbhfoleiegaa.All


namespace Go.Proofs.Ythegbhfoleiegaa.All
open Go.RowKit Go.Proofs.YthegbhfoleiegaaW.PrintWords Go.Proofs.YthegbhfoleiegaaW.PrintLast Go.Proofs.YthegbhfoleiegaaW.PrintMore
attribute [local go_sem] max2_int min2_int max_two min_two max_three min_three max_four min_four   -- for this text's walks alone
set_option linter.unusedVariables false
set_option linter.unusedSimpArgs false

/-! ### laws_szByteS: function 171 -/
def laws_szByteS.f (l0 : List Int) (a1 : Int) : Option (Int) := if (wrap64 (a1 - (l0.length : Int))) < 0 then (some (-1)) else (some (wrap64 (a1 - (l0.length : Int))))
set_option maxHeartbeats 8000000 in
set_option maxRecDepth 100000 in
theorem laws_szByteS.calls (A0 : Option Addr) (c0 : Nat) (l0 : List Int) (a1 : Int) (r : Int) (w : World) (hr0 : Kd.C (Kd.int .u8) w A0 l0.length l0) (hc0 : l0.length ≤ c0) (h : laws_szByteS.f l0 a1 = some r) :
 Calls Try.prog 171 #[.slice A0 l0.length c0, .int .i64 a1] w fun e w' => e = .returned (.int .i64 r) ∧ Drawn0 w w' := by
 have HR0 := Aside0.mk hr0
 have HC0 := Aside0.mk hc0
 clear hr0 hc0
 have H : (if (wrap64 (a1 - (l0.length : Int))) < 0 then (some (-1)) else (some (wrap64 (a1 - (l0.length : Int))))) = some r := h
 clear h
 by_cases c3 : (wrap64 (a1 - (l0.length : Int))) < 0
 · rw [if_pos c3] at H
   have c3b0 : decide ((wrap64 (a1 - (l0.length : Int))) < 0) = true := decide_eq_true c3
   clear c3
   obtain rfl := Option.some.inj H
   go_enter Try.func171, Try.ntmps171
   go_wp2
   go_ret
   exact ⟨by first | rfl | (simp; done) | (simp [*]; done), by repeat (first | exact Drawn0.refl _ | apply Drawn0.step)⟩
 · rw [if_neg c3] at H
   have c3b0 : decide ((wrap64 (a1 - (l0.length : Int))) < 0) = false := decide_eq_false c3
   clear c3
   obtain rfl := Option.some.inj H
   go_enter Try.func171, Try.ntmps171
   go_wp2
   go_ret
   exact ⟨by first | rfl | (simp; done) | (simp [*]; done), by repeat (first | exact Drawn0.refl _ | apply Drawn0.step)⟩

end Go.Proofs.Ythegbhfoleiegaa.All


namespace Go.Proofs.Ythegbhfoleiegaa.All
open Go.RowKit Go.Proofs.YthegbhfoleiegaaW.PrintWords Go.Proofs.YthegbhfoleiegaaW.PrintLast Go.Proofs.YthegbhfoleiegaaW.PrintMore
attribute [local go_sem] max2_int min2_int max_two min_two max_three min_three max_four min_four   -- for this text's walks alone
set_option linter.unusedVariables false
set_option linter.unusedSimpArgs false

/-! ### laws_szReloc: function 200 -/
def laws_szReloc.f (a0_0 : Int) (a0_1 : Int) (a0_2 : ByteArray) (a1 : Int) : Option (Int) := if (wrap64 (a1 - (a0_2.size : Int))) < 0 then (some (-1)) else (some (wrap64 (a1 - (a0_2.size : Int))))
set_option maxHeartbeats 8000000 in
set_option maxRecDepth 100000 in
theorem laws_szReloc.calls (a0_0 : Int) (a0_1 : Int) (a0_2 : ByteArray) (a1 : Int) (r : Int) (w : World) (h : laws_szReloc.f a0_0 a0_1 a0_2 a1 = some r) :
 Calls Try.prog 200 #[.agg #[.int .i64 a0_0, .int .i64 a0_1, .string a0_2], .int .i64 a1] w fun e w' => e = .returned (.int .i64 r) ∧ Below w.heap.size w w' := by
 have hu237 := Try.underlying237
 have HB := Aside0.mk (Below.refl w.heap.size w)
 have H : (if (wrap64 (a1 - (a0_2.size : Int))) < 0 then (some (-1)) else (some (wrap64 (a1 - (a0_2.size : Int))))) = some r := h
 clear h
 by_cases c3 : (wrap64 (a1 - (a0_2.size : Int))) < 0
 · rw [if_pos c3] at H
   have c3b0 : decide ((wrap64 (a1 - (a0_2.size : Int))) < 0) = true := decide_eq_true c3
   clear c3
   obtain rfl := Option.some.inj H
   go_enter Try.func200, Try.ntmps200
   go_wp2_with (first | ((with_reducible refine gate_dst (N := 2) rfl ?_); refine box_event ?hg (N := 2) ?hd (cs := #[.int .i64 a0_0, .int .i64 a0_1, .string a0_2]) (t := 237) ?hr ?_; (case hd => rfl); (case hg => rfl); (case hr => first | (go_simp; done) | (go_simp; rfl)); intro gb533 hg w4 hbox hb; have n0_ := Aside0.mk (below_step (by repeat (first | (with_reducible first | exact HB.out | apply below_alloc | apply pw_below_drewN | apply below_drew1) | exact HB.out)) hb); have n1_ := Aside0.mk (hbox); have n2_ := Aside0.mk ((by rw [hg]; exact (below_size (by repeat (first | (with_reducible first | exact HB.out | apply below_alloc | apply pw_below_drewN | apply below_drew1) | exact HB.out))) : w.heap.size ≤ gb533)); have n3_ := Aside0.mk ((by rw [hg]; exact (below_size (by repeat (first | (with_reducible first | exact HB.out | apply below_alloc | apply pw_below_drewN | apply below_drew1) | exact HB.out))) : w.heap.size ≤ gb533)); clear HB; have HB := n0_; have BK533 := n1_; have GW533 := n2_; have GE533 := n3_; clear n0_ n1_ n2_ n3_; clear hb hbox hg; have hcz5_0 : w4.cell? ⟨gb533, 0, none⟩ = some (.int .i64 a0_0) := (blk_cell BK533.out 0).trans rfl; have hcz5_1 : w4.cell? ⟨gb533, 1, none⟩ = some (.int .i64 a0_1) := (blk_cell BK533.out 1).trans rfl; have hcz5_2 : w4.cell? ⟨gb533, 2, none⟩ = some (.string a0_2) := (blk_cell BK533.out 2).trans rfl; have hfz5_0 := blk_frozen BK533.out 0; have hfz5_1 := blk_frozen BK533.out 1; have hfz5_2 := blk_frozen BK533.out 2))
   go_ret
   exact ⟨by first | rfl | (simp [errW_none, errW_some] <;> rfl) | (simp [*, errW_none, errW_some] <;> rfl), by repeat (first | (with_reducible first | exact HB.out | apply below_alloc | apply pw_below_drewN | apply below_drew1 | refine below_set ?_ GE533.out) | exact HB.out)⟩
 · rw [if_neg c3] at H
   have c3b0 : decide ((wrap64 (a1 - (a0_2.size : Int))) < 0) = false := decide_eq_false c3
   clear c3
   obtain rfl := Option.some.inj H
   go_enter Try.func200, Try.ntmps200
   go_wp2_with (first | ((with_reducible refine gate_dst (N := 2) rfl ?_); refine box_event ?hg (N := 2) ?hd (cs := #[.int .i64 a0_0, .int .i64 a0_1, .string a0_2]) (t := 237) ?hr ?_; (case hd => rfl); (case hg => rfl); (case hr => first | (go_simp; done) | (go_simp; rfl)); intro gb533 hg w6 hbox hb; have n0_ := Aside0.mk (below_step (by repeat (first | (with_reducible first | exact HB.out | apply below_alloc | apply pw_below_drewN | apply below_drew1) | exact HB.out)) hb); have n1_ := Aside0.mk (hbox); have n2_ := Aside0.mk ((by rw [hg]; exact (below_size (by repeat (first | (with_reducible first | exact HB.out | apply below_alloc | apply pw_below_drewN | apply below_drew1) | exact HB.out))) : w.heap.size ≤ gb533)); have n3_ := Aside0.mk ((by rw [hg]; exact (below_size (by repeat (first | (with_reducible first | exact HB.out | apply below_alloc | apply pw_below_drewN | apply below_drew1) | exact HB.out))) : w.heap.size ≤ gb533)); clear HB; have HB := n0_; have BK533 := n1_; have GW533 := n2_; have GE533 := n3_; clear n0_ n1_ n2_ n3_; clear hb hbox hg; have hcz7_0 : w6.cell? ⟨gb533, 0, none⟩ = some (.int .i64 a0_0) := (blk_cell BK533.out 0).trans rfl; have hcz7_1 : w6.cell? ⟨gb533, 1, none⟩ = some (.int .i64 a0_1) := (blk_cell BK533.out 1).trans rfl; have hcz7_2 : w6.cell? ⟨gb533, 2, none⟩ = some (.string a0_2) := (blk_cell BK533.out 2).trans rfl; have hfz7_0 := blk_frozen BK533.out 0; have hfz7_1 := blk_frozen BK533.out 1; have hfz7_2 := blk_frozen BK533.out 2))
   go_ret
   exact ⟨by first | rfl | (simp [errW_none, errW_some] <;> rfl) | (simp [*, errW_none, errW_some] <;> rfl), by repeat (first | (with_reducible first | exact HB.out | apply below_alloc | apply pw_below_drewN | apply below_drew1 | refine below_set ?_ GE533.out) | exact HB.out)⟩

end Go.Proofs.Ythegbhfoleiegaa.All


namespace Go.Proofs.Ythegbhfoleiegaa.All
open Go.RowKit Go.Proofs.YthegbhfoleiegaaW.PrintWords Go.Proofs.YthegbhfoleiegaaW.PrintLast Go.Proofs.YthegbhfoleiegaaW.PrintMore
attribute [local go_sem] max2_int min2_int max_two min_two max_three min_three max_four min_four   -- for this text's walks alone
set_option linter.unusedVariables false
set_option linter.unusedSimpArgs false

/-! ### laws_szRelocS: function 172 -/
def laws_szRelocS.l0 : Nat → List (S237) → Int → Int → Option (Int)
 | 0, _, _, _ => none
 | k + 1, x0, x1, x5 => if x5 < (x0.length : Int) then (if 0 ≤ x5 then ((laws_szReloc.f ((rd_T237 x0 x5).f0) ((rd_T237 x0 x5).f1) ((rd_T237 x0 x5).f2) x1).bind fun t535 => (if t535 < 0 then (some (-1)) else (laws_szRelocS.l0 k x0 t535 (wrap64 (x5 + 1))))) else (none)) else (some x1)
def laws_szRelocS.f (k : Nat) (l0 : List (S237)) (a1 : Int) : Option (Int) := if (wrap64 (a1 - (l0.length : Int))) < 0 then (some (-1)) else (laws_szRelocS.l0 k l0 (wrap64 (a1 - (l0.length : Int))) 0)
set_option maxHeartbeats 8000000 in
set_option maxRecDepth 100000 in
theorem laws_szRelocS.calls (k : Nat) (A0 : Option Addr) (c0 : Nat) (l0 : List (S237)) (a1 : Int) (r : Int) (w : World) (hr0 : Kd.C k237 w A0 l0.length l0) (hc0 : l0.length ≤ c0) (h : laws_szRelocS.f k l0 a1 = some r) :
 Calls Try.prog 172 #[.slice A0 l0.length c0, .int .i64 a1] w fun e w' => e = .returned (.int .i64 r) ∧ Below w.heap.size w w' := by
 have hu237 := Try.underlying237
 have HR0 := Aside0.mk hr0
 have HC0 := Aside0.mk hc0
 clear hr0 hc0
 have HB := Aside0.mk (Below.refl w.heap.size w)
 have H : (if (wrap64 (a1 - (l0.length : Int))) < 0 then (some (-1)) else (laws_szRelocS.l0 k l0 (wrap64 (a1 - (l0.length : Int))) 0)) = some r := h
 clear h
 by_cases c3 : (wrap64 (a1 - (l0.length : Int))) < 0
 · rw [if_pos c3] at H
   have c3b0 : decide ((wrap64 (a1 - (l0.length : Int))) < 0) = true := decide_eq_true c3
   clear c3
   obtain rfl := Option.some.inj H
   go_enter Try.func172, Try.ntmps172
   go_wp2
   go_ret
   exact ⟨by first | rfl | (simp [errW_none, errW_some] <;> rfl) | (simp [*, errW_none, errW_some] <;> rfl), by repeat (first | (with_reducible first | exact HB.out | apply below_alloc | apply pw_below_drewN | apply below_drew1) | exact HB.out)⟩
 · rw [if_neg c3] at H
   have c3b0 : decide ((wrap64 (a1 - (l0.length : Int))) < 0) = false := decide_eq_false c3
   clear c3
   have H' := Aside0.mk H
   clear H
   go_enter Try.func172, Try.ntmps172
   go_wp2
   go_loopg [1, 5] k (fun kq v1 v5 w' => ∃ (x1_1 : Int) (x5_1 : Int), v1 = .int .i64 x1_1 ∧ v5 = .int .i64 x5_1 ∧ Aside0 (laws_szRelocS.l0 kq l0 x1_1 x5_1 = some r) ∧ Aside0 (kq ≤ k) ∧ Aside0 (Below w.heap.size w w'))
   case atStart => exact ⟨(wrap64 (a1 - (l0.length : Int))), (0), (by first | rfl | (simp; done) | (simp [*]; done)), (by first | rfl | (simp; done) | (simp [*]; done)), H', ⟨Nat.le_refl _⟩, ⟨by repeat (first | (with_reducible first | exact HB.out | apply below_alloc | apply pw_below_drewN | apply below_drew1) | exact HB.out)⟩⟩
   case round =>
    clear H'
    try clear c1
    try clear p2
    try clear c3
    try clear c3b0
    obtain ⟨x1_1, x5_1, rfl, rfl, HA, HK1, HB⟩ := hrel
    cases gk with
    | zero => exact absurd HA.out (by simp [laws_szRelocS.l0])
    | succ k1 =>
     have H := HA.out
     clear HA
     simp only [laws_szRelocS.l0] at H
     by_cases c4 : x5_1 < (l0.length : Int)
     · rw [if_pos c4] at H
       have c4b0 : decide (x5_1 < (l0.length : Int)) = true := decide_eq_true c4
       clear c4
       by_cases c5 : 0 ≤ x5_1
       · rw [if_pos c5] at H
         have c5b0 : decide (0 ≤ x5_1) = true := decide_eq_true c5
         clear c5
         replace H := Option.bind_eq_some_iff.mp H
         obtain ⟨t535, A60, H⟩ := H
         replace H : (if t535 < 0 then (some (-1)) else (laws_szRelocS.l0 k1 l0 t535 (wrap64 (x5_1 + 1)))) = some r := H
         have A6 := Aside0.mk A60
         clear A60
         by_cases c7 : t535 < 0
         · rw [if_pos c7] at H
           have c7b0 : decide (t535 < 0) = true := decide_eq_true c7
           clear c7
           obtain rfl := Option.some.inj H
           have p534 : 0 ≤ (x5_1 : Int) := of_decide_eq_true (by first | (with_reducible assumption) | assumption)
           have q534 : x5_1 < (l0.length : Int) := of_decide_eq_true (by first | (with_reducible assumption) | assumption)
           obtain ⟨ad534, e534, hx534_0, hx534_1, hx534_2⟩ := at_T237 HR0.out x5_1 p534 q534
           cases e534
           replace hx534_0 := (HB.out.cell (World.block_lt_of_cell? w _ hx534_0)).trans hx534_0
           replace hx534_1 := (HB.out.cell (World.block_lt_of_cell? w _ hx534_1)).trans hx534_1
           replace hx534_2 := (HB.out.cell (World.block_lt_of_cell? w _ hx534_2)).trans hx534_2
           replace p534 := eq_true p534
           replace q534 := eq_true q534
           go_wp2_with (first | ((with_reducible refine gate_callee (f := 200) rfl ?_); refine goesL_ (some 23) rfl rfl Try.func200 (by kernel_rfl) rfl #[.agg #[.int .i64 ((rd_T237 l0 x5_1).f0), .int .i64 ((rd_T237 l0 x5_1).f1), .string ((rd_T237 l0 x5_1).f2)], .int .i64 x1_1] rfl (by (try simp only [List.map_toArray, List.map_cons, List.map_nil]); first | done | rfl | (simp only [List.length_drop, List.length_take]; rfl)) ?_; (with_reducible refine (laws_szReloc.calls ((rd_T237 l0 x5_1).f0) ((rd_T237 l0 x5_1).f1) ((rd_T237 l0 x5_1).f2) x1_1 t535 _ A6.out).mono ?_); rintro e w8 ⟨rfl, hb⟩; refine ⟨_, rfl, ?_⟩; have n0_ := Aside0.mk (below_step (by repeat (first | (with_reducible first | exact HB.out | apply below_alloc | apply pw_below_drewN | apply below_drew1) | exact HB.out)) hb); clear HB; have HB := n0_; clear n0_; (try clear hb); (try clear hb2); (try clear hk); (try clear hi)))
           go_ret
           exact ⟨by first | rfl | (simp [errW_none, errW_some] <;> rfl) | (simp [*, errW_none, errW_some] <;> rfl), by repeat (first | (with_reducible first | exact HB.out | apply below_alloc | apply pw_below_drewN | apply below_drew1) | exact HB.out)⟩
         · rw [if_neg c7] at H
           have c7b0 : decide (t535 < 0) = false := decide_eq_false c7
           clear c7
           have H' := Aside0.mk H
           clear H
           have p534 : 0 ≤ (x5_1 : Int) := of_decide_eq_true (by first | (with_reducible assumption) | assumption)
           have q534 : x5_1 < (l0.length : Int) := of_decide_eq_true (by first | (with_reducible assumption) | assumption)
           obtain ⟨ad534, e534, hx534_0, hx534_1, hx534_2⟩ := at_T237 HR0.out x5_1 p534 q534
           cases e534
           replace hx534_0 := (HB.out.cell (World.block_lt_of_cell? w _ hx534_0)).trans hx534_0
           replace hx534_1 := (HB.out.cell (World.block_lt_of_cell? w _ hx534_1)).trans hx534_1
           replace hx534_2 := (HB.out.cell (World.block_lt_of_cell? w _ hx534_2)).trans hx534_2
           replace p534 := eq_true p534
           replace q534 := eq_true q534
           go_wp2_with (first | ((with_reducible refine gate_callee (f := 200) rfl ?_); refine goesL_ (some 23) rfl rfl Try.func200 (by kernel_rfl) rfl #[.agg #[.int .i64 ((rd_T237 l0 x5_1).f0), .int .i64 ((rd_T237 l0 x5_1).f1), .string ((rd_T237 l0 x5_1).f2)], .int .i64 x1_1] rfl (by (try simp only [List.map_toArray, List.map_cons, List.map_nil]); first | done | rfl | (simp only [List.length_drop, List.length_take]; rfl)) ?_; (with_reducible refine (laws_szReloc.calls ((rd_T237 l0 x5_1).f0) ((rd_T237 l0 x5_1).f1) ((rd_T237 l0 x5_1).f2) x1_1 t535 _ A6.out).mono ?_); rintro e w9 ⟨rfl, hb⟩; refine ⟨_, rfl, ?_⟩; have n0_ := Aside0.mk (below_step (by repeat (first | (with_reducible first | exact HB.out | apply below_alloc | apply pw_below_drewN | apply below_drew1) | exact HB.out)) hb); clear HB; have HB := n0_; clear n0_; (try clear hb); (try clear hb2); (try clear hk); (try clear hi)))
           go_roundg k1
           case measure => have := HK1.out; omega
           case rel => exact ⟨(t535), (wrap64 (x5_1 + 1)), (by first | rfl | (simp; done) | (simp [*]; done)), (by first | rfl | (simp; done) | (simp [*]; done)), H', ⟨by have := HK1.out; omega⟩, ⟨by repeat (first | (with_reducible first | exact HB.out | apply below_alloc | apply pw_below_drewN | apply below_drew1) | exact HB.out)⟩⟩
       · rw [if_neg c5] at H
         exact absurd H (by simp)
     · rw [if_neg c4] at H
       have c4b0 : decide (x5_1 < (l0.length : Int)) = false := decide_eq_false c4
       clear c4
       obtain rfl := Option.some.inj H
       go_wp2
       go_ret
       exact ⟨by first | rfl | (simp [errW_none, errW_some] <;> rfl) | (simp [*, errW_none, errW_some] <;> rfl), by repeat (first | (with_reducible first | exact HB.out | apply below_alloc | apply pw_below_drewN | apply below_drew1) | exact HB.out)⟩

end Go.Proofs.Ythegbhfoleiegaa.All


namespace Go.Proofs.Ythegbhfoleiegaa.All
open Go.RowKit Go.Proofs.YthegbhfoleiegaaW.PrintWords Go.Proofs.YthegbhfoleiegaaW.PrintLast Go.Proofs.YthegbhfoleiegaaW.PrintMore
attribute [local go_sem] max2_int min2_int max_two min_two max_three min_three max_four min_four   -- for this text's walks alone
set_option linter.unusedVariables false
set_option linter.unusedSimpArgs false

/-! ### laws_szSection: function 138 -/
def laws_szSection.f (k : Nat) (a0_0 : ByteArray) (a0_1 : Int) (a0_2 : Int) (a0_3 : Int) (l0_4 : List Int) (a0_5 : Int) (l0_6 : List Int) (l0_7 : List (S237)) (a1 : Int) : Option (Int) := if (wrap64 (a1 - (a0_0.size : Int))) < 0 then (some (-1)) else ((laws_szInt64S.f l0_4 (wrap64 (a1 - (a0_0.size : Int)))).bind fun t537 => (if t537 < 0 then (some (-1)) else ((laws_szByteS.f l0_6 t537).bind fun t538 => (if t538 < 0 then (some (-1)) else ((laws_szRelocS.f k l0_7 t538).bind fun t539 => (if t539 < 0 then (some (-1)) else (some t539)))))))
set_option maxHeartbeats 8000000 in
set_option maxRecDepth 100000 in
theorem laws_szSection.calls (k : Nat) (a0_0 : ByteArray) (a0_1 : Int) (a0_2 : Int) (a0_3 : Int) (A0_4 : Option Addr) (c0_4 : Nat) (l0_4 : List Int) (a0_5 : Int) (A0_6 : Option Addr) (c0_6 : Nat) (l0_6 : List Int) (A0_7 : Option Addr) (c0_7 : Nat) (l0_7 : List (S237)) (a1 : Int) (r : Int) (w : World) (hr0_4 : Kd.C (Kd.int .i64) w A0_4 l0_4.length l0_4) (hc0_4 : l0_4.length ≤ c0_4) (hr0_6 : Kd.C (Kd.int .u8) w A0_6 l0_6.length l0_6) (hc0_6 : l0_6.length ≤ c0_6) (hr0_7 : Kd.C k237 w A0_7 l0_7.length l0_7) (hc0_7 : l0_7.length ≤ c0_7) (h : laws_szSection.f k a0_0 a0_1 a0_2 a0_3 l0_4 a0_5 l0_6 l0_7 a1 = some r) :
 Calls Try.prog 138 #[.agg #[.string a0_0, .int .i64 a0_1, .int .i64 a0_2, .int .i64 a0_3, .slice A0_4 l0_4.length c0_4, .int .i64 a0_5, .slice A0_6 l0_6.length c0_6, .slice A0_7 l0_7.length c0_7], .int .i64 a1] w fun e w' => e = .returned (.int .i64 r) ∧ Below w.heap.size w w' := by
 have hu191 := Try.underlying191
 have HR0_4 := Aside0.mk hr0_4
 have HC0_4 := Aside0.mk hc0_4
 clear hr0_4 hc0_4
 have HR0_6 := Aside0.mk hr0_6
 have HC0_6 := Aside0.mk hc0_6
 clear hr0_6 hc0_6
 have HR0_7 := Aside0.mk hr0_7
 have HC0_7 := Aside0.mk hc0_7
 clear hr0_7 hc0_7
 have HB := Aside0.mk (Below.refl w.heap.size w)
 have H : (if (wrap64 (a1 - (a0_0.size : Int))) < 0 then (some (-1)) else ((laws_szInt64S.f l0_4 (wrap64 (a1 - (a0_0.size : Int)))).bind fun t537 => (if t537 < 0 then (some (-1)) else ((laws_szByteS.f l0_6 t537).bind fun t538 => (if t538 < 0 then (some (-1)) else ((laws_szRelocS.f k l0_7 t538).bind fun t539 => (if t539 < 0 then (some (-1)) else (some t539)))))))) = some r := h
 clear h
 by_cases c3 : (wrap64 (a1 - (a0_0.size : Int))) < 0
 · rw [if_pos c3] at H
   have c3b0 : decide ((wrap64 (a1 - (a0_0.size : Int))) < 0) = true := decide_eq_true c3
   clear c3
   obtain rfl := Option.some.inj H
   go_enter Try.func138, Try.ntmps138
   go_wp2_with (first | ((with_reducible refine gate_dst (N := 2) rfl ?_); refine box_event ?hg (N := 2) ?hd (cs := #[.string a0_0, .int .i64 a0_1, .int .i64 a0_2, .int .i64 a0_3, .slice A0_4 l0_4.length c0_4, .int .i64 a0_5, .slice A0_6 l0_6.length c0_6, .slice A0_7 l0_7.length c0_7]) (t := 191) ?hr ?_; (case hd => rfl); (case hg => rfl); (case hr => first | (go_simp; done) | (go_simp; rfl)); intro gb536 hg w4 hbox hb; have n0_ := Aside0.mk (below_step (by repeat (first | (with_reducible first | exact HB.out | apply below_alloc | apply pw_below_drewN | apply below_drew1) | exact HB.out)) hb); have n1_ := Aside0.mk (hbox); have n2_ := Aside0.mk ((by rw [hg]; exact (below_size (by repeat (first | (with_reducible first | exact HB.out | apply below_alloc | apply pw_below_drewN | apply below_drew1) | exact HB.out))) : w.heap.size ≤ gb536)); have n3_ := Aside0.mk ((by rw [hg]; exact (below_size (by repeat (first | (with_reducible first | exact HB.out | apply below_alloc | apply pw_below_drewN | apply below_drew1) | exact HB.out))) : w.heap.size ≤ gb536)); clear HB; have HB := n0_; have BK536 := n1_; have GW536 := n2_; have GE536 := n3_; clear n0_ n1_ n2_ n3_; clear hb hbox hg; have hcz5_0 : w4.cell? ⟨gb536, 0, none⟩ = some (.string a0_0) := (blk_cell BK536.out 0).trans rfl; have hcz5_1 : w4.cell? ⟨gb536, 1, none⟩ = some (.int .i64 a0_1) := (blk_cell BK536.out 1).trans rfl; have hcz5_2 : w4.cell? ⟨gb536, 2, none⟩ = some (.int .i64 a0_2) := (blk_cell BK536.out 2).trans rfl; have hcz5_3 : w4.cell? ⟨gb536, 3, none⟩ = some (.int .i64 a0_3) := (blk_cell BK536.out 3).trans rfl; have hcz5_4 : w4.cell? ⟨gb536, 4, none⟩ = some (.slice A0_4 l0_4.length c0_4) := (blk_cell BK536.out 4).trans rfl; have hcz5_5 : w4.cell? ⟨gb536, 5, none⟩ = some (.int .i64 a0_5) := (blk_cell BK536.out 5).trans rfl; have hcz5_6 : w4.cell? ⟨gb536, 6, none⟩ = some (.slice A0_6 l0_6.length c0_6) := (blk_cell BK536.out 6).trans rfl; have hcz5_7 : w4.cell? ⟨gb536, 7, none⟩ = some (.slice A0_7 l0_7.length c0_7) := (blk_cell BK536.out 7).trans rfl; have hfz5_0 := blk_frozen BK536.out 0; have hfz5_1 := blk_frozen BK536.out 1; have hfz5_2 := blk_frozen BK536.out 2; have hfz5_3 := blk_frozen BK536.out 3; have hfz5_4 := blk_frozen BK536.out 4; have hfz5_5 := blk_frozen BK536.out 5; have hfz5_6 := blk_frozen BK536.out 6; have hfz5_7 := blk_frozen BK536.out 7))
   go_ret
   exact ⟨by first | rfl | (simp [errW_none, errW_some] <;> rfl) | (simp [*, errW_none, errW_some] <;> rfl), by repeat (first | (with_reducible first | exact HB.out | apply below_alloc | apply pw_below_drewN | apply below_drew1 | refine below_set ?_ GE536.out) | exact HB.out)⟩
 · rw [if_neg c3] at H
   have c3b0 : decide ((wrap64 (a1 - (a0_0.size : Int))) < 0) = false := decide_eq_false c3
   clear c3
   replace H := Option.bind_eq_some_iff.mp H
   obtain ⟨t537, A60, H⟩ := H
   replace H : (if t537 < 0 then (some (-1)) else ((laws_szByteS.f l0_6 t537).bind fun t538 => (if t538 < 0 then (some (-1)) else ((laws_szRelocS.f k l0_7 t538).bind fun t539 => (if t539 < 0 then (some (-1)) else (some t539)))))) = some r := H
   have A6 := Aside0.mk A60
   clear A60
   by_cases c7 : t537 < 0
   · rw [if_pos c7] at H
     have c7b0 : decide (t537 < 0) = true := decide_eq_true c7
     clear c7
     obtain rfl := Option.some.inj H
     go_enter Try.func138, Try.ntmps138
     go_wp2_with (first | ((with_reducible refine gate_dst (N := 2) rfl ?_); refine box_event ?hg (N := 2) ?hd (cs := #[.string a0_0, .int .i64 a0_1, .int .i64 a0_2, .int .i64 a0_3, .slice A0_4 l0_4.length c0_4, .int .i64 a0_5, .slice A0_6 l0_6.length c0_6, .slice A0_7 l0_7.length c0_7]) (t := 191) ?hr ?_; (case hd => rfl); (case hg => rfl); (case hr => first | (go_simp; done) | (go_simp; rfl)); intro gb536 hg w8 hbox hb; have n0_ := Aside0.mk (below_step (by repeat (first | (with_reducible first | exact HB.out | apply below_alloc | apply pw_below_drewN | apply below_drew1) | exact HB.out)) hb); have n1_ := Aside0.mk (hbox); have n2_ := Aside0.mk ((by rw [hg]; exact (below_size (by repeat (first | (with_reducible first | exact HB.out | apply below_alloc | apply pw_below_drewN | apply below_drew1) | exact HB.out))) : w.heap.size ≤ gb536)); have n3_ := Aside0.mk ((by rw [hg]; exact (below_size (by repeat (first | (with_reducible first | exact HB.out | apply below_alloc | apply pw_below_drewN | apply below_drew1) | exact HB.out))) : w.heap.size ≤ gb536)); clear HB; have HB := n0_; have BK536 := n1_; have GW536 := n2_; have GE536 := n3_; clear n0_ n1_ n2_ n3_; clear hb hbox hg; have hcz9_0 : w8.cell? ⟨gb536, 0, none⟩ = some (.string a0_0) := (blk_cell BK536.out 0).trans rfl; have hcz9_1 : w8.cell? ⟨gb536, 1, none⟩ = some (.int .i64 a0_1) := (blk_cell BK536.out 1).trans rfl; have hcz9_2 : w8.cell? ⟨gb536, 2, none⟩ = some (.int .i64 a0_2) := (blk_cell BK536.out 2).trans rfl; have hcz9_3 : w8.cell? ⟨gb536, 3, none⟩ = some (.int .i64 a0_3) := (blk_cell BK536.out 3).trans rfl; have hcz9_4 : w8.cell? ⟨gb536, 4, none⟩ = some (.slice A0_4 l0_4.length c0_4) := (blk_cell BK536.out 4).trans rfl; have hcz9_5 : w8.cell? ⟨gb536, 5, none⟩ = some (.int .i64 a0_5) := (blk_cell BK536.out 5).trans rfl; have hcz9_6 : w8.cell? ⟨gb536, 6, none⟩ = some (.slice A0_6 l0_6.length c0_6) := (blk_cell BK536.out 6).trans rfl; have hcz9_7 : w8.cell? ⟨gb536, 7, none⟩ = some (.slice A0_7 l0_7.length c0_7) := (blk_cell BK536.out 7).trans rfl; have hfz9_0 := blk_frozen BK536.out 0; have hfz9_1 := blk_frozen BK536.out 1; have hfz9_2 := blk_frozen BK536.out 2; have hfz9_3 := blk_frozen BK536.out 3; have hfz9_4 := blk_frozen BK536.out 4; have hfz9_5 := blk_frozen BK536.out 5; have hfz9_6 := blk_frozen BK536.out 6; have hfz9_7 := blk_frozen BK536.out 7) | ((with_reducible refine gate_callee (f := 57) rfl ?_); refine goesL_ (some 15) rfl rfl Try.func57 (by kernel_rfl) rfl #[.slice A0_4 l0_4.length c0_4, .int .i64 (wrap64 (a1 - (a0_0.size : Int)))] rfl (by (try simp only [List.map_toArray, List.map_cons, List.map_nil]); first | done | rfl | (simp only [List.length_drop, List.length_take]; rfl)) ?_; (with_reducible refine (laws_szInt64S.calls _ _ l0_4 (wrap64 (a1 - (a0_0.size : Int))) t537 _ ?side1 ?side2 A6.out).mono ?_); (case side1 => repeat (first | exact (Kd.C_below HR0_4.out HB.out) | (with_reducible refine Kd.C_alloc ?_ _) | (with_reducible refine Kd.C_drewN ?_ _) | (with_reducible refine Kd.C_drew ?_))); (case side2 => exact HC0_4.out); rintro e w' ⟨rfl, ⟨nd, rfl⟩⟩; refine ⟨_, rfl, ?_⟩))
     go_ret
     exact ⟨by first | rfl | (simp [errW_none, errW_some] <;> rfl) | (simp [*, errW_none, errW_some] <;> rfl), by repeat (first | (with_reducible first | exact HB.out | apply below_alloc | apply pw_below_drewN | apply below_drew1 | refine below_set ?_ GE536.out) | exact HB.out)⟩
   · rw [if_neg c7] at H
     have c7b0 : decide (t537 < 0) = false := decide_eq_false c7
     clear c7
     replace H := Option.bind_eq_some_iff.mp H
     obtain ⟨t538, A100, H⟩ := H
     replace H : (if t538 < 0 then (some (-1)) else ((laws_szRelocS.f k l0_7 t538).bind fun t539 => (if t539 < 0 then (some (-1)) else (some t539)))) = some r := H
     have A10 := Aside0.mk A100
     clear A100
     by_cases c11 : t538 < 0
     · rw [if_pos c11] at H
       have c11b0 : decide (t538 < 0) = true := decide_eq_true c11
       clear c11
       obtain rfl := Option.some.inj H
       go_enter Try.func138, Try.ntmps138
       go_wp2_with (first | ((with_reducible refine gate_dst (N := 2) rfl ?_); refine box_event ?hg (N := 2) ?hd (cs := #[.string a0_0, .int .i64 a0_1, .int .i64 a0_2, .int .i64 a0_3, .slice A0_4 l0_4.length c0_4, .int .i64 a0_5, .slice A0_6 l0_6.length c0_6, .slice A0_7 l0_7.length c0_7]) (t := 191) ?hr ?_; (case hd => rfl); (case hg => rfl); (case hr => first | (go_simp; done) | (go_simp; rfl)); intro gb536 hg w12 hbox hb; have n0_ := Aside0.mk (below_step (by repeat (first | (with_reducible first | exact HB.out | apply below_alloc | apply pw_below_drewN | apply below_drew1) | exact HB.out)) hb); have n1_ := Aside0.mk (hbox); have n2_ := Aside0.mk ((by rw [hg]; exact (below_size (by repeat (first | (with_reducible first | exact HB.out | apply below_alloc | apply pw_below_drewN | apply below_drew1) | exact HB.out))) : w.heap.size ≤ gb536)); have n3_ := Aside0.mk ((by rw [hg]; exact (below_size (by repeat (first | (with_reducible first | exact HB.out | apply below_alloc | apply pw_below_drewN | apply below_drew1) | exact HB.out))) : w.heap.size ≤ gb536)); clear HB; have HB := n0_; have BK536 := n1_; have GW536 := n2_; have GE536 := n3_; clear n0_ n1_ n2_ n3_; clear hb hbox hg; have hcz13_0 : w12.cell? ⟨gb536, 0, none⟩ = some (.string a0_0) := (blk_cell BK536.out 0).trans rfl; have hcz13_1 : w12.cell? ⟨gb536, 1, none⟩ = some (.int .i64 a0_1) := (blk_cell BK536.out 1).trans rfl; have hcz13_2 : w12.cell? ⟨gb536, 2, none⟩ = some (.int .i64 a0_2) := (blk_cell BK536.out 2).trans rfl; have hcz13_3 : w12.cell? ⟨gb536, 3, none⟩ = some (.int .i64 a0_3) := (blk_cell BK536.out 3).trans rfl; have hcz13_4 : w12.cell? ⟨gb536, 4, none⟩ = some (.slice A0_4 l0_4.length c0_4) := (blk_cell BK536.out 4).trans rfl; have hcz13_5 : w12.cell? ⟨gb536, 5, none⟩ = some (.int .i64 a0_5) := (blk_cell BK536.out 5).trans rfl; have hcz13_6 : w12.cell? ⟨gb536, 6, none⟩ = some (.slice A0_6 l0_6.length c0_6) := (blk_cell BK536.out 6).trans rfl; have hcz13_7 : w12.cell? ⟨gb536, 7, none⟩ = some (.slice A0_7 l0_7.length c0_7) := (blk_cell BK536.out 7).trans rfl; have hfz13_0 := blk_frozen BK536.out 0; have hfz13_1 := blk_frozen BK536.out 1; have hfz13_2 := blk_frozen BK536.out 2; have hfz13_3 := blk_frozen BK536.out 3; have hfz13_4 := blk_frozen BK536.out 4; have hfz13_5 := blk_frozen BK536.out 5; have hfz13_6 := blk_frozen BK536.out 6; have hfz13_7 := blk_frozen BK536.out 7) | ((with_reducible refine gate_callee (f := 57) rfl ?_); refine goesL_ (some 15) rfl rfl Try.func57 (by kernel_rfl) rfl #[.slice A0_4 l0_4.length c0_4, .int .i64 (wrap64 (a1 - (a0_0.size : Int)))] rfl (by (try simp only [List.map_toArray, List.map_cons, List.map_nil]); first | done | rfl | (simp only [List.length_drop, List.length_take]; rfl)) ?_; (with_reducible refine (laws_szInt64S.calls _ _ l0_4 (wrap64 (a1 - (a0_0.size : Int))) t537 _ ?side1 ?side2 A6.out).mono ?_); (case side1 => repeat (first | exact (Kd.C_below HR0_4.out HB.out) | (with_reducible refine Kd.C_alloc ?_ _) | (with_reducible refine Kd.C_drewN ?_ _) | (with_reducible refine Kd.C_drew ?_))); (case side2 => exact HC0_4.out); rintro e w' ⟨rfl, ⟨nd, rfl⟩⟩; refine ⟨_, rfl, ?_⟩) | ((with_reducible refine gate_callee (f := 171) rfl ?_); refine goesL_ (some 21) rfl rfl Try.func171 (by kernel_rfl) rfl #[.slice A0_6 l0_6.length c0_6, .int .i64 t537] rfl (by (try simp only [List.map_toArray, List.map_cons, List.map_nil]); first | done | rfl | (simp only [List.length_drop, List.length_take]; rfl)) ?_; (with_reducible refine (laws_szByteS.calls _ _ l0_6 t537 t538 _ ?side1 ?side2 A10.out).mono ?_); (case side1 => repeat (first | exact (Kd.C_below HR0_6.out (by repeat (first | (with_reducible first | exact HB.out | apply below_alloc | apply pw_below_drewN | apply below_drew1 | refine below_set ?_ GE536.out) | exact HB.out))) | (with_reducible refine Kd.C_alloc ?_ _) | (with_reducible refine Kd.C_drewN ?_ _) | (with_reducible refine Kd.C_drew ?_))); (case side2 => exact HC0_6.out); rintro e w' ⟨rfl, ⟨nd, rfl⟩⟩; refine ⟨_, rfl, ?_⟩))
       go_ret
       exact ⟨by first | rfl | (simp [errW_none, errW_some] <;> rfl) | (simp [*, errW_none, errW_some] <;> rfl), by repeat (first | (with_reducible first | exact HB.out | apply below_alloc | apply pw_below_drewN | apply below_drew1 | refine below_set ?_ GE536.out) | exact HB.out)⟩
     · rw [if_neg c11] at H
       have c11b0 : decide (t538 < 0) = false := decide_eq_false c11
       clear c11
       replace H := Option.bind_eq_some_iff.mp H
       obtain ⟨t539, A140, H⟩ := H
       replace H : (if t539 < 0 then (some (-1)) else (some t539)) = some r := H
       have A14 := Aside0.mk A140
       clear A140
       by_cases c15 : t539 < 0
       · rw [if_pos c15] at H
         have c15b0 : decide (t539 < 0) = true := decide_eq_true c15
         clear c15
         obtain rfl := Option.some.inj H
         go_enter Try.func138, Try.ntmps138
         go_wp2_with (first | ((with_reducible refine gate_dst (N := 2) rfl ?_); refine box_event ?hg (N := 2) ?hd (cs := #[.string a0_0, .int .i64 a0_1, .int .i64 a0_2, .int .i64 a0_3, .slice A0_4 l0_4.length c0_4, .int .i64 a0_5, .slice A0_6 l0_6.length c0_6, .slice A0_7 l0_7.length c0_7]) (t := 191) ?hr ?_; (case hd => rfl); (case hg => rfl); (case hr => first | (go_simp; done) | (go_simp; rfl)); intro gb536 hg w16 hbox hb; have n0_ := Aside0.mk (below_step (by repeat (first | (with_reducible first | exact HB.out | apply below_alloc | apply pw_below_drewN | apply below_drew1) | exact HB.out)) hb); have n1_ := Aside0.mk (hbox); have n2_ := Aside0.mk ((by rw [hg]; exact (below_size (by repeat (first | (with_reducible first | exact HB.out | apply below_alloc | apply pw_below_drewN | apply below_drew1) | exact HB.out))) : w.heap.size ≤ gb536)); have n3_ := Aside0.mk ((by rw [hg]; exact (below_size (by repeat (first | (with_reducible first | exact HB.out | apply below_alloc | apply pw_below_drewN | apply below_drew1) | exact HB.out))) : w.heap.size ≤ gb536)); clear HB; have HB := n0_; have BK536 := n1_; have GW536 := n2_; have GE536 := n3_; clear n0_ n1_ n2_ n3_; clear hb hbox hg; have hcz17_0 : w16.cell? ⟨gb536, 0, none⟩ = some (.string a0_0) := (blk_cell BK536.out 0).trans rfl; have hcz17_1 : w16.cell? ⟨gb536, 1, none⟩ = some (.int .i64 a0_1) := (blk_cell BK536.out 1).trans rfl; have hcz17_2 : w16.cell? ⟨gb536, 2, none⟩ = some (.int .i64 a0_2) := (blk_cell BK536.out 2).trans rfl; have hcz17_3 : w16.cell? ⟨gb536, 3, none⟩ = some (.int .i64 a0_3) := (blk_cell BK536.out 3).trans rfl; have hcz17_4 : w16.cell? ⟨gb536, 4, none⟩ = some (.slice A0_4 l0_4.length c0_4) := (blk_cell BK536.out 4).trans rfl; have hcz17_5 : w16.cell? ⟨gb536, 5, none⟩ = some (.int .i64 a0_5) := (blk_cell BK536.out 5).trans rfl; have hcz17_6 : w16.cell? ⟨gb536, 6, none⟩ = some (.slice A0_6 l0_6.length c0_6) := (blk_cell BK536.out 6).trans rfl; have hcz17_7 : w16.cell? ⟨gb536, 7, none⟩ = some (.slice A0_7 l0_7.length c0_7) := (blk_cell BK536.out 7).trans rfl; have hfz17_0 := blk_frozen BK536.out 0; have hfz17_1 := blk_frozen BK536.out 1; have hfz17_2 := blk_frozen BK536.out 2; have hfz17_3 := blk_frozen BK536.out 3; have hfz17_4 := blk_frozen BK536.out 4; have hfz17_5 := blk_frozen BK536.out 5; have hfz17_6 := blk_frozen BK536.out 6; have hfz17_7 := blk_frozen BK536.out 7) | ((with_reducible refine gate_callee (f := 57) rfl ?_); refine goesL_ (some 15) rfl rfl Try.func57 (by kernel_rfl) rfl #[.slice A0_4 l0_4.length c0_4, .int .i64 (wrap64 (a1 - (a0_0.size : Int)))] rfl (by (try simp only [List.map_toArray, List.map_cons, List.map_nil]); first | done | rfl | (simp only [List.length_drop, List.length_take]; rfl)) ?_; (with_reducible refine (laws_szInt64S.calls _ _ l0_4 (wrap64 (a1 - (a0_0.size : Int))) t537 _ ?side1 ?side2 A6.out).mono ?_); (case side1 => repeat (first | exact (Kd.C_below HR0_4.out HB.out) | (with_reducible refine Kd.C_alloc ?_ _) | (with_reducible refine Kd.C_drewN ?_ _) | (with_reducible refine Kd.C_drew ?_))); (case side2 => exact HC0_4.out); rintro e w' ⟨rfl, ⟨nd, rfl⟩⟩; refine ⟨_, rfl, ?_⟩) | ((with_reducible refine gate_callee (f := 171) rfl ?_); refine goesL_ (some 21) rfl rfl Try.func171 (by kernel_rfl) rfl #[.slice A0_6 l0_6.length c0_6, .int .i64 t537] rfl (by (try simp only [List.map_toArray, List.map_cons, List.map_nil]); first | done | rfl | (simp only [List.length_drop, List.length_take]; rfl)) ?_; (with_reducible refine (laws_szByteS.calls _ _ l0_6 t537 t538 _ ?side1 ?side2 A10.out).mono ?_); (case side1 => repeat (first | exact (Kd.C_below HR0_6.out (by repeat (first | (with_reducible first | exact HB.out | apply below_alloc | apply pw_below_drewN | apply below_drew1 | refine below_set ?_ GE536.out) | exact HB.out))) | (with_reducible refine Kd.C_alloc ?_ _) | (with_reducible refine Kd.C_drewN ?_ _) | (with_reducible refine Kd.C_drew ?_))); (case side2 => exact HC0_6.out); rintro e w' ⟨rfl, ⟨nd, rfl⟩⟩; refine ⟨_, rfl, ?_⟩) | ((with_reducible refine gate_callee (f := 172) rfl ?_); refine goesL_ (some 27) rfl rfl Try.func172 (by kernel_rfl) rfl #[.slice A0_7 l0_7.length c0_7, .int .i64 t538] rfl (by (try simp only [List.map_toArray, List.map_cons, List.map_nil]); first | done | rfl | (simp only [List.length_drop, List.length_take]; rfl)) ?_; (with_reducible refine (laws_szRelocS.calls k _ _ l0_7 t538 t539 _ ?side1 ?side2 A14.out).mono ?_); (case side1 => repeat (first | exact (Kd.C_below HR0_7.out (by repeat (first | (with_reducible first | exact HB.out | apply below_alloc | apply pw_below_drewN | apply below_drew1 | refine below_set ?_ GE536.out) | exact HB.out))) | (with_reducible refine Kd.C_alloc ?_ _) | (with_reducible refine Kd.C_drewN ?_ _) | (with_reducible refine Kd.C_drew ?_))); (case side2 => exact HC0_7.out); rintro e w18 ⟨rfl, hb⟩; refine ⟨_, rfl, ?_⟩; have n0_ := Aside0.mk (blk_below (g := gb536) (o := .cells #[.string a0_0, .int .i64 a0_1, .int .i64 a0_2, .int .i64 a0_3, .slice A0_4 l0_4.length c0_4, .int .i64 a0_5, .slice A0_6 l0_6.length c0_6, .slice A0_7 l0_7.length c0_7] 191 (0, 0)) (by (with_reducible repeat (first | refine blk_drewN ?_ _ | refine blk_drew ?_ | refine blk_alloc ?_ _)); exact BK536.out) hb); have n1_ := Aside0.mk (below_step (by repeat (first | (with_reducible first | exact HB.out | apply below_alloc | apply pw_below_drewN | apply below_drew1 | refine below_set ?_ GE536.out) | exact HB.out)) hb); clear BK536; clear HB; have BK536 := n0_; have HB := n1_; clear n0_ n1_; (try clear hb); (try clear hb2); (try clear hk); (try clear hi)))
         go_ret
         exact ⟨by first | rfl | (simp [errW_none, errW_some] <;> rfl) | (simp [*, errW_none, errW_some] <;> rfl), by repeat (first | (with_reducible first | exact HB.out | apply below_alloc | apply pw_below_drewN | apply below_drew1 | refine below_set ?_ GE536.out) | exact HB.out)⟩
       · rw [if_neg c15] at H
         have c15b0 : decide (t539 < 0) = false := decide_eq_false c15
         clear c15
         obtain rfl := Option.some.inj H
         go_enter Try.func138, Try.ntmps138
         go_wp2_with (first | ((with_reducible refine gate_dst (N := 2) rfl ?_); refine box_event ?hg (N := 2) ?hd (cs := #[.string a0_0, .int .i64 a0_1, .int .i64 a0_2, .int .i64 a0_3, .slice A0_4 l0_4.length c0_4, .int .i64 a0_5, .slice A0_6 l0_6.length c0_6, .slice A0_7 l0_7.length c0_7]) (t := 191) ?hr ?_; (case hd => rfl); (case hg => rfl); (case hr => first | (go_simp; done) | (go_simp; rfl)); intro gb536 hg w19 hbox hb; have n0_ := Aside0.mk (below_step (by repeat (first | (with_reducible first | exact HB.out | apply below_alloc | apply pw_below_drewN | apply below_drew1) | exact HB.out)) hb); have n1_ := Aside0.mk (hbox); have n2_ := Aside0.mk ((by rw [hg]; exact (below_size (by repeat (first | (with_reducible first | exact HB.out | apply below_alloc | apply pw_below_drewN | apply below_drew1) | exact HB.out))) : w.heap.size ≤ gb536)); have n3_ := Aside0.mk ((by rw [hg]; exact (below_size (by repeat (first | (with_reducible first | exact HB.out | apply below_alloc | apply pw_below_drewN | apply below_drew1) | exact HB.out))) : w.heap.size ≤ gb536)); clear HB; have HB := n0_; have BK536 := n1_; have GW536 := n2_; have GE536 := n3_; clear n0_ n1_ n2_ n3_; clear hb hbox hg; have hcz20_0 : w19.cell? ⟨gb536, 0, none⟩ = some (.string a0_0) := (blk_cell BK536.out 0).trans rfl; have hcz20_1 : w19.cell? ⟨gb536, 1, none⟩ = some (.int .i64 a0_1) := (blk_cell BK536.out 1).trans rfl; have hcz20_2 : w19.cell? ⟨gb536, 2, none⟩ = some (.int .i64 a0_2) := (blk_cell BK536.out 2).trans rfl; have hcz20_3 : w19.cell? ⟨gb536, 3, none⟩ = some (.int .i64 a0_3) := (blk_cell BK536.out 3).trans rfl; have hcz20_4 : w19.cell? ⟨gb536, 4, none⟩ = some (.slice A0_4 l0_4.length c0_4) := (blk_cell BK536.out 4).trans rfl; have hcz20_5 : w19.cell? ⟨gb536, 5, none⟩ = some (.int .i64 a0_5) := (blk_cell BK536.out 5).trans rfl; have hcz20_6 : w19.cell? ⟨gb536, 6, none⟩ = some (.slice A0_6 l0_6.length c0_6) := (blk_cell BK536.out 6).trans rfl; have hcz20_7 : w19.cell? ⟨gb536, 7, none⟩ = some (.slice A0_7 l0_7.length c0_7) := (blk_cell BK536.out 7).trans rfl; have hfz20_0 := blk_frozen BK536.out 0; have hfz20_1 := blk_frozen BK536.out 1; have hfz20_2 := blk_frozen BK536.out 2; have hfz20_3 := blk_frozen BK536.out 3; have hfz20_4 := blk_frozen BK536.out 4; have hfz20_5 := blk_frozen BK536.out 5; have hfz20_6 := blk_frozen BK536.out 6; have hfz20_7 := blk_frozen BK536.out 7) | ((with_reducible refine gate_callee (f := 57) rfl ?_); refine goesL_ (some 15) rfl rfl Try.func57 (by kernel_rfl) rfl #[.slice A0_4 l0_4.length c0_4, .int .i64 (wrap64 (a1 - (a0_0.size : Int)))] rfl (by (try simp only [List.map_toArray, List.map_cons, List.map_nil]); first | done | rfl | (simp only [List.length_drop, List.length_take]; rfl)) ?_; (with_reducible refine (laws_szInt64S.calls _ _ l0_4 (wrap64 (a1 - (a0_0.size : Int))) t537 _ ?side1 ?side2 A6.out).mono ?_); (case side1 => repeat (first | exact (Kd.C_below HR0_4.out HB.out) | (with_reducible refine Kd.C_alloc ?_ _) | (with_reducible refine Kd.C_drewN ?_ _) | (with_reducible refine Kd.C_drew ?_))); (case side2 => exact HC0_4.out); rintro e w' ⟨rfl, ⟨nd, rfl⟩⟩; refine ⟨_, rfl, ?_⟩) | ((with_reducible refine gate_callee (f := 171) rfl ?_); refine goesL_ (some 21) rfl rfl Try.func171 (by kernel_rfl) rfl #[.slice A0_6 l0_6.length c0_6, .int .i64 t537] rfl (by (try simp only [List.map_toArray, List.map_cons, List.map_nil]); first | done | rfl | (simp only [List.length_drop, List.length_take]; rfl)) ?_; (with_reducible refine (laws_szByteS.calls _ _ l0_6 t537 t538 _ ?side1 ?side2 A10.out).mono ?_); (case side1 => repeat (first | exact (Kd.C_below HR0_6.out (by repeat (first | (with_reducible first | exact HB.out | apply below_alloc | apply pw_below_drewN | apply below_drew1 | refine below_set ?_ GE536.out) | exact HB.out))) | (with_reducible refine Kd.C_alloc ?_ _) | (with_reducible refine Kd.C_drewN ?_ _) | (with_reducible refine Kd.C_drew ?_))); (case side2 => exact HC0_6.out); rintro e w' ⟨rfl, ⟨nd, rfl⟩⟩; refine ⟨_, rfl, ?_⟩) | ((with_reducible refine gate_callee (f := 172) rfl ?_); refine goesL_ (some 27) rfl rfl Try.func172 (by kernel_rfl) rfl #[.slice A0_7 l0_7.length c0_7, .int .i64 t538] rfl (by (try simp only [List.map_toArray, List.map_cons, List.map_nil]); first | done | rfl | (simp only [List.length_drop, List.length_take]; rfl)) ?_; (with_reducible refine (laws_szRelocS.calls k _ _ l0_7 t538 t539 _ ?side1 ?side2 A14.out).mono ?_); (case side1 => repeat (first | exact (Kd.C_below HR0_7.out (by repeat (first | (with_reducible first | exact HB.out | apply below_alloc | apply pw_below_drewN | apply below_drew1 | refine below_set ?_ GE536.out) | exact HB.out))) | (with_reducible refine Kd.C_alloc ?_ _) | (with_reducible refine Kd.C_drewN ?_ _) | (with_reducible refine Kd.C_drew ?_))); (case side2 => exact HC0_7.out); rintro e w21 ⟨rfl, hb⟩; refine ⟨_, rfl, ?_⟩; have n0_ := Aside0.mk (blk_below (g := gb536) (o := .cells #[.string a0_0, .int .i64 a0_1, .int .i64 a0_2, .int .i64 a0_3, .slice A0_4 l0_4.length c0_4, .int .i64 a0_5, .slice A0_6 l0_6.length c0_6, .slice A0_7 l0_7.length c0_7] 191 (0, 0)) (by (with_reducible repeat (first | refine blk_drewN ?_ _ | refine blk_drew ?_ | refine blk_alloc ?_ _)); exact BK536.out) hb); have n1_ := Aside0.mk (below_step (by repeat (first | (with_reducible first | exact HB.out | apply below_alloc | apply pw_below_drewN | apply below_drew1 | refine below_set ?_ GE536.out) | exact HB.out)) hb); clear BK536; clear HB; have BK536 := n0_; have HB := n1_; clear n0_ n1_; (try clear hb); (try clear hb2); (try clear hk); (try clear hi)))
         go_ret
         exact ⟨by first | rfl | (simp [errW_none, errW_some] <;> rfl) | (simp [*, errW_none, errW_some] <;> rfl), by repeat (first | (with_reducible first | exact HB.out | apply below_alloc | apply pw_below_drewN | apply below_drew1 | refine below_set ?_ GE536.out) | exact HB.out)⟩

end Go.Proofs.Ythegbhfoleiegaa.All


namespace Go.Proofs.Ythegbhfoleiegaa.All
open Go.RowKit Go.Proofs.YthegbhfoleiegaaW.PrintWords Go.Proofs.YthegbhfoleiegaaW.PrintLast Go.Proofs.YthegbhfoleiegaaW.PrintMore
attribute [local go_sem] max2_int min2_int max_two min_two max_three min_three max_four min_four   -- for this text's walks alone
set_option linter.unusedVariables false
set_option linter.unusedSimpArgs false

/-! ### laws_szSectionS: function 94 -/
def laws_szSectionS.l0 : Nat → List (S191) → Int → Int → Option (Int)
 | 0, _, _, _ => none
 | k + 1, x0, x1, x5 => if x5 < (x0.length : Int) then (if 0 ≤ x5 then ((laws_szSection.f k ((rd_T191 x0 x5).f0) ((rd_T191 x0 x5).f1) ((rd_T191 x0 x5).f2) ((rd_T191 x0 x5).f3) ((rd_T191 x0 x5).f4) ((rd_T191 x0 x5).f5) ((rd_T191 x0 x5).f6) ((rd_T191 x0 x5).f7) x1).bind fun t541 => (if t541 < 0 then (some (-1)) else (laws_szSectionS.l0 k x0 t541 (wrap64 (x5 + 1))))) else (none)) else (some x1)
def laws_szSectionS.f (k : Nat) (l0 : List (S191)) (a1 : Int) : Option (Int) := if (wrap64 (a1 - (l0.length : Int))) < 0 then (some (-1)) else (laws_szSectionS.l0 k l0 (wrap64 (a1 - (l0.length : Int))) 0)
set_option maxHeartbeats 8000000 in
set_option maxRecDepth 100000 in
theorem laws_szSectionS.calls (k : Nat) (A0 : Option Addr) (c0 : Nat) (l0 : List (S191)) (a1 : Int) (r : Int) (w : World) (hr0 : Kd.C k191 w A0 l0.length l0) (hc0 : l0.length ≤ c0) (h : laws_szSectionS.f k l0 a1 = some r) :
 Calls Try.prog 94 #[.slice A0 l0.length c0, .int .i64 a1] w fun e w' => e = .returned (.int .i64 r) ∧ Below w.heap.size w w' := by
 have hu191 := Try.underlying191
 have HR0 := Aside0.mk hr0
 have HC0 := Aside0.mk hc0
 clear hr0 hc0
 have HB := Aside0.mk (Below.refl w.heap.size w)
 have H : (if (wrap64 (a1 - (l0.length : Int))) < 0 then (some (-1)) else (laws_szSectionS.l0 k l0 (wrap64 (a1 - (l0.length : Int))) 0)) = some r := h
 clear h
 by_cases c3 : (wrap64 (a1 - (l0.length : Int))) < 0
 · rw [if_pos c3] at H
   have c3b0 : decide ((wrap64 (a1 - (l0.length : Int))) < 0) = true := decide_eq_true c3
   clear c3
   obtain rfl := Option.some.inj H
   go_enter Try.func94, Try.ntmps94
   go_wp2
   go_ret
   exact ⟨by first | rfl | (simp [errW_none, errW_some] <;> rfl) | (simp [*, errW_none, errW_some] <;> rfl), by repeat (first | (with_reducible first | exact HB.out | apply below_alloc | apply pw_below_drewN | apply below_drew1) | exact HB.out)⟩
 · rw [if_neg c3] at H
   have c3b0 : decide ((wrap64 (a1 - (l0.length : Int))) < 0) = false := decide_eq_false c3
   clear c3
   have H' := Aside0.mk H
   clear H
   go_enter Try.func94, Try.ntmps94
   go_wp2
   go_loopg [1, 5] k (fun kq v1 v5 w' => ∃ (x1_1 : Int) (x5_1 : Int), v1 = .int .i64 x1_1 ∧ v5 = .int .i64 x5_1 ∧ Aside0 (laws_szSectionS.l0 kq l0 x1_1 x5_1 = some r) ∧ Aside0 (kq ≤ k) ∧ Aside0 (Below w.heap.size w w'))
   case atStart => exact ⟨(wrap64 (a1 - (l0.length : Int))), (0), (by first | rfl | (simp; done) | (simp [*]; done)), (by first | rfl | (simp; done) | (simp [*]; done)), H', ⟨Nat.le_refl _⟩, ⟨by repeat (first | (with_reducible first | exact HB.out | apply below_alloc | apply pw_below_drewN | apply below_drew1) | exact HB.out)⟩⟩
   case round =>
    clear H'
    try clear p2
    try clear c3
    try clear c3b0
    obtain ⟨x1_1, x5_1, rfl, rfl, HA, HK1, HB⟩ := hrel
    cases gk with
    | zero => exact absurd HA.out (by simp [laws_szSectionS.l0])
    | succ k1 =>
     have H := HA.out
     clear HA
     simp only [laws_szSectionS.l0] at H
     by_cases c4 : x5_1 < (l0.length : Int)
     · rw [if_pos c4] at H
       have c4b0 : decide (x5_1 < (l0.length : Int)) = true := decide_eq_true c4
       clear c4
       by_cases c5 : 0 ≤ x5_1
       · rw [if_pos c5] at H
         have c5b0 : decide (0 ≤ x5_1) = true := decide_eq_true c5
         clear c5
         replace H := Option.bind_eq_some_iff.mp H
         obtain ⟨t541, A60, H⟩ := H
         replace H : (if t541 < 0 then (some (-1)) else (laws_szSectionS.l0 k1 l0 t541 (wrap64 (x5_1 + 1)))) = some r := H
         have A6 := Aside0.mk A60
         clear A60
         by_cases c7 : t541 < 0
         · rw [if_pos c7] at H
           have c7b0 : decide (t541 < 0) = true := decide_eq_true c7
           clear c7
           obtain rfl := Option.some.inj H
           have p540 : 0 ≤ (x5_1 : Int) := of_decide_eq_true (by first | (with_reducible assumption) | assumption)
           have q540 : x5_1 < (l0.length : Int) := of_decide_eq_true (by first | (with_reducible assumption) | assumption)
           obtain ⟨ad540, A540_4, c540_4, A540_6, c540_6, A540_7, c540_7, e540, hx540_0, hx540_1, hx540_2, hx540_3, hx540_4, hx540_5, hx540_6, hx540_7, hl540_4, hi540_4, hl540_6, hi540_6, hl540_7, hi540_7⟩ := at_T191 HR0.out x5_1 p540 q540
           cases e540
           replace hx540_0 := (HB.out.cell (World.block_lt_of_cell? w _ hx540_0)).trans hx540_0
           replace hx540_1 := (HB.out.cell (World.block_lt_of_cell? w _ hx540_1)).trans hx540_1
           replace hx540_2 := (HB.out.cell (World.block_lt_of_cell? w _ hx540_2)).trans hx540_2
           replace hx540_3 := (HB.out.cell (World.block_lt_of_cell? w _ hx540_3)).trans hx540_3
           replace hx540_4 := (HB.out.cell (World.block_lt_of_cell? w _ hx540_4)).trans hx540_4
           replace hx540_5 := (HB.out.cell (World.block_lt_of_cell? w _ hx540_5)).trans hx540_5
           replace hx540_6 := (HB.out.cell (World.block_lt_of_cell? w _ hx540_6)).trans hx540_6
           replace hx540_7 := (HB.out.cell (World.block_lt_of_cell? w _ hx540_7)).trans hx540_7
           have HR540_4 := Aside0.mk hi540_4
           have HC540_4 := Aside0.mk hl540_4
           clear hi540_4 hl540_4
           have HR540_6 := Aside0.mk hi540_6
           have HC540_6 := Aside0.mk hl540_6
           clear hi540_6 hl540_6
           have HR540_7 := Aside0.mk hi540_7
           have HC540_7 := Aside0.mk hl540_7
           clear hi540_7 hl540_7
           replace p540 := eq_true p540
           replace q540 := eq_true q540
           go_wp2_with (first | ((with_reducible refine gate_callee (f := 138) rfl ?_); refine goesL_ (some 23) rfl rfl Try.func138 (by kernel_rfl) rfl #[.agg #[.string ((rd_T191 l0 x5_1).f0), .int .i64 ((rd_T191 l0 x5_1).f1), .int .i64 ((rd_T191 l0 x5_1).f2), .int .i64 ((rd_T191 l0 x5_1).f3), .slice A540_4 ((rd_T191 l0 x5_1).f4).length c540_4, .int .i64 ((rd_T191 l0 x5_1).f5), .slice A540_6 ((rd_T191 l0 x5_1).f6).length c540_6, .slice A540_7 ((rd_T191 l0 x5_1).f7).length c540_7], .int .i64 x1_1] rfl (by (try simp only [List.map_toArray, List.map_cons, List.map_nil]); first | done | rfl | (simp only [List.length_drop, List.length_take]; rfl)) ?_; (with_reducible refine (laws_szSection.calls k1 ((rd_T191 l0 x5_1).f0) ((rd_T191 l0 x5_1).f1) ((rd_T191 l0 x5_1).f2) ((rd_T191 l0 x5_1).f3) _ _ ((rd_T191 l0 x5_1).f4) ((rd_T191 l0 x5_1).f5) _ _ ((rd_T191 l0 x5_1).f6) _ _ ((rd_T191 l0 x5_1).f7) x1_1 t541 _ ?side1 ?side2 ?side3 ?side4 ?side5 ?side6 A6.out).mono ?_); (case side1 => repeat (first | exact (Kd.C_below HR540_4.out HB.out) | (with_reducible refine Kd.C_alloc ?_ _) | (with_reducible refine Kd.C_drewN ?_ _) | (with_reducible refine Kd.C_drew ?_))); (case side2 => exact HC540_4.out); (case side3 => repeat (first | exact (Kd.C_below HR540_6.out HB.out) | (with_reducible refine Kd.C_alloc ?_ _) | (with_reducible refine Kd.C_drewN ?_ _) | (with_reducible refine Kd.C_drew ?_))); (case side4 => exact HC540_6.out); (case side5 => repeat (first | exact (Kd.C_below HR540_7.out HB.out) | (with_reducible refine Kd.C_alloc ?_ _) | (with_reducible refine Kd.C_drewN ?_ _) | (with_reducible refine Kd.C_drew ?_))); (case side6 => exact HC540_7.out); rintro e w8 ⟨rfl, hb⟩; refine ⟨_, rfl, ?_⟩; have n0_ := Aside0.mk (below_step (by repeat (first | (with_reducible first | exact HB.out | apply below_alloc | apply pw_below_drewN | apply below_drew1) | exact HB.out)) hb); clear HB; have HB := n0_; clear n0_; (try clear hb); (try clear hb2); (try clear hk); (try clear hi)))
           go_ret
           exact ⟨by first | rfl | (simp [errW_none, errW_some] <;> rfl) | (simp [*, errW_none, errW_some] <;> rfl), by repeat (first | (with_reducible first | exact HB.out | apply below_alloc | apply pw_below_drewN | apply below_drew1) | exact HB.out)⟩
         · rw [if_neg c7] at H
           have c7b0 : decide (t541 < 0) = false := decide_eq_false c7
           clear c7
           have H' := Aside0.mk H
           clear H
           have p540 : 0 ≤ (x5_1 : Int) := of_decide_eq_true (by first | (with_reducible assumption) | assumption)
           have q540 : x5_1 < (l0.length : Int) := of_decide_eq_true (by first | (with_reducible assumption) | assumption)
           obtain ⟨ad540, A540_4, c540_4, A540_6, c540_6, A540_7, c540_7, e540, hx540_0, hx540_1, hx540_2, hx540_3, hx540_4, hx540_5, hx540_6, hx540_7, hl540_4, hi540_4, hl540_6, hi540_6, hl540_7, hi540_7⟩ := at_T191 HR0.out x5_1 p540 q540
           cases e540
           replace hx540_0 := (HB.out.cell (World.block_lt_of_cell? w _ hx540_0)).trans hx540_0
           replace hx540_1 := (HB.out.cell (World.block_lt_of_cell? w _ hx540_1)).trans hx540_1
           replace hx540_2 := (HB.out.cell (World.block_lt_of_cell? w _ hx540_2)).trans hx540_2
           replace hx540_3 := (HB.out.cell (World.block_lt_of_cell? w _ hx540_3)).trans hx540_3
           replace hx540_4 := (HB.out.cell (World.block_lt_of_cell? w _ hx540_4)).trans hx540_4
           replace hx540_5 := (HB.out.cell (World.block_lt_of_cell? w _ hx540_5)).trans hx540_5
           replace hx540_6 := (HB.out.cell (World.block_lt_of_cell? w _ hx540_6)).trans hx540_6
           replace hx540_7 := (HB.out.cell (World.block_lt_of_cell? w _ hx540_7)).trans hx540_7
           have HR540_4 := Aside0.mk hi540_4
           have HC540_4 := Aside0.mk hl540_4
           clear hi540_4 hl540_4
           have HR540_6 := Aside0.mk hi540_6
           have HC540_6 := Aside0.mk hl540_6
           clear hi540_6 hl540_6
           have HR540_7 := Aside0.mk hi540_7
           have HC540_7 := Aside0.mk hl540_7
           clear hi540_7 hl540_7
           replace p540 := eq_true p540
           replace q540 := eq_true q540
           go_wp2_with (first | ((with_reducible refine gate_callee (f := 138) rfl ?_); refine goesL_ (some 23) rfl rfl Try.func138 (by kernel_rfl) rfl #[.agg #[.string ((rd_T191 l0 x5_1).f0), .int .i64 ((rd_T191 l0 x5_1).f1), .int .i64 ((rd_T191 l0 x5_1).f2), .int .i64 ((rd_T191 l0 x5_1).f3), .slice A540_4 ((rd_T191 l0 x5_1).f4).length c540_4, .int .i64 ((rd_T191 l0 x5_1).f5), .slice A540_6 ((rd_T191 l0 x5_1).f6).length c540_6, .slice A540_7 ((rd_T191 l0 x5_1).f7).length c540_7], .int .i64 x1_1] rfl (by (try simp only [List.map_toArray, List.map_cons, List.map_nil]); first | done | rfl | (simp only [List.length_drop, List.length_take]; rfl)) ?_; (with_reducible refine (laws_szSection.calls k1 ((rd_T191 l0 x5_1).f0) ((rd_T191 l0 x5_1).f1) ((rd_T191 l0 x5_1).f2) ((rd_T191 l0 x5_1).f3) _ _ ((rd_T191 l0 x5_1).f4) ((rd_T191 l0 x5_1).f5) _ _ ((rd_T191 l0 x5_1).f6) _ _ ((rd_T191 l0 x5_1).f7) x1_1 t541 _ ?side1 ?side2 ?side3 ?side4 ?side5 ?side6 A6.out).mono ?_); (case side1 => repeat (first | exact (Kd.C_below HR540_4.out HB.out) | (with_reducible refine Kd.C_alloc ?_ _) | (with_reducible refine Kd.C_drewN ?_ _) | (with_reducible refine Kd.C_drew ?_))); (case side2 => exact HC540_4.out); (case side3 => repeat (first | exact (Kd.C_below HR540_6.out HB.out) | (with_reducible refine Kd.C_alloc ?_ _) | (with_reducible refine Kd.C_drewN ?_ _) | (with_reducible refine Kd.C_drew ?_))); (case side4 => exact HC540_6.out); (case side5 => repeat (first | exact (Kd.C_below HR540_7.out HB.out) | (with_reducible refine Kd.C_alloc ?_ _) | (with_reducible refine Kd.C_drewN ?_ _) | (with_reducible refine Kd.C_drew ?_))); (case side6 => exact HC540_7.out); rintro e w9 ⟨rfl, hb⟩; refine ⟨_, rfl, ?_⟩; have n0_ := Aside0.mk (below_step (by repeat (first | (with_reducible first | exact HB.out | apply below_alloc | apply pw_below_drewN | apply below_drew1) | exact HB.out)) hb); clear HB; have HB := n0_; clear n0_; (try clear hb); (try clear hb2); (try clear hk); (try clear hi)))
           go_roundg k1
           case measure => have := HK1.out; omega
           case rel => exact ⟨(t541), (wrap64 (x5_1 + 1)), (by first | rfl | (simp; done) | (simp [*]; done)), (by first | rfl | (simp; done) | (simp [*]; done)), H', ⟨by have := HK1.out; omega⟩, ⟨by repeat (first | (with_reducible first | exact HB.out | apply below_alloc | apply pw_below_drewN | apply below_drew1) | exact HB.out)⟩⟩
       · rw [if_neg c5] at H
         exact absurd H (by simp)
     · rw [if_neg c4] at H
       have c4b0 : decide (x5_1 < (l0.length : Int)) = false := decide_eq_false c4
       clear c4
       obtain rfl := Option.some.inj H
       go_wp2
       go_ret
       exact ⟨by first | rfl | (simp [errW_none, errW_some] <;> rfl) | (simp [*, errW_none, errW_some] <;> rfl), by repeat (first | (with_reducible first | exact HB.out | apply below_alloc | apply pw_below_drewN | apply below_drew1) | exact HB.out)⟩

end Go.Proofs.Ythegbhfoleiegaa.All


namespace Go.Proofs.Ythegbhfoleiegaa.All
open Go.RowKit Go.Proofs.YthegbhfoleiegaaW.PrintWords Go.Proofs.YthegbhfoleiegaaW.PrintLast Go.Proofs.YthegbhfoleiegaaW.PrintMore
attribute [local go_sem] max2_int min2_int max_two min_two max_three min_three max_four min_four   -- for this text's walks alone
set_option linter.unusedVariables false
set_option linter.unusedSimpArgs false

/-! ### laws_szObject: function 44 -/
def laws_szObject.f (k : Nat) (l0_0 : List (S191)) (a1 : Int) : Option (Int) := (laws_szSectionS.f k l0_0 a1).bind fun t543 => (if t543 < 0 then (some (-1)) else (some t543))
set_option maxHeartbeats 8000000 in
set_option maxRecDepth 100000 in
theorem laws_szObject.calls (k : Nat) (A0_0 : Option Addr) (c0_0 : Nat) (l0_0 : List (S191)) (a1 : Int) (r : Int) (w : World) (hr0_0 : Kd.C k191 w A0_0 l0_0.length l0_0) (hc0_0 : l0_0.length ≤ c0_0) (h : laws_szObject.f k l0_0 a1 = some r) :
 Calls Try.prog 44 #[.agg #[.slice A0_0 l0_0.length c0_0], .int .i64 a1] w fun e w' => e = .returned (.int .i64 r) ∧ Below w.heap.size w w' := by
 have hu63 := Try.underlying63
 have HR0_0 := Aside0.mk hr0_0
 have HC0_0 := Aside0.mk hc0_0
 clear hr0_0 hc0_0
 have HB := Aside0.mk (Below.refl w.heap.size w)
 have H : ((laws_szSectionS.f k l0_0 a1).bind fun t543 => (if t543 < 0 then (some (-1)) else (some t543))) = some r := h
 clear h
 replace H := Option.bind_eq_some_iff.mp H
 obtain ⟨t543, A30, H⟩ := H
 replace H : (if t543 < 0 then (some (-1)) else (some t543)) = some r := H
 have A3 := Aside0.mk A30
 clear A30
 by_cases c4 : t543 < 0
 · rw [if_pos c4] at H
   have c4b0 : decide (t543 < 0) = true := decide_eq_true c4
   clear c4
   obtain rfl := Option.some.inj H
   go_enter Try.func44, Try.ntmps44
   go_wp2_with (first | ((with_reducible refine gate_dst (N := 2) rfl ?_); refine box_event ?hg (N := 2) ?hd (cs := #[.slice A0_0 l0_0.length c0_0]) (t := 63) ?hr ?_; (case hd => rfl); (case hg => rfl); (case hr => first | (go_simp; done) | (go_simp; rfl)); intro gb542 hg w5 hbox hb; have n0_ := Aside0.mk (below_step (by repeat (first | (with_reducible first | exact HB.out | apply below_alloc | apply pw_below_drewN | apply below_drew1) | exact HB.out)) hb); have n1_ := Aside0.mk (hbox); have n2_ := Aside0.mk ((by rw [hg]; exact (below_size (by repeat (first | (with_reducible first | exact HB.out | apply below_alloc | apply pw_below_drewN | apply below_drew1) | exact HB.out))) : w.heap.size ≤ gb542)); have n3_ := Aside0.mk ((by rw [hg]; exact (below_size (by repeat (first | (with_reducible first | exact HB.out | apply below_alloc | apply pw_below_drewN | apply below_drew1) | exact HB.out))) : w.heap.size ≤ gb542)); clear HB; have HB := n0_; have BK542 := n1_; have GW542 := n2_; have GE542 := n3_; clear n0_ n1_ n2_ n3_; clear hb hbox hg; have hcz6_0 : w5.cell? ⟨gb542, 0, none⟩ = some (.slice A0_0 l0_0.length c0_0) := (blk_cell BK542.out 0).trans rfl; have hfz6_0 := blk_frozen BK542.out 0) | ((with_reducible refine gate_callee (f := 94) rfl ?_); refine goesL_ (some 8) rfl rfl Try.func94 (by kernel_rfl) rfl #[.slice A0_0 l0_0.length c0_0, .int .i64 a1] rfl (by (try simp only [List.map_toArray, List.map_cons, List.map_nil]); first | done | rfl | (simp only [List.length_drop, List.length_take]; rfl)) ?_; (with_reducible refine (laws_szSectionS.calls k _ _ l0_0 a1 t543 _ ?side1 ?side2 A3.out).mono ?_); (case side1 => repeat (first | exact (Kd.C_below HR0_0.out HB.out) | (with_reducible refine Kd.C_alloc ?_ _) | (with_reducible refine Kd.C_drewN ?_ _) | (with_reducible refine Kd.C_drew ?_))); (case side2 => exact HC0_0.out); rintro e w7 ⟨rfl, hb⟩; refine ⟨_, rfl, ?_⟩; have n0_ := Aside0.mk (blk_below (g := gb542) (o := .cells #[.slice A0_0 l0_0.length c0_0] 63 (0, 0)) (by (with_reducible repeat (first | refine blk_drewN ?_ _ | refine blk_drew ?_ | refine blk_alloc ?_ _)); exact BK542.out) hb); have n1_ := Aside0.mk (below_step (by repeat (first | (with_reducible first | exact HB.out | apply below_alloc | apply pw_below_drewN | apply below_drew1 | refine below_set ?_ GE542.out) | exact HB.out)) hb); clear BK542; clear HB; have BK542 := n0_; have HB := n1_; clear n0_ n1_; (try clear hb); (try clear hb2); (try clear hk); (try clear hi)))
   go_ret
   exact ⟨by first | rfl | (simp [errW_none, errW_some] <;> rfl) | (simp [*, errW_none, errW_some] <;> rfl), by repeat (first | (with_reducible first | exact HB.out | apply below_alloc | apply pw_below_drewN | apply below_drew1 | refine below_set ?_ GE542.out) | exact HB.out)⟩
 · rw [if_neg c4] at H
   have c4b0 : decide (t543 < 0) = false := decide_eq_false c4
   clear c4
   obtain rfl := Option.some.inj H
   go_enter Try.func44, Try.ntmps44
   go_wp2_with (first | ((with_reducible refine gate_dst (N := 2) rfl ?_); refine box_event ?hg (N := 2) ?hd (cs := #[.slice A0_0 l0_0.length c0_0]) (t := 63) ?hr ?_; (case hd => rfl); (case hg => rfl); (case hr => first | (go_simp; done) | (go_simp; rfl)); intro gb542 hg w8 hbox hb; have n0_ := Aside0.mk (below_step (by repeat (first | (with_reducible first | exact HB.out | apply below_alloc | apply pw_below_drewN | apply below_drew1) | exact HB.out)) hb); have n1_ := Aside0.mk (hbox); have n2_ := Aside0.mk ((by rw [hg]; exact (below_size (by repeat (first | (with_reducible first | exact HB.out | apply below_alloc | apply pw_below_drewN | apply below_drew1) | exact HB.out))) : w.heap.size ≤ gb542)); have n3_ := Aside0.mk ((by rw [hg]; exact (below_size (by repeat (first | (with_reducible first | exact HB.out | apply below_alloc | apply pw_below_drewN | apply below_drew1) | exact HB.out))) : w.heap.size ≤ gb542)); clear HB; have HB := n0_; have BK542 := n1_; have GW542 := n2_; have GE542 := n3_; clear n0_ n1_ n2_ n3_; clear hb hbox hg; have hcz9_0 : w8.cell? ⟨gb542, 0, none⟩ = some (.slice A0_0 l0_0.length c0_0) := (blk_cell BK542.out 0).trans rfl; have hfz9_0 := blk_frozen BK542.out 0) | ((with_reducible refine gate_callee (f := 94) rfl ?_); refine goesL_ (some 8) rfl rfl Try.func94 (by kernel_rfl) rfl #[.slice A0_0 l0_0.length c0_0, .int .i64 a1] rfl (by (try simp only [List.map_toArray, List.map_cons, List.map_nil]); first | done | rfl | (simp only [List.length_drop, List.length_take]; rfl)) ?_; (with_reducible refine (laws_szSectionS.calls k _ _ l0_0 a1 t543 _ ?side1 ?side2 A3.out).mono ?_); (case side1 => repeat (first | exact (Kd.C_below HR0_0.out HB.out) | (with_reducible refine Kd.C_alloc ?_ _) | (with_reducible refine Kd.C_drewN ?_ _) | (with_reducible refine Kd.C_drew ?_))); (case side2 => exact HC0_0.out); rintro e w10 ⟨rfl, hb⟩; refine ⟨_, rfl, ?_⟩; have n0_ := Aside0.mk (blk_below (g := gb542) (o := .cells #[.slice A0_0 l0_0.length c0_0] 63 (0, 0)) (by (with_reducible repeat (first | refine blk_drewN ?_ _ | refine blk_drew ?_ | refine blk_alloc ?_ _)); exact BK542.out) hb); have n1_ := Aside0.mk (below_step (by repeat (first | (with_reducible first | exact HB.out | apply below_alloc | apply pw_below_drewN | apply below_drew1 | refine below_set ?_ GE542.out) | exact HB.out)) hb); clear BK542; clear HB; have BK542 := n0_; have HB := n1_; clear n0_ n1_; (try clear hb); (try clear hb2); (try clear hk); (try clear hi)))
   go_ret
   exact ⟨by first | rfl | (simp [errW_none, errW_some] <;> rfl) | (simp [*, errW_none, errW_some] <;> rfl), by repeat (first | (with_reducible first | exact HB.out | apply below_alloc | apply pw_below_drewN | apply below_drew1 | refine below_set ?_ GE542.out) | exact HB.out)⟩

end Go.Proofs.Ythegbhfoleiegaa.All


namespace Go.Proofs.Ythegbhfoleiegaa.All
open Go.RowKit Go.Proofs.YthegbhfoleiegaaW.PrintWords Go.Proofs.YthegbhfoleiegaaW.PrintLast Go.Proofs.YthegbhfoleiegaaW.PrintMore
attribute [local go_sem] max2_int min2_int max_two min_two max_three min_three max_four min_four   -- for this text's walks alone
set_option linter.unusedVariables false
set_option linter.unusedSimpArgs false

/-! ### laws_szObjectS: function 33 -/
def laws_szObjectS.l0 : Nat → List (S63) → Int → Int → Option (Int)
 | 0, _, _, _ => none
 | k + 1, x0, x1, x5 => if x5 < (x0.length : Int) then (if 0 ≤ x5 then ((laws_szObject.f k ((rd_T63 x0 x5).f0) x1).bind fun t545 => (if t545 < 0 then (some (-1)) else (laws_szObjectS.l0 k x0 t545 (wrap64 (x5 + 1))))) else (none)) else (some x1)
def laws_szObjectS.f (k : Nat) (l0 : List (S63)) (a1 : Int) : Option (Int) := if (wrap64 (a1 - (l0.length : Int))) < 0 then (some (-1)) else (laws_szObjectS.l0 k l0 (wrap64 (a1 - (l0.length : Int))) 0)
set_option maxHeartbeats 8000000 in
set_option maxRecDepth 100000 in
theorem laws_szObjectS.calls (k : Nat) (A0 : Option Addr) (c0 : Nat) (l0 : List (S63)) (a1 : Int) (r : Int) (w : World) (hr0 : Kd.C k63 w A0 l0.length l0) (hc0 : l0.length ≤ c0) (h : laws_szObjectS.f k l0 a1 = some r) :
 Calls Try.prog 33 #[.slice A0 l0.length c0, .int .i64 a1] w fun e w' => e = .returned (.int .i64 r) ∧ Below w.heap.size w w' := by
 have hu63 := Try.underlying63
 have HR0 := Aside0.mk hr0
 have HC0 := Aside0.mk hc0
 clear hr0 hc0
 have HB := Aside0.mk (Below.refl w.heap.size w)
 have H : (if (wrap64 (a1 - (l0.length : Int))) < 0 then (some (-1)) else (laws_szObjectS.l0 k l0 (wrap64 (a1 - (l0.length : Int))) 0)) = some r := h
 clear h
 by_cases c3 : (wrap64 (a1 - (l0.length : Int))) < 0
 · rw [if_pos c3] at H
   have c3b0 : decide ((wrap64 (a1 - (l0.length : Int))) < 0) = true := decide_eq_true c3
   clear c3
   obtain rfl := Option.some.inj H
   go_enter Try.func33, Try.ntmps33
   go_wp2
   go_ret
   exact ⟨by first | rfl | (simp [errW_none, errW_some] <;> rfl) | (simp [*, errW_none, errW_some] <;> rfl), by repeat (first | (with_reducible first | exact HB.out | apply below_alloc | apply pw_below_drewN | apply below_drew1) | exact HB.out)⟩
 · rw [if_neg c3] at H
   have c3b0 : decide ((wrap64 (a1 - (l0.length : Int))) < 0) = false := decide_eq_false c3
   clear c3
   have H' := Aside0.mk H
   clear H
   go_enter Try.func33, Try.ntmps33
   go_wp2
   go_loopg [1, 5] k (fun kq v1 v5 w' => ∃ (x1_1 : Int) (x5_1 : Int), v1 = .int .i64 x1_1 ∧ v5 = .int .i64 x5_1 ∧ Aside0 (laws_szObjectS.l0 kq l0 x1_1 x5_1 = some r) ∧ Aside0 (kq ≤ k) ∧ Aside0 (Below w.heap.size w w'))
   case atStart => exact ⟨(wrap64 (a1 - (l0.length : Int))), (0), (by first | rfl | (simp; done) | (simp [*]; done)), (by first | rfl | (simp; done) | (simp [*]; done)), H', ⟨Nat.le_refl _⟩, ⟨by repeat (first | (with_reducible first | exact HB.out | apply below_alloc | apply pw_below_drewN | apply below_drew1) | exact HB.out)⟩⟩
   case round =>
    clear H'
    try clear p2
    try clear c3
    try clear c3b0
    obtain ⟨x1_1, x5_1, rfl, rfl, HA, HK1, HB⟩ := hrel
    cases gk with
    | zero => exact absurd HA.out (by simp [laws_szObjectS.l0])
    | succ k1 =>
     have H := HA.out
     clear HA
     simp only [laws_szObjectS.l0] at H
     by_cases c4 : x5_1 < (l0.length : Int)
     · rw [if_pos c4] at H
       have c4b0 : decide (x5_1 < (l0.length : Int)) = true := decide_eq_true c4
       clear c4
       by_cases c5 : 0 ≤ x5_1
       · rw [if_pos c5] at H
         have c5b0 : decide (0 ≤ x5_1) = true := decide_eq_true c5
         clear c5
         replace H := Option.bind_eq_some_iff.mp H
         obtain ⟨t545, A60, H⟩ := H
         replace H : (if t545 < 0 then (some (-1)) else (laws_szObjectS.l0 k1 l0 t545 (wrap64 (x5_1 + 1)))) = some r := H
         have A6 := Aside0.mk A60
         clear A60
         by_cases c7 : t545 < 0
         · rw [if_pos c7] at H
           have c7b0 : decide (t545 < 0) = true := decide_eq_true c7
           clear c7
           obtain rfl := Option.some.inj H
           have p544 : 0 ≤ (x5_1 : Int) := of_decide_eq_true (by first | (with_reducible assumption) | assumption)
           have q544 : x5_1 < (l0.length : Int) := of_decide_eq_true (by first | (with_reducible assumption) | assumption)
           obtain ⟨ad544, A544_0, c544_0, e544, hx544_0, hl544_0, hi544_0⟩ := at_T63 HR0.out x5_1 p544 q544
           cases e544
           replace hx544_0 := (HB.out.cell (World.block_lt_of_cell? w _ hx544_0)).trans hx544_0
           have HR544_0 := Aside0.mk hi544_0
           have HC544_0 := Aside0.mk hl544_0
           clear hi544_0 hl544_0
           replace p544 := eq_true p544
           replace q544 := eq_true q544
           go_wp2_with (first | ((with_reducible refine gate_callee (f := 44) rfl ?_); refine goesL_ (some 23) rfl rfl Try.func44 (by kernel_rfl) rfl #[.agg #[.slice A544_0 ((rd_T63 l0 x5_1).f0).length c544_0], .int .i64 x1_1] rfl (by (try simp only [List.map_toArray, List.map_cons, List.map_nil]); first | done | rfl | (simp only [List.length_drop, List.length_take]; rfl)) ?_; (with_reducible refine (laws_szObject.calls k1 _ _ ((rd_T63 l0 x5_1).f0) x1_1 t545 _ ?side1 ?side2 A6.out).mono ?_); (case side1 => repeat (first | exact (Kd.C_below HR544_0.out HB.out) | (with_reducible refine Kd.C_alloc ?_ _) | (with_reducible refine Kd.C_drewN ?_ _) | (with_reducible refine Kd.C_drew ?_))); (case side2 => exact HC544_0.out); rintro e w8 ⟨rfl, hb⟩; refine ⟨_, rfl, ?_⟩; have n0_ := Aside0.mk (below_step (by repeat (first | (with_reducible first | exact HB.out | apply below_alloc | apply pw_below_drewN | apply below_drew1) | exact HB.out)) hb); clear HB; have HB := n0_; clear n0_; (try clear hb); (try clear hb2); (try clear hk); (try clear hi)))
           go_ret
           exact ⟨by first | rfl | (simp [errW_none, errW_some] <;> rfl) | (simp [*, errW_none, errW_some] <;> rfl), by repeat (first | (with_reducible first | exact HB.out | apply below_alloc | apply pw_below_drewN | apply below_drew1) | exact HB.out)⟩
         · rw [if_neg c7] at H
           have c7b0 : decide (t545 < 0) = false := decide_eq_false c7
           clear c7
           have H' := Aside0.mk H
           clear H
           have p544 : 0 ≤ (x5_1 : Int) := of_decide_eq_true (by first | (with_reducible assumption) | assumption)
           have q544 : x5_1 < (l0.length : Int) := of_decide_eq_true (by first | (with_reducible assumption) | assumption)
           obtain ⟨ad544, A544_0, c544_0, e544, hx544_0, hl544_0, hi544_0⟩ := at_T63 HR0.out x5_1 p544 q544
           cases e544
           replace hx544_0 := (HB.out.cell (World.block_lt_of_cell? w _ hx544_0)).trans hx544_0
           have HR544_0 := Aside0.mk hi544_0
           have HC544_0 := Aside0.mk hl544_0
           clear hi544_0 hl544_0
           replace p544 := eq_true p544
           replace q544 := eq_true q544
           go_wp2_with (first | ((with_reducible refine gate_callee (f := 44) rfl ?_); refine goesL_ (some 23) rfl rfl Try.func44 (by kernel_rfl) rfl #[.agg #[.slice A544_0 ((rd_T63 l0 x5_1).f0).length c544_0], .int .i64 x1_1] rfl (by (try simp only [List.map_toArray, List.map_cons, List.map_nil]); first | done | rfl | (simp only [List.length_drop, List.length_take]; rfl)) ?_; (with_reducible refine (laws_szObject.calls k1 _ _ ((rd_T63 l0 x5_1).f0) x1_1 t545 _ ?side1 ?side2 A6.out).mono ?_); (case side1 => repeat (first | exact (Kd.C_below HR544_0.out HB.out) | (with_reducible refine Kd.C_alloc ?_ _) | (with_reducible refine Kd.C_drewN ?_ _) | (with_reducible refine Kd.C_drew ?_))); (case side2 => exact HC544_0.out); rintro e w9 ⟨rfl, hb⟩; refine ⟨_, rfl, ?_⟩; have n0_ := Aside0.mk (below_step (by repeat (first | (with_reducible first | exact HB.out | apply below_alloc | apply pw_below_drewN | apply below_drew1) | exact HB.out)) hb); clear HB; have HB := n0_; clear n0_; (try clear hb); (try clear hb2); (try clear hk); (try clear hi)))
           go_roundg k1
           case measure => have := HK1.out; omega
           case rel => exact ⟨(t545), (wrap64 (x5_1 + 1)), (by first | rfl | (simp; done) | (simp [*]; done)), (by first | rfl | (simp; done) | (simp [*]; done)), H', ⟨by have := HK1.out; omega⟩, ⟨by repeat (first | (with_reducible first | exact HB.out | apply below_alloc | apply pw_below_drewN | apply below_drew1) | exact HB.out)⟩⟩
       · rw [if_neg c5] at H
         exact absurd H (by simp)
     · rw [if_neg c4] at H
       have c4b0 : decide (x5_1 < (l0.length : Int)) = false := decide_eq_false c4
       clear c4
       obtain rfl := Option.some.inj H
       go_wp2
       go_ret
       exact ⟨by first | rfl | (simp [errW_none, errW_some] <;> rfl) | (simp [*, errW_none, errW_some] <;> rfl), by repeat (first | (with_reducible first | exact HB.out | apply below_alloc | apply pw_below_drewN | apply below_drew1) | exact HB.out)⟩

end Go.Proofs.Ythegbhfoleiegaa.All


namespace Go.Proofs.Ythegbhfoleiegaa.All
open Go.RowKit Go.Proofs.YthegbhfoleiegaaW.PrintWords Go.Proofs.YthegbhfoleiegaaW.PrintLast Go.Proofs.YthegbhfoleiegaaW.PrintMore
attribute [local go_sem] max2_int min2_int max_two min_two max_three min_three max_four min_four   -- for this text's walks alone
set_option linter.unusedVariables false
set_option linter.unusedSimpArgs false

theorem eqA125 (d : Nat) (w : World) (x0 y0 : Int) (x1 y1 : Int) :
 (Op.equalIn (d + 2) 125 (.agg #[.int .i64 x0, .int .i64 x1]) (.agg #[.int .i64 y0, .int .i64 y1])).run Try.prog w = .ok (x0 == y0 && (x1 == y1)) w := by
 refine eqA_of Try.underlying125 (by kernel_rfl) ?_
 refine eqf_cons (by rfl) (by go_simp; rfl) (by go_simp; rfl) (by go_simp) ?_
 exact eqf_last (by rfl) (by go_simp; rfl) (by go_simp; rfl) (by go_simp)
end Go.Proofs.Ythegbhfoleiegaa.All


namespace Go.Proofs.Ythegbhfoleiegaa.All
open Go.RowKit Go.Proofs.YthegbhfoleiegaaW.PrintWords Go.Proofs.YthegbhfoleiegaaW.PrintLast Go.Proofs.YthegbhfoleiegaaW.PrintMore
attribute [local go_sem] max2_int min2_int max_two min_two max_three min_three max_four min_four   -- for this text's walks alone
set_option linter.unusedVariables false
set_option linter.unusedSimpArgs false

/-! ### spec_l20Of: function 85 -/
mutual
def spec_l20Of.j1 : Nat → List (S68) → ByteArray → Int → Int → Option (Int × Int)
 | 0, _, _, _, _ => none
 | k + 1, x0, x2, x548000, x548001 => spec_l20Of.l1 k x0 x2 1 x548000 x548001
def spec_l20Of.l1 : Nat → List (S68) → ByteArray → Int → Int → Int → Option (Int × Int)
 | 0, _, _, _, _, _ => none
 | k + 1, x0, x2, x10, x548000, x548001 => if x10 ≤ 2 then (spec_l20Of.l2 k x0 x2 x10 0 x548000 x548001) else (some (x548000, x548001))
def spec_l20Of.l2 : Nat → List (S68) → ByteArray → Int → Int → Int → Int → Option (Int × Int)
 | 0, _, _, _, _, _, _ => none
 | k + 1, x0, x2, x10, x11, x548000, x548001 => if x11 < (x0.length : Int) then (spec_l20Of.l3 k x0 x2 x10 x11 0 x548000 x548001) else (spec_l20Of.l1 k x0 x2 (wrap64 (x10 + 1)) x548000 x548001)
def spec_l20Of.l3 : Nat → List (S68) → ByteArray → Int → Int → Int → Int → Int → Option (Int × Int)
 | 0, _, _, _, _, _, _, _ => none
 | k + 1, x0, x2, x10, x11, x12, x548000, x548001 => if 0 ≤ x11 then (if x11 < (x0.length : Int) then (if x12 < (((rd_T68 x0 x11).f0).length : Int) then (if 0 ≤ x12 then (if ((rd_T130 ((rd_T68 x0 x11).f0) x12).f0).toList = x2.toList then (if ((rd_T130 ((rd_T68 x0 x11).f0) x12).f2) = x10 then (some (x11, x12)) else (spec_l20Of.l3 k x0 x2 x10 x11 (wrap64 (x12 + 1)) x548000 x548001)) else (spec_l20Of.l3 k x0 x2 x10 x11 (wrap64 (x12 + 1)) x548000 x548001)) else (none)) else (spec_l20Of.l2 k x0 x2 x10 (wrap64 (x11 + 1)) x548000 x548001)) else (none)) else (none)
def spec_l20Of.l0 : Nat → List (S68) → Int → ByteArray → Int → Int → Int → Option (Int × Int)
 | 0, _, _, _, _, _, _ => none
 | k + 1, x0, x1, x2, x8, x548000, x548001 => if 0 ≤ x1 then (if x1 < (x0.length : Int) then (if x8 < (((rd_T68 x0 x1).f0).length : Int) then (if 0 ≤ x8 then (if ((rd_T130 ((rd_T68 x0 x1).f0) x8).f0).toList = x2.toList then (if ((rd_T130 ((rd_T68 x0 x1).f0) x8).f2) = 3 then (some (x1, x8)) else (spec_l20Of.l0 k x0 x1 x2 (wrap64 (x8 + 1)) x548000 x548001)) else (spec_l20Of.l0 k x0 x1 x2 (wrap64 (x8 + 1)) x548000 x548001)) else (none)) else (spec_l20Of.j1 k x0 x2 x548000 x548001)) else (none)) else (none)
end
def spec_l20Of.f (k : Nat) (l0 : List (S68)) (a1 : Int) (a2 : ByteArray) : Option (Int × Int) := if a1 ≥ 0 then (spec_l20Of.l0 k l0 a1 a2 0 (-1) (-1)) else (spec_l20Of.j1 k l0 a2 (-1) (-1))
set_option maxHeartbeats 8000000 in
set_option maxRecDepth 100000 in
theorem spec_l20Of.calls (k : Nat) (P0_ : Nat → Prop) (A0 : Option Addr) (c0 : Nat) (l0 : List (S68)) (a1 : Int) (a2 : ByteArray) (r1 : Int) (r2 : Int) (w : World) (hs0 : Kd.V k68 68 w w.heap.size (fun k_ => P0_ k_) (.slice A0 l0.length c0) l0) (h : spec_l20Of.f k l0 a1 a2 = some (r1, r2)) :
 Calls Try.prog 85 #[.slice A0 l0.length c0, .int .i64 a1, .string a2] w fun e w' => e = .returned (.agg #[.int .i64 r1, .int .i64 r2]) ∧ Below w.heap.size w w' := by
 have hu125 := Try.underlying125
 have hu130 := Try.underlying130
 have HO0 := Aside0.mk (show Kd.V k68 68 w w.heap.size (fun k_ => (P0_ k_ ∨ w.heap.size ≤ k_)) (.slice A0 l0.length c0) l0 from Kd.V_mono hs0 (fun k_ hk => .inl hk))
 have HB := Aside0.mk (Below.refl w.heap.size w)
 have H : (if a1 ≥ 0 then (spec_l20Of.l0 k l0 a1 a2 0 (-1) (-1)) else (spec_l20Of.j1 k l0 a2 (-1) (-1))) = some (r1, r2) := h
 clear h
 have HC4 := Aside0.mk H
 clear H
 go_enter Try.func85, Try.ntmps85
 go_upto_if 16 with (first | ((with_reducible refine gate_dst (N := 6) rfl ?_); refine box_event ?hg (N := 6) ?hd (cs := #[.int .i64 0, .int .i64 0]) (t := 125) ?hr ?_; (case hd => rfl); (case hg => rfl); (case hr => first | (go_simp; done) | (go_simp; rfl)); intro gb546 hg w5 hbox hb; have n0_ := Aside0.mk (Kd.V_below (Kd.V_elderB (by (with_reducible repeat (first | apply Kd.V_alloc | apply Kd.V_drewN | apply Kd.V_drew)); exact HO0.out) gb546 (Nat.le_of_eq hg.symm)) hb); have n1_ := Aside0.mk (below_step (by repeat (first | (with_reducible first | exact HB.out | apply below_alloc | apply pw_below_drewN | apply below_drew1) | exact HB.out)) hb); have n2_ := Aside0.mk (hbox); have n3_ := Aside0.mk ((by rw [hg]; exact (below_size (by repeat (first | (with_reducible first | exact HB.out | apply below_alloc | apply pw_below_drewN | apply below_drew1) | exact HB.out))) : w.heap.size ≤ gb546)); have n4_ := Aside0.mk ((by rw [hg]; exact (below_size (by repeat (first | (with_reducible first | exact HB.out | apply below_alloc | apply pw_below_drewN | apply below_drew1) | exact HB.out))) : w.heap.size ≤ gb546)); clear HO0; clear HB; have HO0 := n0_; have HB := n1_; have BK546 := n2_; have GW546 := n3_; have GE546 := n4_; clear n0_ n1_ n2_ n3_ n4_; clear hb hbox hg) | ((with_reducible refine gate_dst (N := 7) rfl ?_); refine box_event ?hg (N := 7) ?hd (cs := #[.int .i64 0, .int .i64 0]) (t := 125) ?hr ?_; (case hd => rfl); (case hg => rfl); (case hr => first | (go_simp; done) | (go_simp; rfl)); intro gb547 hg w6 hbox hb; have n0_ := Aside0.mk (Kd.V_below (Kd.V_elderB (by (with_reducible repeat (first | apply Kd.V_alloc | apply Kd.V_drewN | apply Kd.V_drew)); exact HO0.out) gb547 (Nat.le_of_eq hg.symm)) hb); have n1_ := Aside0.mk (blk_below (g := gb546) (o := .cells #[.int .i64 0, .int .i64 0] 125 (0, 0)) (by (with_reducible repeat (first | refine blk_drewN ?_ _ | refine blk_drew ?_ | refine blk_alloc ?_ _)); exact BK546.out) hb); have n2_ := Aside0.mk (below_step (by repeat (first | (with_reducible first | exact HB.out | apply below_alloc | apply pw_below_drewN | apply below_drew1 | refine below_set ?_ GE546.out) | exact HB.out)) hb); have n3_ := Aside0.mk (hbox); have n4_ := Aside0.mk ((by rw [hg]; exact (below_size (by repeat (first | (with_reducible first | exact HB.out | apply below_alloc | apply pw_below_drewN | apply below_drew1 | refine below_set ?_ GE546.out) | exact HB.out))) : w.heap.size ≤ gb547)); have n5_ := Aside0.mk ((by rw [hg]; exact (below_size (by repeat (first | (with_reducible first | exact HB.out | apply below_alloc | apply pw_below_drewN | apply below_drew1 | refine below_set ?_ GE546.out) | exact HB.out))) : w.heap.size ≤ gb547)); have n6_ := Aside0.mk ((by rw [hg]; exact Nat.ne_of_lt (blk_lt (g := gb546) (o := .cells #[.int .i64 0, .int .i64 0] 125 (0, 0)) (by (with_reducible repeat (first | refine blk_drewN ?_ _ | refine blk_drew ?_ | refine blk_alloc ?_ _)); exact BK546.out)) : gb546 ≠ gb547)); have n7_ := Aside0.mk ((by rw [hg]; exact Nat.ne_of_gt (blk_lt (g := gb546) (o := .cells #[.int .i64 0, .int .i64 0] 125 (0, 0)) (by (with_reducible repeat (first | refine blk_drewN ?_ _ | refine blk_drew ?_ | refine blk_alloc ?_ _)); exact BK546.out)) : gb547 ≠ gb546)); clear HO0; clear BK546; clear HB; have HO0 := n0_; have BK546 := n1_; have HB := n2_; have BK547 := n3_; have GW547 := n4_; have GE547 := n5_; have NB546_547 := n6_; have NB547_546 := n7_; clear n0_ n1_ n2_ n3_ n4_ n5_ n6_ n7_; clear hb hbox hg; have hnb7 := NB547_546.out; have hnc7 := NB546_547.out; have hcz8_0 : w6.cell? ⟨gb547, 0, none⟩ = some (.int .i64 0) := (blk_cell BK547.out 0).trans rfl; have hcz8_1 : w6.cell? ⟨gb547, 1, none⟩ = some (.int .i64 0) := (blk_cell BK547.out 1).trans rfl; have hfz8_0 := blk_frozen BK547.out 0; have hfz8_1 := blk_frozen BK547.out 1))
 (try simp only [Act.put, List.setIfInBounds_toArray, List.set_cons_zero, List.set_cons_succ])
 go_cut [] (fun wc => ∃ (kq : Nat) (x547000_3 : Int) (x547001_3 : Int), Aside0 (spec_l20Of.j1 kq l0 a2 (-1) (-1) = some (r1, r2)) ∧ Aside0 (kq ≤ k) ∧ Aside0 (Kd.V k68 68 wc w.heap.size (fun k_ => (P0_ k_ ∨ w.heap.size ≤ k_) ∧ k_ ≠ gb546 ∧ k_ ≠ gb547) (.slice A0 l0.length c0) l0) ∧ Aside0 (wc.heap[gb546]? = some (.cells #[.int .i64 x547000_3, .int .i64 x547001_3] 125 (0, 0))) ∧ Aside0 (wc.heap[gb547]? = some (.cells #[.int .i64 (-1), .int .i64 (-1)] 125 (0, 0))) ∧ Aside0 (Below w.heap.size w wc))
 case first =>
  have H := HC4.out
  clear HC4
  by_cases c9 : a1 ≥ 0
  · rw [if_pos c9] at H
    have c9b0 : decide (0 ≤ a1) = true := decide_eq_true c9
    clear c9
    (first | rw [c9b0] | (simp only [i64_w, i32_w]; rw [c9b0]) | skip)
    have H' := Aside0.mk H
    clear H
    go_wp2
    go_loopg [8] k (fun kq v8 w' => ∃ (x8_1 : Int) (x547000_1 : Int) (x547001_1 : Int), v8 = .int .i64 x8_1 ∧ Aside0 (spec_l20Of.l0 kq l0 a1 a2 x8_1 (-1) (-1) = some (r1, r2)) ∧ Aside0 (kq ≤ k) ∧ Aside0 (Kd.V k68 68 w' w.heap.size (fun k_ => (P0_ k_ ∨ w.heap.size ≤ k_) ∧ k_ ≠ gb546 ∧ k_ ≠ gb547) (.slice A0 l0.length c0) l0) ∧ Aside0 (w'.heap[gb546]? = some (.cells #[.int .i64 x547000_1, .int .i64 x547001_1] 125 (0, 0))) ∧ Aside0 (w'.heap[gb547]? = some (.cells #[.int .i64 (-1), .int .i64 (-1)] 125 (0, 0))) ∧ Aside0 (Below w.heap.size w w'))
    case atStart => exact ⟨(0), (0), (0), (by first | rfl | (simp; done) | (simp [*]; done)), H', ⟨Nat.le_refl _⟩, ⟨by (with_reducible repeat (first | apply Kd.V_alloc | apply Kd.V_drewN | apply Kd.V_drew)); exact Kd.V_mono (Kd.V_far (p := ⟨gb547, 1, none⟩) (Kd.V_far (p := ⟨gb547, 0, none⟩) (Kd.V_mono HO0.out (fun k_ hk => (⟨hk, hk.2⟩ : _ ∧ k_ ≠ gb547))) (fun _ hk => hk.2) (.int .i64 (-1))) (fun _ hk => hk.2) (.int .i64 (-1))) (fun _ hk => ⟨hk.1.1.1, ⟨hk.1.1.2, hk.1.2⟩⟩)⟩, ⟨by (with_reducible repeat (first | refine blk_drewN ?_ _ | refine blk_drew ?_ | refine blk_alloc ?_ _)); refine blk_far ?_ NB546_547.out _; (with_reducible repeat (first | refine blk_drewN ?_ _ | refine blk_drew ?_ | refine blk_alloc ?_ _)); refine blk_far ?_ NB546_547.out _; (with_reducible repeat (first | refine blk_drewN ?_ _ | refine blk_drew ?_ | refine blk_alloc ?_ _)); exact BK546.out⟩, ⟨by (with_reducible repeat (first | refine blk_drewN ?_ _ | refine blk_drew ?_ | refine blk_alloc ?_ _)); refine blk_put (cs := #[.int .i64 (-1), .int .i64 0]) ?_ 1 _ rfl; (with_reducible repeat (first | refine blk_drewN ?_ _ | refine blk_drew ?_ | refine blk_alloc ?_ _)); refine blk_put (cs := #[.int .i64 0, .int .i64 0]) ?_ 0 _ rfl; (with_reducible repeat (first | refine blk_drewN ?_ _ | refine blk_drew ?_ | refine blk_alloc ?_ _)); exact BK547.out⟩, ⟨by repeat (first | (with_reducible first | exact HB.out | apply below_alloc | apply pw_below_drewN | apply below_drew1 | refine below_set ?_ GE546.out | refine below_set ?_ GE547.out) | exact HB.out)⟩⟩
    case round =>
     clear H'
     try clear p2
     try clear c7
     try clear c8
     try clear c9
     try clear c9b0
     try clear hcz8_0
     try clear hcz8_1
     try clear hfz8_0
     try clear hfz8_1
     obtain ⟨x8_1, x547000_1, x547001_1, rfl, HA, HK1, HO_0, BK546, BK547, HB⟩ := hrel
     cases gk with
     | zero => exact absurd HA.out (by simp [spec_l20Of.l0])
     | succ k1 =>
      have H := HA.out
      clear HA
      simp only [spec_l20Of.l0] at H
      by_cases c10 : 0 ≤ a1
      · rw [if_pos c10] at H
        have c10b0 : decide (0 ≤ a1) = true := decide_eq_true c10
        clear c10
        by_cases c11 : a1 < (l0.length : Int)
        · rw [if_pos c11] at H
          have c11b0 : decide (a1 < (l0.length : Int)) = true := decide_eq_true c11
          clear c11
          by_cases c12 : x8_1 < (((rd_T68 l0 a1).f0).length : Int)
          · rw [if_pos c12] at H
            have c12b0 : decide (x8_1 < (((rd_T68 l0 a1).f0).length : Int)) = true := decide_eq_true c12
            clear c12
            by_cases c13 : 0 ≤ x8_1
            · rw [if_pos c13] at H
              have c13b0 : decide (0 ≤ x8_1) = true := decide_eq_true c13
              clear c13
              by_cases c14 : ((rd_T130 ((rd_T68 l0 a1).f0) x8_1).f0).toList = a2.toList
              · rw [if_pos c14] at H
                have c14b0 : (((rd_T130 ((rd_T68 l0 a1).f0) x8_1).f0).toList == a2.toList) = true := beq_iff_eq.mpr c14
                have c14b1 : (((rd_T130 ((rd_T68 l0 a1).f0) x8_1).f0).toList != a2.toList) = false := bne_eq_false_iff_eq.mpr c14
                clear c14
                by_cases c15 : ((rd_T130 ((rd_T68 l0 a1).f0) x8_1).f2) = 3
                · rw [if_pos c15] at H
                  have c15b0 : (((rd_T130 ((rd_T68 l0 a1).f0) x8_1).f2) == 3) = true := beq_iff_eq.mpr c15
                  have c15b1 : (((rd_T130 ((rd_T68 l0 a1).f0) x8_1).f2) != 3) = false := bne_eq_false_iff_eq.mpr c15
                  clear c15
                  simp only [Option.some.injEq, Prod.mk.injEq] at H
                  obtain ⟨rfl, rfl⟩ := H
                  have p548 : 0 ≤ (a1 : Int) := of_decide_eq_true (by first | (with_reducible assumption) | assumption)
                  have q548 : a1 < (l0.length : Int) := of_decide_eq_true (by first | (with_reducible assumption) | assumption)
                  obtain ⟨ad548, A548_0, c548_0, e548, hx548_0, hl548_0, hi548_0⟩ := at_T68 (Kd.V_reads' HO_0.out).2.2 a1 p548 q548
                  cases e548
                  obtain ⟨ce548, hce548, hMe548, hcc548⟩ := Kd.V_get HO_0.out z68 a1 p548 (by first | exact q548 | exact of_decide_eq_true (by first | (with_reducible assumption) | assumption) | (have e_ := (Kd.V_reads' HO_0.out).1; omega))
                  obtain ⟨ua548_0, uc548_0, rfl, ul548_0, ge548_0⟩ := k68_openF hMe548
                  have hv548_0 := hcc548 0 _ rfl
                  rw [Nat.add_zero, show (k68).sz = 1 from rfl, Nat.mul_one] at hv548_0
                  replace hv548_0 := Option.some.inj (hv548_0.symm.trans hx548_0)
                  injection hv548_0 with hva_ hvn_ hvc_
                  rw [hva_] at ge548_0
                  rw [hvc_] at ul548_0
                  have HL548_0 := Aside0.mk (show Kd.V k130 130 _ w.heap.size _ _ ((rd_T68 l0 a1).f0) from Kd.V_mk ul548_0 ge548_0)
                  clear hva_ hvn_ hvc_ ge548_0 ul548_0
                  clear hcc548 hce548
                  have HR548_0 := Aside0.mk hi548_0
                  have HC548_0 := Aside0.mk hl548_0
                  clear hi548_0 hl548_0
                  replace p548 := eq_true p548
                  replace q548 := eq_true q548
                  have p549 : 0 ≤ (a1 : Int) := of_decide_eq_true (by first | (with_reducible assumption) | assumption)
                  have q549 : a1 < (l0.length : Int) := of_decide_eq_true (by first | (with_reducible assumption) | assumption)
                  obtain ⟨ad549, A549_0, c549_0, e549, hx549_0, hl549_0, hi549_0⟩ := at_T68 (Kd.V_reads' HO_0.out).2.2 a1 p549 q549
                  obtain rfl : ad548 = ad549 := (by injection e549)
                  obtain ⟨ce549, hce549, hMe549, hcc549⟩ := Kd.V_get HO_0.out z68 a1 p549 (by first | exact q549 | exact of_decide_eq_true (by first | (with_reducible assumption) | assumption) | (have e_ := (Kd.V_reads' HO_0.out).1; omega))
                  obtain ⟨ua549_0, uc549_0, rfl, ul549_0, ge549_0⟩ := k68_openF hMe549
                  have hv549_0 := hcc549 0 _ rfl
                  rw [Nat.add_zero, show (k68).sz = 1 from rfl, Nat.mul_one] at hv549_0
                  replace hv549_0 := Option.some.inj (hv549_0.symm.trans hx549_0)
                  injection hv549_0 with hva_ hvn_ hvc_
                  rw [hva_] at ge549_0
                  rw [hvc_] at ul549_0
                  have HL549_0 := Aside0.mk (show Kd.V k130 130 _ w.heap.size _ _ ((rd_T68 l0 a1).f0) from Kd.V_mk ul549_0 ge549_0)
                  clear hva_ hvn_ hvc_ ge549_0 ul549_0
                  clear hcc549 hce549
                  have HR549_0 := Aside0.mk hi549_0
                  have HC549_0 := Aside0.mk hl549_0
                  clear hi549_0 hl549_0
                  replace p549 := eq_true p549
                  replace q549 := eq_true q549
                  have ea_ := Option.some.inj (hx548_0.symm.trans hx549_0)
                  injection ea_ with ea_ en_ ec_
                  subst ea_
                  subst ec_
                  clear en_
                  have p550 : 0 ≤ (x8_1 : Int) := of_decide_eq_true (by first | (with_reducible assumption) | assumption)
                  have q550 : x8_1 < (((rd_T68 l0 a1).f0).length : Int) := of_decide_eq_true (by first | (with_reducible assumption) | assumption)
                  obtain ⟨ad550, A550_4, c550_4, A550_6, c550_6, A550_7, c550_7, e550, hx550_0, hx550_1, hx550_2, hx550_3, hx550_4, hx550_5, hx550_6, hx550_7, hl550_4, hi550_4, hl550_6, hi550_6, hl550_7, hi550_7⟩ := at_T130 (by repeat (first | (with_reducible exact HR549_0.out) | (with_reducible refine Kd.C_alloc ?_ _) | (with_reducible refine Kd.C_drewN ?_ _) | (with_reducible refine Kd.C_drew ?_) | exact HR549_0.out)) x8_1 p550 q550
                  cases e550
                  obtain ⟨ce550, hce550, hMe550, hcc550⟩ := Kd.V_get HL549_0.out z130 x8_1 p550 (by first | exact q550 | exact of_decide_eq_true (by first | (with_reducible assumption) | assumption) | (have e_ := (Kd.V_reads' HL549_0.out).1; omega))
                  obtain ⟨ua550_4, uc550_4, ua550_6, uc550_6, ua550_7, uc550_7, rfl, ul550_4, ge550_4, ul550_6, ge550_6, ul550_7, ge550_7⟩ := k130_openF hMe550
                  have hv550_4 := hcc550 4 _ rfl
                  rw [add_field _ _ 4 (by omega)] at hv550_4
                  replace hv550_4 := Option.some.inj (hv550_4.symm.trans hx550_4)
                  injection hv550_4 with hva_ hvn_ hvc_
                  rw [hva_] at ge550_4
                  rw [hvc_] at ul550_4
                  have HL550_4 := Aside0.mk (show Kd.V (Kd.int .i64) 2 _ w.heap.size _ _ ((rd_T130 ((rd_T68 l0 a1).f0) x8_1).f4) from Kd.V_mk ul550_4 ge550_4)
                  clear hva_ hvn_ hvc_ ge550_4 ul550_4
                  have hv550_6 := hcc550 6 _ rfl
                  rw [add_field _ _ 6 (by omega)] at hv550_6
                  replace hv550_6 := Option.some.inj (hv550_6.symm.trans hx550_6)
                  injection hv550_6 with hva_ hvn_ hvc_
                  rw [hva_] at ge550_6
                  rw [hvc_] at ul550_6
                  have HL550_6 := Aside0.mk (show Kd.V (Kd.int .u8) 5 _ w.heap.size _ _ ((rd_T130 ((rd_T68 l0 a1).f0) x8_1).f6) from Kd.V_mk ul550_6 ge550_6)
                  clear hva_ hvn_ hvc_ ge550_6 ul550_6
                  have hv550_7 := hcc550 7 _ rfl
                  rw [add_field _ _ 7 (by omega)] at hv550_7
                  replace hv550_7 := Option.some.inj (hv550_7.symm.trans hx550_7)
                  injection hv550_7 with hva_ hvn_ hvc_
                  rw [hva_] at ge550_7
                  rw [hvc_] at ul550_7
                  have HL550_7 := Aside0.mk (show Kd.V k132 132 _ w.heap.size _ _ ((rd_T130 ((rd_T68 l0 a1).f0) x8_1).f7) from Kd.V_mk ul550_7 ge550_7)
                  clear hva_ hvn_ hvc_ ge550_7 ul550_7
                  clear hcc550 hce550
                  have HR550_4 := Aside0.mk hi550_4
                  have HC550_4 := Aside0.mk hl550_4
                  clear hi550_4 hl550_4
                  have HR550_6 := Aside0.mk hi550_6
                  have HC550_6 := Aside0.mk hl550_6
                  clear hi550_6 hl550_6
                  have HR550_7 := Aside0.mk hi550_7
                  have HC550_7 := Aside0.mk hl550_7
                  clear hi550_7 hl550_7
                  replace p550 := eq_true p550
                  replace q550 := eq_true q550
                  go_wp2_with (first | ((with_reducible refine gate_dst (N := 9) rfl ?_); refine box_event ?hg (N := 9) ?hd (cs := #[.string (⟨#[]⟩ : ByteArray), .int .i64 0, .int .i64 0, .int .i64 0, .slice none 0 0, .int .i64 0, .slice none 0 0, .slice none 0 0]) (t := 130) ?hr ?_; (case hd => rfl); (case hg => rfl); (case hr => first | (go_simp; done) | (go_simp; rfl)); intro gb551 hg w16 hbox hb; have n0_ := Aside0.mk (Kd.V_below (Kd.V_elderB (by (with_reducible repeat (first | apply Kd.V_alloc | apply Kd.V_drewN | apply Kd.V_drew)); exact HO_0.out) gb551 (Nat.le_of_eq hg.symm)) hb); have n1_ := Aside0.mk (Kd.V_below (Kd.V_elderB (by (with_reducible repeat (first | apply Kd.V_alloc | apply Kd.V_drewN | apply Kd.V_drew)); exact HL548_0.out) gb551 (Nat.le_of_eq hg.symm)) hb); have n2_ := Aside0.mk (Kd.V_below (Kd.V_elderB (by (with_reducible repeat (first | apply Kd.V_alloc | apply Kd.V_drewN | apply Kd.V_drew)); exact HL549_0.out) gb551 (Nat.le_of_eq hg.symm)) hb); have n3_ := Aside0.mk (Kd.V_below (Kd.V_elderB (by (with_reducible repeat (first | apply Kd.V_alloc | apply Kd.V_drewN | apply Kd.V_drew)); exact HL550_4.out) gb551 (Nat.le_of_eq hg.symm)) hb); have n4_ := Aside0.mk (Kd.V_below (Kd.V_elderB (by (with_reducible repeat (first | apply Kd.V_alloc | apply Kd.V_drewN | apply Kd.V_drew)); exact HL550_6.out) gb551 (Nat.le_of_eq hg.symm)) hb); have n5_ := Aside0.mk (Kd.V_below (Kd.V_elderB (by (with_reducible repeat (first | apply Kd.V_alloc | apply Kd.V_drewN | apply Kd.V_drew)); exact HL550_7.out) gb551 (Nat.le_of_eq hg.symm)) hb); have n6_ := Aside0.mk (blk_below (g := gb546) (o := .cells #[.int .i64 x547000_1, .int .i64 x547001_1] 125 (0, 0)) (by (with_reducible repeat (first | refine blk_drewN ?_ _ | refine blk_drew ?_ | refine blk_alloc ?_ _)); exact BK546.out) hb); have n7_ := Aside0.mk (blk_below (g := gb547) (o := .cells #[.int .i64 (-1), .int .i64 (-1)] 125 (0, 0)) (by (with_reducible repeat (first | refine blk_drewN ?_ _ | refine blk_drew ?_ | refine blk_alloc ?_ _)); exact BK547.out) hb); have n8_ := Aside0.mk (Kd.C_below (by repeat (first | (with_reducible exact HR548_0.out) | (with_reducible refine Kd.C_alloc ?_ _) | (with_reducible refine Kd.C_drewN ?_ _) | (with_reducible refine Kd.C_drew ?_) | exact HR548_0.out)) hb); have n9_ := Aside0.mk (Kd.C_below (by repeat (first | (with_reducible exact HR549_0.out) | (with_reducible refine Kd.C_alloc ?_ _) | (with_reducible refine Kd.C_drewN ?_ _) | (with_reducible refine Kd.C_drew ?_) | exact HR549_0.out)) hb); have n10_ := Aside0.mk (Kd.C_below (by repeat (first | (with_reducible exact HR550_4.out) | (with_reducible refine Kd.C_alloc ?_ _) | (with_reducible refine Kd.C_drewN ?_ _) | (with_reducible refine Kd.C_drew ?_) | exact HR550_4.out)) hb); have n11_ := Aside0.mk (Kd.C_below (by repeat (first | (with_reducible exact HR550_6.out) | (with_reducible refine Kd.C_alloc ?_ _) | (with_reducible refine Kd.C_drewN ?_ _) | (with_reducible refine Kd.C_drew ?_) | exact HR550_6.out)) hb); have n12_ := Aside0.mk (Kd.C_below (by repeat (first | (with_reducible exact HR550_7.out) | (with_reducible refine Kd.C_alloc ?_ _) | (with_reducible refine Kd.C_drewN ?_ _) | (with_reducible refine Kd.C_drew ?_) | exact HR550_7.out)) hb); have n13_ := Aside0.mk (below_step (by repeat (first | (with_reducible first | exact HB.out | apply below_alloc | apply pw_below_drewN | apply below_drew1 | refine below_set ?_ GE546.out | refine below_set ?_ GE547.out) | exact HB.out)) hb); have n14_ := Aside0.mk (hbox); have n15_ := Aside0.mk ((by rw [hg]; exact (below_size (by repeat (first | (with_reducible first | exact HB.out | apply below_alloc | apply pw_below_drewN | apply below_drew1 | refine below_set ?_ GE546.out | refine below_set ?_ GE547.out) | exact HB.out))) : w.heap.size ≤ gb551)); have n16_ := Aside0.mk ((by rw [hg]; exact (below_size (by repeat (first | (with_reducible first | exact HB.out | apply below_alloc | apply pw_below_drewN | apply below_drew1 | refine below_set ?_ GE546.out | refine below_set ?_ GE547.out) | exact HB.out))) : w.heap.size ≤ gb551)); have n17_ := Aside0.mk ((by rw [hg]; exact Nat.ne_of_lt (blk_lt (g := gb546) (o := .cells #[.int .i64 x547000_1, .int .i64 x547001_1] 125 (0, 0)) (by (with_reducible repeat (first | refine blk_drewN ?_ _ | refine blk_drew ?_ | refine blk_alloc ?_ _)); exact BK546.out)) : gb546 ≠ gb551)); have n18_ := Aside0.mk ((by rw [hg]; exact Nat.ne_of_gt (blk_lt (g := gb546) (o := .cells #[.int .i64 x547000_1, .int .i64 x547001_1] 125 (0, 0)) (by (with_reducible repeat (first | refine blk_drewN ?_ _ | refine blk_drew ?_ | refine blk_alloc ?_ _)); exact BK546.out)) : gb551 ≠ gb546)); have n19_ := Aside0.mk ((by rw [hg]; exact Nat.ne_of_lt (blk_lt (g := gb547) (o := .cells #[.int .i64 (-1), .int .i64 (-1)] 125 (0, 0)) (by (with_reducible repeat (first | refine blk_drewN ?_ _ | refine blk_drew ?_ | refine blk_alloc ?_ _)); exact BK547.out)) : gb547 ≠ gb551)); have n20_ := Aside0.mk ((by rw [hg]; exact Nat.ne_of_gt (blk_lt (g := gb547) (o := .cells #[.int .i64 (-1), .int .i64 (-1)] 125 (0, 0)) (by (with_reducible repeat (first | refine blk_drewN ?_ _ | refine blk_drew ?_ | refine blk_alloc ?_ _)); exact BK547.out)) : gb551 ≠ gb547)); clear HO_0; clear HL548_0; clear HL549_0; clear HL550_4; clear HL550_6; clear HL550_7; clear BK546; clear BK547; clear HR548_0; clear HR549_0; clear HR550_4; clear HR550_6; clear HR550_7; clear HB; have HO_0 := n0_; have HL548_0 := n1_; have HL549_0 := n2_; have HL550_4 := n3_; have HL550_6 := n4_; have HL550_7 := n5_; have BK546 := n6_; have BK547 := n7_; have HR548_0 := n8_; have HR549_0 := n9_; have HR550_4 := n10_; have HR550_6 := n11_; have HR550_7 := n12_; have HB := n13_; have BK551 := n14_; have GW551 := n15_; have GE551 := n16_; have NB546_551 := n17_; have NB551_546 := n18_; have NB547_551 := n19_; have NB551_547 := n20_; clear n0_ n1_ n2_ n3_ n4_ n5_ n6_ n7_ n8_ n9_ n10_ n11_ n12_ n13_ n14_ n15_ n16_ n17_ n18_ n19_ n20_; clear hb hbox hg; have hnb17 := NB551_546.out; have hnc17 := NB546_551.out; have hnb18 := NB551_547.out; have hnc18 := NB547_551.out; have hcz19_0 : w16.cell? ⟨gb551, 0, none⟩ = some (.string (⟨#[]⟩ : ByteArray)) := (blk_cell BK551.out 0).trans rfl; have hcz19_1 : w16.cell? ⟨gb551, 1, none⟩ = some (.int .i64 0) := (blk_cell BK551.out 1).trans rfl; have hcz19_2 : w16.cell? ⟨gb551, 2, none⟩ = some (.int .i64 0) := (blk_cell BK551.out 2).trans rfl; have hcz19_3 : w16.cell? ⟨gb551, 3, none⟩ = some (.int .i64 0) := (blk_cell BK551.out 3).trans rfl; have hcz19_4 : w16.cell? ⟨gb551, 4, none⟩ = some (.slice none 0 0) := (blk_cell BK551.out 4).trans rfl; have hcz19_5 : w16.cell? ⟨gb551, 5, none⟩ = some (.int .i64 0) := (blk_cell BK551.out 5).trans rfl; have hcz19_6 : w16.cell? ⟨gb551, 6, none⟩ = some (.slice none 0 0) := (blk_cell BK551.out 6).trans rfl; have hcz19_7 : w16.cell? ⟨gb551, 7, none⟩ = some (.slice none 0 0) := (blk_cell BK551.out 7).trans rfl; have hfz19_0 := blk_frozen BK551.out 0; have hfz19_1 := blk_frozen BK551.out 1; have hfz19_2 := blk_frozen BK551.out 2; have hfz19_3 := blk_frozen BK551.out 3; have hfz19_4 := blk_frozen BK551.out 4; have hfz19_5 := blk_frozen BK551.out 5; have hfz19_6 := blk_frozen BK551.out 6; have hfz19_7 := blk_frozen BK551.out 7; have hnb20 := NB546_547.out; have hnc20 := NB547_546.out; have hcz21_0 : w16.cell? ⟨gb546, 0, none⟩ = some (.int .i64 x547000_1) := (blk_cell BK546.out 0).trans rfl; have hcz21_1 : w16.cell? ⟨gb546, 1, none⟩ = some (.int .i64 x547001_1) := (blk_cell BK546.out 1).trans rfl; have hfz21_0 := blk_frozen BK546.out 0; have hfz21_1 := blk_frozen BK546.out 1))
                  refine bodyPost_ret (results_cell_row rfl _ _ gb546 125 #[.int .i64 a1, .int .i64 x8_1] (0, 0) _ rfl (by (with_reducible repeat (first | refine blk_drewN ?_ _ | refine blk_drew ?_ | refine blk_alloc ?_ _)); refine blk_put (cs := #[.int .i64 a1, .int .i64 x547001_1]) ?_ 1 _ rfl; (with_reducible repeat (first | refine blk_drewN ?_ _ | refine blk_drew ?_ | refine blk_alloc ?_ _)); refine blk_put (cs := #[.int .i64 x547000_1, .int .i64 x547001_1]) ?_ 0 _ rfl; (with_reducible repeat (first | refine blk_drewN ?_ _ | refine blk_drew ?_ | refine blk_alloc ?_ _)); refine blk_far ?_ NB546_551.out _; (with_reducible repeat (first | refine blk_drewN ?_ _ | refine blk_drew ?_ | refine blk_alloc ?_ _)); refine blk_far ?_ NB546_551.out _; (with_reducible repeat (first | refine blk_drewN ?_ _ | refine blk_drew ?_ | refine blk_alloc ?_ _)); refine blk_far ?_ NB546_551.out _; (with_reducible repeat (first | refine blk_drewN ?_ _ | refine blk_drew ?_ | refine blk_alloc ?_ _)); refine blk_far ?_ NB546_551.out _; (with_reducible repeat (first | refine blk_drewN ?_ _ | refine blk_drew ?_ | refine blk_alloc ?_ _)); refine blk_far ?_ NB546_551.out _; (with_reducible repeat (first | refine blk_drewN ?_ _ | refine blk_drew ?_ | refine blk_alloc ?_ _)); refine blk_far ?_ NB546_551.out _; (with_reducible repeat (first | refine blk_drewN ?_ _ | refine blk_drew ?_ | refine blk_alloc ?_ _)); refine blk_far ?_ NB546_551.out _; (with_reducible repeat (first | refine blk_drewN ?_ _ | refine blk_drew ?_ | refine blk_alloc ?_ _)); refine blk_far ?_ NB546_551.out _; (with_reducible repeat (first | refine blk_drewN ?_ _ | refine blk_drew ?_ | refine blk_alloc ?_ _)); exact BK546.out) Try.underlying125 rfl (by kernel_rfl)) rfl ?_
                  exact ⟨by first | rfl | (simp [errW_none, errW_some] <;> rfl) | (simp [*, errW_none, errW_some] <;> rfl), by repeat (first | (with_reducible first | exact HB.out | apply below_alloc | apply pw_below_drewN | apply below_drew1 | refine below_set ?_ GE546.out | refine below_set ?_ GE547.out | refine below_set ?_ GE551.out) | exact HB.out)⟩
                · rw [if_neg c15] at H
                  have c15b0 : (((rd_T130 ((rd_T68 l0 a1).f0) x8_1).f2) == 3) = false := beq_eq_false_iff_ne.mpr c15
                  have c15b1 : (((rd_T130 ((rd_T68 l0 a1).f0) x8_1).f2) != 3) = true := bne_iff_ne.mpr c15
                  have H' := Aside0.mk H
                  clear H
                  have p548 : 0 ≤ (a1 : Int) := of_decide_eq_true (by first | (with_reducible assumption) | assumption)
                  have q548 : a1 < (l0.length : Int) := of_decide_eq_true (by first | (with_reducible assumption) | assumption)
                  obtain ⟨ad548, A548_0, c548_0, e548, hx548_0, hl548_0, hi548_0⟩ := at_T68 (Kd.V_reads' HO_0.out).2.2 a1 p548 q548
                  cases e548
                  obtain ⟨ce548, hce548, hMe548, hcc548⟩ := Kd.V_get HO_0.out z68 a1 p548 (by first | exact q548 | exact of_decide_eq_true (by first | (with_reducible assumption) | assumption) | (have e_ := (Kd.V_reads' HO_0.out).1; omega))
                  obtain ⟨ua548_0, uc548_0, rfl, ul548_0, ge548_0⟩ := k68_openF hMe548
                  have hv548_0 := hcc548 0 _ rfl
                  rw [Nat.add_zero, show (k68).sz = 1 from rfl, Nat.mul_one] at hv548_0
                  replace hv548_0 := Option.some.inj (hv548_0.symm.trans hx548_0)
                  injection hv548_0 with hva_ hvn_ hvc_
                  rw [hva_] at ge548_0
                  rw [hvc_] at ul548_0
                  have HL548_0 := Aside0.mk (show Kd.V k130 130 _ w.heap.size _ _ ((rd_T68 l0 a1).f0) from Kd.V_mk ul548_0 ge548_0)
                  clear hva_ hvn_ hvc_ ge548_0 ul548_0
                  clear hcc548 hce548
                  have HR548_0 := Aside0.mk hi548_0
                  have HC548_0 := Aside0.mk hl548_0
                  clear hi548_0 hl548_0
                  replace p548 := eq_true p548
                  replace q548 := eq_true q548
                  have p549 : 0 ≤ (a1 : Int) := of_decide_eq_true (by first | (with_reducible assumption) | assumption)
                  have q549 : a1 < (l0.length : Int) := of_decide_eq_true (by first | (with_reducible assumption) | assumption)
                  obtain ⟨ad549, A549_0, c549_0, e549, hx549_0, hl549_0, hi549_0⟩ := at_T68 (Kd.V_reads' HO_0.out).2.2 a1 p549 q549
                  obtain rfl : ad548 = ad549 := (by injection e549)
                  obtain ⟨ce549, hce549, hMe549, hcc549⟩ := Kd.V_get HO_0.out z68 a1 p549 (by first | exact q549 | exact of_decide_eq_true (by first | (with_reducible assumption) | assumption) | (have e_ := (Kd.V_reads' HO_0.out).1; omega))
                  obtain ⟨ua549_0, uc549_0, rfl, ul549_0, ge549_0⟩ := k68_openF hMe549
                  have hv549_0 := hcc549 0 _ rfl
                  rw [Nat.add_zero, show (k68).sz = 1 from rfl, Nat.mul_one] at hv549_0
                  replace hv549_0 := Option.some.inj (hv549_0.symm.trans hx549_0)
                  injection hv549_0 with hva_ hvn_ hvc_
                  rw [hva_] at ge549_0
                  rw [hvc_] at ul549_0
                  have HL549_0 := Aside0.mk (show Kd.V k130 130 _ w.heap.size _ _ ((rd_T68 l0 a1).f0) from Kd.V_mk ul549_0 ge549_0)
                  clear hva_ hvn_ hvc_ ge549_0 ul549_0
                  clear hcc549 hce549
                  have HR549_0 := Aside0.mk hi549_0
                  have HC549_0 := Aside0.mk hl549_0
                  clear hi549_0 hl549_0
                  replace p549 := eq_true p549
                  replace q549 := eq_true q549
                  have ea_ := Option.some.inj (hx548_0.symm.trans hx549_0)
                  injection ea_ with ea_ en_ ec_
                  subst ea_
                  subst ec_
                  clear en_
                  have p550 : 0 ≤ (x8_1 : Int) := of_decide_eq_true (by first | (with_reducible assumption) | assumption)
                  have q550 : x8_1 < (((rd_T68 l0 a1).f0).length : Int) := of_decide_eq_true (by first | (with_reducible assumption) | assumption)
                  obtain ⟨ad550, A550_4, c550_4, A550_6, c550_6, A550_7, c550_7, e550, hx550_0, hx550_1, hx550_2, hx550_3, hx550_4, hx550_5, hx550_6, hx550_7, hl550_4, hi550_4, hl550_6, hi550_6, hl550_7, hi550_7⟩ := at_T130 (by repeat (first | (with_reducible exact HR549_0.out) | (with_reducible refine Kd.C_alloc ?_ _) | (with_reducible refine Kd.C_drewN ?_ _) | (with_reducible refine Kd.C_drew ?_) | exact HR549_0.out)) x8_1 p550 q550
                  cases e550
                  obtain ⟨ce550, hce550, hMe550, hcc550⟩ := Kd.V_get HL549_0.out z130 x8_1 p550 (by first | exact q550 | exact of_decide_eq_true (by first | (with_reducible assumption) | assumption) | (have e_ := (Kd.V_reads' HL549_0.out).1; omega))
                  obtain ⟨ua550_4, uc550_4, ua550_6, uc550_6, ua550_7, uc550_7, rfl, ul550_4, ge550_4, ul550_6, ge550_6, ul550_7, ge550_7⟩ := k130_openF hMe550
                  have hv550_4 := hcc550 4 _ rfl
                  rw [add_field _ _ 4 (by omega)] at hv550_4
                  replace hv550_4 := Option.some.inj (hv550_4.symm.trans hx550_4)
                  injection hv550_4 with hva_ hvn_ hvc_
                  rw [hva_] at ge550_4
                  rw [hvc_] at ul550_4
                  have HL550_4 := Aside0.mk (show Kd.V (Kd.int .i64) 2 _ w.heap.size _ _ ((rd_T130 ((rd_T68 l0 a1).f0) x8_1).f4) from Kd.V_mk ul550_4 ge550_4)
                  clear hva_ hvn_ hvc_ ge550_4 ul550_4
                  have hv550_6 := hcc550 6 _ rfl
                  rw [add_field _ _ 6 (by omega)] at hv550_6
                  replace hv550_6 := Option.some.inj (hv550_6.symm.trans hx550_6)
                  injection hv550_6 with hva_ hvn_ hvc_
                  rw [hva_] at ge550_6
                  rw [hvc_] at ul550_6
                  have HL550_6 := Aside0.mk (show Kd.V (Kd.int .u8) 5 _ w.heap.size _ _ ((rd_T130 ((rd_T68 l0 a1).f0) x8_1).f6) from Kd.V_mk ul550_6 ge550_6)
                  clear hva_ hvn_ hvc_ ge550_6 ul550_6
                  have hv550_7 := hcc550 7 _ rfl
                  rw [add_field _ _ 7 (by omega)] at hv550_7
                  replace hv550_7 := Option.some.inj (hv550_7.symm.trans hx550_7)
                  injection hv550_7 with hva_ hvn_ hvc_
                  rw [hva_] at ge550_7
                  rw [hvc_] at ul550_7
                  have HL550_7 := Aside0.mk (show Kd.V k132 132 _ w.heap.size _ _ ((rd_T130 ((rd_T68 l0 a1).f0) x8_1).f7) from Kd.V_mk ul550_7 ge550_7)
                  clear hva_ hvn_ hvc_ ge550_7 ul550_7
                  clear hcc550 hce550
                  have HR550_4 := Aside0.mk hi550_4
                  have HC550_4 := Aside0.mk hl550_4
                  clear hi550_4 hl550_4
                  have HR550_6 := Aside0.mk hi550_6
                  have HC550_6 := Aside0.mk hl550_6
                  clear hi550_6 hl550_6
                  have HR550_7 := Aside0.mk hi550_7
                  have HC550_7 := Aside0.mk hl550_7
                  clear hi550_7 hl550_7
                  replace p550 := eq_true p550
                  replace q550 := eq_true q550
                  go_wp2_with (first | ((with_reducible refine gate_dst (N := 9) rfl ?_); refine box_event ?hg (N := 9) ?hd (cs := #[.string (⟨#[]⟩ : ByteArray), .int .i64 0, .int .i64 0, .int .i64 0, .slice none 0 0, .int .i64 0, .slice none 0 0, .slice none 0 0]) (t := 130) ?hr ?_; (case hd => rfl); (case hg => rfl); (case hr => first | (go_simp; done) | (go_simp; rfl)); intro gb551 hg w22 hbox hb; have n0_ := Aside0.mk (Kd.V_below (Kd.V_elderB (by (with_reducible repeat (first | apply Kd.V_alloc | apply Kd.V_drewN | apply Kd.V_drew)); exact HO_0.out) gb551 (Nat.le_of_eq hg.symm)) hb); have n1_ := Aside0.mk (Kd.V_below (Kd.V_elderB (by (with_reducible repeat (first | apply Kd.V_alloc | apply Kd.V_drewN | apply Kd.V_drew)); exact HL548_0.out) gb551 (Nat.le_of_eq hg.symm)) hb); have n2_ := Aside0.mk (Kd.V_below (Kd.V_elderB (by (with_reducible repeat (first | apply Kd.V_alloc | apply Kd.V_drewN | apply Kd.V_drew)); exact HL549_0.out) gb551 (Nat.le_of_eq hg.symm)) hb); have n3_ := Aside0.mk (Kd.V_below (Kd.V_elderB (by (with_reducible repeat (first | apply Kd.V_alloc | apply Kd.V_drewN | apply Kd.V_drew)); exact HL550_4.out) gb551 (Nat.le_of_eq hg.symm)) hb); have n4_ := Aside0.mk (Kd.V_below (Kd.V_elderB (by (with_reducible repeat (first | apply Kd.V_alloc | apply Kd.V_drewN | apply Kd.V_drew)); exact HL550_6.out) gb551 (Nat.le_of_eq hg.symm)) hb); have n5_ := Aside0.mk (Kd.V_below (Kd.V_elderB (by (with_reducible repeat (first | apply Kd.V_alloc | apply Kd.V_drewN | apply Kd.V_drew)); exact HL550_7.out) gb551 (Nat.le_of_eq hg.symm)) hb); have n6_ := Aside0.mk (blk_below (g := gb546) (o := .cells #[.int .i64 x547000_1, .int .i64 x547001_1] 125 (0, 0)) (by (with_reducible repeat (first | refine blk_drewN ?_ _ | refine blk_drew ?_ | refine blk_alloc ?_ _)); exact BK546.out) hb); have n7_ := Aside0.mk (blk_below (g := gb547) (o := .cells #[.int .i64 (-1), .int .i64 (-1)] 125 (0, 0)) (by (with_reducible repeat (first | refine blk_drewN ?_ _ | refine blk_drew ?_ | refine blk_alloc ?_ _)); exact BK547.out) hb); have n8_ := Aside0.mk (Kd.C_below (by repeat (first | (with_reducible exact HR548_0.out) | (with_reducible refine Kd.C_alloc ?_ _) | (with_reducible refine Kd.C_drewN ?_ _) | (with_reducible refine Kd.C_drew ?_) | exact HR548_0.out)) hb); have n9_ := Aside0.mk (Kd.C_below (by repeat (first | (with_reducible exact HR549_0.out) | (with_reducible refine Kd.C_alloc ?_ _) | (with_reducible refine Kd.C_drewN ?_ _) | (with_reducible refine Kd.C_drew ?_) | exact HR549_0.out)) hb); have n10_ := Aside0.mk (Kd.C_below (by repeat (first | (with_reducible exact HR550_4.out) | (with_reducible refine Kd.C_alloc ?_ _) | (with_reducible refine Kd.C_drewN ?_ _) | (with_reducible refine Kd.C_drew ?_) | exact HR550_4.out)) hb); have n11_ := Aside0.mk (Kd.C_below (by repeat (first | (with_reducible exact HR550_6.out) | (with_reducible refine Kd.C_alloc ?_ _) | (with_reducible refine Kd.C_drewN ?_ _) | (with_reducible refine Kd.C_drew ?_) | exact HR550_6.out)) hb); have n12_ := Aside0.mk (Kd.C_below (by repeat (first | (with_reducible exact HR550_7.out) | (with_reducible refine Kd.C_alloc ?_ _) | (with_reducible refine Kd.C_drewN ?_ _) | (with_reducible refine Kd.C_drew ?_) | exact HR550_7.out)) hb); have n13_ := Aside0.mk (below_step (by repeat (first | (with_reducible first | exact HB.out | apply below_alloc | apply pw_below_drewN | apply below_drew1 | refine below_set ?_ GE546.out | refine below_set ?_ GE547.out) | exact HB.out)) hb); have n14_ := Aside0.mk (hbox); have n15_ := Aside0.mk ((by rw [hg]; exact (below_size (by repeat (first | (with_reducible first | exact HB.out | apply below_alloc | apply pw_below_drewN | apply below_drew1 | refine below_set ?_ GE546.out | refine below_set ?_ GE547.out) | exact HB.out))) : w.heap.size ≤ gb551)); have n16_ := Aside0.mk ((by rw [hg]; exact (below_size (by repeat (first | (with_reducible first | exact HB.out | apply below_alloc | apply pw_below_drewN | apply below_drew1 | refine below_set ?_ GE546.out | refine below_set ?_ GE547.out) | exact HB.out))) : w.heap.size ≤ gb551)); have n17_ := Aside0.mk ((by rw [hg]; exact Nat.ne_of_lt (blk_lt (g := gb546) (o := .cells #[.int .i64 x547000_1, .int .i64 x547001_1] 125 (0, 0)) (by (with_reducible repeat (first | refine blk_drewN ?_ _ | refine blk_drew ?_ | refine blk_alloc ?_ _)); exact BK546.out)) : gb546 ≠ gb551)); have n18_ := Aside0.mk ((by rw [hg]; exact Nat.ne_of_gt (blk_lt (g := gb546) (o := .cells #[.int .i64 x547000_1, .int .i64 x547001_1] 125 (0, 0)) (by (with_reducible repeat (first | refine blk_drewN ?_ _ | refine blk_drew ?_ | refine blk_alloc ?_ _)); exact BK546.out)) : gb551 ≠ gb546)); have n19_ := Aside0.mk ((by rw [hg]; exact Nat.ne_of_lt (blk_lt (g := gb547) (o := .cells #[.int .i64 (-1), .int .i64 (-1)] 125 (0, 0)) (by (with_reducible repeat (first | refine blk_drewN ?_ _ | refine blk_drew ?_ | refine blk_alloc ?_ _)); exact BK547.out)) : gb547 ≠ gb551)); have n20_ := Aside0.mk ((by rw [hg]; exact Nat.ne_of_gt (blk_lt (g := gb547) (o := .cells #[.int .i64 (-1), .int .i64 (-1)] 125 (0, 0)) (by (with_reducible repeat (first | refine blk_drewN ?_ _ | refine blk_drew ?_ | refine blk_alloc ?_ _)); exact BK547.out)) : gb551 ≠ gb547)); clear HO_0; clear HL548_0; clear HL549_0; clear HL550_4; clear HL550_6; clear HL550_7; clear BK546; clear BK547; clear HR548_0; clear HR549_0; clear HR550_4; clear HR550_6; clear HR550_7; clear HB; have HO_0 := n0_; have HL548_0 := n1_; have HL549_0 := n2_; have HL550_4 := n3_; have HL550_6 := n4_; have HL550_7 := n5_; have BK546 := n6_; have BK547 := n7_; have HR548_0 := n8_; have HR549_0 := n9_; have HR550_4 := n10_; have HR550_6 := n11_; have HR550_7 := n12_; have HB := n13_; have BK551 := n14_; have GW551 := n15_; have GE551 := n16_; have NB546_551 := n17_; have NB551_546 := n18_; have NB547_551 := n19_; have NB551_547 := n20_; clear n0_ n1_ n2_ n3_ n4_ n5_ n6_ n7_ n8_ n9_ n10_ n11_ n12_ n13_ n14_ n15_ n16_ n17_ n18_ n19_ n20_; clear hb hbox hg; have hnb23 := NB551_546.out; have hnc23 := NB546_551.out; have hnb24 := NB551_547.out; have hnc24 := NB547_551.out; have hcz25_0 : w22.cell? ⟨gb551, 0, none⟩ = some (.string (⟨#[]⟩ : ByteArray)) := (blk_cell BK551.out 0).trans rfl; have hcz25_1 : w22.cell? ⟨gb551, 1, none⟩ = some (.int .i64 0) := (blk_cell BK551.out 1).trans rfl; have hcz25_2 : w22.cell? ⟨gb551, 2, none⟩ = some (.int .i64 0) := (blk_cell BK551.out 2).trans rfl; have hcz25_3 : w22.cell? ⟨gb551, 3, none⟩ = some (.int .i64 0) := (blk_cell BK551.out 3).trans rfl; have hcz25_4 : w22.cell? ⟨gb551, 4, none⟩ = some (.slice none 0 0) := (blk_cell BK551.out 4).trans rfl; have hcz25_5 : w22.cell? ⟨gb551, 5, none⟩ = some (.int .i64 0) := (blk_cell BK551.out 5).trans rfl; have hcz25_6 : w22.cell? ⟨gb551, 6, none⟩ = some (.slice none 0 0) := (blk_cell BK551.out 6).trans rfl; have hcz25_7 : w22.cell? ⟨gb551, 7, none⟩ = some (.slice none 0 0) := (blk_cell BK551.out 7).trans rfl; have hfz25_0 := blk_frozen BK551.out 0; have hfz25_1 := blk_frozen BK551.out 1; have hfz25_2 := blk_frozen BK551.out 2; have hfz25_3 := blk_frozen BK551.out 3; have hfz25_4 := blk_frozen BK551.out 4; have hfz25_5 := blk_frozen BK551.out 5; have hfz25_6 := blk_frozen BK551.out 6; have hfz25_7 := blk_frozen BK551.out 7))
                  go_roundg k1
                  case measure => have := HK1.out; omega
                  case rel => exact ⟨(wrap64 (x8_1 + 1)), (x547000_1), (x547001_1), (by first | rfl | (simp; done) | (simp [*]; done)), H', ⟨by have := HK1.out; omega⟩, ⟨by (with_reducible repeat (first | apply Kd.V_alloc | apply Kd.V_drewN | apply Kd.V_drew)); exact Kd.V_mono (Kd.V_far (p := ⟨gb551, 7, none⟩) (Kd.V_far (p := ⟨gb551, 6, none⟩) (Kd.V_far (p := ⟨gb551, 5, none⟩) (Kd.V_far (p := ⟨gb551, 4, none⟩) (Kd.V_far (p := ⟨gb551, 3, none⟩) (Kd.V_far (p := ⟨gb551, 2, none⟩) (Kd.V_far (p := ⟨gb551, 1, none⟩) (Kd.V_far (p := ⟨gb551, 0, none⟩) (Kd.V_mono HO_0.out (fun k_ hk => (⟨hk, hk.2⟩ : _ ∧ k_ ≠ gb551))) (fun _ hk => hk.2) (.string ((rd_T130 ((rd_T68 l0 a1).f0) x8_1).f0))) (fun _ hk => hk.2) (.int .i64 ((rd_T130 ((rd_T68 l0 a1).f0) x8_1).f1))) (fun _ hk => hk.2) (.int .i64 ((rd_T130 ((rd_T68 l0 a1).f0) x8_1).f2))) (fun _ hk => hk.2) (.int .i64 ((rd_T130 ((rd_T68 l0 a1).f0) x8_1).f3))) (fun _ hk => hk.2) (.slice A550_4 ((rd_T130 ((rd_T68 l0 a1).f0) x8_1).f4).length c550_4)) (fun _ hk => hk.2) (.int .i64 ((rd_T130 ((rd_T68 l0 a1).f0) x8_1).f5))) (fun _ hk => hk.2) (.slice A550_6 ((rd_T130 ((rd_T68 l0 a1).f0) x8_1).f6).length c550_6)) (fun _ hk => hk.2) (.slice A550_7 ((rd_T130 ((rd_T68 l0 a1).f0) x8_1).f7).length c550_7)) (fun _ hk => ⟨hk.1.1.1, ⟨hk.1.1.2.1, hk.1.1.2.2⟩⟩)⟩, ⟨by (with_reducible repeat (first | refine blk_drewN ?_ _ | refine blk_drew ?_ | refine blk_alloc ?_ _)); refine blk_far ?_ NB546_551.out _; (with_reducible repeat (first | refine blk_drewN ?_ _ | refine blk_drew ?_ | refine blk_alloc ?_ _)); refine blk_far ?_ NB546_551.out _; (with_reducible repeat (first | refine blk_drewN ?_ _ | refine blk_drew ?_ | refine blk_alloc ?_ _)); refine blk_far ?_ NB546_551.out _; (with_reducible repeat (first | refine blk_drewN ?_ _ | refine blk_drew ?_ | refine blk_alloc ?_ _)); refine blk_far ?_ NB546_551.out _; (with_reducible repeat (first | refine blk_drewN ?_ _ | refine blk_drew ?_ | refine blk_alloc ?_ _)); refine blk_far ?_ NB546_551.out _; (with_reducible repeat (first | refine blk_drewN ?_ _ | refine blk_drew ?_ | refine blk_alloc ?_ _)); refine blk_far ?_ NB546_551.out _; (with_reducible repeat (first | refine blk_drewN ?_ _ | refine blk_drew ?_ | refine blk_alloc ?_ _)); refine blk_far ?_ NB546_551.out _; (with_reducible repeat (first | refine blk_drewN ?_ _ | refine blk_drew ?_ | refine blk_alloc ?_ _)); refine blk_far ?_ NB546_551.out _; (with_reducible repeat (first | refine blk_drewN ?_ _ | refine blk_drew ?_ | refine blk_alloc ?_ _)); exact BK546.out⟩, ⟨by (with_reducible repeat (first | refine blk_drewN ?_ _ | refine blk_drew ?_ | refine blk_alloc ?_ _)); refine blk_far ?_ NB547_551.out _; (with_reducible repeat (first | refine blk_drewN ?_ _ | refine blk_drew ?_ | refine blk_alloc ?_ _)); refine blk_far ?_ NB547_551.out _; (with_reducible repeat (first | refine blk_drewN ?_ _ | refine blk_drew ?_ | refine blk_alloc ?_ _)); refine blk_far ?_ NB547_551.out _; (with_reducible repeat (first | refine blk_drewN ?_ _ | refine blk_drew ?_ | refine blk_alloc ?_ _)); refine blk_far ?_ NB547_551.out _; (with_reducible repeat (first | refine blk_drewN ?_ _ | refine blk_drew ?_ | refine blk_alloc ?_ _)); refine blk_far ?_ NB547_551.out _; (with_reducible repeat (first | refine blk_drewN ?_ _ | refine blk_drew ?_ | refine blk_alloc ?_ _)); refine blk_far ?_ NB547_551.out _; (with_reducible repeat (first | refine blk_drewN ?_ _ | refine blk_drew ?_ | refine blk_alloc ?_ _)); refine blk_far ?_ NB547_551.out _; (with_reducible repeat (first | refine blk_drewN ?_ _ | refine blk_drew ?_ | refine blk_alloc ?_ _)); refine blk_far ?_ NB547_551.out _; (with_reducible repeat (first | refine blk_drewN ?_ _ | refine blk_drew ?_ | refine blk_alloc ?_ _)); exact BK547.out⟩, ⟨by repeat (first | (with_reducible first | exact HB.out | apply below_alloc | apply pw_below_drewN | apply below_drew1 | refine below_set ?_ GE546.out | refine below_set ?_ GE547.out | refine below_set ?_ GE551.out) | exact HB.out)⟩⟩
              · rw [if_neg c14] at H
                have c14b0 : (((rd_T130 ((rd_T68 l0 a1).f0) x8_1).f0).toList == a2.toList) = false := beq_eq_false_iff_ne.mpr c14
                have c14b1 : (((rd_T130 ((rd_T68 l0 a1).f0) x8_1).f0).toList != a2.toList) = true := bne_iff_ne.mpr c14
                have H' := Aside0.mk H
                clear H
                have p548 : 0 ≤ (a1 : Int) := of_decide_eq_true (by first | (with_reducible assumption) | assumption)
                have q548 : a1 < (l0.length : Int) := of_decide_eq_true (by first | (with_reducible assumption) | assumption)
                obtain ⟨ad548, A548_0, c548_0, e548, hx548_0, hl548_0, hi548_0⟩ := at_T68 (Kd.V_reads' HO_0.out).2.2 a1 p548 q548
                cases e548
                obtain ⟨ce548, hce548, hMe548, hcc548⟩ := Kd.V_get HO_0.out z68 a1 p548 (by first | exact q548 | exact of_decide_eq_true (by first | (with_reducible assumption) | assumption) | (have e_ := (Kd.V_reads' HO_0.out).1; omega))
                obtain ⟨ua548_0, uc548_0, rfl, ul548_0, ge548_0⟩ := k68_openF hMe548
                have hv548_0 := hcc548 0 _ rfl
                rw [Nat.add_zero, show (k68).sz = 1 from rfl, Nat.mul_one] at hv548_0
                replace hv548_0 := Option.some.inj (hv548_0.symm.trans hx548_0)
                injection hv548_0 with hva_ hvn_ hvc_
                rw [hva_] at ge548_0
                rw [hvc_] at ul548_0
                have HL548_0 := Aside0.mk (show Kd.V k130 130 _ w.heap.size _ _ ((rd_T68 l0 a1).f0) from Kd.V_mk ul548_0 ge548_0)
                clear hva_ hvn_ hvc_ ge548_0 ul548_0
                clear hcc548 hce548
                have HR548_0 := Aside0.mk hi548_0
                have HC548_0 := Aside0.mk hl548_0
                clear hi548_0 hl548_0
                replace p548 := eq_true p548
                replace q548 := eq_true q548
                have p549 : 0 ≤ (a1 : Int) := of_decide_eq_true (by first | (with_reducible assumption) | assumption)
                have q549 : a1 < (l0.length : Int) := of_decide_eq_true (by first | (with_reducible assumption) | assumption)
                obtain ⟨ad549, A549_0, c549_0, e549, hx549_0, hl549_0, hi549_0⟩ := at_T68 (Kd.V_reads' HO_0.out).2.2 a1 p549 q549
                obtain rfl : ad548 = ad549 := (by injection e549)
                obtain ⟨ce549, hce549, hMe549, hcc549⟩ := Kd.V_get HO_0.out z68 a1 p549 (by first | exact q549 | exact of_decide_eq_true (by first | (with_reducible assumption) | assumption) | (have e_ := (Kd.V_reads' HO_0.out).1; omega))
                obtain ⟨ua549_0, uc549_0, rfl, ul549_0, ge549_0⟩ := k68_openF hMe549
                have hv549_0 := hcc549 0 _ rfl
                rw [Nat.add_zero, show (k68).sz = 1 from rfl, Nat.mul_one] at hv549_0
                replace hv549_0 := Option.some.inj (hv549_0.symm.trans hx549_0)
                injection hv549_0 with hva_ hvn_ hvc_
                rw [hva_] at ge549_0
                rw [hvc_] at ul549_0
                have HL549_0 := Aside0.mk (show Kd.V k130 130 _ w.heap.size _ _ ((rd_T68 l0 a1).f0) from Kd.V_mk ul549_0 ge549_0)
                clear hva_ hvn_ hvc_ ge549_0 ul549_0
                clear hcc549 hce549
                have HR549_0 := Aside0.mk hi549_0
                have HC549_0 := Aside0.mk hl549_0
                clear hi549_0 hl549_0
                replace p549 := eq_true p549
                replace q549 := eq_true q549
                have ea_ := Option.some.inj (hx548_0.symm.trans hx549_0)
                injection ea_ with ea_ en_ ec_
                subst ea_
                subst ec_
                clear en_
                have p550 : 0 ≤ (x8_1 : Int) := of_decide_eq_true (by first | (with_reducible assumption) | assumption)
                have q550 : x8_1 < (((rd_T68 l0 a1).f0).length : Int) := of_decide_eq_true (by first | (with_reducible assumption) | assumption)
                obtain ⟨ad550, A550_4, c550_4, A550_6, c550_6, A550_7, c550_7, e550, hx550_0, hx550_1, hx550_2, hx550_3, hx550_4, hx550_5, hx550_6, hx550_7, hl550_4, hi550_4, hl550_6, hi550_6, hl550_7, hi550_7⟩ := at_T130 (by repeat (first | (with_reducible exact HR549_0.out) | (with_reducible refine Kd.C_alloc ?_ _) | (with_reducible refine Kd.C_drewN ?_ _) | (with_reducible refine Kd.C_drew ?_) | exact HR549_0.out)) x8_1 p550 q550
                cases e550
                obtain ⟨ce550, hce550, hMe550, hcc550⟩ := Kd.V_get HL549_0.out z130 x8_1 p550 (by first | exact q550 | exact of_decide_eq_true (by first | (with_reducible assumption) | assumption) | (have e_ := (Kd.V_reads' HL549_0.out).1; omega))
                obtain ⟨ua550_4, uc550_4, ua550_6, uc550_6, ua550_7, uc550_7, rfl, ul550_4, ge550_4, ul550_6, ge550_6, ul550_7, ge550_7⟩ := k130_openF hMe550
                have hv550_4 := hcc550 4 _ rfl
                rw [add_field _ _ 4 (by omega)] at hv550_4
                replace hv550_4 := Option.some.inj (hv550_4.symm.trans hx550_4)
                injection hv550_4 with hva_ hvn_ hvc_
                rw [hva_] at ge550_4
                rw [hvc_] at ul550_4
                have HL550_4 := Aside0.mk (show Kd.V (Kd.int .i64) 2 _ w.heap.size _ _ ((rd_T130 ((rd_T68 l0 a1).f0) x8_1).f4) from Kd.V_mk ul550_4 ge550_4)
                clear hva_ hvn_ hvc_ ge550_4 ul550_4
                have hv550_6 := hcc550 6 _ rfl
                rw [add_field _ _ 6 (by omega)] at hv550_6
                replace hv550_6 := Option.some.inj (hv550_6.symm.trans hx550_6)
                injection hv550_6 with hva_ hvn_ hvc_
                rw [hva_] at ge550_6
                rw [hvc_] at ul550_6
                have HL550_6 := Aside0.mk (show Kd.V (Kd.int .u8) 5 _ w.heap.size _ _ ((rd_T130 ((rd_T68 l0 a1).f0) x8_1).f6) from Kd.V_mk ul550_6 ge550_6)
                clear hva_ hvn_ hvc_ ge550_6 ul550_6
                have hv550_7 := hcc550 7 _ rfl
                rw [add_field _ _ 7 (by omega)] at hv550_7
                replace hv550_7 := Option.some.inj (hv550_7.symm.trans hx550_7)
                injection hv550_7 with hva_ hvn_ hvc_
                rw [hva_] at ge550_7
                rw [hvc_] at ul550_7
                have HL550_7 := Aside0.mk (show Kd.V k132 132 _ w.heap.size _ _ ((rd_T130 ((rd_T68 l0 a1).f0) x8_1).f7) from Kd.V_mk ul550_7 ge550_7)
                clear hva_ hvn_ hvc_ ge550_7 ul550_7
                clear hcc550 hce550
                have HR550_4 := Aside0.mk hi550_4
                have HC550_4 := Aside0.mk hl550_4
                clear hi550_4 hl550_4
                have HR550_6 := Aside0.mk hi550_6
                have HC550_6 := Aside0.mk hl550_6
                clear hi550_6 hl550_6
                have HR550_7 := Aside0.mk hi550_7
                have HC550_7 := Aside0.mk hl550_7
                clear hi550_7 hl550_7
                replace p550 := eq_true p550
                replace q550 := eq_true q550
                go_wp2_with (first | ((with_reducible refine gate_dst (N := 9) rfl ?_); refine box_event ?hg (N := 9) ?hd (cs := #[.string (⟨#[]⟩ : ByteArray), .int .i64 0, .int .i64 0, .int .i64 0, .slice none 0 0, .int .i64 0, .slice none 0 0, .slice none 0 0]) (t := 130) ?hr ?_; (case hd => rfl); (case hg => rfl); (case hr => first | (go_simp; done) | (go_simp; rfl)); intro gb551 hg w26 hbox hb; have n0_ := Aside0.mk (Kd.V_below (Kd.V_elderB (by (with_reducible repeat (first | apply Kd.V_alloc | apply Kd.V_drewN | apply Kd.V_drew)); exact HO_0.out) gb551 (Nat.le_of_eq hg.symm)) hb); have n1_ := Aside0.mk (Kd.V_below (Kd.V_elderB (by (with_reducible repeat (first | apply Kd.V_alloc | apply Kd.V_drewN | apply Kd.V_drew)); exact HL548_0.out) gb551 (Nat.le_of_eq hg.symm)) hb); have n2_ := Aside0.mk (Kd.V_below (Kd.V_elderB (by (with_reducible repeat (first | apply Kd.V_alloc | apply Kd.V_drewN | apply Kd.V_drew)); exact HL549_0.out) gb551 (Nat.le_of_eq hg.symm)) hb); have n3_ := Aside0.mk (Kd.V_below (Kd.V_elderB (by (with_reducible repeat (first | apply Kd.V_alloc | apply Kd.V_drewN | apply Kd.V_drew)); exact HL550_4.out) gb551 (Nat.le_of_eq hg.symm)) hb); have n4_ := Aside0.mk (Kd.V_below (Kd.V_elderB (by (with_reducible repeat (first | apply Kd.V_alloc | apply Kd.V_drewN | apply Kd.V_drew)); exact HL550_6.out) gb551 (Nat.le_of_eq hg.symm)) hb); have n5_ := Aside0.mk (Kd.V_below (Kd.V_elderB (by (with_reducible repeat (first | apply Kd.V_alloc | apply Kd.V_drewN | apply Kd.V_drew)); exact HL550_7.out) gb551 (Nat.le_of_eq hg.symm)) hb); have n6_ := Aside0.mk (blk_below (g := gb546) (o := .cells #[.int .i64 x547000_1, .int .i64 x547001_1] 125 (0, 0)) (by (with_reducible repeat (first | refine blk_drewN ?_ _ | refine blk_drew ?_ | refine blk_alloc ?_ _)); exact BK546.out) hb); have n7_ := Aside0.mk (blk_below (g := gb547) (o := .cells #[.int .i64 (-1), .int .i64 (-1)] 125 (0, 0)) (by (with_reducible repeat (first | refine blk_drewN ?_ _ | refine blk_drew ?_ | refine blk_alloc ?_ _)); exact BK547.out) hb); have n8_ := Aside0.mk (Kd.C_below (by repeat (first | (with_reducible exact HR548_0.out) | (with_reducible refine Kd.C_alloc ?_ _) | (with_reducible refine Kd.C_drewN ?_ _) | (with_reducible refine Kd.C_drew ?_) | exact HR548_0.out)) hb); have n9_ := Aside0.mk (Kd.C_below (by repeat (first | (with_reducible exact HR549_0.out) | (with_reducible refine Kd.C_alloc ?_ _) | (with_reducible refine Kd.C_drewN ?_ _) | (with_reducible refine Kd.C_drew ?_) | exact HR549_0.out)) hb); have n10_ := Aside0.mk (Kd.C_below (by repeat (first | (with_reducible exact HR550_4.out) | (with_reducible refine Kd.C_alloc ?_ _) | (with_reducible refine Kd.C_drewN ?_ _) | (with_reducible refine Kd.C_drew ?_) | exact HR550_4.out)) hb); have n11_ := Aside0.mk (Kd.C_below (by repeat (first | (with_reducible exact HR550_6.out) | (with_reducible refine Kd.C_alloc ?_ _) | (with_reducible refine Kd.C_drewN ?_ _) | (with_reducible refine Kd.C_drew ?_) | exact HR550_6.out)) hb); have n12_ := Aside0.mk (Kd.C_below (by repeat (first | (with_reducible exact HR550_7.out) | (with_reducible refine Kd.C_alloc ?_ _) | (with_reducible refine Kd.C_drewN ?_ _) | (with_reducible refine Kd.C_drew ?_) | exact HR550_7.out)) hb); have n13_ := Aside0.mk (below_step (by repeat (first | (with_reducible first | exact HB.out | apply below_alloc | apply pw_below_drewN | apply below_drew1 | refine below_set ?_ GE546.out | refine below_set ?_ GE547.out) | exact HB.out)) hb); have n14_ := Aside0.mk (hbox); have n15_ := Aside0.mk ((by rw [hg]; exact (below_size (by repeat (first | (with_reducible first | exact HB.out | apply below_alloc | apply pw_below_drewN | apply below_drew1 | refine below_set ?_ GE546.out | refine below_set ?_ GE547.out) | exact HB.out))) : w.heap.size ≤ gb551)); have n16_ := Aside0.mk ((by rw [hg]; exact (below_size (by repeat (first | (with_reducible first | exact HB.out | apply below_alloc | apply pw_below_drewN | apply below_drew1 | refine below_set ?_ GE546.out | refine below_set ?_ GE547.out) | exact HB.out))) : w.heap.size ≤ gb551)); have n17_ := Aside0.mk ((by rw [hg]; exact Nat.ne_of_lt (blk_lt (g := gb546) (o := .cells #[.int .i64 x547000_1, .int .i64 x547001_1] 125 (0, 0)) (by (with_reducible repeat (first | refine blk_drewN ?_ _ | refine blk_drew ?_ | refine blk_alloc ?_ _)); exact BK546.out)) : gb546 ≠ gb551)); have n18_ := Aside0.mk ((by rw [hg]; exact Nat.ne_of_gt (blk_lt (g := gb546) (o := .cells #[.int .i64 x547000_1, .int .i64 x547001_1] 125 (0, 0)) (by (with_reducible repeat (first | refine blk_drewN ?_ _ | refine blk_drew ?_ | refine blk_alloc ?_ _)); exact BK546.out)) : gb551 ≠ gb546)); have n19_ := Aside0.mk ((by rw [hg]; exact Nat.ne_of_lt (blk_lt (g := gb547) (o := .cells #[.int .i64 (-1), .int .i64 (-1)] 125 (0, 0)) (by (with_reducible repeat (first | refine blk_drewN ?_ _ | refine blk_drew ?_ | refine blk_alloc ?_ _)); exact BK547.out)) : gb547 ≠ gb551)); have n20_ := Aside0.mk ((by rw [hg]; exact Nat.ne_of_gt (blk_lt (g := gb547) (o := .cells #[.int .i64 (-1), .int .i64 (-1)] 125 (0, 0)) (by (with_reducible repeat (first | refine blk_drewN ?_ _ | refine blk_drew ?_ | refine blk_alloc ?_ _)); exact BK547.out)) : gb551 ≠ gb547)); clear HO_0; clear HL548_0; clear HL549_0; clear HL550_4; clear HL550_6; clear HL550_7; clear BK546; clear BK547; clear HR548_0; clear HR549_0; clear HR550_4; clear HR550_6; clear HR550_7; clear HB; have HO_0 := n0_; have HL548_0 := n1_; have HL549_0 := n2_; have HL550_4 := n3_; have HL550_6 := n4_; have HL550_7 := n5_; have BK546 := n6_; have BK547 := n7_; have HR548_0 := n8_; have HR549_0 := n9_; have HR550_4 := n10_; have HR550_6 := n11_; have HR550_7 := n12_; have HB := n13_; have BK551 := n14_; have GW551 := n15_; have GE551 := n16_; have NB546_551 := n17_; have NB551_546 := n18_; have NB547_551 := n19_; have NB551_547 := n20_; clear n0_ n1_ n2_ n3_ n4_ n5_ n6_ n7_ n8_ n9_ n10_ n11_ n12_ n13_ n14_ n15_ n16_ n17_ n18_ n19_ n20_; clear hb hbox hg; have hnb27 := NB551_546.out; have hnc27 := NB546_551.out; have hnb28 := NB551_547.out; have hnc28 := NB547_551.out; have hcz29_0 : w26.cell? ⟨gb551, 0, none⟩ = some (.string (⟨#[]⟩ : ByteArray)) := (blk_cell BK551.out 0).trans rfl; have hcz29_1 : w26.cell? ⟨gb551, 1, none⟩ = some (.int .i64 0) := (blk_cell BK551.out 1).trans rfl; have hcz29_2 : w26.cell? ⟨gb551, 2, none⟩ = some (.int .i64 0) := (blk_cell BK551.out 2).trans rfl; have hcz29_3 : w26.cell? ⟨gb551, 3, none⟩ = some (.int .i64 0) := (blk_cell BK551.out 3).trans rfl; have hcz29_4 : w26.cell? ⟨gb551, 4, none⟩ = some (.slice none 0 0) := (blk_cell BK551.out 4).trans rfl; have hcz29_5 : w26.cell? ⟨gb551, 5, none⟩ = some (.int .i64 0) := (blk_cell BK551.out 5).trans rfl; have hcz29_6 : w26.cell? ⟨gb551, 6, none⟩ = some (.slice none 0 0) := (blk_cell BK551.out 6).trans rfl; have hcz29_7 : w26.cell? ⟨gb551, 7, none⟩ = some (.slice none 0 0) := (blk_cell BK551.out 7).trans rfl; have hfz29_0 := blk_frozen BK551.out 0; have hfz29_1 := blk_frozen BK551.out 1; have hfz29_2 := blk_frozen BK551.out 2; have hfz29_3 := blk_frozen BK551.out 3; have hfz29_4 := blk_frozen BK551.out 4; have hfz29_5 := blk_frozen BK551.out 5; have hfz29_6 := blk_frozen BK551.out 6; have hfz29_7 := blk_frozen BK551.out 7))
                go_roundg k1
                case measure => have := HK1.out; omega
                case rel => exact ⟨(wrap64 (x8_1 + 1)), (x547000_1), (x547001_1), (by first | rfl | (simp; done) | (simp [*]; done)), H', ⟨by have := HK1.out; omega⟩, ⟨by (with_reducible repeat (first | apply Kd.V_alloc | apply Kd.V_drewN | apply Kd.V_drew)); exact Kd.V_mono (Kd.V_far (p := ⟨gb551, 7, none⟩) (Kd.V_far (p := ⟨gb551, 6, none⟩) (Kd.V_far (p := ⟨gb551, 5, none⟩) (Kd.V_far (p := ⟨gb551, 4, none⟩) (Kd.V_far (p := ⟨gb551, 3, none⟩) (Kd.V_far (p := ⟨gb551, 2, none⟩) (Kd.V_far (p := ⟨gb551, 1, none⟩) (Kd.V_far (p := ⟨gb551, 0, none⟩) (Kd.V_mono HO_0.out (fun k_ hk => (⟨hk, hk.2⟩ : _ ∧ k_ ≠ gb551))) (fun _ hk => hk.2) (.string ((rd_T130 ((rd_T68 l0 a1).f0) x8_1).f0))) (fun _ hk => hk.2) (.int .i64 ((rd_T130 ((rd_T68 l0 a1).f0) x8_1).f1))) (fun _ hk => hk.2) (.int .i64 ((rd_T130 ((rd_T68 l0 a1).f0) x8_1).f2))) (fun _ hk => hk.2) (.int .i64 ((rd_T130 ((rd_T68 l0 a1).f0) x8_1).f3))) (fun _ hk => hk.2) (.slice A550_4 ((rd_T130 ((rd_T68 l0 a1).f0) x8_1).f4).length c550_4)) (fun _ hk => hk.2) (.int .i64 ((rd_T130 ((rd_T68 l0 a1).f0) x8_1).f5))) (fun _ hk => hk.2) (.slice A550_6 ((rd_T130 ((rd_T68 l0 a1).f0) x8_1).f6).length c550_6)) (fun _ hk => hk.2) (.slice A550_7 ((rd_T130 ((rd_T68 l0 a1).f0) x8_1).f7).length c550_7)) (fun _ hk => ⟨hk.1.1.1, ⟨hk.1.1.2.1, hk.1.1.2.2⟩⟩)⟩, ⟨by (with_reducible repeat (first | refine blk_drewN ?_ _ | refine blk_drew ?_ | refine blk_alloc ?_ _)); refine blk_far ?_ NB546_551.out _; (with_reducible repeat (first | refine blk_drewN ?_ _ | refine blk_drew ?_ | refine blk_alloc ?_ _)); refine blk_far ?_ NB546_551.out _; (with_reducible repeat (first | refine blk_drewN ?_ _ | refine blk_drew ?_ | refine blk_alloc ?_ _)); refine blk_far ?_ NB546_551.out _; (with_reducible repeat (first | refine blk_drewN ?_ _ | refine blk_drew ?_ | refine blk_alloc ?_ _)); refine blk_far ?_ NB546_551.out _; (with_reducible repeat (first | refine blk_drewN ?_ _ | refine blk_drew ?_ | refine blk_alloc ?_ _)); refine blk_far ?_ NB546_551.out _; (with_reducible repeat (first | refine blk_drewN ?_ _ | refine blk_drew ?_ | refine blk_alloc ?_ _)); refine blk_far ?_ NB546_551.out _; (with_reducible repeat (first | refine blk_drewN ?_ _ | refine blk_drew ?_ | refine blk_alloc ?_ _)); refine blk_far ?_ NB546_551.out _; (with_reducible repeat (first | refine blk_drewN ?_ _ | refine blk_drew ?_ | refine blk_alloc ?_ _)); refine blk_far ?_ NB546_551.out _; (with_reducible repeat (first | refine blk_drewN ?_ _ | refine blk_drew ?_ | refine blk_alloc ?_ _)); exact BK546.out⟩, ⟨by (with_reducible repeat (first | refine blk_drewN ?_ _ | refine blk_drew ?_ | refine blk_alloc ?_ _)); refine blk_far ?_ NB547_551.out _; (with_reducible repeat (first | refine blk_drewN ?_ _ | refine blk_drew ?_ | refine blk_alloc ?_ _)); refine blk_far ?_ NB547_551.out _; (with_reducible repeat (first | refine blk_drewN ?_ _ | refine blk_drew ?_ | refine blk_alloc ?_ _)); refine blk_far ?_ NB547_551.out _; (with_reducible repeat (first | refine blk_drewN ?_ _ | refine blk_drew ?_ | refine blk_alloc ?_ _)); refine blk_far ?_ NB547_551.out _; (with_reducible repeat (first | refine blk_drewN ?_ _ | refine blk_drew ?_ | refine blk_alloc ?_ _)); refine blk_far ?_ NB547_551.out _; (with_reducible repeat (first | refine blk_drewN ?_ _ | refine blk_drew ?_ | refine blk_alloc ?_ _)); refine blk_far ?_ NB547_551.out _; (with_reducible repeat (first | refine blk_drewN ?_ _ | refine blk_drew ?_ | refine blk_alloc ?_ _)); refine blk_far ?_ NB547_551.out _; (with_reducible repeat (first | refine blk_drewN ?_ _ | refine blk_drew ?_ | refine blk_alloc ?_ _)); refine blk_far ?_ NB547_551.out _; (with_reducible repeat (first | refine blk_drewN ?_ _ | refine blk_drew ?_ | refine blk_alloc ?_ _)); exact BK547.out⟩, ⟨by repeat (first | (with_reducible first | exact HB.out | apply below_alloc | apply pw_below_drewN | apply below_drew1 | refine below_set ?_ GE546.out | refine below_set ?_ GE547.out | refine below_set ?_ GE551.out) | exact HB.out)⟩⟩
            · rw [if_neg c13] at H
              exact absurd H (by simp)
          · rw [if_neg c12] at H
            have c12b0 : decide (x8_1 < (((rd_T68 l0 a1).f0).length : Int)) = false := decide_eq_false c12
            clear c12
            have H' := Aside0.mk H
            clear H
            have p548 : 0 ≤ (a1 : Int) := of_decide_eq_true (by first | (with_reducible assumption) | assumption)
            have q548 : a1 < (l0.length : Int) := of_decide_eq_true (by first | (with_reducible assumption) | assumption)
            obtain ⟨ad548, A548_0, c548_0, e548, hx548_0, hl548_0, hi548_0⟩ := at_T68 (Kd.V_reads' HO_0.out).2.2 a1 p548 q548
            cases e548
            obtain ⟨ce548, hce548, hMe548, hcc548⟩ := Kd.V_get HO_0.out z68 a1 p548 (by first | exact q548 | exact of_decide_eq_true (by first | (with_reducible assumption) | assumption) | (have e_ := (Kd.V_reads' HO_0.out).1; omega))
            obtain ⟨ua548_0, uc548_0, rfl, ul548_0, ge548_0⟩ := k68_openF hMe548
            have hv548_0 := hcc548 0 _ rfl
            rw [Nat.add_zero, show (k68).sz = 1 from rfl, Nat.mul_one] at hv548_0
            replace hv548_0 := Option.some.inj (hv548_0.symm.trans hx548_0)
            injection hv548_0 with hva_ hvn_ hvc_
            rw [hva_] at ge548_0
            rw [hvc_] at ul548_0
            have HL548_0 := Aside0.mk (show Kd.V k130 130 _ w.heap.size _ _ ((rd_T68 l0 a1).f0) from Kd.V_mk ul548_0 ge548_0)
            clear hva_ hvn_ hvc_ ge548_0 ul548_0
            clear hcc548 hce548
            have HR548_0 := Aside0.mk hi548_0
            have HC548_0 := Aside0.mk hl548_0
            clear hi548_0 hl548_0
            replace p548 := eq_true p548
            replace q548 := eq_true q548
            go_wp2
            go_meet
            case rel => exact ⟨_, (x547000_1), (x547001_1), H', ⟨by have := HK1.out; first | omega | exact Nat.le_refl _⟩, ⟨by (with_reducible repeat (first | apply Kd.V_alloc | apply Kd.V_drewN | apply Kd.V_drew)); exact HO_0.out⟩, ⟨by (with_reducible repeat (first | refine blk_drewN ?_ _ | refine blk_drew ?_ | refine blk_alloc ?_ _)); exact BK546.out⟩, ⟨by (with_reducible repeat (first | refine blk_drewN ?_ _ | refine blk_drew ?_ | refine blk_alloc ?_ _)); exact BK547.out⟩, ⟨by repeat (first | (with_reducible first | exact HB.out | apply below_alloc | apply pw_below_drewN | apply below_drew1 | refine below_set ?_ GE546.out | refine below_set ?_ GE547.out) | exact HB.out)⟩⟩
        · rw [if_neg c11] at H
          exact absurd H (by simp)
      · rw [if_neg c10] at H
        exact absurd H (by simp)
  · rw [if_neg c9] at H
    have c9b0 : decide (0 ≤ a1) = false := decide_eq_false c9
    clear c9
    (first | rw [c9b0] | (simp only [i64_w, i32_w]; rw [c9b0]) | skip)
    have H' := Aside0.mk H
    clear H
    go_wp2
    go_meet
    case rel => exact ⟨_, (0), (0), H', ⟨by first | omega | exact Nat.le_refl _⟩, ⟨by (with_reducible repeat (first | apply Kd.V_alloc | apply Kd.V_drewN | apply Kd.V_drew)); exact Kd.V_mono (Kd.V_far (p := ⟨gb547, 1, none⟩) (Kd.V_far (p := ⟨gb547, 0, none⟩) (Kd.V_mono HO0.out (fun k_ hk => (⟨hk, hk.2⟩ : _ ∧ k_ ≠ gb547))) (fun _ hk => hk.2) (.int .i64 (-1))) (fun _ hk => hk.2) (.int .i64 (-1))) (fun _ hk => ⟨hk.1.1.1, ⟨hk.1.1.2, hk.1.2⟩⟩)⟩, ⟨by (with_reducible repeat (first | refine blk_drewN ?_ _ | refine blk_drew ?_ | refine blk_alloc ?_ _)); refine blk_far ?_ NB546_547.out _; (with_reducible repeat (first | refine blk_drewN ?_ _ | refine blk_drew ?_ | refine blk_alloc ?_ _)); refine blk_far ?_ NB546_547.out _; (with_reducible repeat (first | refine blk_drewN ?_ _ | refine blk_drew ?_ | refine blk_alloc ?_ _)); exact BK546.out⟩, ⟨by (with_reducible repeat (first | refine blk_drewN ?_ _ | refine blk_drew ?_ | refine blk_alloc ?_ _)); refine blk_put (cs := #[.int .i64 (-1), .int .i64 0]) ?_ 1 _ rfl; (with_reducible repeat (first | refine blk_drewN ?_ _ | refine blk_drew ?_ | refine blk_alloc ?_ _)); refine blk_put (cs := #[.int .i64 0, .int .i64 0]) ?_ 0 _ rfl; (with_reducible repeat (first | refine blk_drewN ?_ _ | refine blk_drew ?_ | refine blk_alloc ?_ _)); exact BK547.out⟩, ⟨by repeat (first | (with_reducible first | exact HB.out | apply below_alloc | apply pw_below_drewN | apply below_drew1 | refine below_set ?_ GE546.out | refine below_set ?_ GE547.out) | exact HB.out)⟩⟩
 case rest =>
  clear HC4
  try clear c1
  try clear c2
  try clear p2
  try clear c5
  try clear p5
  try clear q5
  try clear hx5
  try clear p6
  try clear c7
  try clear c8
  try clear c9
  try clear c9b0
  try clear c10
  try clear c10b0
  try clear c11
  try clear c11b0
  try clear c12
  try clear c12b0
  try clear c13
  try clear c13b0
  try clear c14
  try clear c14b0
  try clear c14b1
  try clear c15
  try clear c15b0
  try clear c15b1
  try clear c17
  try clear c18
  try clear c20
  try clear c23
  try clear c24
  try clear c27
  try clear c28
  try clear hcz19_0
  try clear hcz19_1
  try clear hcz19_2
  try clear hcz19_3
  try clear hcz19_4
  try clear hcz19_5
  try clear hcz19_6
  try clear hcz19_7
  try clear hcz21_0
  try clear hcz21_1
  try clear hcz25_0
  try clear hcz25_1
  try clear hcz25_2
  try clear hcz25_3
  try clear hcz25_4
  try clear hcz25_5
  try clear hcz25_6
  try clear hcz25_7
  try clear hcz29_0
  try clear hcz29_1
  try clear hcz29_2
  try clear hcz29_3
  try clear hcz29_4
  try clear hcz29_5
  try clear hcz29_6
  try clear hcz29_7
  try clear hcz8_0
  try clear hcz8_1
  try clear hfz19_0
  try clear hfz19_1
  try clear hfz19_2
  try clear hfz19_3
  try clear hfz19_4
  try clear hfz19_5
  try clear hfz19_6
  try clear hfz19_7
  try clear hfz21_0
  try clear hfz21_1
  try clear hfz25_0
  try clear hfz25_1
  try clear hfz25_2
  try clear hfz25_3
  try clear hfz25_4
  try clear hfz25_5
  try clear hfz25_6
  try clear hfz25_7
  try clear hfz29_0
  try clear hfz29_1
  try clear hfz29_2
  try clear hfz29_3
  try clear hfz29_4
  try clear hfz29_5
  try clear hfz29_6
  try clear hfz29_7
  try clear hfz8_0
  try clear hfz8_1
  try clear hx548_0
  try clear hx549_0
  try clear hx550_0
  try clear hx550_1
  try clear hx550_2
  try clear hx550_3
  try clear hx550_4
  try clear hx550_5
  try clear hx550_6
  try clear hx550_7
  try clear p2
  try clear p548
  try clear p549
  try clear p550
  try clear q548
  try clear q549
  try clear q550
  obtain ⟨kq, x547000_3, x547001_3, HA, HJ3, HO_0, BK546, BK547, HB⟩ := hcut
  cases kq with
  | zero => exact absurd HA.out (by simp [spec_l20Of.j1])
  | succ kj3 =>
   have H := HA.out
   clear HA
   simp only [spec_l20Of.j1] at H
   have H' := Aside0.mk H
   clear H
   go_wp2
   go_loopg [10] kj3 (fun kq v10 w' => ∃ (x10_2 : Int) (x547000_2 : Int) (x547001_2 : Int), v10 = .int .i64 x10_2 ∧ Aside0 (spec_l20Of.l1 kq l0 a2 x10_2 (-1) (-1) = some (r1, r2)) ∧ Aside0 (kq ≤ kj3) ∧ Aside0 (Kd.V k68 68 w' w.heap.size (fun k_ => (P0_ k_ ∨ w.heap.size ≤ k_) ∧ k_ ≠ gb546 ∧ k_ ≠ gb547) (.slice A0 l0.length c0) l0) ∧ Aside0 (w'.heap[gb546]? = some (.cells #[.int .i64 x547000_2, .int .i64 x547001_2] 125 (0, 0))) ∧ Aside0 (w'.heap[gb547]? = some (.cells #[.int .i64 (-1), .int .i64 (-1)] 125 (0, 0))) ∧ Aside0 (Below w.heap.size w w'))
   case atStart => exact ⟨(1), (x547000_3), (x547001_3), (by first | rfl | (simp; done) | (simp [*]; done)), H', ⟨Nat.le_refl _⟩, ⟨by (with_reducible repeat (first | apply Kd.V_alloc | apply Kd.V_drewN | apply Kd.V_drew)); exact HO_0.out⟩, ⟨by (with_reducible repeat (first | refine blk_drewN ?_ _ | refine blk_drew ?_ | refine blk_alloc ?_ _)); exact BK546.out⟩, ⟨by (with_reducible repeat (first | refine blk_drewN ?_ _ | refine blk_drew ?_ | refine blk_alloc ?_ _)); exact BK547.out⟩, ⟨by repeat (first | (with_reducible first | exact HB.out | apply below_alloc | apply pw_below_drewN | apply below_drew1 | refine below_set ?_ GE546.out | refine below_set ?_ GE547.out) | exact HB.out)⟩⟩
   case round =>
    clear H'
    try clear c1
    try clear c2
    try clear p2
    try clear c5
    try clear p5
    try clear q5
    try clear hx5
    try clear p6
    try clear c7
    try clear c8
    try clear c9
    try clear c9b0
    try clear c10
    try clear c10b0
    try clear c11
    try clear c11b0
    try clear c12
    try clear c12b0
    try clear c13
    try clear c13b0
    try clear c14
    try clear c14b0
    try clear c14b1
    try clear c15
    try clear c15b0
    try clear c15b1
    try clear c17
    try clear c18
    try clear c20
    try clear c23
    try clear c24
    try clear c27
    try clear c28
    try clear hcz19_0
    try clear hcz19_1
    try clear hcz19_2
    try clear hcz19_3
    try clear hcz19_4
    try clear hcz19_5
    try clear hcz19_6
    try clear hcz19_7
    try clear hcz21_0
    try clear hcz21_1
    try clear hcz25_0
    try clear hcz25_1
    try clear hcz25_2
    try clear hcz25_3
    try clear hcz25_4
    try clear hcz25_5
    try clear hcz25_6
    try clear hcz25_7
    try clear hcz29_0
    try clear hcz29_1
    try clear hcz29_2
    try clear hcz29_3
    try clear hcz29_4
    try clear hcz29_5
    try clear hcz29_6
    try clear hcz29_7
    try clear hcz8_0
    try clear hcz8_1
    try clear hfz19_0
    try clear hfz19_1
    try clear hfz19_2
    try clear hfz19_3
    try clear hfz19_4
    try clear hfz19_5
    try clear hfz19_6
    try clear hfz19_7
    try clear hfz21_0
    try clear hfz21_1
    try clear hfz25_0
    try clear hfz25_1
    try clear hfz25_2
    try clear hfz25_3
    try clear hfz25_4
    try clear hfz25_5
    try clear hfz25_6
    try clear hfz25_7
    try clear hfz29_0
    try clear hfz29_1
    try clear hfz29_2
    try clear hfz29_3
    try clear hfz29_4
    try clear hfz29_5
    try clear hfz29_6
    try clear hfz29_7
    try clear hfz8_0
    try clear hfz8_1
    try clear hx548_0
    try clear hx549_0
    try clear hx550_0
    try clear hx550_1
    try clear hx550_2
    try clear hx550_3
    try clear hx550_4
    try clear hx550_5
    try clear hx550_6
    try clear hx550_7
    try clear p2
    try clear p5
    try clear p548
    try clear p549
    try clear p550
    try clear p6
    try clear q5
    try clear q548
    try clear q549
    try clear q550
    obtain ⟨x10_2, x547000_2, x547001_2, rfl, HA, HK2, HO_0, BK546, BK547, HB⟩ := hrel
    cases gk with
    | zero => exact absurd HA.out (by simp [spec_l20Of.l1])
    | succ k2 =>
     have H := HA.out
     clear HA
     simp only [spec_l20Of.l1] at H
     by_cases c30 : x10_2 ≤ 2
     · rw [if_pos c30] at H
       have c30b0 : decide (x10_2 ≤ 2) = true := decide_eq_true c30
       clear c30
       have H' := Aside0.mk H
       clear H
       go_wp2
       go_loopg [11] k2 (fun kq v11 w' => ∃ (x11_3 : Int) (x547000_3 : Int) (x547001_3 : Int), v11 = .int .i64 x11_3 ∧ Aside0 (spec_l20Of.l2 kq l0 a2 x10_2 x11_3 (-1) (-1) = some (r1, r2)) ∧ Aside0 (kq ≤ k2) ∧ Aside0 (Kd.V k68 68 w' w.heap.size (fun k_ => (P0_ k_ ∨ w.heap.size ≤ k_) ∧ k_ ≠ gb546 ∧ k_ ≠ gb547) (.slice A0 l0.length c0) l0) ∧ Aside0 (w'.heap[gb546]? = some (.cells #[.int .i64 x547000_3, .int .i64 x547001_3] 125 (0, 0))) ∧ Aside0 (w'.heap[gb547]? = some (.cells #[.int .i64 (-1), .int .i64 (-1)] 125 (0, 0))) ∧ Aside0 (Below w.heap.size w w'))
       case atStart => exact ⟨(0), (x547000_2), (x547001_2), (by first | rfl | (simp; done) | (simp [*]; done)), H', ⟨Nat.le_refl _⟩, ⟨by (with_reducible repeat (first | apply Kd.V_alloc | apply Kd.V_drewN | apply Kd.V_drew)); exact HO_0.out⟩, ⟨by (with_reducible repeat (first | refine blk_drewN ?_ _ | refine blk_drew ?_ | refine blk_alloc ?_ _)); exact BK546.out⟩, ⟨by (with_reducible repeat (first | refine blk_drewN ?_ _ | refine blk_drew ?_ | refine blk_alloc ?_ _)); exact BK547.out⟩, ⟨by repeat (first | (with_reducible first | exact HB.out | apply below_alloc | apply pw_below_drewN | apply below_drew1 | refine below_set ?_ GE546.out | refine below_set ?_ GE547.out) | exact HB.out)⟩⟩
       case round =>
        clear H'
        try clear c1
        try clear c2
        try clear p2
        try clear c3
        try clear c5
        try clear p5
        try clear q5
        try clear hx5
        try clear p6
        try clear c7
        try clear c8
        try clear c9
        try clear c9b0
        try clear c10
        try clear c10b0
        try clear c11
        try clear c11b0
        try clear c12
        try clear c12b0
        try clear c13
        try clear c13b0
        try clear c14
        try clear c14b0
        try clear c14b1
        try clear c15
        try clear c15b0
        try clear c15b1
        try clear c17
        try clear c18
        try clear c20
        try clear c23
        try clear c24
        try clear c27
        try clear c28
        try clear c30
        try clear c30b0
        try clear hcz19_0
        try clear hcz19_1
        try clear hcz19_2
        try clear hcz19_3
        try clear hcz19_4
        try clear hcz19_5
        try clear hcz19_6
        try clear hcz19_7
        try clear hcz21_0
        try clear hcz21_1
        try clear hcz25_0
        try clear hcz25_1
        try clear hcz25_2
        try clear hcz25_3
        try clear hcz25_4
        try clear hcz25_5
        try clear hcz25_6
        try clear hcz25_7
        try clear hcz29_0
        try clear hcz29_1
        try clear hcz29_2
        try clear hcz29_3
        try clear hcz29_4
        try clear hcz29_5
        try clear hcz29_6
        try clear hcz29_7
        try clear hcz8_0
        try clear hcz8_1
        try clear hfz19_0
        try clear hfz19_1
        try clear hfz19_2
        try clear hfz19_3
        try clear hfz19_4
        try clear hfz19_5
        try clear hfz19_6
        try clear hfz19_7
        try clear hfz21_0
        try clear hfz21_1
        try clear hfz25_0
        try clear hfz25_1
        try clear hfz25_2
        try clear hfz25_3
        try clear hfz25_4
        try clear hfz25_5
        try clear hfz25_6
        try clear hfz25_7
        try clear hfz29_0
        try clear hfz29_1
        try clear hfz29_2
        try clear hfz29_3
        try clear hfz29_4
        try clear hfz29_5
        try clear hfz29_6
        try clear hfz29_7
        try clear hfz8_0
        try clear hfz8_1
        try clear hx548_0
        try clear hx549_0
        try clear hx550_0
        try clear hx550_1
        try clear hx550_2
        try clear hx550_3
        try clear hx550_4
        try clear hx550_5
        try clear hx550_6
        try clear hx550_7
        try clear p2
        try clear p5
        try clear p548
        try clear p549
        try clear p550
        try clear p6
        try clear q5
        try clear q548
        try clear q549
        try clear q550
        obtain ⟨x11_3, x547000_3, x547001_3, rfl, HA, HK3, HO_0, BK546, BK547, HB⟩ := hrel
        cases gk with
        | zero => exact absurd HA.out (by simp [spec_l20Of.l2])
        | succ k3 =>
         have H := HA.out
         clear HA
         simp only [spec_l20Of.l2] at H
         by_cases c31 : x11_3 < (l0.length : Int)
         · rw [if_pos c31] at H
           have c31b0 : decide (x11_3 < (l0.length : Int)) = true := decide_eq_true c31
           clear c31
           have H' := Aside0.mk H
           clear H
           go_wp2
           go_loopg [12] k3 (fun kq v12 w' => ∃ (x12_4 : Int) (x547000_4 : Int) (x547001_4 : Int), v12 = .int .i64 x12_4 ∧ Aside0 (spec_l20Of.l3 kq l0 a2 x10_2 x11_3 x12_4 (-1) (-1) = some (r1, r2)) ∧ Aside0 (kq ≤ k3) ∧ Aside0 (Kd.V k68 68 w' w.heap.size (fun k_ => (P0_ k_ ∨ w.heap.size ≤ k_) ∧ k_ ≠ gb546 ∧ k_ ≠ gb547) (.slice A0 l0.length c0) l0) ∧ Aside0 (w'.heap[gb546]? = some (.cells #[.int .i64 x547000_4, .int .i64 x547001_4] 125 (0, 0))) ∧ Aside0 (w'.heap[gb547]? = some (.cells #[.int .i64 (-1), .int .i64 (-1)] 125 (0, 0))) ∧ Aside0 (Below w.heap.size w w'))
           case atStart => exact ⟨(0), (x547000_3), (x547001_3), (by first | rfl | (simp; done) | (simp [*]; done)), H', ⟨Nat.le_refl _⟩, ⟨by (with_reducible repeat (first | apply Kd.V_alloc | apply Kd.V_drewN | apply Kd.V_drew)); exact HO_0.out⟩, ⟨by (with_reducible repeat (first | refine blk_drewN ?_ _ | refine blk_drew ?_ | refine blk_alloc ?_ _)); exact BK546.out⟩, ⟨by (with_reducible repeat (first | refine blk_drewN ?_ _ | refine blk_drew ?_ | refine blk_alloc ?_ _)); exact BK547.out⟩, ⟨by repeat (first | (with_reducible first | exact HB.out | apply below_alloc | apply pw_below_drewN | apply below_drew1 | refine below_set ?_ GE546.out | refine below_set ?_ GE547.out) | exact HB.out)⟩⟩
           case round =>
            clear H'
            try clear c1
            try clear c2
            try clear p2
            try clear c3
            try clear c5
            try clear p5
            try clear q5
            try clear hx5
            try clear p6
            try clear c7
            try clear c8
            try clear c9
            try clear c9b0
            try clear c10
            try clear c10b0
            try clear c11
            try clear c11b0
            try clear c12
            try clear c12b0
            try clear c13
            try clear c13b0
            try clear c14
            try clear c14b0
            try clear c14b1
            try clear c15
            try clear c15b0
            try clear c15b1
            try clear c17
            try clear c18
            try clear c20
            try clear c23
            try clear c24
            try clear c27
            try clear c28
            try clear c30
            try clear c30b0
            try clear c31
            try clear c31b0
            try clear hcz19_0
            try clear hcz19_1
            try clear hcz19_2
            try clear hcz19_3
            try clear hcz19_4
            try clear hcz19_5
            try clear hcz19_6
            try clear hcz19_7
            try clear hcz21_0
            try clear hcz21_1
            try clear hcz25_0
            try clear hcz25_1
            try clear hcz25_2
            try clear hcz25_3
            try clear hcz25_4
            try clear hcz25_5
            try clear hcz25_6
            try clear hcz25_7
            try clear hcz29_0
            try clear hcz29_1
            try clear hcz29_2
            try clear hcz29_3
            try clear hcz29_4
            try clear hcz29_5
            try clear hcz29_6
            try clear hcz29_7
            try clear hcz8_0
            try clear hcz8_1
            try clear hfz19_0
            try clear hfz19_1
            try clear hfz19_2
            try clear hfz19_3
            try clear hfz19_4
            try clear hfz19_5
            try clear hfz19_6
            try clear hfz19_7
            try clear hfz21_0
            try clear hfz21_1
            try clear hfz25_0
            try clear hfz25_1
            try clear hfz25_2
            try clear hfz25_3
            try clear hfz25_4
            try clear hfz25_5
            try clear hfz25_6
            try clear hfz25_7
            try clear hfz29_0
            try clear hfz29_1
            try clear hfz29_2
            try clear hfz29_3
            try clear hfz29_4
            try clear hfz29_5
            try clear hfz29_6
            try clear hfz29_7
            try clear hfz8_0
            try clear hfz8_1
            try clear hx548_0
            try clear hx549_0
            try clear hx550_0
            try clear hx550_1
            try clear hx550_2
            try clear hx550_3
            try clear hx550_4
            try clear hx550_5
            try clear hx550_6
            try clear hx550_7
            try clear p2
            try clear p5
            try clear p548
            try clear p549
            try clear p550
            try clear p6
            try clear q5
            try clear q548
            try clear q549
            try clear q550
            obtain ⟨x12_4, x547000_4, x547001_4, rfl, HA, HK4, HO_0, BK546, BK547, HB⟩ := hrel
            cases gk with
            | zero => exact absurd HA.out (by simp [spec_l20Of.l3])
            | succ k4 =>
             have H := HA.out
             clear HA
             simp only [spec_l20Of.l3] at H
             by_cases c32 : 0 ≤ x11_3
             · rw [if_pos c32] at H
               have c32b0 : decide (0 ≤ x11_3) = true := decide_eq_true c32
               clear c32
               by_cases c33 : x11_3 < (l0.length : Int)
               · rw [if_pos c33] at H
                 have c33b0 : decide (x11_3 < (l0.length : Int)) = true := decide_eq_true c33
                 clear c33
                 by_cases c34 : x12_4 < (((rd_T68 l0 x11_3).f0).length : Int)
                 · rw [if_pos c34] at H
                   have c34b0 : decide (x12_4 < (((rd_T68 l0 x11_3).f0).length : Int)) = true := decide_eq_true c34
                   clear c34
                   by_cases c35 : 0 ≤ x12_4
                   · rw [if_pos c35] at H
                     have c35b0 : decide (0 ≤ x12_4) = true := decide_eq_true c35
                     clear c35
                     by_cases c36 : ((rd_T130 ((rd_T68 l0 x11_3).f0) x12_4).f0).toList = a2.toList
                     · rw [if_pos c36] at H
                       have c36b0 : (((rd_T130 ((rd_T68 l0 x11_3).f0) x12_4).f0).toList == a2.toList) = true := beq_iff_eq.mpr c36
                       have c36b1 : (((rd_T130 ((rd_T68 l0 x11_3).f0) x12_4).f0).toList != a2.toList) = false := bne_eq_false_iff_eq.mpr c36
                       clear c36
                       by_cases c37 : ((rd_T130 ((rd_T68 l0 x11_3).f0) x12_4).f2) = x10_2
                       · rw [if_pos c37] at H
                         have c37b0 : (((rd_T130 ((rd_T68 l0 x11_3).f0) x12_4).f2) == x10_2) = true := beq_iff_eq.mpr c37
                         have c37b1 : (((rd_T130 ((rd_T68 l0 x11_3).f0) x12_4).f2) != x10_2) = false := bne_eq_false_iff_eq.mpr c37
                         clear c37
                         simp only [Option.some.injEq, Prod.mk.injEq] at H
                         obtain ⟨rfl, rfl⟩ := H
                         have p552 : 0 ≤ (x11_3 : Int) := of_decide_eq_true (by first | (with_reducible assumption) | assumption)
                         have q552 : x11_3 < (l0.length : Int) := of_decide_eq_true (by first | (with_reducible assumption) | assumption)
                         obtain ⟨ad552, A552_0, c552_0, e552, hx552_0, hl552_0, hi552_0⟩ := at_T68 (Kd.V_reads' HO_0.out).2.2 x11_3 p552 q552
                         cases e552
                         obtain ⟨ce552, hce552, hMe552, hcc552⟩ := Kd.V_get HO_0.out z68 x11_3 p552 (by first | exact q552 | exact of_decide_eq_true (by first | (with_reducible assumption) | assumption) | (have e_ := (Kd.V_reads' HO_0.out).1; omega))
                         obtain ⟨ua552_0, uc552_0, rfl, ul552_0, ge552_0⟩ := k68_openF hMe552
                         have hv552_0 := hcc552 0 _ rfl
                         rw [Nat.add_zero, show (k68).sz = 1 from rfl, Nat.mul_one] at hv552_0
                         replace hv552_0 := Option.some.inj (hv552_0.symm.trans hx552_0)
                         injection hv552_0 with hva_ hvn_ hvc_
                         rw [hva_] at ge552_0
                         rw [hvc_] at ul552_0
                         have HL552_0 := Aside0.mk (show Kd.V k130 130 _ w.heap.size _ _ ((rd_T68 l0 x11_3).f0) from Kd.V_mk ul552_0 ge552_0)
                         clear hva_ hvn_ hvc_ ge552_0 ul552_0
                         clear hcc552 hce552
                         have HR552_0 := Aside0.mk hi552_0
                         have HC552_0 := Aside0.mk hl552_0
                         clear hi552_0 hl552_0
                         replace p552 := eq_true p552
                         replace q552 := eq_true q552
                         have p553 : 0 ≤ (x11_3 : Int) := of_decide_eq_true (by first | (with_reducible assumption) | assumption)
                         have q553 : x11_3 < (l0.length : Int) := of_decide_eq_true (by first | (with_reducible assumption) | assumption)
                         obtain ⟨ad553, A553_0, c553_0, e553, hx553_0, hl553_0, hi553_0⟩ := at_T68 (Kd.V_reads' HO_0.out).2.2 x11_3 p553 q553
                         obtain rfl : ad552 = ad553 := (by injection e553)
                         obtain ⟨ce553, hce553, hMe553, hcc553⟩ := Kd.V_get HO_0.out z68 x11_3 p553 (by first | exact q553 | exact of_decide_eq_true (by first | (with_reducible assumption) | assumption) | (have e_ := (Kd.V_reads' HO_0.out).1; omega))
                         obtain ⟨ua553_0, uc553_0, rfl, ul553_0, ge553_0⟩ := k68_openF hMe553
                         have hv553_0 := hcc553 0 _ rfl
                         rw [Nat.add_zero, show (k68).sz = 1 from rfl, Nat.mul_one] at hv553_0
                         replace hv553_0 := Option.some.inj (hv553_0.symm.trans hx553_0)
                         injection hv553_0 with hva_ hvn_ hvc_
                         rw [hva_] at ge553_0
                         rw [hvc_] at ul553_0
                         have HL553_0 := Aside0.mk (show Kd.V k130 130 _ w.heap.size _ _ ((rd_T68 l0 x11_3).f0) from Kd.V_mk ul553_0 ge553_0)
                         clear hva_ hvn_ hvc_ ge553_0 ul553_0
                         clear hcc553 hce553
                         have HR553_0 := Aside0.mk hi553_0
                         have HC553_0 := Aside0.mk hl553_0
                         clear hi553_0 hl553_0
                         replace p553 := eq_true p553
                         replace q553 := eq_true q553
                         have ea_ := Option.some.inj (hx552_0.symm.trans hx553_0)
                         injection ea_ with ea_ en_ ec_
                         subst ea_
                         subst ec_
                         clear en_
                         have p554 : 0 ≤ (x12_4 : Int) := of_decide_eq_true (by first | (with_reducible assumption) | assumption)
                         have q554 : x12_4 < (((rd_T68 l0 x11_3).f0).length : Int) := of_decide_eq_true (by first | (with_reducible assumption) | assumption)
                         obtain ⟨ad554, A554_4, c554_4, A554_6, c554_6, A554_7, c554_7, e554, hx554_0, hx554_1, hx554_2, hx554_3, hx554_4, hx554_5, hx554_6, hx554_7, hl554_4, hi554_4, hl554_6, hi554_6, hl554_7, hi554_7⟩ := at_T130 (by repeat (first | (with_reducible exact HR553_0.out) | (with_reducible refine Kd.C_alloc ?_ _) | (with_reducible refine Kd.C_drewN ?_ _) | (with_reducible refine Kd.C_drew ?_) | exact HR553_0.out)) x12_4 p554 q554
                         cases e554
                         obtain ⟨ce554, hce554, hMe554, hcc554⟩ := Kd.V_get HL553_0.out z130 x12_4 p554 (by first | exact q554 | exact of_decide_eq_true (by first | (with_reducible assumption) | assumption) | (have e_ := (Kd.V_reads' HL553_0.out).1; omega))
                         obtain ⟨ua554_4, uc554_4, ua554_6, uc554_6, ua554_7, uc554_7, rfl, ul554_4, ge554_4, ul554_6, ge554_6, ul554_7, ge554_7⟩ := k130_openF hMe554
                         have hv554_4 := hcc554 4 _ rfl
                         rw [add_field _ _ 4 (by omega)] at hv554_4
                         replace hv554_4 := Option.some.inj (hv554_4.symm.trans hx554_4)
                         injection hv554_4 with hva_ hvn_ hvc_
                         rw [hva_] at ge554_4
                         rw [hvc_] at ul554_4
                         have HL554_4 := Aside0.mk (show Kd.V (Kd.int .i64) 2 _ w.heap.size _ _ ((rd_T130 ((rd_T68 l0 x11_3).f0) x12_4).f4) from Kd.V_mk ul554_4 ge554_4)
                         clear hva_ hvn_ hvc_ ge554_4 ul554_4
                         have hv554_6 := hcc554 6 _ rfl
                         rw [add_field _ _ 6 (by omega)] at hv554_6
                         replace hv554_6 := Option.some.inj (hv554_6.symm.trans hx554_6)
                         injection hv554_6 with hva_ hvn_ hvc_
                         rw [hva_] at ge554_6
                         rw [hvc_] at ul554_6
                         have HL554_6 := Aside0.mk (show Kd.V (Kd.int .u8) 5 _ w.heap.size _ _ ((rd_T130 ((rd_T68 l0 x11_3).f0) x12_4).f6) from Kd.V_mk ul554_6 ge554_6)
                         clear hva_ hvn_ hvc_ ge554_6 ul554_6
                         have hv554_7 := hcc554 7 _ rfl
                         rw [add_field _ _ 7 (by omega)] at hv554_7
                         replace hv554_7 := Option.some.inj (hv554_7.symm.trans hx554_7)
                         injection hv554_7 with hva_ hvn_ hvc_
                         rw [hva_] at ge554_7
                         rw [hvc_] at ul554_7
                         have HL554_7 := Aside0.mk (show Kd.V k132 132 _ w.heap.size _ _ ((rd_T130 ((rd_T68 l0 x11_3).f0) x12_4).f7) from Kd.V_mk ul554_7 ge554_7)
                         clear hva_ hvn_ hvc_ ge554_7 ul554_7
                         clear hcc554 hce554
                         have HR554_4 := Aside0.mk hi554_4
                         have HC554_4 := Aside0.mk hl554_4
                         clear hi554_4 hl554_4
                         have HR554_6 := Aside0.mk hi554_6
                         have HC554_6 := Aside0.mk hl554_6
                         clear hi554_6 hl554_6
                         have HR554_7 := Aside0.mk hi554_7
                         have HC554_7 := Aside0.mk hl554_7
                         clear hi554_7 hl554_7
                         replace p554 := eq_true p554
                         replace q554 := eq_true q554
                         go_wp2_with (first | ((with_reducible refine gate_dst (N := 13) rfl ?_); refine box_event ?hg (N := 13) ?hd (cs := #[.string (⟨#[]⟩ : ByteArray), .int .i64 0, .int .i64 0, .int .i64 0, .slice none 0 0, .int .i64 0, .slice none 0 0, .slice none 0 0]) (t := 130) ?hr ?_; (case hd => rfl); (case hg => rfl); (case hr => first | (go_simp; done) | (go_simp; rfl)); intro gb555 hg w38 hbox hb; have n0_ := Aside0.mk (Kd.V_below (Kd.V_elderB (by (with_reducible repeat (first | apply Kd.V_alloc | apply Kd.V_drewN | apply Kd.V_drew)); exact HO_0.out) gb555 (Nat.le_of_eq hg.symm)) hb); have n1_ := Aside0.mk (Kd.V_below (Kd.V_elderB (by (with_reducible repeat (first | apply Kd.V_alloc | apply Kd.V_drewN | apply Kd.V_drew)); exact HL552_0.out) gb555 (Nat.le_of_eq hg.symm)) hb); have n2_ := Aside0.mk (Kd.V_below (Kd.V_elderB (by (with_reducible repeat (first | apply Kd.V_alloc | apply Kd.V_drewN | apply Kd.V_drew)); exact HL553_0.out) gb555 (Nat.le_of_eq hg.symm)) hb); have n3_ := Aside0.mk (Kd.V_below (Kd.V_elderB (by (with_reducible repeat (first | apply Kd.V_alloc | apply Kd.V_drewN | apply Kd.V_drew)); exact HL554_4.out) gb555 (Nat.le_of_eq hg.symm)) hb); have n4_ := Aside0.mk (Kd.V_below (Kd.V_elderB (by (with_reducible repeat (first | apply Kd.V_alloc | apply Kd.V_drewN | apply Kd.V_drew)); exact HL554_6.out) gb555 (Nat.le_of_eq hg.symm)) hb); have n5_ := Aside0.mk (Kd.V_below (Kd.V_elderB (by (with_reducible repeat (first | apply Kd.V_alloc | apply Kd.V_drewN | apply Kd.V_drew)); exact HL554_7.out) gb555 (Nat.le_of_eq hg.symm)) hb); have n6_ := Aside0.mk (blk_below (g := gb546) (o := .cells #[.int .i64 x547000_4, .int .i64 x547001_4] 125 (0, 0)) (by (with_reducible repeat (first | refine blk_drewN ?_ _ | refine blk_drew ?_ | refine blk_alloc ?_ _)); exact BK546.out) hb); have n7_ := Aside0.mk (blk_below (g := gb547) (o := .cells #[.int .i64 (-1), .int .i64 (-1)] 125 (0, 0)) (by (with_reducible repeat (first | refine blk_drewN ?_ _ | refine blk_drew ?_ | refine blk_alloc ?_ _)); exact BK547.out) hb); have n8_ := Aside0.mk (Kd.C_below (by repeat (first | (with_reducible exact HR552_0.out) | (with_reducible refine Kd.C_alloc ?_ _) | (with_reducible refine Kd.C_drewN ?_ _) | (with_reducible refine Kd.C_drew ?_) | exact HR552_0.out)) hb); have n9_ := Aside0.mk (Kd.C_below (by repeat (first | (with_reducible exact HR553_0.out) | (with_reducible refine Kd.C_alloc ?_ _) | (with_reducible refine Kd.C_drewN ?_ _) | (with_reducible refine Kd.C_drew ?_) | exact HR553_0.out)) hb); have n10_ := Aside0.mk (Kd.C_below (by repeat (first | (with_reducible exact HR554_4.out) | (with_reducible refine Kd.C_alloc ?_ _) | (with_reducible refine Kd.C_drewN ?_ _) | (with_reducible refine Kd.C_drew ?_) | exact HR554_4.out)) hb); have n11_ := Aside0.mk (Kd.C_below (by repeat (first | (with_reducible exact HR554_6.out) | (with_reducible refine Kd.C_alloc ?_ _) | (with_reducible refine Kd.C_drewN ?_ _) | (with_reducible refine Kd.C_drew ?_) | exact HR554_6.out)) hb); have n12_ := Aside0.mk (Kd.C_below (by repeat (first | (with_reducible exact HR554_7.out) | (with_reducible refine Kd.C_alloc ?_ _) | (with_reducible refine Kd.C_drewN ?_ _) | (with_reducible refine Kd.C_drew ?_) | exact HR554_7.out)) hb); have n13_ := Aside0.mk (below_step (by repeat (first | (with_reducible first | exact HB.out | apply below_alloc | apply pw_below_drewN | apply below_drew1 | refine below_set ?_ GE546.out | refine below_set ?_ GE547.out) | exact HB.out)) hb); have n14_ := Aside0.mk (hbox); have n15_ := Aside0.mk ((by rw [hg]; exact (below_size (by repeat (first | (with_reducible first | exact HB.out | apply below_alloc | apply pw_below_drewN | apply below_drew1 | refine below_set ?_ GE546.out | refine below_set ?_ GE547.out) | exact HB.out))) : w.heap.size ≤ gb555)); have n16_ := Aside0.mk ((by rw [hg]; exact (below_size (by repeat (first | (with_reducible first | exact HB.out | apply below_alloc | apply pw_below_drewN | apply below_drew1 | refine below_set ?_ GE546.out | refine below_set ?_ GE547.out) | exact HB.out))) : w.heap.size ≤ gb555)); have n17_ := Aside0.mk ((by rw [hg]; exact Nat.ne_of_lt (blk_lt (g := gb546) (o := .cells #[.int .i64 x547000_4, .int .i64 x547001_4] 125 (0, 0)) (by (with_reducible repeat (first | refine blk_drewN ?_ _ | refine blk_drew ?_ | refine blk_alloc ?_ _)); exact BK546.out)) : gb546 ≠ gb555)); have n18_ := Aside0.mk ((by rw [hg]; exact Nat.ne_of_gt (blk_lt (g := gb546) (o := .cells #[.int .i64 x547000_4, .int .i64 x547001_4] 125 (0, 0)) (by (with_reducible repeat (first | refine blk_drewN ?_ _ | refine blk_drew ?_ | refine blk_alloc ?_ _)); exact BK546.out)) : gb555 ≠ gb546)); have n19_ := Aside0.mk ((by rw [hg]; exact Nat.ne_of_lt (blk_lt (g := gb547) (o := .cells #[.int .i64 (-1), .int .i64 (-1)] 125 (0, 0)) (by (with_reducible repeat (first | refine blk_drewN ?_ _ | refine blk_drew ?_ | refine blk_alloc ?_ _)); exact BK547.out)) : gb547 ≠ gb555)); have n20_ := Aside0.mk ((by rw [hg]; exact Nat.ne_of_gt (blk_lt (g := gb547) (o := .cells #[.int .i64 (-1), .int .i64 (-1)] 125 (0, 0)) (by (with_reducible repeat (first | refine blk_drewN ?_ _ | refine blk_drew ?_ | refine blk_alloc ?_ _)); exact BK547.out)) : gb555 ≠ gb547)); clear HO_0; clear HL552_0; clear HL553_0; clear HL554_4; clear HL554_6; clear HL554_7; clear BK546; clear BK547; clear HR552_0; clear HR553_0; clear HR554_4; clear HR554_6; clear HR554_7; clear HB; have HO_0 := n0_; have HL552_0 := n1_; have HL553_0 := n2_; have HL554_4 := n3_; have HL554_6 := n4_; have HL554_7 := n5_; have BK546 := n6_; have BK547 := n7_; have HR552_0 := n8_; have HR553_0 := n9_; have HR554_4 := n10_; have HR554_6 := n11_; have HR554_7 := n12_; have HB := n13_; have BK555 := n14_; have GW555 := n15_; have GE555 := n16_; have NB546_555 := n17_; have NB555_546 := n18_; have NB547_555 := n19_; have NB555_547 := n20_; clear n0_ n1_ n2_ n3_ n4_ n5_ n6_ n7_ n8_ n9_ n10_ n11_ n12_ n13_ n14_ n15_ n16_ n17_ n18_ n19_ n20_; clear hb hbox hg; have hnb39 := NB555_546.out; have hnc39 := NB546_555.out; have hnb40 := NB555_547.out; have hnc40 := NB547_555.out; have hcz41_0 : w38.cell? ⟨gb555, 0, none⟩ = some (.string (⟨#[]⟩ : ByteArray)) := (blk_cell BK555.out 0).trans rfl; have hcz41_1 : w38.cell? ⟨gb555, 1, none⟩ = some (.int .i64 0) := (blk_cell BK555.out 1).trans rfl; have hcz41_2 : w38.cell? ⟨gb555, 2, none⟩ = some (.int .i64 0) := (blk_cell BK555.out 2).trans rfl; have hcz41_3 : w38.cell? ⟨gb555, 3, none⟩ = some (.int .i64 0) := (blk_cell BK555.out 3).trans rfl; have hcz41_4 : w38.cell? ⟨gb555, 4, none⟩ = some (.slice none 0 0) := (blk_cell BK555.out 4).trans rfl; have hcz41_5 : w38.cell? ⟨gb555, 5, none⟩ = some (.int .i64 0) := (blk_cell BK555.out 5).trans rfl; have hcz41_6 : w38.cell? ⟨gb555, 6, none⟩ = some (.slice none 0 0) := (blk_cell BK555.out 6).trans rfl; have hcz41_7 : w38.cell? ⟨gb555, 7, none⟩ = some (.slice none 0 0) := (blk_cell BK555.out 7).trans rfl; have hfz41_0 := blk_frozen BK555.out 0; have hfz41_1 := blk_frozen BK555.out 1; have hfz41_2 := blk_frozen BK555.out 2; have hfz41_3 := blk_frozen BK555.out 3; have hfz41_4 := blk_frozen BK555.out 4; have hfz41_5 := blk_frozen BK555.out 5; have hfz41_6 := blk_frozen BK555.out 6; have hfz41_7 := blk_frozen BK555.out 7; have hnb42 := NB546_547.out; have hnc42 := NB547_546.out; have hcz43_0 : w38.cell? ⟨gb546, 0, none⟩ = some (.int .i64 x547000_4) := (blk_cell BK546.out 0).trans rfl; have hcz43_1 : w38.cell? ⟨gb546, 1, none⟩ = some (.int .i64 x547001_4) := (blk_cell BK546.out 1).trans rfl; have hfz43_0 := blk_frozen BK546.out 0; have hfz43_1 := blk_frozen BK546.out 1))
                         refine bodyPost_ret (results_cell_row rfl _ _ gb546 125 #[.int .i64 x11_3, .int .i64 x12_4] (0, 0) _ rfl (by (with_reducible repeat (first | refine blk_drewN ?_ _ | refine blk_drew ?_ | refine blk_alloc ?_ _)); refine blk_put (cs := #[.int .i64 x11_3, .int .i64 x547001_4]) ?_ 1 _ rfl; (with_reducible repeat (first | refine blk_drewN ?_ _ | refine blk_drew ?_ | refine blk_alloc ?_ _)); refine blk_put (cs := #[.int .i64 x547000_4, .int .i64 x547001_4]) ?_ 0 _ rfl; (with_reducible repeat (first | refine blk_drewN ?_ _ | refine blk_drew ?_ | refine blk_alloc ?_ _)); refine blk_far ?_ NB546_555.out _; (with_reducible repeat (first | refine blk_drewN ?_ _ | refine blk_drew ?_ | refine blk_alloc ?_ _)); refine blk_far ?_ NB546_555.out _; (with_reducible repeat (first | refine blk_drewN ?_ _ | refine blk_drew ?_ | refine blk_alloc ?_ _)); refine blk_far ?_ NB546_555.out _; (with_reducible repeat (first | refine blk_drewN ?_ _ | refine blk_drew ?_ | refine blk_alloc ?_ _)); refine blk_far ?_ NB546_555.out _; (with_reducible repeat (first | refine blk_drewN ?_ _ | refine blk_drew ?_ | refine blk_alloc ?_ _)); refine blk_far ?_ NB546_555.out _; (with_reducible repeat (first | refine blk_drewN ?_ _ | refine blk_drew ?_ | refine blk_alloc ?_ _)); refine blk_far ?_ NB546_555.out _; (with_reducible repeat (first | refine blk_drewN ?_ _ | refine blk_drew ?_ | refine blk_alloc ?_ _)); refine blk_far ?_ NB546_555.out _; (with_reducible repeat (first | refine blk_drewN ?_ _ | refine blk_drew ?_ | refine blk_alloc ?_ _)); refine blk_far ?_ NB546_555.out _; (with_reducible repeat (first | refine blk_drewN ?_ _ | refine blk_drew ?_ | refine blk_alloc ?_ _)); exact BK546.out) Try.underlying125 rfl (by kernel_rfl)) rfl ?_
                         exact ⟨by first | rfl | (simp [errW_none, errW_some] <;> rfl) | (simp [*, errW_none, errW_some] <;> rfl), by repeat (first | (with_reducible first | exact HB.out | apply below_alloc | apply pw_below_drewN | apply below_drew1 | refine below_set ?_ GE546.out | refine below_set ?_ GE547.out | refine below_set ?_ GE555.out) | exact HB.out)⟩
                       · rw [if_neg c37] at H
                         have c37b0 : (((rd_T130 ((rd_T68 l0 x11_3).f0) x12_4).f2) == x10_2) = false := beq_eq_false_iff_ne.mpr c37
                         have c37b1 : (((rd_T130 ((rd_T68 l0 x11_3).f0) x12_4).f2) != x10_2) = true := bne_iff_ne.mpr c37
                         have H' := Aside0.mk H
                         clear H
                         have p552 : 0 ≤ (x11_3 : Int) := of_decide_eq_true (by first | (with_reducible assumption) | assumption)
                         have q552 : x11_3 < (l0.length : Int) := of_decide_eq_true (by first | (with_reducible assumption) | assumption)
                         obtain ⟨ad552, A552_0, c552_0, e552, hx552_0, hl552_0, hi552_0⟩ := at_T68 (Kd.V_reads' HO_0.out).2.2 x11_3 p552 q552
                         cases e552
                         obtain ⟨ce552, hce552, hMe552, hcc552⟩ := Kd.V_get HO_0.out z68 x11_3 p552 (by first | exact q552 | exact of_decide_eq_true (by first | (with_reducible assumption) | assumption) | (have e_ := (Kd.V_reads' HO_0.out).1; omega))
                         obtain ⟨ua552_0, uc552_0, rfl, ul552_0, ge552_0⟩ := k68_openF hMe552
                         have hv552_0 := hcc552 0 _ rfl
                         rw [Nat.add_zero, show (k68).sz = 1 from rfl, Nat.mul_one] at hv552_0
                         replace hv552_0 := Option.some.inj (hv552_0.symm.trans hx552_0)
                         injection hv552_0 with hva_ hvn_ hvc_
                         rw [hva_] at ge552_0
                         rw [hvc_] at ul552_0
                         have HL552_0 := Aside0.mk (show Kd.V k130 130 _ w.heap.size _ _ ((rd_T68 l0 x11_3).f0) from Kd.V_mk ul552_0 ge552_0)
                         clear hva_ hvn_ hvc_ ge552_0 ul552_0
                         clear hcc552 hce552
                         have HR552_0 := Aside0.mk hi552_0
                         have HC552_0 := Aside0.mk hl552_0
                         clear hi552_0 hl552_0
                         replace p552 := eq_true p552
                         replace q552 := eq_true q552
                         have p553 : 0 ≤ (x11_3 : Int) := of_decide_eq_true (by first | (with_reducible assumption) | assumption)
                         have q553 : x11_3 < (l0.length : Int) := of_decide_eq_true (by first | (with_reducible assumption) | assumption)
                         obtain ⟨ad553, A553_0, c553_0, e553, hx553_0, hl553_0, hi553_0⟩ := at_T68 (Kd.V_reads' HO_0.out).2.2 x11_3 p553 q553
                         obtain rfl : ad552 = ad553 := (by injection e553)
                         obtain ⟨ce553, hce553, hMe553, hcc553⟩ := Kd.V_get HO_0.out z68 x11_3 p553 (by first | exact q553 | exact of_decide_eq_true (by first | (with_reducible assumption) | assumption) | (have e_ := (Kd.V_reads' HO_0.out).1; omega))
                         obtain ⟨ua553_0, uc553_0, rfl, ul553_0, ge553_0⟩ := k68_openF hMe553
                         have hv553_0 := hcc553 0 _ rfl
                         rw [Nat.add_zero, show (k68).sz = 1 from rfl, Nat.mul_one] at hv553_0
                         replace hv553_0 := Option.some.inj (hv553_0.symm.trans hx553_0)
                         injection hv553_0 with hva_ hvn_ hvc_
                         rw [hva_] at ge553_0
                         rw [hvc_] at ul553_0
                         have HL553_0 := Aside0.mk (show Kd.V k130 130 _ w.heap.size _ _ ((rd_T68 l0 x11_3).f0) from Kd.V_mk ul553_0 ge553_0)
                         clear hva_ hvn_ hvc_ ge553_0 ul553_0
                         clear hcc553 hce553
                         have HR553_0 := Aside0.mk hi553_0
                         have HC553_0 := Aside0.mk hl553_0
                         clear hi553_0 hl553_0
                         replace p553 := eq_true p553
                         replace q553 := eq_true q553
                         have ea_ := Option.some.inj (hx552_0.symm.trans hx553_0)
                         injection ea_ with ea_ en_ ec_
                         subst ea_
                         subst ec_
                         clear en_
                         have p554 : 0 ≤ (x12_4 : Int) := of_decide_eq_true (by first | (with_reducible assumption) | assumption)
                         have q554 : x12_4 < (((rd_T68 l0 x11_3).f0).length : Int) := of_decide_eq_true (by first | (with_reducible assumption) | assumption)
                         obtain ⟨ad554, A554_4, c554_4, A554_6, c554_6, A554_7, c554_7, e554, hx554_0, hx554_1, hx554_2, hx554_3, hx554_4, hx554_5, hx554_6, hx554_7, hl554_4, hi554_4, hl554_6, hi554_6, hl554_7, hi554_7⟩ := at_T130 (by repeat (first | (with_reducible exact HR553_0.out) | (with_reducible refine Kd.C_alloc ?_ _) | (with_reducible refine Kd.C_drewN ?_ _) | (with_reducible refine Kd.C_drew ?_) | exact HR553_0.out)) x12_4 p554 q554
                         cases e554
                         obtain ⟨ce554, hce554, hMe554, hcc554⟩ := Kd.V_get HL553_0.out z130 x12_4 p554 (by first | exact q554 | exact of_decide_eq_true (by first | (with_reducible assumption) | assumption) | (have e_ := (Kd.V_reads' HL553_0.out).1; omega))
                         obtain ⟨ua554_4, uc554_4, ua554_6, uc554_6, ua554_7, uc554_7, rfl, ul554_4, ge554_4, ul554_6, ge554_6, ul554_7, ge554_7⟩ := k130_openF hMe554
                         have hv554_4 := hcc554 4 _ rfl
                         rw [add_field _ _ 4 (by omega)] at hv554_4
                         replace hv554_4 := Option.some.inj (hv554_4.symm.trans hx554_4)
                         injection hv554_4 with hva_ hvn_ hvc_
                         rw [hva_] at ge554_4
                         rw [hvc_] at ul554_4
                         have HL554_4 := Aside0.mk (show Kd.V (Kd.int .i64) 2 _ w.heap.size _ _ ((rd_T130 ((rd_T68 l0 x11_3).f0) x12_4).f4) from Kd.V_mk ul554_4 ge554_4)
                         clear hva_ hvn_ hvc_ ge554_4 ul554_4
                         have hv554_6 := hcc554 6 _ rfl
                         rw [add_field _ _ 6 (by omega)] at hv554_6
                         replace hv554_6 := Option.some.inj (hv554_6.symm.trans hx554_6)
                         injection hv554_6 with hva_ hvn_ hvc_
                         rw [hva_] at ge554_6
                         rw [hvc_] at ul554_6
                         have HL554_6 := Aside0.mk (show Kd.V (Kd.int .u8) 5 _ w.heap.size _ _ ((rd_T130 ((rd_T68 l0 x11_3).f0) x12_4).f6) from Kd.V_mk ul554_6 ge554_6)
                         clear hva_ hvn_ hvc_ ge554_6 ul554_6
                         have hv554_7 := hcc554 7 _ rfl
                         rw [add_field _ _ 7 (by omega)] at hv554_7
                         replace hv554_7 := Option.some.inj (hv554_7.symm.trans hx554_7)
                         injection hv554_7 with hva_ hvn_ hvc_
                         rw [hva_] at ge554_7
                         rw [hvc_] at ul554_7
                         have HL554_7 := Aside0.mk (show Kd.V k132 132 _ w.heap.size _ _ ((rd_T130 ((rd_T68 l0 x11_3).f0) x12_4).f7) from Kd.V_mk ul554_7 ge554_7)
                         clear hva_ hvn_ hvc_ ge554_7 ul554_7
                         clear hcc554 hce554
                         have HR554_4 := Aside0.mk hi554_4
                         have HC554_4 := Aside0.mk hl554_4
                         clear hi554_4 hl554_4
                         have HR554_6 := Aside0.mk hi554_6
                         have HC554_6 := Aside0.mk hl554_6
                         clear hi554_6 hl554_6
                         have HR554_7 := Aside0.mk hi554_7
                         have HC554_7 := Aside0.mk hl554_7
                         clear hi554_7 hl554_7
                         replace p554 := eq_true p554
                         replace q554 := eq_true q554
                         go_wp2_with (first | ((with_reducible refine gate_dst (N := 13) rfl ?_); refine box_event ?hg (N := 13) ?hd (cs := #[.string (⟨#[]⟩ : ByteArray), .int .i64 0, .int .i64 0, .int .i64 0, .slice none 0 0, .int .i64 0, .slice none 0 0, .slice none 0 0]) (t := 130) ?hr ?_; (case hd => rfl); (case hg => rfl); (case hr => first | (go_simp; done) | (go_simp; rfl)); intro gb555 hg w44 hbox hb; have n0_ := Aside0.mk (Kd.V_below (Kd.V_elderB (by (with_reducible repeat (first | apply Kd.V_alloc | apply Kd.V_drewN | apply Kd.V_drew)); exact HO_0.out) gb555 (Nat.le_of_eq hg.symm)) hb); have n1_ := Aside0.mk (Kd.V_below (Kd.V_elderB (by (with_reducible repeat (first | apply Kd.V_alloc | apply Kd.V_drewN | apply Kd.V_drew)); exact HL552_0.out) gb555 (Nat.le_of_eq hg.symm)) hb); have n2_ := Aside0.mk (Kd.V_below (Kd.V_elderB (by (with_reducible repeat (first | apply Kd.V_alloc | apply Kd.V_drewN | apply Kd.V_drew)); exact HL553_0.out) gb555 (Nat.le_of_eq hg.symm)) hb); have n3_ := Aside0.mk (Kd.V_below (Kd.V_elderB (by (with_reducible repeat (first | apply Kd.V_alloc | apply Kd.V_drewN | apply Kd.V_drew)); exact HL554_4.out) gb555 (Nat.le_of_eq hg.symm)) hb); have n4_ := Aside0.mk (Kd.V_below (Kd.V_elderB (by (with_reducible repeat (first | apply Kd.V_alloc | apply Kd.V_drewN | apply Kd.V_drew)); exact HL554_6.out) gb555 (Nat.le_of_eq hg.symm)) hb); have n5_ := Aside0.mk (Kd.V_below (Kd.V_elderB (by (with_reducible repeat (first | apply Kd.V_alloc | apply Kd.V_drewN | apply Kd.V_drew)); exact HL554_7.out) gb555 (Nat.le_of_eq hg.symm)) hb); have n6_ := Aside0.mk (blk_below (g := gb546) (o := .cells #[.int .i64 x547000_4, .int .i64 x547001_4] 125 (0, 0)) (by (with_reducible repeat (first | refine blk_drewN ?_ _ | refine blk_drew ?_ | refine blk_alloc ?_ _)); exact BK546.out) hb); have n7_ := Aside0.mk (blk_below (g := gb547) (o := .cells #[.int .i64 (-1), .int .i64 (-1)] 125 (0, 0)) (by (with_reducible repeat (first | refine blk_drewN ?_ _ | refine blk_drew ?_ | refine blk_alloc ?_ _)); exact BK547.out) hb); have n8_ := Aside0.mk (Kd.C_below (by repeat (first | (with_reducible exact HR552_0.out) | (with_reducible refine Kd.C_alloc ?_ _) | (with_reducible refine Kd.C_drewN ?_ _) | (with_reducible refine Kd.C_drew ?_) | exact HR552_0.out)) hb); have n9_ := Aside0.mk (Kd.C_below (by repeat (first | (with_reducible exact HR553_0.out) | (with_reducible refine Kd.C_alloc ?_ _) | (with_reducible refine Kd.C_drewN ?_ _) | (with_reducible refine Kd.C_drew ?_) | exact HR553_0.out)) hb); have n10_ := Aside0.mk (Kd.C_below (by repeat (first | (with_reducible exact HR554_4.out) | (with_reducible refine Kd.C_alloc ?_ _) | (with_reducible refine Kd.C_drewN ?_ _) | (with_reducible refine Kd.C_drew ?_) | exact HR554_4.out)) hb); have n11_ := Aside0.mk (Kd.C_below (by repeat (first | (with_reducible exact HR554_6.out) | (with_reducible refine Kd.C_alloc ?_ _) | (with_reducible refine Kd.C_drewN ?_ _) | (with_reducible refine Kd.C_drew ?_) | exact HR554_6.out)) hb); have n12_ := Aside0.mk (Kd.C_below (by repeat (first | (with_reducible exact HR554_7.out) | (with_reducible refine Kd.C_alloc ?_ _) | (with_reducible refine Kd.C_drewN ?_ _) | (with_reducible refine Kd.C_drew ?_) | exact HR554_7.out)) hb); have n13_ := Aside0.mk (below_step (by repeat (first | (with_reducible first | exact HB.out | apply below_alloc | apply pw_below_drewN | apply below_drew1 | refine below_set ?_ GE546.out | refine below_set ?_ GE547.out) | exact HB.out)) hb); have n14_ := Aside0.mk (hbox); have n15_ := Aside0.mk ((by rw [hg]; exact (below_size (by repeat (first | (with_reducible first | exact HB.out | apply below_alloc | apply pw_below_drewN | apply below_drew1 | refine below_set ?_ GE546.out | refine below_set ?_ GE547.out) | exact HB.out))) : w.heap.size ≤ gb555)); have n16_ := Aside0.mk ((by rw [hg]; exact (below_size (by repeat (first | (with_reducible first | exact HB.out | apply below_alloc | apply pw_below_drewN | apply below_drew1 | refine below_set ?_ GE546.out | refine below_set ?_ GE547.out) | exact HB.out))) : w.heap.size ≤ gb555)); have n17_ := Aside0.mk ((by rw [hg]; exact Nat.ne_of_lt (blk_lt (g := gb546) (o := .cells #[.int .i64 x547000_4, .int .i64 x547001_4] 125 (0, 0)) (by (with_reducible repeat (first | refine blk_drewN ?_ _ | refine blk_drew ?_ | refine blk_alloc ?_ _)); exact BK546.out)) : gb546 ≠ gb555)); have n18_ := Aside0.mk ((by rw [hg]; exact Nat.ne_of_gt (blk_lt (g := gb546) (o := .cells #[.int .i64 x547000_4, .int .i64 x547001_4] 125 (0, 0)) (by (with_reducible repeat (first | refine blk_drewN ?_ _ | refine blk_drew ?_ | refine blk_alloc ?_ _)); exact BK546.out)) : gb555 ≠ gb546)); have n19_ := Aside0.mk ((by rw [hg]; exact Nat.ne_of_lt (blk_lt (g := gb547) (o := .cells #[.int .i64 (-1), .int .i64 (-1)] 125 (0, 0)) (by (with_reducible repeat (first | refine blk_drewN ?_ _ | refine blk_drew ?_ | refine blk_alloc ?_ _)); exact BK547.out)) : gb547 ≠ gb555)); have n20_ := Aside0.mk ((by rw [hg]; exact Nat.ne_of_gt (blk_lt (g := gb547) (o := .cells #[.int .i64 (-1), .int .i64 (-1)] 125 (0, 0)) (by (with_reducible repeat (first | refine blk_drewN ?_ _ | refine blk_drew ?_ | refine blk_alloc ?_ _)); exact BK547.out)) : gb555 ≠ gb547)); clear HO_0; clear HL552_0; clear HL553_0; clear HL554_4; clear HL554_6; clear HL554_7; clear BK546; clear BK547; clear HR552_0; clear HR553_0; clear HR554_4; clear HR554_6; clear HR554_7; clear HB; have HO_0 := n0_; have HL552_0 := n1_; have HL553_0 := n2_; have HL554_4 := n3_; have HL554_6 := n4_; have HL554_7 := n5_; have BK546 := n6_; have BK547 := n7_; have HR552_0 := n8_; have HR553_0 := n9_; have HR554_4 := n10_; have HR554_6 := n11_; have HR554_7 := n12_; have HB := n13_; have BK555 := n14_; have GW555 := n15_; have GE555 := n16_; have NB546_555 := n17_; have NB555_546 := n18_; have NB547_555 := n19_; have NB555_547 := n20_; clear n0_ n1_ n2_ n3_ n4_ n5_ n6_ n7_ n8_ n9_ n10_ n11_ n12_ n13_ n14_ n15_ n16_ n17_ n18_ n19_ n20_; clear hb hbox hg; have hnb45 := NB555_546.out; have hnc45 := NB546_555.out; have hnb46 := NB555_547.out; have hnc46 := NB547_555.out; have hcz47_0 : w44.cell? ⟨gb555, 0, none⟩ = some (.string (⟨#[]⟩ : ByteArray)) := (blk_cell BK555.out 0).trans rfl; have hcz47_1 : w44.cell? ⟨gb555, 1, none⟩ = some (.int .i64 0) := (blk_cell BK555.out 1).trans rfl; have hcz47_2 : w44.cell? ⟨gb555, 2, none⟩ = some (.int .i64 0) := (blk_cell BK555.out 2).trans rfl; have hcz47_3 : w44.cell? ⟨gb555, 3, none⟩ = some (.int .i64 0) := (blk_cell BK555.out 3).trans rfl; have hcz47_4 : w44.cell? ⟨gb555, 4, none⟩ = some (.slice none 0 0) := (blk_cell BK555.out 4).trans rfl; have hcz47_5 : w44.cell? ⟨gb555, 5, none⟩ = some (.int .i64 0) := (blk_cell BK555.out 5).trans rfl; have hcz47_6 : w44.cell? ⟨gb555, 6, none⟩ = some (.slice none 0 0) := (blk_cell BK555.out 6).trans rfl; have hcz47_7 : w44.cell? ⟨gb555, 7, none⟩ = some (.slice none 0 0) := (blk_cell BK555.out 7).trans rfl; have hfz47_0 := blk_frozen BK555.out 0; have hfz47_1 := blk_frozen BK555.out 1; have hfz47_2 := blk_frozen BK555.out 2; have hfz47_3 := blk_frozen BK555.out 3; have hfz47_4 := blk_frozen BK555.out 4; have hfz47_5 := blk_frozen BK555.out 5; have hfz47_6 := blk_frozen BK555.out 6; have hfz47_7 := blk_frozen BK555.out 7))
                         go_roundg k4
                         case measure => have := HJ3.out; have := HK2.out; have := HK3.out; have := HK4.out; omega
                         case rel => exact ⟨(wrap64 (x12_4 + 1)), (x547000_4), (x547001_4), (by first | rfl | (simp; done) | (simp [*]; done)), H', ⟨by have := HJ3.out; have := HK2.out; have := HK3.out; have := HK4.out; omega⟩, ⟨by (with_reducible repeat (first | apply Kd.V_alloc | apply Kd.V_drewN | apply Kd.V_drew)); exact Kd.V_mono (Kd.V_far (p := ⟨gb555, 7, none⟩) (Kd.V_far (p := ⟨gb555, 6, none⟩) (Kd.V_far (p := ⟨gb555, 5, none⟩) (Kd.V_far (p := ⟨gb555, 4, none⟩) (Kd.V_far (p := ⟨gb555, 3, none⟩) (Kd.V_far (p := ⟨gb555, 2, none⟩) (Kd.V_far (p := ⟨gb555, 1, none⟩) (Kd.V_far (p := ⟨gb555, 0, none⟩) (Kd.V_mono HO_0.out (fun k_ hk => (⟨hk, hk.2⟩ : _ ∧ k_ ≠ gb555))) (fun _ hk => hk.2) (.string ((rd_T130 ((rd_T68 l0 x11_3).f0) x12_4).f0))) (fun _ hk => hk.2) (.int .i64 ((rd_T130 ((rd_T68 l0 x11_3).f0) x12_4).f1))) (fun _ hk => hk.2) (.int .i64 ((rd_T130 ((rd_T68 l0 x11_3).f0) x12_4).f2))) (fun _ hk => hk.2) (.int .i64 ((rd_T130 ((rd_T68 l0 x11_3).f0) x12_4).f3))) (fun _ hk => hk.2) (.slice A554_4 ((rd_T130 ((rd_T68 l0 x11_3).f0) x12_4).f4).length c554_4)) (fun _ hk => hk.2) (.int .i64 ((rd_T130 ((rd_T68 l0 x11_3).f0) x12_4).f5))) (fun _ hk => hk.2) (.slice A554_6 ((rd_T130 ((rd_T68 l0 x11_3).f0) x12_4).f6).length c554_6)) (fun _ hk => hk.2) (.slice A554_7 ((rd_T130 ((rd_T68 l0 x11_3).f0) x12_4).f7).length c554_7)) (fun _ hk => ⟨hk.1.1.1, ⟨hk.1.1.2.1, hk.1.1.2.2⟩⟩)⟩, ⟨by (with_reducible repeat (first | refine blk_drewN ?_ _ | refine blk_drew ?_ | refine blk_alloc ?_ _)); refine blk_far ?_ NB546_555.out _; (with_reducible repeat (first | refine blk_drewN ?_ _ | refine blk_drew ?_ | refine blk_alloc ?_ _)); refine blk_far ?_ NB546_555.out _; (with_reducible repeat (first | refine blk_drewN ?_ _ | refine blk_drew ?_ | refine blk_alloc ?_ _)); refine blk_far ?_ NB546_555.out _; (with_reducible repeat (first | refine blk_drewN ?_ _ | refine blk_drew ?_ | refine blk_alloc ?_ _)); refine blk_far ?_ NB546_555.out _; (with_reducible repeat (first | refine blk_drewN ?_ _ | refine blk_drew ?_ | refine blk_alloc ?_ _)); refine blk_far ?_ NB546_555.out _; (with_reducible repeat (first | refine blk_drewN ?_ _ | refine blk_drew ?_ | refine blk_alloc ?_ _)); refine blk_far ?_ NB546_555.out _; (with_reducible repeat (first | refine blk_drewN ?_ _ | refine blk_drew ?_ | refine blk_alloc ?_ _)); refine blk_far ?_ NB546_555.out _; (with_reducible repeat (first | refine blk_drewN ?_ _ | refine blk_drew ?_ | refine blk_alloc ?_ _)); refine blk_far ?_ NB546_555.out _; (with_reducible repeat (first | refine blk_drewN ?_ _ | refine blk_drew ?_ | refine blk_alloc ?_ _)); exact BK546.out⟩, ⟨by (with_reducible repeat (first | refine blk_drewN ?_ _ | refine blk_drew ?_ | refine blk_alloc ?_ _)); refine blk_far ?_ NB547_555.out _; (with_reducible repeat (first | refine blk_drewN ?_ _ | refine blk_drew ?_ | refine blk_alloc ?_ _)); refine blk_far ?_ NB547_555.out _; (with_reducible repeat (first | refine blk_drewN ?_ _ | refine blk_drew ?_ | refine blk_alloc ?_ _)); refine blk_far ?_ NB547_555.out _; (with_reducible repeat (first | refine blk_drewN ?_ _ | refine blk_drew ?_ | refine blk_alloc ?_ _)); refine blk_far ?_ NB547_555.out _; (with_reducible repeat (first | refine blk_drewN ?_ _ | refine blk_drew ?_ | refine blk_alloc ?_ _)); refine blk_far ?_ NB547_555.out _; (with_reducible repeat (first | refine blk_drewN ?_ _ | refine blk_drew ?_ | refine blk_alloc ?_ _)); refine blk_far ?_ NB547_555.out _; (with_reducible repeat (first | refine blk_drewN ?_ _ | refine blk_drew ?_ | refine blk_alloc ?_ _)); refine blk_far ?_ NB547_555.out _; (with_reducible repeat (first | refine blk_drewN ?_ _ | refine blk_drew ?_ | refine blk_alloc ?_ _)); refine blk_far ?_ NB547_555.out _; (with_reducible repeat (first | refine blk_drewN ?_ _ | refine blk_drew ?_ | refine blk_alloc ?_ _)); exact BK547.out⟩, ⟨by repeat (first | (with_reducible first | exact HB.out | apply below_alloc | apply pw_below_drewN | apply below_drew1 | refine below_set ?_ GE546.out | refine below_set ?_ GE547.out | refine below_set ?_ GE555.out) | exact HB.out)⟩⟩
                     · rw [if_neg c36] at H
                       have c36b0 : (((rd_T130 ((rd_T68 l0 x11_3).f0) x12_4).f0).toList == a2.toList) = false := beq_eq_false_iff_ne.mpr c36
                       have c36b1 : (((rd_T130 ((rd_T68 l0 x11_3).f0) x12_4).f0).toList != a2.toList) = true := bne_iff_ne.mpr c36
                       have H' := Aside0.mk H
                       clear H
                       have p552 : 0 ≤ (x11_3 : Int) := of_decide_eq_true (by first | (with_reducible assumption) | assumption)
                       have q552 : x11_3 < (l0.length : Int) := of_decide_eq_true (by first | (with_reducible assumption) | assumption)
                       obtain ⟨ad552, A552_0, c552_0, e552, hx552_0, hl552_0, hi552_0⟩ := at_T68 (Kd.V_reads' HO_0.out).2.2 x11_3 p552 q552
                       cases e552
                       obtain ⟨ce552, hce552, hMe552, hcc552⟩ := Kd.V_get HO_0.out z68 x11_3 p552 (by first | exact q552 | exact of_decide_eq_true (by first | (with_reducible assumption) | assumption) | (have e_ := (Kd.V_reads' HO_0.out).1; omega))
                       obtain ⟨ua552_0, uc552_0, rfl, ul552_0, ge552_0⟩ := k68_openF hMe552
                       have hv552_0 := hcc552 0 _ rfl
                       rw [Nat.add_zero, show (k68).sz = 1 from rfl, Nat.mul_one] at hv552_0
                       replace hv552_0 := Option.some.inj (hv552_0.symm.trans hx552_0)
                       injection hv552_0 with hva_ hvn_ hvc_
                       rw [hva_] at ge552_0
                       rw [hvc_] at ul552_0
                       have HL552_0 := Aside0.mk (show Kd.V k130 130 _ w.heap.size _ _ ((rd_T68 l0 x11_3).f0) from Kd.V_mk ul552_0 ge552_0)
                       clear hva_ hvn_ hvc_ ge552_0 ul552_0
                       clear hcc552 hce552
                       have HR552_0 := Aside0.mk hi552_0
                       have HC552_0 := Aside0.mk hl552_0
                       clear hi552_0 hl552_0
                       replace p552 := eq_true p552
                       replace q552 := eq_true q552
                       have p553 : 0 ≤ (x11_3 : Int) := of_decide_eq_true (by first | (with_reducible assumption) | assumption)
                       have q553 : x11_3 < (l0.length : Int) := of_decide_eq_true (by first | (with_reducible assumption) | assumption)
                       obtain ⟨ad553, A553_0, c553_0, e553, hx553_0, hl553_0, hi553_0⟩ := at_T68 (Kd.V_reads' HO_0.out).2.2 x11_3 p553 q553
                       obtain rfl : ad552 = ad553 := (by injection e553)
                       obtain ⟨ce553, hce553, hMe553, hcc553⟩ := Kd.V_get HO_0.out z68 x11_3 p553 (by first | exact q553 | exact of_decide_eq_true (by first | (with_reducible assumption) | assumption) | (have e_ := (Kd.V_reads' HO_0.out).1; omega))
                       obtain ⟨ua553_0, uc553_0, rfl, ul553_0, ge553_0⟩ := k68_openF hMe553
                       have hv553_0 := hcc553 0 _ rfl
                       rw [Nat.add_zero, show (k68).sz = 1 from rfl, Nat.mul_one] at hv553_0
                       replace hv553_0 := Option.some.inj (hv553_0.symm.trans hx553_0)
                       injection hv553_0 with hva_ hvn_ hvc_
                       rw [hva_] at ge553_0
                       rw [hvc_] at ul553_0
                       have HL553_0 := Aside0.mk (show Kd.V k130 130 _ w.heap.size _ _ ((rd_T68 l0 x11_3).f0) from Kd.V_mk ul553_0 ge553_0)
                       clear hva_ hvn_ hvc_ ge553_0 ul553_0
                       clear hcc553 hce553
                       have HR553_0 := Aside0.mk hi553_0
                       have HC553_0 := Aside0.mk hl553_0
                       clear hi553_0 hl553_0
                       replace p553 := eq_true p553
                       replace q553 := eq_true q553
                       have ea_ := Option.some.inj (hx552_0.symm.trans hx553_0)
                       injection ea_ with ea_ en_ ec_
                       subst ea_
                       subst ec_
                       clear en_
                       have p554 : 0 ≤ (x12_4 : Int) := of_decide_eq_true (by first | (with_reducible assumption) | assumption)
                       have q554 : x12_4 < (((rd_T68 l0 x11_3).f0).length : Int) := of_decide_eq_true (by first | (with_reducible assumption) | assumption)
                       obtain ⟨ad554, A554_4, c554_4, A554_6, c554_6, A554_7, c554_7, e554, hx554_0, hx554_1, hx554_2, hx554_3, hx554_4, hx554_5, hx554_6, hx554_7, hl554_4, hi554_4, hl554_6, hi554_6, hl554_7, hi554_7⟩ := at_T130 (by repeat (first | (with_reducible exact HR553_0.out) | (with_reducible refine Kd.C_alloc ?_ _) | (with_reducible refine Kd.C_drewN ?_ _) | (with_reducible refine Kd.C_drew ?_) | exact HR553_0.out)) x12_4 p554 q554
                       cases e554
                       obtain ⟨ce554, hce554, hMe554, hcc554⟩ := Kd.V_get HL553_0.out z130 x12_4 p554 (by first | exact q554 | exact of_decide_eq_true (by first | (with_reducible assumption) | assumption) | (have e_ := (Kd.V_reads' HL553_0.out).1; omega))
                       obtain ⟨ua554_4, uc554_4, ua554_6, uc554_6, ua554_7, uc554_7, rfl, ul554_4, ge554_4, ul554_6, ge554_6, ul554_7, ge554_7⟩ := k130_openF hMe554
                       have hv554_4 := hcc554 4 _ rfl
                       rw [add_field _ _ 4 (by omega)] at hv554_4
                       replace hv554_4 := Option.some.inj (hv554_4.symm.trans hx554_4)
                       injection hv554_4 with hva_ hvn_ hvc_
                       rw [hva_] at ge554_4
                       rw [hvc_] at ul554_4
                       have HL554_4 := Aside0.mk (show Kd.V (Kd.int .i64) 2 _ w.heap.size _ _ ((rd_T130 ((rd_T68 l0 x11_3).f0) x12_4).f4) from Kd.V_mk ul554_4 ge554_4)
                       clear hva_ hvn_ hvc_ ge554_4 ul554_4
                       have hv554_6 := hcc554 6 _ rfl
                       rw [add_field _ _ 6 (by omega)] at hv554_6
                       replace hv554_6 := Option.some.inj (hv554_6.symm.trans hx554_6)
                       injection hv554_6 with hva_ hvn_ hvc_
                       rw [hva_] at ge554_6
                       rw [hvc_] at ul554_6
                       have HL554_6 := Aside0.mk (show Kd.V (Kd.int .u8) 5 _ w.heap.size _ _ ((rd_T130 ((rd_T68 l0 x11_3).f0) x12_4).f6) from Kd.V_mk ul554_6 ge554_6)
                       clear hva_ hvn_ hvc_ ge554_6 ul554_6
                       have hv554_7 := hcc554 7 _ rfl
                       rw [add_field _ _ 7 (by omega)] at hv554_7
                       replace hv554_7 := Option.some.inj (hv554_7.symm.trans hx554_7)
                       injection hv554_7 with hva_ hvn_ hvc_
                       rw [hva_] at ge554_7
                       rw [hvc_] at ul554_7
                       have HL554_7 := Aside0.mk (show Kd.V k132 132 _ w.heap.size _ _ ((rd_T130 ((rd_T68 l0 x11_3).f0) x12_4).f7) from Kd.V_mk ul554_7 ge554_7)
                       clear hva_ hvn_ hvc_ ge554_7 ul554_7
                       clear hcc554 hce554
                       have HR554_4 := Aside0.mk hi554_4
                       have HC554_4 := Aside0.mk hl554_4
                       clear hi554_4 hl554_4
                       have HR554_6 := Aside0.mk hi554_6
                       have HC554_6 := Aside0.mk hl554_6
                       clear hi554_6 hl554_6
                       have HR554_7 := Aside0.mk hi554_7
                       have HC554_7 := Aside0.mk hl554_7
                       clear hi554_7 hl554_7
                       replace p554 := eq_true p554
                       replace q554 := eq_true q554
                       go_wp2_with (first | ((with_reducible refine gate_dst (N := 13) rfl ?_); refine box_event ?hg (N := 13) ?hd (cs := #[.string (⟨#[]⟩ : ByteArray), .int .i64 0, .int .i64 0, .int .i64 0, .slice none 0 0, .int .i64 0, .slice none 0 0, .slice none 0 0]) (t := 130) ?hr ?_; (case hd => rfl); (case hg => rfl); (case hr => first | (go_simp; done) | (go_simp; rfl)); intro gb555 hg w48 hbox hb; have n0_ := Aside0.mk (Kd.V_below (Kd.V_elderB (by (with_reducible repeat (first | apply Kd.V_alloc | apply Kd.V_drewN | apply Kd.V_drew)); exact HO_0.out) gb555 (Nat.le_of_eq hg.symm)) hb); have n1_ := Aside0.mk (Kd.V_below (Kd.V_elderB (by (with_reducible repeat (first | apply Kd.V_alloc | apply Kd.V_drewN | apply Kd.V_drew)); exact HL552_0.out) gb555 (Nat.le_of_eq hg.symm)) hb); have n2_ := Aside0.mk (Kd.V_below (Kd.V_elderB (by (with_reducible repeat (first | apply Kd.V_alloc | apply Kd.V_drewN | apply Kd.V_drew)); exact HL553_0.out) gb555 (Nat.le_of_eq hg.symm)) hb); have n3_ := Aside0.mk (Kd.V_below (Kd.V_elderB (by (with_reducible repeat (first | apply Kd.V_alloc | apply Kd.V_drewN | apply Kd.V_drew)); exact HL554_4.out) gb555 (Nat.le_of_eq hg.symm)) hb); have n4_ := Aside0.mk (Kd.V_below (Kd.V_elderB (by (with_reducible repeat (first | apply Kd.V_alloc | apply Kd.V_drewN | apply Kd.V_drew)); exact HL554_6.out) gb555 (Nat.le_of_eq hg.symm)) hb); have n5_ := Aside0.mk (Kd.V_below (Kd.V_elderB (by (with_reducible repeat (first | apply Kd.V_alloc | apply Kd.V_drewN | apply Kd.V_drew)); exact HL554_7.out) gb555 (Nat.le_of_eq hg.symm)) hb); have n6_ := Aside0.mk (blk_below (g := gb546) (o := .cells #[.int .i64 x547000_4, .int .i64 x547001_4] 125 (0, 0)) (by (with_reducible repeat (first | refine blk_drewN ?_ _ | refine blk_drew ?_ | refine blk_alloc ?_ _)); exact BK546.out) hb); have n7_ := Aside0.mk (blk_below (g := gb547) (o := .cells #[.int .i64 (-1), .int .i64 (-1)] 125 (0, 0)) (by (with_reducible repeat (first | refine blk_drewN ?_ _ | refine blk_drew ?_ | refine blk_alloc ?_ _)); exact BK547.out) hb); have n8_ := Aside0.mk (Kd.C_below (by repeat (first | (with_reducible exact HR552_0.out) | (with_reducible refine Kd.C_alloc ?_ _) | (with_reducible refine Kd.C_drewN ?_ _) | (with_reducible refine Kd.C_drew ?_) | exact HR552_0.out)) hb); have n9_ := Aside0.mk (Kd.C_below (by repeat (first | (with_reducible exact HR553_0.out) | (with_reducible refine Kd.C_alloc ?_ _) | (with_reducible refine Kd.C_drewN ?_ _) | (with_reducible refine Kd.C_drew ?_) | exact HR553_0.out)) hb); have n10_ := Aside0.mk (Kd.C_below (by repeat (first | (with_reducible exact HR554_4.out) | (with_reducible refine Kd.C_alloc ?_ _) | (with_reducible refine Kd.C_drewN ?_ _) | (with_reducible refine Kd.C_drew ?_) | exact HR554_4.out)) hb); have n11_ := Aside0.mk (Kd.C_below (by repeat (first | (with_reducible exact HR554_6.out) | (with_reducible refine Kd.C_alloc ?_ _) | (with_reducible refine Kd.C_drewN ?_ _) | (with_reducible refine Kd.C_drew ?_) | exact HR554_6.out)) hb); have n12_ := Aside0.mk (Kd.C_below (by repeat (first | (with_reducible exact HR554_7.out) | (with_reducible refine Kd.C_alloc ?_ _) | (with_reducible refine Kd.C_drewN ?_ _) | (with_reducible refine Kd.C_drew ?_) | exact HR554_7.out)) hb); have n13_ := Aside0.mk (below_step (by repeat (first | (with_reducible first | exact HB.out | apply below_alloc | apply pw_below_drewN | apply below_drew1 | refine below_set ?_ GE546.out | refine below_set ?_ GE547.out) | exact HB.out)) hb); have n14_ := Aside0.mk (hbox); have n15_ := Aside0.mk ((by rw [hg]; exact (below_size (by repeat (first | (with_reducible first | exact HB.out | apply below_alloc | apply pw_below_drewN | apply below_drew1 | refine below_set ?_ GE546.out | refine below_set ?_ GE547.out) | exact HB.out))) : w.heap.size ≤ gb555)); have n16_ := Aside0.mk ((by rw [hg]; exact (below_size (by repeat (first | (with_reducible first | exact HB.out | apply below_alloc | apply pw_below_drewN | apply below_drew1 | refine below_set ?_ GE546.out | refine below_set ?_ GE547.out) | exact HB.out))) : w.heap.size ≤ gb555)); have n17_ := Aside0.mk ((by rw [hg]; exact Nat.ne_of_lt (blk_lt (g := gb546) (o := .cells #[.int .i64 x547000_4, .int .i64 x547001_4] 125 (0, 0)) (by (with_reducible repeat (first | refine blk_drewN ?_ _ | refine blk_drew ?_ | refine blk_alloc ?_ _)); exact BK546.out)) : gb546 ≠ gb555)); have n18_ := Aside0.mk ((by rw [hg]; exact Nat.ne_of_gt (blk_lt (g := gb546) (o := .cells #[.int .i64 x547000_4, .int .i64 x547001_4] 125 (0, 0)) (by (with_reducible repeat (first | refine blk_drewN ?_ _ | refine blk_drew ?_ | refine blk_alloc ?_ _)); exact BK546.out)) : gb555 ≠ gb546)); have n19_ := Aside0.mk ((by rw [hg]; exact Nat.ne_of_lt (blk_lt (g := gb547) (o := .cells #[.int .i64 (-1), .int .i64 (-1)] 125 (0, 0)) (by (with_reducible repeat (first | refine blk_drewN ?_ _ | refine blk_drew ?_ | refine blk_alloc ?_ _)); exact BK547.out)) : gb547 ≠ gb555)); have n20_ := Aside0.mk ((by rw [hg]; exact Nat.ne_of_gt (blk_lt (g := gb547) (o := .cells #[.int .i64 (-1), .int .i64 (-1)] 125 (0, 0)) (by (with_reducible repeat (first | refine blk_drewN ?_ _ | refine blk_drew ?_ | refine blk_alloc ?_ _)); exact BK547.out)) : gb555 ≠ gb547)); clear HO_0; clear HL552_0; clear HL553_0; clear HL554_4; clear HL554_6; clear HL554_7; clear BK546; clear BK547; clear HR552_0; clear HR553_0; clear HR554_4; clear HR554_6; clear HR554_7; clear HB; have HO_0 := n0_; have HL552_0 := n1_; have HL553_0 := n2_; have HL554_4 := n3_; have HL554_6 := n4_; have HL554_7 := n5_; have BK546 := n6_; have BK547 := n7_; have HR552_0 := n8_; have HR553_0 := n9_; have HR554_4 := n10_; have HR554_6 := n11_; have HR554_7 := n12_; have HB := n13_; have BK555 := n14_; have GW555 := n15_; have GE555 := n16_; have NB546_555 := n17_; have NB555_546 := n18_; have NB547_555 := n19_; have NB555_547 := n20_; clear n0_ n1_ n2_ n3_ n4_ n5_ n6_ n7_ n8_ n9_ n10_ n11_ n12_ n13_ n14_ n15_ n16_ n17_ n18_ n19_ n20_; clear hb hbox hg; have hnb49 := NB555_546.out; have hnc49 := NB546_555.out; have hnb50 := NB555_547.out; have hnc50 := NB547_555.out; have hcz51_0 : w48.cell? ⟨gb555, 0, none⟩ = some (.string (⟨#[]⟩ : ByteArray)) := (blk_cell BK555.out 0).trans rfl; have hcz51_1 : w48.cell? ⟨gb555, 1, none⟩ = some (.int .i64 0) := (blk_cell BK555.out 1).trans rfl; have hcz51_2 : w48.cell? ⟨gb555, 2, none⟩ = some (.int .i64 0) := (blk_cell BK555.out 2).trans rfl; have hcz51_3 : w48.cell? ⟨gb555, 3, none⟩ = some (.int .i64 0) := (blk_cell BK555.out 3).trans rfl; have hcz51_4 : w48.cell? ⟨gb555, 4, none⟩ = some (.slice none 0 0) := (blk_cell BK555.out 4).trans rfl; have hcz51_5 : w48.cell? ⟨gb555, 5, none⟩ = some (.int .i64 0) := (blk_cell BK555.out 5).trans rfl; have hcz51_6 : w48.cell? ⟨gb555, 6, none⟩ = some (.slice none 0 0) := (blk_cell BK555.out 6).trans rfl; have hcz51_7 : w48.cell? ⟨gb555, 7, none⟩ = some (.slice none 0 0) := (blk_cell BK555.out 7).trans rfl; have hfz51_0 := blk_frozen BK555.out 0; have hfz51_1 := blk_frozen BK555.out 1; have hfz51_2 := blk_frozen BK555.out 2; have hfz51_3 := blk_frozen BK555.out 3; have hfz51_4 := blk_frozen BK555.out 4; have hfz51_5 := blk_frozen BK555.out 5; have hfz51_6 := blk_frozen BK555.out 6; have hfz51_7 := blk_frozen BK555.out 7))
                       go_roundg k4
                       case measure => have := HJ3.out; have := HK2.out; have := HK3.out; have := HK4.out; omega
                       case rel => exact ⟨(wrap64 (x12_4 + 1)), (x547000_4), (x547001_4), (by first | rfl | (simp; done) | (simp [*]; done)), H', ⟨by have := HJ3.out; have := HK2.out; have := HK3.out; have := HK4.out; omega⟩, ⟨by (with_reducible repeat (first | apply Kd.V_alloc | apply Kd.V_drewN | apply Kd.V_drew)); exact Kd.V_mono (Kd.V_far (p := ⟨gb555, 7, none⟩) (Kd.V_far (p := ⟨gb555, 6, none⟩) (Kd.V_far (p := ⟨gb555, 5, none⟩) (Kd.V_far (p := ⟨gb555, 4, none⟩) (Kd.V_far (p := ⟨gb555, 3, none⟩) (Kd.V_far (p := ⟨gb555, 2, none⟩) (Kd.V_far (p := ⟨gb555, 1, none⟩) (Kd.V_far (p := ⟨gb555, 0, none⟩) (Kd.V_mono HO_0.out (fun k_ hk => (⟨hk, hk.2⟩ : _ ∧ k_ ≠ gb555))) (fun _ hk => hk.2) (.string ((rd_T130 ((rd_T68 l0 x11_3).f0) x12_4).f0))) (fun _ hk => hk.2) (.int .i64 ((rd_T130 ((rd_T68 l0 x11_3).f0) x12_4).f1))) (fun _ hk => hk.2) (.int .i64 ((rd_T130 ((rd_T68 l0 x11_3).f0) x12_4).f2))) (fun _ hk => hk.2) (.int .i64 ((rd_T130 ((rd_T68 l0 x11_3).f0) x12_4).f3))) (fun _ hk => hk.2) (.slice A554_4 ((rd_T130 ((rd_T68 l0 x11_3).f0) x12_4).f4).length c554_4)) (fun _ hk => hk.2) (.int .i64 ((rd_T130 ((rd_T68 l0 x11_3).f0) x12_4).f5))) (fun _ hk => hk.2) (.slice A554_6 ((rd_T130 ((rd_T68 l0 x11_3).f0) x12_4).f6).length c554_6)) (fun _ hk => hk.2) (.slice A554_7 ((rd_T130 ((rd_T68 l0 x11_3).f0) x12_4).f7).length c554_7)) (fun _ hk => ⟨hk.1.1.1, ⟨hk.1.1.2.1, hk.1.1.2.2⟩⟩)⟩, ⟨by (with_reducible repeat (first | refine blk_drewN ?_ _ | refine blk_drew ?_ | refine blk_alloc ?_ _)); refine blk_far ?_ NB546_555.out _; (with_reducible repeat (first | refine blk_drewN ?_ _ | refine blk_drew ?_ | refine blk_alloc ?_ _)); refine blk_far ?_ NB546_555.out _; (with_reducible repeat (first | refine blk_drewN ?_ _ | refine blk_drew ?_ | refine blk_alloc ?_ _)); refine blk_far ?_ NB546_555.out _; (with_reducible repeat (first | refine blk_drewN ?_ _ | refine blk_drew ?_ | refine blk_alloc ?_ _)); refine blk_far ?_ NB546_555.out _; (with_reducible repeat (first | refine blk_drewN ?_ _ | refine blk_drew ?_ | refine blk_alloc ?_ _)); refine blk_far ?_ NB546_555.out _; (with_reducible repeat (first | refine blk_drewN ?_ _ | refine blk_drew ?_ | refine blk_alloc ?_ _)); refine blk_far ?_ NB546_555.out _; (with_reducible repeat (first | refine blk_drewN ?_ _ | refine blk_drew ?_ | refine blk_alloc ?_ _)); refine blk_far ?_ NB546_555.out _; (with_reducible repeat (first | refine blk_drewN ?_ _ | refine blk_drew ?_ | refine blk_alloc ?_ _)); refine blk_far ?_ NB546_555.out _; (with_reducible repeat (first | refine blk_drewN ?_ _ | refine blk_drew ?_ | refine blk_alloc ?_ _)); exact BK546.out⟩, ⟨by (with_reducible repeat (first | refine blk_drewN ?_ _ | refine blk_drew ?_ | refine blk_alloc ?_ _)); refine blk_far ?_ NB547_555.out _; (with_reducible repeat (first | refine blk_drewN ?_ _ | refine blk_drew ?_ | refine blk_alloc ?_ _)); refine blk_far ?_ NB547_555.out _; (with_reducible repeat (first | refine blk_drewN ?_ _ | refine blk_drew ?_ | refine blk_alloc ?_ _)); refine blk_far ?_ NB547_555.out _; (with_reducible repeat (first | refine blk_drewN ?_ _ | refine blk_drew ?_ | refine blk_alloc ?_ _)); refine blk_far ?_ NB547_555.out _; (with_reducible repeat (first | refine blk_drewN ?_ _ | refine blk_drew ?_ | refine blk_alloc ?_ _)); refine blk_far ?_ NB547_555.out _; (with_reducible repeat (first | refine blk_drewN ?_ _ | refine blk_drew ?_ | refine blk_alloc ?_ _)); refine blk_far ?_ NB547_555.out _; (with_reducible repeat (first | refine blk_drewN ?_ _ | refine blk_drew ?_ | refine blk_alloc ?_ _)); refine blk_far ?_ NB547_555.out _; (with_reducible repeat (first | refine blk_drewN ?_ _ | refine blk_drew ?_ | refine blk_alloc ?_ _)); refine blk_far ?_ NB547_555.out _; (with_reducible repeat (first | refine blk_drewN ?_ _ | refine blk_drew ?_ | refine blk_alloc ?_ _)); exact BK547.out⟩, ⟨by repeat (first | (with_reducible first | exact HB.out | apply below_alloc | apply pw_below_drewN | apply below_drew1 | refine below_set ?_ GE546.out | refine below_set ?_ GE547.out | refine below_set ?_ GE555.out) | exact HB.out)⟩⟩
                   · rw [if_neg c35] at H
                     exact absurd H (by simp)
                 · rw [if_neg c34] at H
                   have c34b0 : decide (x12_4 < (((rd_T68 l0 x11_3).f0).length : Int)) = false := decide_eq_false c34
                   clear c34
                   have H' := Aside0.mk H
                   clear H
                   have p552 : 0 ≤ (x11_3 : Int) := of_decide_eq_true (by first | (with_reducible assumption) | assumption)
                   have q552 : x11_3 < (l0.length : Int) := of_decide_eq_true (by first | (with_reducible assumption) | assumption)
                   obtain ⟨ad552, A552_0, c552_0, e552, hx552_0, hl552_0, hi552_0⟩ := at_T68 (Kd.V_reads' HO_0.out).2.2 x11_3 p552 q552
                   cases e552
                   obtain ⟨ce552, hce552, hMe552, hcc552⟩ := Kd.V_get HO_0.out z68 x11_3 p552 (by first | exact q552 | exact of_decide_eq_true (by first | (with_reducible assumption) | assumption) | (have e_ := (Kd.V_reads' HO_0.out).1; omega))
                   obtain ⟨ua552_0, uc552_0, rfl, ul552_0, ge552_0⟩ := k68_openF hMe552
                   have hv552_0 := hcc552 0 _ rfl
                   rw [Nat.add_zero, show (k68).sz = 1 from rfl, Nat.mul_one] at hv552_0
                   replace hv552_0 := Option.some.inj (hv552_0.symm.trans hx552_0)
                   injection hv552_0 with hva_ hvn_ hvc_
                   rw [hva_] at ge552_0
                   rw [hvc_] at ul552_0
                   have HL552_0 := Aside0.mk (show Kd.V k130 130 _ w.heap.size _ _ ((rd_T68 l0 x11_3).f0) from Kd.V_mk ul552_0 ge552_0)
                   clear hva_ hvn_ hvc_ ge552_0 ul552_0
                   clear hcc552 hce552
                   have HR552_0 := Aside0.mk hi552_0
                   have HC552_0 := Aside0.mk hl552_0
                   clear hi552_0 hl552_0
                   replace p552 := eq_true p552
                   replace q552 := eq_true q552
                   go_wp2
                   go_roundg k4
                   case measure => have := HJ3.out; have := HK2.out; have := HK3.out; have := HK4.out; omega
                   case rel => exact ⟨(wrap64 (x11_3 + 1)), (x547000_4), (x547001_4), (by first | rfl | (simp; done) | (simp [*]; done)), H', ⟨by have := HJ3.out; have := HK2.out; have := HK3.out; have := HK4.out; omega⟩, ⟨by (with_reducible repeat (first | apply Kd.V_alloc | apply Kd.V_drewN | apply Kd.V_drew)); exact HO_0.out⟩, ⟨by (with_reducible repeat (first | refine blk_drewN ?_ _ | refine blk_drew ?_ | refine blk_alloc ?_ _)); exact BK546.out⟩, ⟨by (with_reducible repeat (first | refine blk_drewN ?_ _ | refine blk_drew ?_ | refine blk_alloc ?_ _)); exact BK547.out⟩, ⟨by repeat (first | (with_reducible first | exact HB.out | apply below_alloc | apply pw_below_drewN | apply below_drew1 | refine below_set ?_ GE546.out | refine below_set ?_ GE547.out) | exact HB.out)⟩⟩
               · rw [if_neg c33] at H
                 exact absurd H (by simp)
             · rw [if_neg c32] at H
               exact absurd H (by simp)
         · rw [if_neg c31] at H
           have c31b0 : decide (x11_3 < (l0.length : Int)) = false := decide_eq_false c31
           clear c31
           have H' := Aside0.mk H
           clear H
           go_wp2
           go_roundg k3
           case measure => have := HJ3.out; have := HK2.out; have := HK3.out; omega
           case rel => exact ⟨(wrap64 (x10_2 + 1)), (x547000_3), (x547001_3), (by first | rfl | (simp; done) | (simp [*]; done)), H', ⟨by have := HJ3.out; have := HK2.out; have := HK3.out; omega⟩, ⟨by (with_reducible repeat (first | apply Kd.V_alloc | apply Kd.V_drewN | apply Kd.V_drew)); exact HO_0.out⟩, ⟨by (with_reducible repeat (first | refine blk_drewN ?_ _ | refine blk_drew ?_ | refine blk_alloc ?_ _)); exact BK546.out⟩, ⟨by (with_reducible repeat (first | refine blk_drewN ?_ _ | refine blk_drew ?_ | refine blk_alloc ?_ _)); exact BK547.out⟩, ⟨by repeat (first | (with_reducible first | exact HB.out | apply below_alloc | apply pw_below_drewN | apply below_drew1 | refine below_set ?_ GE546.out | refine below_set ?_ GE547.out) | exact HB.out)⟩⟩
     · rw [if_neg c30] at H
       have c30b0 : decide (x10_2 ≤ 2) = false := decide_eq_false c30
       clear c30
       simp only [Option.some.injEq, Prod.mk.injEq] at H
       obtain ⟨rfl, rfl⟩ := H
       have hnb52 := NB547_546.out
       have hnc52 := NB546_547.out
       have hcz53_0 : wr.cell? ⟨gb547, 0, none⟩ = some (.int .i64 (-1)) := (blk_cell BK547.out 0).trans rfl
       have hcz53_1 : wr.cell? ⟨gb547, 1, none⟩ = some (.int .i64 (-1)) := (blk_cell BK547.out 1).trans rfl
       have hfz53_0 := blk_frozen BK547.out 0
       have hfz53_1 := blk_frozen BK547.out 1
       have hcz54_0 : wr.cell? ⟨gb546, 0, none⟩ = some (.int .i64 x547000_2) := (blk_cell BK546.out 0).trans rfl
       have hcz54_1 : wr.cell? ⟨gb546, 1, none⟩ = some (.int .i64 x547001_2) := (blk_cell BK546.out 1).trans rfl
       have hfz54_0 := blk_frozen BK546.out 0
       have hfz54_1 := blk_frozen BK546.out 1
       go_wp2
       refine bodyPost_ret (results_cell_row rfl _ _ gb546 125 #[.int .i64 (-1), .int .i64 (-1)] (0, 0) _ rfl (by (with_reducible repeat (first | refine blk_drewN ?_ _ | refine blk_drew ?_ | refine blk_alloc ?_ _)); refine blk_put (cs := #[.int .i64 (-1), .int .i64 x547001_2]) ?_ 1 _ rfl; (with_reducible repeat (first | refine blk_drewN ?_ _ | refine blk_drew ?_ | refine blk_alloc ?_ _)); refine blk_put (cs := #[.int .i64 x547000_2, .int .i64 x547001_2]) ?_ 0 _ rfl; (with_reducible repeat (first | refine blk_drewN ?_ _ | refine blk_drew ?_ | refine blk_alloc ?_ _)); exact BK546.out) Try.underlying125 rfl (by kernel_rfl)) rfl ?_
       exact ⟨by first | rfl | (simp [errW_none, errW_some] <;> rfl) | (simp [*, errW_none, errW_some] <;> rfl), by repeat (first | (with_reducible first | exact HB.out | apply below_alloc | apply pw_below_drewN | apply below_drew1 | refine below_set ?_ GE546.out | refine below_set ?_ GE547.out) | exact HB.out)⟩

end Go.Proofs.Ythegbhfoleiegaa.All


namespace Go.Proofs.Ythegbhfoleiegaa.All
open Go.RowKit Go.Proofs.YthegbhfoleiegaaW.PrintWords Go.Proofs.YthegbhfoleiegaaW.PrintLast Go.Proofs.YthegbhfoleiegaaW.PrintMore
attribute [local go_sem] max2_int min2_int max_two min_two max_three min_three max_four min_four   -- for this text's walks alone
set_option linter.unusedVariables false
set_option linter.unusedSimpArgs false

/-! ### spec_l20Code: function 86 -/
def spec_l20Code.f (l0 : List (S68)) (a1_0 : Int) (a1_1 : Int) : Option (Bool) := if a1_0 ≥ 0 then (if 0 ≤ a1_0 then (if a1_0 < (l0.length : Int) then (if 0 ≤ a1_1 then (if a1_1 < (((rd_T68 l0 a1_0).f0).length : Int) then (some (((rd_T130 ((rd_T68 l0 a1_0).f0) a1_1).f1) == 1)) else (none)) else (none)) else (none)) else (none)) else (some false)
set_option maxHeartbeats 8000000 in
set_option maxRecDepth 100000 in
theorem spec_l20Code.calls (A0 : Option Addr) (c0 : Nat) (l0 : List (S68)) (a1_0 : Int) (a1_1 : Int) (r : Bool) (w : World) (hr0 : Kd.C k68 w A0 l0.length l0) (hc0 : l0.length ≤ c0) (h : spec_l20Code.f l0 a1_0 a1_1 = some r) :
 Calls Try.prog 86 #[.slice A0 l0.length c0, .agg #[.int .i64 a1_0, .int .i64 a1_1]] w fun e w' => e = .returned (.bool r) ∧ Below w.heap.size w w' := by
 have hu125 := Try.underlying125
 have HR0 := Aside0.mk hr0
 have HC0 := Aside0.mk hc0
 clear hr0 hc0
 have HB := Aside0.mk (Below.refl w.heap.size w)
 have H : (if a1_0 ≥ 0 then (if 0 ≤ a1_0 then (if a1_0 < (l0.length : Int) then (if 0 ≤ a1_1 then (if a1_1 < (((rd_T68 l0 a1_0).f0).length : Int) then (some (((rd_T130 ((rd_T68 l0 a1_0).f0) a1_1).f1) == 1)) else (none)) else (none)) else (none)) else (none)) else (some false)) = some r := h
 clear h
 by_cases c3 : a1_0 ≥ 0
 · rw [if_pos c3] at H
   have c3b0 : decide (0 ≤ a1_0) = true := decide_eq_true c3
   clear c3
   by_cases c4 : 0 ≤ a1_0
   · rw [if_pos c4] at H
     have c4b0 : decide (0 ≤ a1_0) = true := decide_eq_true c4
     clear c4
     by_cases c5 : a1_0 < (l0.length : Int)
     · rw [if_pos c5] at H
       have c5b0 : decide (a1_0 < (l0.length : Int)) = true := decide_eq_true c5
       clear c5
       by_cases c6 : 0 ≤ a1_1
       · rw [if_pos c6] at H
         have c6b0 : decide (0 ≤ a1_1) = true := decide_eq_true c6
         clear c6
         by_cases c7 : a1_1 < (((rd_T68 l0 a1_0).f0).length : Int)
         · rw [if_pos c7] at H
           have c7b0 : decide (a1_1 < (((rd_T68 l0 a1_0).f0).length : Int)) = true := decide_eq_true c7
           clear c7
           obtain rfl := Option.some.inj H
           go_enter Try.func86, Try.ntmps86
           go_wp2_with (first | ((with_reducible refine gate_dst (N := 3) rfl ?_); refine box_event ?hg (N := 3) ?hd (cs := #[.int .i64 a1_0, .int .i64 a1_1]) (t := 125) ?hr ?_; (case hd => rfl); (case hg => rfl); (case hr => first | (go_simp; done) | (go_simp; rfl)); intro gb556 hg w8 hbox hb; have n0_ := Aside0.mk (below_step (by repeat (first | (with_reducible first | exact HB.out | apply below_alloc | apply pw_below_drewN | apply below_drew1) | exact HB.out)) hb); have n1_ := Aside0.mk (hbox); have n2_ := Aside0.mk ((by rw [hg]; exact (below_size (by repeat (first | (with_reducible first | exact HB.out | apply below_alloc | apply pw_below_drewN | apply below_drew1) | exact HB.out))) : w.heap.size ≤ gb556)); have n3_ := Aside0.mk ((by rw [hg]; exact (below_size (by repeat (first | (with_reducible first | exact HB.out | apply below_alloc | apply pw_below_drewN | apply below_drew1) | exact HB.out))) : w.heap.size ≤ gb556)); clear HB; have HB := n0_; have BK556 := n1_; have GW556 := n2_; have GE556 := n3_; clear n0_ n1_ n2_ n3_; clear hb hbox hg; have hcz9_0 : w8.cell? ⟨gb556, 0, none⟩ = some (.int .i64 a1_0) := (blk_cell BK556.out 0).trans rfl; have hcz9_1 : w8.cell? ⟨gb556, 1, none⟩ = some (.int .i64 a1_1) := (blk_cell BK556.out 1).trans rfl; have hfz9_0 := blk_frozen BK556.out 0; have hfz9_1 := blk_frozen BK556.out 1; have p557 : 0 ≤ (a1_0 : Int) := of_decide_eq_true (by first | (with_reducible assumption) | assumption); have q557 : a1_0 < (l0.length : Int) := of_decide_eq_true (by first | (with_reducible assumption) | assumption); obtain ⟨ad557, A557_0, c557_0, e557, hx557_0, hl557_0, hi557_0⟩ := at_T68 HR0.out a1_0 p557 q557; cases e557; replace hx557_0 := (HB.out.cell (World.block_lt_of_cell? w _ hx557_0)).trans hx557_0; have HR557_0 := Aside0.mk hi557_0; have HC557_0 := Aside0.mk hl557_0; clear hi557_0 hl557_0; replace p557 := eq_true p557; replace q557 := eq_true q557; have p558 : 0 ≤ (a1_1 : Int) := of_decide_eq_true (by first | (with_reducible assumption) | assumption); have q558 : a1_1 < (((rd_T68 l0 a1_0).f0).length : Int) := of_decide_eq_true (by first | (with_reducible assumption) | assumption); obtain ⟨ad558, A558_4, c558_4, A558_6, c558_6, A558_7, c558_7, e558, hx558_0, hx558_1, hx558_2, hx558_3, hx558_4, hx558_5, hx558_6, hx558_7, hl558_4, hi558_4, hl558_6, hi558_6, hl558_7, hi558_7⟩ := at_T130 HR557_0.out a1_1 p558 q558; cases e558; replace hx558_0 := (HB.out.cell (World.block_lt_of_cell? w _ hx558_0)).trans hx558_0; replace hx558_1 := (HB.out.cell (World.block_lt_of_cell? w _ hx558_1)).trans hx558_1; replace hx558_2 := (HB.out.cell (World.block_lt_of_cell? w _ hx558_2)).trans hx558_2; replace hx558_3 := (HB.out.cell (World.block_lt_of_cell? w _ hx558_3)).trans hx558_3; replace hx558_4 := (HB.out.cell (World.block_lt_of_cell? w _ hx558_4)).trans hx558_4; replace hx558_5 := (HB.out.cell (World.block_lt_of_cell? w _ hx558_5)).trans hx558_5; replace hx558_6 := (HB.out.cell (World.block_lt_of_cell? w _ hx558_6)).trans hx558_6; replace hx558_7 := (HB.out.cell (World.block_lt_of_cell? w _ hx558_7)).trans hx558_7; have HR558_4 := Aside0.mk hi558_4; have HC558_4 := Aside0.mk hl558_4; clear hi558_4 hl558_4; have HR558_6 := Aside0.mk hi558_6; have HC558_6 := Aside0.mk hl558_6; clear hi558_6 hl558_6; have HR558_7 := Aside0.mk hi558_7; have HC558_7 := Aside0.mk hl558_7; clear hi558_7 hl558_7; replace p558 := eq_true p558; replace q558 := eq_true q558))
           repeat (go_quiet (first | ((with_reducible refine gate_dst (N := 3) rfl ?_); refine box_event ?hg (N := 3) ?hd (cs := #[.int .i64 a1_0, .int .i64 a1_1]) (t := 125) ?hr ?_; (case hd => rfl); (case hg => rfl); (case hr => first | (go_simp; done) | (go_simp; rfl)); intro gb556 hg w8 hbox hb; have n0_ := Aside0.mk (below_step (by repeat (first | (with_reducible first | exact HB.out | apply below_alloc | apply pw_below_drewN | apply below_drew1) | exact HB.out)) hb); have n1_ := Aside0.mk (hbox); have n2_ := Aside0.mk ((by rw [hg]; exact (below_size (by repeat (first | (with_reducible first | exact HB.out | apply below_alloc | apply pw_below_drewN | apply below_drew1) | exact HB.out))) : w.heap.size ≤ gb556)); have n3_ := Aside0.mk ((by rw [hg]; exact (below_size (by repeat (first | (with_reducible first | exact HB.out | apply below_alloc | apply pw_below_drewN | apply below_drew1) | exact HB.out))) : w.heap.size ≤ gb556)); clear HB; have HB := n0_; have BK556 := n1_; have GW556 := n2_; have GE556 := n3_; clear n0_ n1_ n2_ n3_; clear hb hbox hg; have hcz9_0 : w8.cell? ⟨gb556, 0, none⟩ = some (.int .i64 a1_0) := (blk_cell BK556.out 0).trans rfl; have hcz9_1 : w8.cell? ⟨gb556, 1, none⟩ = some (.int .i64 a1_1) := (blk_cell BK556.out 1).trans rfl; have hfz9_0 := blk_frozen BK556.out 0; have hfz9_1 := blk_frozen BK556.out 1; have p557 : 0 ≤ (a1_0 : Int) := of_decide_eq_true (by first | (with_reducible assumption) | assumption); have q557 : a1_0 < (l0.length : Int) := of_decide_eq_true (by first | (with_reducible assumption) | assumption); obtain ⟨ad557, A557_0, c557_0, e557, hx557_0, hl557_0, hi557_0⟩ := at_T68 HR0.out a1_0 p557 q557; cases e557; replace hx557_0 := (HB.out.cell (World.block_lt_of_cell? w _ hx557_0)).trans hx557_0; have HR557_0 := Aside0.mk hi557_0; have HC557_0 := Aside0.mk hl557_0; clear hi557_0 hl557_0; replace p557 := eq_true p557; replace q557 := eq_true q557; have p558 : 0 ≤ (a1_1 : Int) := of_decide_eq_true (by first | (with_reducible assumption) | assumption); have q558 : a1_1 < (((rd_T68 l0 a1_0).f0).length : Int) := of_decide_eq_true (by first | (with_reducible assumption) | assumption); obtain ⟨ad558, A558_4, c558_4, A558_6, c558_6, A558_7, c558_7, e558, hx558_0, hx558_1, hx558_2, hx558_3, hx558_4, hx558_5, hx558_6, hx558_7, hl558_4, hi558_4, hl558_6, hi558_6, hl558_7, hi558_7⟩ := at_T130 HR557_0.out a1_1 p558 q558; cases e558; replace hx558_0 := (HB.out.cell (World.block_lt_of_cell? w _ hx558_0)).trans hx558_0; replace hx558_1 := (HB.out.cell (World.block_lt_of_cell? w _ hx558_1)).trans hx558_1; replace hx558_2 := (HB.out.cell (World.block_lt_of_cell? w _ hx558_2)).trans hx558_2; replace hx558_3 := (HB.out.cell (World.block_lt_of_cell? w _ hx558_3)).trans hx558_3; replace hx558_4 := (HB.out.cell (World.block_lt_of_cell? w _ hx558_4)).trans hx558_4; replace hx558_5 := (HB.out.cell (World.block_lt_of_cell? w _ hx558_5)).trans hx558_5; replace hx558_6 := (HB.out.cell (World.block_lt_of_cell? w _ hx558_6)).trans hx558_6; replace hx558_7 := (HB.out.cell (World.block_lt_of_cell? w _ hx558_7)).trans hx558_7; have HR558_4 := Aside0.mk hi558_4; have HC558_4 := Aside0.mk hl558_4; clear hi558_4 hl558_4; have HR558_6 := Aside0.mk hi558_6; have HC558_6 := Aside0.mk hl558_6; clear hi558_6 hl558_6; have HR558_7 := Aside0.mk hi558_7; have HC558_7 := Aside0.mk hl558_7; clear hi558_7 hl558_7; replace p558 := eq_true p558; replace q558 := eq_true q558)); try go_wp2_with (first | ((with_reducible refine gate_dst (N := 3) rfl ?_); refine box_event ?hg (N := 3) ?hd (cs := #[.int .i64 a1_0, .int .i64 a1_1]) (t := 125) ?hr ?_; (case hd => rfl); (case hg => rfl); (case hr => first | (go_simp; done) | (go_simp; rfl)); intro gb556 hg w8 hbox hb; have n0_ := Aside0.mk (below_step (by repeat (first | (with_reducible first | exact HB.out | apply below_alloc | apply pw_below_drewN | apply below_drew1) | exact HB.out)) hb); have n1_ := Aside0.mk (hbox); have n2_ := Aside0.mk ((by rw [hg]; exact (below_size (by repeat (first | (with_reducible first | exact HB.out | apply below_alloc | apply pw_below_drewN | apply below_drew1) | exact HB.out))) : w.heap.size ≤ gb556)); have n3_ := Aside0.mk ((by rw [hg]; exact (below_size (by repeat (first | (with_reducible first | exact HB.out | apply below_alloc | apply pw_below_drewN | apply below_drew1) | exact HB.out))) : w.heap.size ≤ gb556)); clear HB; have HB := n0_; have BK556 := n1_; have GW556 := n2_; have GE556 := n3_; clear n0_ n1_ n2_ n3_; clear hb hbox hg; have hcz9_0 : w8.cell? ⟨gb556, 0, none⟩ = some (.int .i64 a1_0) := (blk_cell BK556.out 0).trans rfl; have hcz9_1 : w8.cell? ⟨gb556, 1, none⟩ = some (.int .i64 a1_1) := (blk_cell BK556.out 1).trans rfl; have hfz9_0 := blk_frozen BK556.out 0; have hfz9_1 := blk_frozen BK556.out 1; have p557 : 0 ≤ (a1_0 : Int) := of_decide_eq_true (by first | (with_reducible assumption) | assumption); have q557 : a1_0 < (l0.length : Int) := of_decide_eq_true (by first | (with_reducible assumption) | assumption); obtain ⟨ad557, A557_0, c557_0, e557, hx557_0, hl557_0, hi557_0⟩ := at_T68 HR0.out a1_0 p557 q557; cases e557; replace hx557_0 := (HB.out.cell (World.block_lt_of_cell? w _ hx557_0)).trans hx557_0; have HR557_0 := Aside0.mk hi557_0; have HC557_0 := Aside0.mk hl557_0; clear hi557_0 hl557_0; replace p557 := eq_true p557; replace q557 := eq_true q557; have p558 : 0 ≤ (a1_1 : Int) := of_decide_eq_true (by first | (with_reducible assumption) | assumption); have q558 : a1_1 < (((rd_T68 l0 a1_0).f0).length : Int) := of_decide_eq_true (by first | (with_reducible assumption) | assumption); obtain ⟨ad558, A558_4, c558_4, A558_6, c558_6, A558_7, c558_7, e558, hx558_0, hx558_1, hx558_2, hx558_3, hx558_4, hx558_5, hx558_6, hx558_7, hl558_4, hi558_4, hl558_6, hi558_6, hl558_7, hi558_7⟩ := at_T130 HR557_0.out a1_1 p558 q558; cases e558; replace hx558_0 := (HB.out.cell (World.block_lt_of_cell? w _ hx558_0)).trans hx558_0; replace hx558_1 := (HB.out.cell (World.block_lt_of_cell? w _ hx558_1)).trans hx558_1; replace hx558_2 := (HB.out.cell (World.block_lt_of_cell? w _ hx558_2)).trans hx558_2; replace hx558_3 := (HB.out.cell (World.block_lt_of_cell? w _ hx558_3)).trans hx558_3; replace hx558_4 := (HB.out.cell (World.block_lt_of_cell? w _ hx558_4)).trans hx558_4; replace hx558_5 := (HB.out.cell (World.block_lt_of_cell? w _ hx558_5)).trans hx558_5; replace hx558_6 := (HB.out.cell (World.block_lt_of_cell? w _ hx558_6)).trans hx558_6; replace hx558_7 := (HB.out.cell (World.block_lt_of_cell? w _ hx558_7)).trans hx558_7; have HR558_4 := Aside0.mk hi558_4; have HC558_4 := Aside0.mk hl558_4; clear hi558_4 hl558_4; have HR558_6 := Aside0.mk hi558_6; have HC558_6 := Aside0.mk hl558_6; clear hi558_6 hl558_6; have HR558_7 := Aside0.mk hi558_7; have HC558_7 := Aside0.mk hl558_7; clear hi558_7 hl558_7; replace p558 := eq_true p558; replace q558 := eq_true q558)))
           go_ret
           exact ⟨by first | rfl | (simp [errW_none, errW_some] <;> rfl) | (simp [*, errW_none, errW_some] <;> rfl), by repeat (first | (with_reducible first | exact HB.out | apply below_alloc | apply pw_below_drewN | apply below_drew1 | refine below_set ?_ GE556.out) | exact HB.out)⟩
         · rw [if_neg c7] at H
           exact absurd H (by simp)
       · rw [if_neg c6] at H
         exact absurd H (by simp)
     · rw [if_neg c5] at H
       exact absurd H (by simp)
   · rw [if_neg c4] at H
     exact absurd H (by simp)
 · rw [if_neg c3] at H
   have c3b0 : decide (0 ≤ a1_0) = false := decide_eq_false c3
   clear c3
   obtain rfl := Option.some.inj H
   go_enter Try.func86, Try.ntmps86
   go_wp2_with (first | ((with_reducible refine gate_dst (N := 3) rfl ?_); refine box_event ?hg (N := 3) ?hd (cs := #[.int .i64 a1_0, .int .i64 a1_1]) (t := 125) ?hr ?_; (case hd => rfl); (case hg => rfl); (case hr => first | (go_simp; done) | (go_simp; rfl)); intro gb556 hg w10 hbox hb; have n0_ := Aside0.mk (below_step (by repeat (first | (with_reducible first | exact HB.out | apply below_alloc | apply pw_below_drewN | apply below_drew1) | exact HB.out)) hb); have n1_ := Aside0.mk (hbox); have n2_ := Aside0.mk ((by rw [hg]; exact (below_size (by repeat (first | (with_reducible first | exact HB.out | apply below_alloc | apply pw_below_drewN | apply below_drew1) | exact HB.out))) : w.heap.size ≤ gb556)); have n3_ := Aside0.mk ((by rw [hg]; exact (below_size (by repeat (first | (with_reducible first | exact HB.out | apply below_alloc | apply pw_below_drewN | apply below_drew1) | exact HB.out))) : w.heap.size ≤ gb556)); clear HB; have HB := n0_; have BK556 := n1_; have GW556 := n2_; have GE556 := n3_; clear n0_ n1_ n2_ n3_; clear hb hbox hg; have hcz11_0 : w10.cell? ⟨gb556, 0, none⟩ = some (.int .i64 a1_0) := (blk_cell BK556.out 0).trans rfl; have hcz11_1 : w10.cell? ⟨gb556, 1, none⟩ = some (.int .i64 a1_1) := (blk_cell BK556.out 1).trans rfl; have hfz11_0 := blk_frozen BK556.out 0; have hfz11_1 := blk_frozen BK556.out 1))
   repeat (go_quiet (first | ((with_reducible refine gate_dst (N := 3) rfl ?_); refine box_event ?hg (N := 3) ?hd (cs := #[.int .i64 a1_0, .int .i64 a1_1]) (t := 125) ?hr ?_; (case hd => rfl); (case hg => rfl); (case hr => first | (go_simp; done) | (go_simp; rfl)); intro gb556 hg w10 hbox hb; have n0_ := Aside0.mk (below_step (by repeat (first | (with_reducible first | exact HB.out | apply below_alloc | apply pw_below_drewN | apply below_drew1) | exact HB.out)) hb); have n1_ := Aside0.mk (hbox); have n2_ := Aside0.mk ((by rw [hg]; exact (below_size (by repeat (first | (with_reducible first | exact HB.out | apply below_alloc | apply pw_below_drewN | apply below_drew1) | exact HB.out))) : w.heap.size ≤ gb556)); have n3_ := Aside0.mk ((by rw [hg]; exact (below_size (by repeat (first | (with_reducible first | exact HB.out | apply below_alloc | apply pw_below_drewN | apply below_drew1) | exact HB.out))) : w.heap.size ≤ gb556)); clear HB; have HB := n0_; have BK556 := n1_; have GW556 := n2_; have GE556 := n3_; clear n0_ n1_ n2_ n3_; clear hb hbox hg; have hcz11_0 : w10.cell? ⟨gb556, 0, none⟩ = some (.int .i64 a1_0) := (blk_cell BK556.out 0).trans rfl; have hcz11_1 : w10.cell? ⟨gb556, 1, none⟩ = some (.int .i64 a1_1) := (blk_cell BK556.out 1).trans rfl; have hfz11_0 := blk_frozen BK556.out 0; have hfz11_1 := blk_frozen BK556.out 1)); try go_wp2_with (first | ((with_reducible refine gate_dst (N := 3) rfl ?_); refine box_event ?hg (N := 3) ?hd (cs := #[.int .i64 a1_0, .int .i64 a1_1]) (t := 125) ?hr ?_; (case hd => rfl); (case hg => rfl); (case hr => first | (go_simp; done) | (go_simp; rfl)); intro gb556 hg w10 hbox hb; have n0_ := Aside0.mk (below_step (by repeat (first | (with_reducible first | exact HB.out | apply below_alloc | apply pw_below_drewN | apply below_drew1) | exact HB.out)) hb); have n1_ := Aside0.mk (hbox); have n2_ := Aside0.mk ((by rw [hg]; exact (below_size (by repeat (first | (with_reducible first | exact HB.out | apply below_alloc | apply pw_below_drewN | apply below_drew1) | exact HB.out))) : w.heap.size ≤ gb556)); have n3_ := Aside0.mk ((by rw [hg]; exact (below_size (by repeat (first | (with_reducible first | exact HB.out | apply below_alloc | apply pw_below_drewN | apply below_drew1) | exact HB.out))) : w.heap.size ≤ gb556)); clear HB; have HB := n0_; have BK556 := n1_; have GW556 := n2_; have GE556 := n3_; clear n0_ n1_ n2_ n3_; clear hb hbox hg; have hcz11_0 : w10.cell? ⟨gb556, 0, none⟩ = some (.int .i64 a1_0) := (blk_cell BK556.out 0).trans rfl; have hcz11_1 : w10.cell? ⟨gb556, 1, none⟩ = some (.int .i64 a1_1) := (blk_cell BK556.out 1).trans rfl; have hfz11_0 := blk_frozen BK556.out 0; have hfz11_1 := blk_frozen BK556.out 1)))
   go_ret
   exact ⟨by first | rfl | (simp [errW_none, errW_some] <;> rfl) | (simp [*, errW_none, errW_some] <;> rfl), by repeat (first | (with_reducible first | exact HB.out | apply below_alloc | apply pw_below_drewN | apply below_drew1 | refine below_set ?_ GE556.out) | exact HB.out)⟩

end Go.Proofs.Ythegbhfoleiegaa.All

