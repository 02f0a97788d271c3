/- Part 4 of the proof of FnExactIntervals: functions of the translation with what they return, and plain laws of these. Written by programs of this session over the kit's print, and by hand. -/
import Derived.Test.YthegbhfoleiegaaProg
import Derived.Test.YthegbhfoleiegaaCFnExactIntervalsWApart
import Derived.Test.YthegbhfoleiegaaCFnExactIntervalsWArr
import Derived.Test.YthegbhfoleiegaaCFnExactIntervalsWAt
import Derived.Test.YthegbhfoleiegaaCFnExactIntervalsWFoot
import Derived.Test.YthegbhfoleiegaaCFnExactIntervalsWFootNe
import Derived.Test.YthegbhfoleiegaaCFnExactIntervalsWGuard
import Derived.Test.YthegbhfoleiegaaCFnExactIntervalsWInv
import Derived.Test.YthegbhfoleiegaaCFnExactIntervalsWKept
import Derived.Test.YthegbhfoleiegaaCFnExactIntervalsWLast
import Derived.Test.YthegbhfoleiegaaCFnExactIntervalsWMore
import Derived.Test.YthegbhfoleiegaaCFnExactIntervalsWN
import Derived.Test.YthegbhfoleiegaaCFnExactIntervalsWNEv
import Derived.Test.YthegbhfoleiegaaCFnExactIntervalsWQPut
import Derived.Test.YthegbhfoleiegaaCFnExactIntervalsWRepsOne
import Derived.Test.YthegbhfoleiegaaCFnExactIntervalsWShare
import Derived.Test.YthegbhfoleiegaaCFnExactIntervalsWTab
import Derived.Test.YthegbhfoleiegaaCFnExactIntervalsWWords
import Derived.Test.YthegbhfoleiegaaCFnExactIntervalsWZeros
import Derived.Below
import Derived.Deep.Draws
import Derived.Deep.AppendLies
import Derived.Maps.AppendAt
import Derived.OwnWalk
import Derived.Laws.BytesArg
import Derived.Laws.MakeOwn
import Derived.Laws.OwnMore
import Derived.Deep.OwnRows
import Derived.Tactics
import Derived.Lib.ConvBytes
import Derived.Laws.Slices
import Derived.WalkKit
import Derived.KernelRfl
import Derived.RowKit3
import Derived.Deep.LoopGhost
import Derived.Deep.QuietTactic
import Derived.BigQuiet
import Derived.WideLaws
import Derived.Deep.DeepCutAuto
import Derived.Deep.CutBlock
import Derived.Deep.RegionHeld3
import Derived.Laws.Rows
import Derived.Lib.AppendStr
import Derived.ArgAppend
import Derived.Laws.IdiomCopy
import Derived.OrdersHeld
import Derived.Laws.BitsLemmas
import Derived.RowKit
import Derived.Laws.CopyOwn
import Derived.Maps.OwnSet
import Derived.Maps.OwnOps
import Derived.Maps.RangeWalk
import Derived.BigRegion
import Derived.Handy
import Derived.Shelf.GgSortFunc.Whole
import Derived.Shelf.GgSortFunc.Tiny
import Derived.Sort.OwnSortedInts
import Derived.Lib.RowBridge
import Derived.Lib.SortBridge
import Derived.Sort.LotA
import Derived.Deep.Slices
import Derived.ChangeArms
import Derived.ProofKit
import Derived.OpenShut
import Derived.ShutString
import Derived.ChangeOld
import Derived.SizedLaws
import Derived.Test.YthegbhfoleiegaaCFnExactIntervals1
import Derived.Test.YthegbhfoleiegaaCFnExactIntervals2
import Derived.Test.YthegbhfoleiegaaCFnExactIntervals3
/- Contracts of Go's library at this translation: laid by the shelf's lay-shelf.mjs and lay-plain.mjs, those that this session's claims use. -/
namespace Go.Proofs
open Go.Shelf
set_option linter.unusedVariables false
def Try.laysGg6_ren : Go.Shelf.Ren := ⟨fun | 6 => 125 | 10 => 131 | 11 => 132 | 12 => 134 | 13 => 158 | 14 => 159 | 24 => 190 | 25 => 191 | 26 => 169 | 27 => 192 | 28 => 193 | 29 => 194 | 30 => 195 | 31 => 196 | 32 => 197 | 33 => 198 | 34 => 212 | 35 => 213 | 36 => 214 | 37 => 215 | 38 => 216 | 39 => 219 | n => n, fun | 20 => 20 | 26 => 120 | 35 => 178 | 0 => 0 | 37 => 180 | 3 => 3 | 41 => 202 | 44 => 184 | 49 => 221 | 51 => 218 | 4 => 4 | 54 => 230 | 53 => 229 | 58 => 234 | 5 => 5 | 9 => 9 | 60 => 244 | 64 => 248 | 66 => 251 | 67 => 252 | 17 => 17 | 32 => 175 | 33 => 176 | 82 => 266 | 12 => 12 | 75 => 259 | 76 => 260 | 77 => 261 | 78 => 262 | 79 => 263 | 80 => 264 | n => n, fun | n => n⟩
theorem Try.laysGg6 : Go.Proofs.LaysGg.n6 Try.prog Try.laysGg6_ren := {
  mixed := by kernel_rfl
  f6 := Try.func125.trans (congrArg some (by kernel_rfl))
  f10 := Try.func131.trans (congrArg some (by kernel_rfl))
  f11 := Try.func132.trans (congrArg some (by kernel_rfl))
  f12 := Try.func134.trans (congrArg some (by kernel_rfl))
  f13 := Try.func158.trans (congrArg some (by kernel_rfl))
  f14 := Try.func159.trans (congrArg some (by kernel_rfl))
  f24 := Try.func190.trans (congrArg some (by kernel_rfl))
  f25 := Try.func191.trans (congrArg some (by kernel_rfl))
  f26 := Try.func169.trans (congrArg some (by kernel_rfl))
  f27 := Try.func192.trans (congrArg some (by kernel_rfl))
  f28 := Try.func193.trans (congrArg some (by kernel_rfl))
  f29 := Try.func194.trans (congrArg some (by kernel_rfl))
  f30 := Try.func195.trans (congrArg some (by kernel_rfl))
  f31 := Try.func196.trans (congrArg some (by kernel_rfl))
  f32 := Try.func197.trans (congrArg some (by kernel_rfl))
  f33 := Try.func198.trans (congrArg some (by kernel_rfl))
  f34 := Try.func212.trans (congrArg some (by kernel_rfl))
  f35 := Try.func213.trans (congrArg some (by kernel_rfl))
  f36 := Try.func214.trans (congrArg some (by kernel_rfl))
  f37 := Try.func215.trans (congrArg some (by kernel_rfl))
  f38 := Try.func216.trans (congrArg some (by kernel_rfl))
  f39 := Try.func219.trans (congrArg some (by kernel_rfl))
  t0 := Try.underlying0
  a0 := Try.isAgg0
  z0 := Try.sizeOf0
  v0 := Try.zeroValue0
  i0 := by kernel_rfl
  t3 := Try.underlying3
  a3 := Try.isAgg3
  z3 := Try.sizeOf3
  v3 := Try.zeroValue3
  i3 := by kernel_rfl
  t4 := Try.underlying4
  a4 := Try.isAgg4
  z4 := Try.sizeOf4
  v4 := Try.zeroValue4
  i4 := by kernel_rfl
  t5 := Try.underlying5
  a5 := Try.isAgg5
  z5 := Try.sizeOf5
  v5 := Try.zeroValue5
  i5 := by kernel_rfl
  t9 := Try.underlying9
  a9 := Try.isAgg9
  z9 := Try.sizeOf9
  v9 := Try.zeroValue9
  i9 := by kernel_rfl
  t12 := Try.underlying12
  a12 := Try.isAgg12
  z12 := Try.sizeOf12
  v12 := Try.zeroValue12
  i12 := by kernel_rfl
  t17 := Try.underlying17
  a17 := Try.isAgg17
  z17 := Try.sizeOf17
  v17 := Try.zeroValue17
  i17 := by kernel_rfl
  t20 := Try.underlying20
  a20 := Try.isAgg20
  z20 := Try.sizeOf20
  v20 := Try.zeroValue20
  i20 := by kernel_rfl
  t26 := Try.underlying120
  a26 := Try.isAgg120
  z26 := Try.sizeOf120
  v26 := Try.zeroValue120
  i26 := by kernel_rfl
  t32 := Try.underlying175
  a32 := Try.isAgg175
  z32 := Try.sizeOf175
  v32 := Try.zeroValue175
  i32 := by kernel_rfl
  t33 := Try.underlying176
  a33 := Try.isAgg176
  z33 := Try.sizeOf176
  v33 := Try.zeroValue176
  i33 := by kernel_rfl
  t35 := Try.underlying178
  a35 := Try.isAgg178
  z35 := Try.sizeOf178
  v35 := Try.zeroValue178
  i35 := by kernel_rfl
  t37 := Try.underlying180
  a37 := Try.isAgg180
  z37 := Try.sizeOf180
  v37 := Try.zeroValue180
  i37 := by kernel_rfl
  t41 := Try.underlying202
  a41 := Try.isAgg202
  z41 := Try.sizeOf202
  v41 := Try.zeroValue202
  i41 := by kernel_rfl
  t44 := Try.underlying184
  a44 := Try.isAgg184
  z44 := Try.sizeOf184
  v44 := Try.zeroValue184
  i44 := by kernel_rfl
  t49 := Try.underlying221
  a49 := Try.isAgg221
  z49 := Try.sizeOf221
  v49 := Try.zeroValue221
  i49 := by kernel_rfl
  t51 := Try.underlying218
  a51 := Try.isAgg218
  z51 := Try.sizeOf218
  v51 := Try.zeroValue218
  i51 := by kernel_rfl
  t53 := Try.underlying229
  a53 := Try.isAgg229
  z53 := Try.sizeOf229
  v53 := Try.zeroValue229
  i53 := by kernel_rfl
  t54 := Try.underlying230
  a54 := Try.isAgg230
  z54 := Try.sizeOf230
  v54 := Try.zeroValue230
  i54 := by kernel_rfl
  t58 := Try.underlying234
  a58 := Try.isAgg234
  z58 := Try.sizeOf234
  v58 := Try.zeroValue234
  i58 := by kernel_rfl
  t60 := Try.underlying244
  a60 := Try.isAgg244
  z60 := Try.sizeOf244
  v60 := Try.zeroValue244
  i60 := by kernel_rfl
  t64 := Try.underlying248
  a64 := Try.isAgg248
  z64 := Try.sizeOf248
  v64 := Try.zeroValue248
  i64 := by kernel_rfl
  t66 := Try.underlying251
  a66 := Try.isAgg251
  z66 := Try.sizeOf251
  v66 := Try.zeroValue251
  i66 := by kernel_rfl
  t67 := Try.underlying252
  a67 := Try.isAgg252
  z67 := Try.sizeOf252
  v67 := Try.zeroValue252
  i67 := by kernel_rfl
  t75 := Try.underlying259
  a75 := Try.isAgg259
  z75 := Try.sizeOf259
  v75 := Try.zeroValue259
  i75 := by kernel_rfl
  t76 := Try.underlying260
  a76 := Try.isAgg260
  z76 := Try.sizeOf260
  v76 := Try.zeroValue260
  i76 := by kernel_rfl
  t77 := Try.underlying261
  a77 := Try.isAgg261
  z77 := Try.sizeOf261
  v77 := Try.zeroValue261
  i77 := by kernel_rfl
  t78 := Try.underlying262
  a78 := Try.isAgg262
  z78 := Try.sizeOf262
  v78 := Try.zeroValue262
  i78 := by kernel_rfl
  t79 := Try.underlying263
  a79 := Try.isAgg263
  z79 := Try.sizeOf263
  v79 := Try.zeroValue263
  i79 := by kernel_rfl
  t80 := Try.underlying264
  a80 := Try.isAgg264
  z80 := Try.sizeOf264
  v80 := Try.zeroValue264
  i80 := by kernel_rfl
  t82 := Try.underlying266
  a82 := Try.isAgg266
  z82 := Try.sizeOf266
  v82 := Try.zeroValue266
  i82 := by kernel_rfl }
end Go.Proofs

/- sort.Slice at a row of int64 of the call's own, by the caller's own 'l[i] < l[j]' over the boxed row: the shelf's contract, told of rows. -/
namespace Go.Proofs.Ythegbhfoleiegaa.All
open Go.RowKit Go.Proofs.YthegbhfoleiegaaW.PrintWords Go.Proofs.YthegbhfoleiegaaW.PrintLast Go.Proofs.YthegbhfoleiegaaW.PrintMore
set_option linter.unusedVariables false
set_option linter.unusedSimpArgs false
open Go.Shelf Go.Lib Go.Sort
noncomputable def siT : TypeInfo := (Try.prog.info? 22).get (by kernel_rfl)
noncomputable def siE : TypeInfo := (Try.prog.info? 2).get (by kernel_rfl)
theorem siK (n : Nat) (h2 : 2 ≤ n) : Lib.swapperK n siE 6 = 5 := by
  have a : siE.hasPointers = false := by kernel_rfl
  have b : siE.bytes = 8 := by kernel_rfl
  have c : (n == 0) = false := by simp; omega
  have d : (n == 1) = false := by simp; omega
  simp [Lib.swapperK, a, b, c, d]
def sortI (xs : List Int) : List Int := xs.mergeSort fun x y => decide (x ≤ y)
theorem sortI_len (xs : List Int) : (sortI xs).length = xs.length := by unfold sortI; exact List.length_mergeSort _
theorem sortI_perm (xs : List Int) : (sortI xs).Perm xs := List.mergeSort_perm _ _
theorem ints_sorted_eq (d d' : Array Int) (hp : PermIn 0 d.size d d') (hs : SortedIn ltInt 0 d.size d') : d' = (sortI d.toList).toArray := by
  have h := sorted_unique_holds (lt := ltInt) swo_ltInt (fun x y h1 h2 => by simp only [ltInt, decide_eq_false_iff_not] at h1 h2; omega) d d' hp hs
  have e : (fun x y : Int => !ltInt y x) = fun x y => decide (x ≤ y) := by
    funext x y
    simp only [ltInt]
    by_cases h : x ≤ y
    · first | (simp [h]; done) | (simp [h]; omega)
    · first | (simp [h]; done) | (simp [h]; omega)
  rw [e] at h
  unfold sortI
  rw [← h]
set_option maxHeartbeats 2000000 in
set_option maxRecDepth 100000 in
theorem less_ints (blk off c Bs size : Nat) (W : World) (G : Nat → Int) (hs : W.cell? ⟨Bs, 0, none⟩ = some (.slice (some ⟨blk, off, none⟩) size c))
    (hc : ∀ t, t < size → W.cell? ⟨blk, off + t, none⟩ = some (.int .i64 (G t))) (i j : Nat) (hi : i < size) (hj : j < size) :
    Calls Try.prog 126 #[.int .i64 i, .int .i64 j, .pointer (some ⟨Bs, 0, none⟩)] W fun e w' => e = .returned (.bool (decide (G i < G j))) ∧ ∃ q, w' = W.drewN q := by
  have ci := hc i hi
  have cj := hc j hj
  go_enter Try.func126, Try.ntmps126
  go_wp2
  go_quiet (fail)
  go_wp2
  go_ret
  exact ⟨rfl, nq, rfl⟩
set_option maxHeartbeats 4000000 in
set_option maxRecDepth 100000 in
theorem sort_small (blk c Bs : Nat) (d : Array Int) (h2 : 2 ≤ d.size) (h12 : d.size < 4611686018427387904) (w : World) (hH : Holds (Value.int .i64) w blk 0 d) (hblk : blk < w.heap.size)
    (hBs : w.cell? ⟨Bs, 0, none⟩ = some (.slice (some ⟨blk, 0, none⟩) d.size c)) (hlt : Bs < w.heap.size) (hne : Bs ≠ blk) :
    Calls Try.prog 125 #[.iface 22 (.slice (some ⟨blk, 0, none⟩) d.size c), .func (.func 126) #[] #[.pointer (some ⟨Bs, 0, none⟩)]] w fun e w' =>
      e = .returned (.tuple #[]) ∧ ∃ n os, w' = grow (putRow (Value.int .i64) (Sort.ahead w n) blk 0 (sortI d.toList).toArray) os := by
  have hless : LessReads Try.prog 126 #[.pointer (some ⟨Bs, 0, none⟩)] (Value.int .i64) ltInt blk 0 d.size w := by
    intro m os dk hs i j hi hj
    have e : sortWorld (Value.int .i64) w blk 0 m dk os = putRow (Value.int .i64) (grow (Sort.ahead w m) os) blk 0 dk := by
      unfold sortWorld; rw [putRow_grow _ (Sort.ahead w m) _ blk 0 _ hblk]
    have hHg : Holds (Value.int .i64) (grow (Sort.ahead w m) os) blk 0 d := holds_grow _ _ _ blk 0 d hblk (holds_ahead _ _ _ _ _ _ hH)
    refine less_ints blk 0 c Bs d.size _ (fun t => dk[t]!) ?_ (fun t ht => ?_) i j hi hj
    · rw [e, cell?_putRow_other _ _ blk 0 dk _ (Or.inl hne), cell?_grow _ _ _ hlt]
      exact hBs
    · rw [e]; exact cell?_putRow _ _ blk 0 d dk hHg hs t (by omega)
  have hS := Any.sort_Slice_sorted Try.laysGg6 22 2 siT siE (by kernel_rfl) (by kernel_rfl) (by kernel_rfl) (by kernel_rfl) 6 (fun _ => by kernel_rfl) (by kernel_rfl) (fun _ => by kernel_rfl) (Value.int .i64) (fun _ => rfl) ltInt swo_ltInt 126 _
    (enters_of Try.func126 (by kernel_rfl) rfl) blk 0 c d h2 h12 164 (by rw [siK _ h2]; kernel_rfl) true
    (fun args W => run_callFunc_extern Try.func164 (by kernel_rfl) (by kernel_rfl) (by kernel_rfl) (e := Extern.ReflectliteSwapper.swap true) (by kernel_rfl) args W) _ hless hH hblk
  change Calls Try.prog 125 _ _ _ at hS
  refine hS.mono ?_
  rintro e w' ⟨rfl, d', n, os, hp, hso, rfl⟩
  rw [ints_sorted_eq d d' hp hso]
  exact ⟨rfl, n, os, rfl⟩
set_option maxHeartbeats 4000000 in
set_option maxRecDepth 100000 in
theorem sort_tiny (p : Option Addr) (n c Bs : Nat) (h1 : n ≤ 1) (w : World) :
    Calls Try.prog 125 #[.iface 22 (.slice p n c), .func (.func 126) #[] #[.pointer (some ⟨Bs, 0, none⟩)]] w fun e w' => e = .returned (.tuple #[]) ∧ ∃ os, w' = grow w os := by
  have hK : Lib.swapperK n siE 6 = n + 1 := by
    rcases Nat.eq_zero_or_pos n with h | h
    · subst h; simp [Lib.swapperK]
    · obtain rfl : n = 1 := by omega
      simp [Lib.swapperK]
  have hS := Any.sort_Slice_tiny Try.laysGg6 22 2 siT siE (by kernel_rfl) (by kernel_rfl) (by kernel_rfl) (by kernel_rfl) 6 (fun _ => by kernel_rfl) p n c h1 (160 + n) (by
    rw [hK]
    rcases Nat.eq_zero_or_pos n with h | h
    · subst h; kernel_rfl
    · obtain rfl : n = 1 := by omega
      kernel_rfl) (.func 126) #[] #[.pointer (some ⟨Bs, 0, none⟩)] w
  change Calls Try.prog 125 _ _ _ at hS
  exact hS
section
variable {w : World} {base : Nat} {e : Nat} {ok : Nat → Prop} {v : Value} {xs : List Int}
theorem R_own_int (h : (Kd.int .i64).R e w base ok v xs) : w.ownsRow base e 1 v xs.length (xs.map (Value.int .i64)) := by
  obtain ⟨_, inner, ho, hr⟩ := h
  have e1 : inner = xs.map (Value.int .i64) := Kd.reps_encs (enc := Value.int .i64) hr
  rw [← e1]
  exact ho
theorem own_int_R (h0 : ∀ k, v.ownBlock = some k → ok k) (h : w.ownsRow base e 1 v xs.length (xs.map (Value.int .i64))) : (Kd.int .i64).R e w base ok v xs :=
  ⟨h0, _, h, Kd.reps_scalar (enc := Value.int .i64) xs⟩
end
/-- The row of the call's own, boxed at Bs, sorted by the library. -/
theorem sort_R (base : Nat) (ok : Nat → Prop) (Bs : Nat) (v : Value) (xs : List Int) (w : World) (hR : (Kd.int .i64).R 2 w base ok v xs) (hBs : w.cell? ⟨Bs, 0, none⟩ = some v) (hlt : Bs < w.heap.size) (hne : some Bs ≠ v.ownBlock) (hl : xs.length < 4611686018427387904) :
    Calls Try.prog 125 #[.iface 22 v, .func (.func 126) #[] #[.pointer (some ⟨Bs, 0, none⟩)]] w fun e w' =>
      e = .returned (.tuple #[]) ∧ (Kd.int .i64).R 2 w' base ok v (sortI xs) ∧ w.grownBy w' v.ownBlock := by
  have ho := R_own_int hR
  have h0 := hR.1
  have htiny : ∀ (os : Array Obj), xs.length ≤ 1 → (Kd.int .i64).R 2 (grow w os) base ok v (sortI xs) ∧ w.grownBy (grow w os) v.ownBlock := by
    intro os h1
    have hb : w.grownBy (grow w os) none := ⟨rfl, rfl, rfl, by simp, fun k hk _ => heap_grow_old _ _ hk⟩
    have hs : sortI xs = xs := by
      unfold sortI
      match xs, h1 with
      | [], _ => simp
      | [x], _ => simp
      | x :: y :: r, h1 => simp at h1
    rw [hs]
    exact ⟨Kd.R_grown hR hb (fun k _ => by simp), ⟨hb.os, hb.tape, hb.output, hb.size, fun i hi _ => hb.block i hi (by simp)⟩⟩
  obtain ⟨hz, ⟨rfl, hn⟩ | ⟨g, cap, cur, rfl, hb, hg, hle, hcap, hsz, htk⟩⟩ := ho
  · have hx : xs.length = 0 := by omega
    refine (sort_tiny none 0 0 Bs (by omega) w).mono ?_
    rintro e w' ⟨rfl, os, rfl⟩
    exact ⟨rfl, htiny os (by omega)⟩
  · have hg' : g < w.heap.size := blk_lt hg
    by_cases h2 : 2 ≤ xs.length
    · rw [Nat.mul_one] at htk
      have hH := holds_of_blockI hg htk
      have h := sort_small g cap Bs xs.toArray (by simpa using h2) (by simpa using hl) w hH hg' (by simpa using hBs) hlt (fun e => hne (by rw [e]; rfl))
      rw [show xs.toArray.size = xs.length by simp] at h
      refine h.mono ?_
      rintro e w' ⟨rfl, n, os, rfl⟩
      have h3 := ownsRow_sortedI (w := w) (base := base) (n := n) (os := os) (ts := sortI xs) (sortI_len xs) hb hg hle hcap hsz
      refine ⟨rfl, own_int_R h0 (by rw [sortI_len]; exact h3), ?_⟩
      exact grownBy_sortedI (g := g) _
    · refine (sort_tiny _ _ cap Bs (by omega) w).mono ?_
      rintro e w' ⟨rfl, os, rfl⟩
      exact ⟨rfl, htiny os (by omega)⟩
end Go.Proofs.Ythegbhfoleiegaa.All

/- impl.xsorted: the keys of a map of true alone, sorted: walked by hand. -/
namespace Go.Proofs.Ythegbhfoleiegaa.All
open Go.RowKit Go.Proofs.YthegbhfoleiegaaW.PrintWords Go.Proofs.YthegbhfoleiegaaW.PrintLast Go.Proofs.YthegbhfoleiegaaW.PrintMore
set_option linter.unusedVariables false
set_option linter.unusedSimpArgs false
theorem grown_cell (w : World) (a : Addr) (u : Value) : w.grownBy (w.setCell a u) (some a.block) :=
  ⟨rfl, rfl, rfl, by simp, fun i hi hne => Below.heap_setCell w a u i (fun e => hne (by rw [e]))⟩
theorem nodup_push {ys : List Int} {x : Int} (h : ys.Nodup) (hn : x ∉ ys) : (ys ++ [x]).Nodup := by
  rw [List.nodup_append]
  exact ⟨h, by simp, fun a ha b hb => by rw [List.mem_singleton.1 hb]; rintro rfl; exact hn ha⟩
set_option maxHeartbeats 4000000 in
set_option maxRecDepth 100000 in
theorem xsorted_calls (b : Nat) (ks : List Int) (w : World) (h : IsKeys Try.prog 2 4 w b ks) (hl : ks.length < 1099511627776) :
    Calls Try.prog 71 #[.map (some b)] w fun e w' => ∃ v, e = .returned v ∧ (Kd.int .i64).R 2 w' w.heap.size (fun _ => True) v (sortI ks) ∧ Below w.heap.size w w' := by
  have hb := h.lt
  have HK := Aside0.mk h
  have HL := Aside0.mk hl
  clear h hl
  have B0 := Aside0.mk (blk_new w (.cells #[.slice none 0 0] 22 (0, 0)))
  have e1 : (w.alloc (.cells #[.slice none 0 0] 22 (0, 0))).heap.size = w.heap.size + 1 := by simp
  go_enter Try.func71, Try.ntmps71
  go_wp2_with (first | (at_range; refine wpList_range_keys rfl _ 92 rfl 2 4 (Maps.int_keyed Try.underlying2) Try.underlying92 b ks rfl (HK.out.alloc _) ?_; intro w0 hrg0 hg0 hs0))
  rw [e1] at hrg0 hs0
  have HG := Aside0.mk hrg0
  have HX := Aside0.mk (blk_grown B0.out hg0 (by simp))
  have HB := Aside0.mk (below_step (below_alloc (Below.refl _ _) (.cells #[.slice none 0 0] 22 (0, 0))) (Below.grown (Below.refl _ _) hg0 (Nat.le_refl _) (fun _ e => by cases e)))
  clear hrg0 hg0 B0
  go_frame
  (first | rw [e1] | skip)
  clear e1
  go_loopw [4] (fun _ wr => ∃ (lf ys : List Int) (u : Value), Aside0 (KRange Try.prog 2 4 wr b (w.heap.size + 1) ks lf) ∧ Aside0 (∀ x ∈ lf, x ∈ ks) ∧ Aside0 (wr.heap[w.heap.size]? = some (.cells #[u] 22 (0, 0))) ∧ Aside0 ((Kd.int .i64).R 2 wr w.heap.size (fun k => k ≠ w.heap.size ∧ k ≠ w.heap.size + 1) u ys) ∧ Aside0 (ys.Nodup ∧ ∀ x, x ∈ ys ↔ x ∈ ks ∧ x ∉ lf) ∧ Aside0 (Below w.heap.size w wr))
    (fun _ wr => wr.rangeLeft b (w.heap.size + 1))
  case atStart => exact ⟨ks, [], .slice none 0 0, HG, ⟨fun x h => h⟩, HX, ⟨Kd.R_nil _ _ _ _ _⟩, ⟨List.nodup_nil, by simp⟩, HB⟩
  case round =>
    clear HG HX HB
    obtain ⟨lf, ys, u, HG, HS, HX, HR, HP, HB⟩ := hrel
    obtain ⟨Au, cu, eu⟩ := Kd.R_slice HR.out
    subst eu
    have hrl := HG.out.lt
    have hyl : ys.length ≤ ks.length := nodup_sub_len _ _ HP.out.1 (fun y hy => ((HP.out.2 y).1 hy).1)
    have hne : ∀ k, (Value.slice Au ys.length cu).ownBlock = some k → k ≠ w.heap.size ∧ k ≠ w.heap.size + 1 := HR.out.1
    have hge : ∀ k, (Value.slice Au ys.length cu).ownBlock = some k → w.heap.size ≤ k := fun k hk => (HR.out.2.choose_spec.1.lt k hk).1
    have HNE := Aside0.mk hne
    have HGE := Aside0.mk hge
    clear hne hge
    go_wp2_with (first | (at_next; refine wpList_next_keys rfl _ rfl 2 4 (Maps.int_keyed Try.underlying2) Try.underlying2 Try.underlying4 b (w.heap.size + 1) ks lf rfl HG.out HS.out ?_ ?_))
    · intro hlf
      subst hlf
      have b0 := (blk_cell HX.out 0).trans rfl
      have hlt := blk_lt HX.out
      have hl := HL.out
      have hmf : ∀ (fn : Fn) (first cap : Array Value) (w : World), (Instr.makeFunc fn first cap).run Try.prog w = .ok (.func fn first cap) w := fun _ _ _ _ => rfl
      go_wp2_with (first | (go_at_call 125; refine (sort_R w.heap.size (fun k => k ≠ w.heap.size ∧ k ≠ w.heap.size + 1) w.heap.size (.slice Au ys.length cu) ys _ HR.out b0 hlt (by intro e; exact (HNE.out _ e.symm).1 rfl) (by omega)).mono ?_; rintro e w2 ⟨rfl, hr2, hg2⟩; have HR2 := Aside0.mk hr2; have HG2 := Aside0.mk hg2; have b2 := (blk_cell (blk_grown HX.out hg2 (by intro e; have h := HNE.out _ e.symm; exact h.1 rfl)) 0).trans rfl; clear hr2 hg2))
      go_ret
      have hs : sortI ys = sortI ks := by
        have hp : ys.Perm ks := (List.perm_ext_iff_of_nodup HP.out.1 HK.out.nodup).2 (fun x => by rw [HP.out.2 x]; simp)
        unfold sortI
        refine List.Perm.eq_of_pairwise (le := fun x y => x ≤ y) (fun a b _ _ h1 h2 => Int.le_antisymm h1 h2) ?_ ?_ ((List.mergeSort_perm _ _).trans (hp.trans (List.mergeSort_perm _ _).symm))
        · exact (List.pairwise_mergeSort (le := fun x y : Int => decide (x ≤ y)) (fun a b c h1 h2 => by simp at h1 h2 ⊢; omega) (fun a b => by simp; omega) ys).imp (fun h => by simpa using h)
        · exact (List.pairwise_mergeSort (le := fun x y : Int => decide (x ≤ y)) (fun a b c h1 h2 => by simp at h1 h2 ⊢; omega) (fun a b => by simp; omega) ks).imp (fun h => by simpa using h)
      rw [← hs]
      exact ⟨_, rfl, Kd.R_mono HR2.out (fun _ _ => trivial), belowG HB.out HG2.out HGE.out⟩
    · intro x w1 hwx hx hg1 hlt hgr hsz hen
      have hgl := hg1.lt
      have hx1 := blk_grown HX.out hgr (by intro e; have := Option.some.inj e; omega)
      have b1 := (blk_cell hx1 0).trans rfl
      have HX1 := Aside0.mk hx1
      have HB1 := Aside0.mk (belowG HB.out hgr (fun k e => by cases e; omega))
      have HR1 := Aside0.mk (Kd.R_grown HR.out hgr (fun k hk e => by cases e; exact hk.2 rfl))
      have HG1 := Aside0.mk hg1
      have HSZ := Aside0.mk hsz
      clear hx1 hg1 hgr HX HB HR HG hsz
      have hl := HL.out
      go_wp2_with (first | (at_builtin; refine Kd.R_append (Kd.int .i64) (w0 := w) w.heap.size rfl (.tmp 11) (.tmp 13) 22 2 (.int .i64 0) 8 rfl Try.underlying22 info2 rfl (by decide) (by decide) (.slice Au ys.length cu) ys x [.int .i64 x] (fun k => k ≠ w.heap.size ∧ k ≠ w.heap.size + 1) (fun _ => False) rfl rfl ?aP (fun _ hk => hk.elim) ?aF ?aO ?aB ?aS ?aL ?_; (case aP => exact rfl); (case aF => exact (fun k hk => by show k ≠ _ ∧ k ≠ _; have := HB1.out.size; omega)); (case aO => exact HR1.out); (case aB => exact HB1.out); (case aS => exact HB1.out.size); (case aL => omega); intro v4 w4 ho4 hb4 hg4 hat4; obtain ⟨g4, c4, e4, _, _, _⟩ := Kd.R_form ho4 (by simp); subst e4; rw [show (ys ++ [x]).length = ys.length + 1 from by simp] at ho4 hat4; have HO4 := Aside0.mk ho4; have b4 := (blk_cell (blk_grown HX1.out hg4 (by intro e; have h := HNE.out _ e.symm; exact h.1 rfl)) 0).trans rfl; have z4 := blk_frozen (blk_grown HX1.out hg4 (by intro e; have h := HNE.out _ e.symm; exact h.1 rfl)) 0))
      have hbb : ∀ k, (Value.slice Au ys.length cu).ownBlock = some k → k ≠ b := fun k hk e => by have := HGE.out k hk; omega
      have hg5 := grown_cell w4 ⟨w.heap.size, 0, none⟩ (.slice (some ⟨g4, 0, none⟩) (ys.length + 1) c4)
      have hG4 := HG1.out.kept hg4 (by intro e; exact hbb _ e.symm rfl) (by intro e; exact (HNE.out _ e.symm).2 rfl)
      have hG5 := hG4.kept hg5 (by intro e; have := Option.some.inj e; simp at this; omega) (by intro e; have := Option.some.inj e; simp at this)
      have hl4 := HG1.out.left_kept hg4 (by intro e; exact hbb _ e.symm rfl) (by intro e; exact (HNE.out _ e.symm).2 rfl)
      have hl5 := hG4.left_kept hg5 (by intro e; have := Option.some.inj e; simp at this; omega) (by intro e; have := Option.some.inj e; simp at this)
      have hx5 := blk_set (blk_grown HX1.out hg4 (by intro e; exact (HNE.out _ e.symm).1 rfl)) 0 (.slice (some ⟨g4, 0, none⟩) (ys.length + 1) c4)
      have hr5 := Kd.R_grown HO4.out hg5 (fun k hk e => by cases e; exact hk.1 rfl)
      go_roundw
      case measure => rw [hl5, hl4]; exact hlt
      case rel => first | exact ⟨_, ys ++ [x], .slice (some ⟨g4, 0, none⟩) (ys.length + 1) c4, ⟨hG5⟩, ⟨fun y hy => HS.out y (List.mem_filter.1 hy).1⟩, ⟨hx5⟩, ⟨hr5⟩, ⟨nodup_push HP.out.1 (fun h => ((HP.out.2 x).1 h).2 hx), fun y => by rw [List.mem_append, HP.out.2, List.mem_filter]; by_cases hy : y = x <;> simp [hy, HS.out x hx]⟩, ⟨belowG hb4 hg5 (fun k e => by cases e; exact Nat.le_refl _)⟩⟩ | ((repeat apply Exists.intro); exact ⟨⟨_, ys ++ [x], .slice (some ⟨g4, 0, none⟩) (ys.length + 1) c4, ⟨hG5⟩, ⟨fun y hy => HS.out y (List.mem_filter.1 hy).1⟩, ⟨hx5⟩, ⟨hr5⟩, ⟨nodup_push HP.out.1 (fun h => ((HP.out.2 x).1 h).2 hx), fun y => by rw [List.mem_append, HP.out.2, List.mem_filter]; by_cases hy : y = x <;> simp [hy, HS.out x hx]⟩, ⟨belowG hb4 hg5 (fun k e => by cases e; exact Nat.le_refl _)⟩⟩, rfl⟩)
end Go.Proofs.Ythegbhfoleiegaa.All

/- What impl.Intervals computes. -/
namespace Go.Proofs.Ythegbhfoleiegaa.All
open Go.RowKit Go.Proofs.YthegbhfoleiegaaW.PrintWords Go.Proofs.YthegbhfoleiegaaW.PrintLast Go.Proofs.YthegbhfoleiegaaW.PrintMore
set_option linter.unusedVariables false
set_option linter.unusedSimpArgs false
/-- The keys of 'at', and the functions 'begin' and 'end'. -/
abbrev StT := List Int × (Int → Int) × (Int → Int)
def touchS (s : StT) (r p : Int) : StT := (insK s.1 r, tB s.1 s.2.1 r p, tE s.1 s.2.2 r p)
def readT (s : StT) (rs : List Int) (p : Int) : StT := rs.foldl (fun s r => touchS s r p) s
def insT (s : StT) (i : S87) (pos : Int) : StT := if 0 ≤ i.f1 then touchS (readT s (readsL i) (2 * pos)) i.f1 (2 * pos + 1) else readT s (readsL i) (2 * pos)
def callsT (c : List Int) (i : S87) (pos : Int) : List Int := if i.f0 = 61 then c ++ [pos] else c
/-- Of the first m instructions of a block. -/
def blkT (is : List (S87)) (m : Nat) (s : StT × List Int) (pos : Int) : StT × List Int :=
  (List.range m).foldl (fun (s : StT × List Int) (j : Nat) => (insT s.1 (rd_T87 is (j : Int)) (pos + (j : Int)), callsT s.2 (rd_T87 is (j : Int)) (pos + (j : Int)))) s
theorem blkT_succ (is : List (S87)) (m : Nat) (s : StT × List Int) (pos : Int) : blkT is (m + 1) s pos = (insT (blkT is m s pos).1 (rd_T87 is (m : Int)) (pos + (m : Int)), callsT (blkT is m s pos).2 (rd_T87 is (m : Int)) (pos + (m : Int))) := by
  unfold blkT
  rw [List.range_succ, List.foldl_append]
  rfl
/-- Where block b begins. -/
def firstT (bl : List (S85)) (b : Nat) : Nat := ((List.range b).map fun c => (insAt bl c).length).sum
theorem firstT_succ (bl : List (S85)) (b : Nat) : firstT bl (b + 1) = firstT bl b + (insAt bl b).length := by
  unfold firstT
  rw [List.range_succ, List.map_append, List.sum_append]
  simp
def passT (bl : List (S85)) (m : Nat) : StT × List Int := (List.range m).foldl (fun s b => blkT (insAt bl b) (insAt bl b).length s (firstT bl b : Nat)) (([], (fun _ => 0), fun _ => 0), [])
theorem passT_succ (bl : List (S85)) (m : Nat) : passT bl (m + 1) = blkT (insAt bl m) (insAt bl m).length (passT bl m) (firstT bl m : Nat) := by
  unfold passT
  rw [List.range_succ, List.foldl_append]
  rfl
def minOn (ks : List Int) (g : Int → Int) (v : Int) : Int → Int := fun x => if x ∈ ks then min (g x) v else g x
def maxOn (ks : List Int) (g : Int → Int) (v : Int) : Int → Int := fun x => if x ∈ ks then max (g x) v else g x
def endI (kss : List (List Int)) (nb : Nat) (last : Int) (g : Int → Int) (i : S87) : Int → Int := if jumpsB i.f0 = true ∧ 0 ≤ i.f5 ∧ i.f5 < (nb : Int) then maxOn (kss.getD i.f5.toNat []) g last else g
def endB (kss : List (List Int)) (nb : Nat) (last : Int) (is : List (S87)) (m : Nat) (g : Int → Int) : Int → Int := (List.range m).foldl (fun g (j : Nat) => endI kss nb last g (rd_T87 is (j : Int))) g
theorem endB_succ (kss : List (List Int)) (nb : Nat) (last : Int) (is : List (S87)) (m : Nat) (g : Int → Int) : endB kss nb last is (m + 1) g = endI kss nb last (endB kss nb last is m g) (rd_T87 is (m : Int)) := by
  unfold endB
  rw [List.range_succ, List.foldl_append]
  rfl
def stretchT (bl : List (S85)) (kss : List (List Int)) (s : (Int → Int) × (Int → Int)) (b : Nat) : (Int → Int) × (Int → Int) :=
  if (insAt bl b).length = 0 then s else (minOn (kss.getD b []) s.1 (2 * (firstT bl b : Nat)), endB kss bl.length (2 * ((firstT bl b : Nat) + ((insAt bl b).length : Nat) - 1) + 1) (insAt bl b) (insAt bl b).length s.2)
def passU (bl : List (S85)) (kss : List (List Int)) (m : Nat) (s : (Int → Int) × (Int → Int)) : (Int → Int) × (Int → Int) := (List.range m).foldl (stretchT bl kss) s
theorem passU_succ (bl : List (S85)) (kss : List (List Int)) (m : Nat) (s : (Int → Int) × (Int → Int)) : passU bl kss (m + 1) s = stretchT bl kss (passU bl kss m s) m := by
  unfold passU
  rw [List.range_succ, List.foldl_append]
  rfl
def crossT (calls : List Int) (b e : Int) (m : Nat) : Bool := (List.range m).any fun j => decide (b ≤ 2 * calls.getD j 0) && decide (2 * calls.getD j 0 + 1 < e)
theorem crossT_succ (calls : List Int) (b e : Int) (m : Nat) : crossT calls b e (m + 1) = (crossT calls b e m || (decide (b ≤ 2 * calls.getD m 0) && decide (2 * calls.getD m 0 + 1 < e))) := by
  unfold crossT
  rw [List.range_succ, List.any_append]
  simp
def ivOf (s : (Int → Int) × (Int → Int)) (calls : List Int) (r : Int) : S113 := ⟨r, s.1 r, s.2 r, crossT calls (s.1 r) (s.2 r) calls.length⟩
def ivAll (bl : List (S85)) (kss : List (List Int)) : List (S113) := (sortI (passT bl bl.length).1.1).map (ivOf (passU bl kss bl.length (passT bl bl.length).1.2) (passT bl bl.length).2)
/-- All registers that are named. -/
def allW (bl : List (S85)) : List Int := bl.flatMap fun b => b.f0.flatMap fun i => i.f1 :: readsL i
def okW (k : Nat) (bl : List (S85)) : Prop := okV k bl ∧ (allW bl).length ≤ 1000000000 ∧ firstT bl bl.length ≤ 1000000000 ∧ ∀ x ∈ allW bl, (Lit.int .i64 x).wf = true
instance (k : Nat) (bl : List (S85)) : Decidable (okW k bl) := by unfold okW; infer_instance
theorem allW_mem {bl : List (S85)} {b : Nat} (hb : b < bl.length) {i : S87} (hi : i ∈ insAt bl b) : i.f1 ∈ allW bl ∧ ∀ x ∈ readsL i, x ∈ allW bl := by
  have e : insAt bl b = (bl[b]).f0 := by unfold insAt rd_T85; rw [Int.toNat_natCast, List.getD_eq_getElem?_getD, List.getElem?_eq_getElem hb]; rfl
  rw [e] at hi
  have h0 : ∀ x, x ∈ i.f1 :: readsL i → x ∈ allW bl := fun x hx => List.mem_flatMap.2 ⟨bl[b], List.getElem_mem _, List.mem_flatMap.2 ⟨i, hi, hx⟩⟩
  exact ⟨h0 _ (by simp), fun x hx => h0 x (by simp [hx])⟩
theorem allR_W {bl : List (S85)} {x : Int} (h : x ∈ allR bl) : x ∈ allW bl := by
  unfold allR at h
  obtain ⟨b, h1, h2⟩ := List.mem_flatMap.1 h
  obtain ⟨i, h3, h4⟩ := List.mem_flatMap.1 h2
  exact List.mem_flatMap.2 ⟨b, h1, List.mem_flatMap.2 ⟨i, h3, by simp [h4]⟩⟩
theorem firstT_le {bl : List (S85)} : ∀ (d m : Nat), firstT bl m ≤ firstT bl (m + d)
  | 0, m => Nat.le_refl _
  | d + 1, m => by have := firstT_le (bl := bl) d m; have := firstT_succ bl (m + d); show firstT bl m ≤ firstT bl (m + d + 1); omega
theorem callsB_len (is : List (S87)) (s : StT × List Int) (pos : Int) : ∀ j, (blkT is j s pos).2.length ≤ s.2.length + j
  | 0 => Nat.le_refl _
  | j + 1 => by
    have h := callsB_len is s pos j
    rw [blkT_succ]
    show (callsT _ _ _).length ≤ _
    unfold callsT
    split
    · rw [List.length_append, List.length_singleton]; omega
    · omega
theorem callsP_len (bl : List (S85)) : ∀ m, (passT bl m).2.length ≤ firstT bl m
  | 0 => Nat.le_refl _
  | m + 1 => by
    have h := callsP_len bl m
    have h2 := callsB_len (insAt bl m) (passT bl m) (firstT bl m : Nat) (insAt bl m).length
    rw [passT_succ, firstT_succ]
    omega
theorem callsT_len (bl : List (S85)) (m j : Nat) (hm : m < bl.length) (hj : j ≤ (insAt bl m).length) : (blkT (insAt bl m) j (passT bl m) (firstT bl m : Nat)).2.length ≤ firstT bl m + (insAt bl m).length := by
  have h := callsP_len bl m
  have h2 := callsB_len (insAt bl m) (passT bl m) (firstT bl m : Nat) j
  omega
theorem callsB_mem (is : List (S87)) (s : StT × List Int) (pos : Int) : ∀ (j : Nat) (x : Int), x ∈ (blkT is j s pos).2 → x ∈ s.2 ∨ (pos ≤ x ∧ x < pos + (j : Int))
  | 0, x, h => .inl h
  | j + 1, x, h => by
    rw [blkT_succ] at h
    have h2 : x ∈ callsT (blkT is j s pos).2 (rd_T87 is (j : Int)) (pos + (j : Int)) := h
    unfold callsT at h2
    split at h2
    · rcases List.mem_append.1 h2 with h3 | h3
      · rcases callsB_mem is s pos j x h3 with h4 | h4
        · exact .inl h4
        · exact .inr ⟨h4.1, by omega⟩
      · rw [List.mem_singleton] at h3
        exact .inr ⟨by omega, by omega⟩
    · rcases callsB_mem is s pos j x h2 with h4 | h4
      · exact .inl h4
      · exact .inr ⟨h4.1, by omega⟩
theorem callsP_mem (bl : List (S85)) : ∀ (m : Nat) (x : Int), x ∈ (passT bl m).2 → 0 ≤ x ∧ x < (firstT bl m : Nat)
  | 0, x, h => by cases h
  | m + 1, x, h => by
    rw [passT_succ] at h
    have hf := firstT_succ bl m
    rcases callsB_mem _ _ _ _ x h with h1 | h1
    · have := callsP_mem bl m x h1
      exact ⟨this.1, by omega⟩
    · exact ⟨by omega, by omega⟩
end Go.Proofs.Ythegbhfoleiegaa.All

/- What is live, told of sets: the least sets that are closed; impl's loop comes to them. -/
namespace Go.Proofs.Ythegbhfoleiegaa.All
open Go.RowKit Go.Proofs.YthegbhfoleiegaaW.PrintWords Go.Proofs.YthegbhfoleiegaaW.PrintLast Go.Proofs.YthegbhfoleiegaaW.PrintMore
set_option linter.unusedVariables false
set_option linter.unusedSimpArgs false
def stepQ (len : Nat) (S : Nat → Int → Prop) (i : S87) (nx : Int → Prop) (x : Int) : Prop := x ∈ readsL i ∨ (x ≠ i.f1 ∧ ((stopsB i.f0 = false ∧ nx x) ∨ (jumpsB i.f0 = true ∧ 0 ≤ i.f5 ∧ i.f5 < (len : Int) ∧ S i.f5.toNat x)))
def blockQ (len : Nat) (S : Nat → Int → Prop) (ins : List (S87)) : Int → Prop := ins.foldr (stepQ len S) (fun _ => False)
theorem blockQ_mono {len : Nat} {S T : Nat → Int → Prop} {x : Int} (h : ∀ b, b < len → S b x → T b x) : ∀ (ins : List (S87)), blockQ len S ins x → blockQ len T ins x
  | [], hx => hx
  | i :: ins, hx => by
    have hx' : stepQ len S i (blockQ len S ins) x := hx
    show stepQ len T i (blockQ len T ins) x
    unfold stepQ at hx' ⊢
    rcases hx' with h1 | ⟨h1, ⟨h2, h3⟩ | ⟨h2, h3, h4, h5⟩⟩
    · exact .inl h1
    · exact .inr ⟨h1, .inl ⟨h2, blockQ_mono h ins h3⟩⟩
    · exact .inr ⟨h1, .inr ⟨h2, h3, h4, h _ (by omega) h5⟩⟩
theorem blockK_mem (kss : List (List Int)) (x : Int) : ∀ (ins : List (S87)), x ∈ blockK kss ins ↔ blockQ kss.length (fun b x => x ∈ kss.getD b []) ins x
  | [] => by unfold blockK blockQ; simp
  | i :: ins => by
    show x ∈ aheadK i.f1 (readsL i) (behindK i.f0 i.f5 kss (blockK kss ins)) ↔ stepQ kss.length (fun b x => x ∈ kss.getD b []) i (blockQ kss.length (fun b x => x ∈ kss.getD b []) ins) x
    rw [aheadK_mem, behindK_mem]
    unfold stepQ flowK jumpK
    rw [← blockK_mem kss x ins]
    cases hs : stopsB i.f0 <;> by_cases hj : jumpsB i.f0 = true ∧ 0 ≤ i.f5 ∧ i.f5 < (kss.length : Int)
    · rw [if_pos hj]; simp [hj.1, hj.2.1, hj.2.2]
      constructor
      · rintro (⟨h1, h2⟩ | h1)
        · exact .inr ⟨h2, h1⟩
        · exact .inl h1
      · rintro (h1 | ⟨h2, h1⟩)
        · exact .inr h1
        · exact .inl ⟨h1, h2⟩
    · rw [if_neg hj]
      have hj2 : ∀ p : Prop, ¬ (jumpsB i.f0 = true ∧ 0 ≤ i.f5 ∧ i.f5 < (kss.length : Int) ∧ p) := fun p h => hj ⟨h.1, h.2.1, h.2.2.1⟩
      simp [hj2]
      constructor
      · rintro (⟨h1, h2⟩ | h1)
        · exact .inr ⟨h2, h1⟩
        · exact .inl h1
      · rintro (h1 | ⟨h2, h1⟩)
        · exact .inr h1
        · exact .inl ⟨h1, h2⟩
    · rw [if_pos hj]; simp [hj.1, hj.2.1, hj.2.2]
      constructor
      · rintro (⟨h1, h2⟩ | h1)
        · exact .inr ⟨h2, h1⟩
        · exact .inl h1
      · rintro (h1 | ⟨h2, h1⟩)
        · exact .inr h1
        · exact .inl ⟨h1, h2⟩
    · rw [if_neg hj]
      have hj2 : ∀ p : Prop, ¬ (jumpsB i.f0 = true ∧ 0 ≤ i.f5 ∧ i.f5 < (kss.length : Int) ∧ p) := fun p h => hj ⟨h.1, h.2.1, h.2.2.1⟩
      simp [hj2]
def SK (kss : List (List Int)) (b : Nat) (x : Int) : Prop := x ∈ kss.getD b []
/-- Each set lies within what is worked out from all. -/
def Asc (bl : List (S85)) (S : Nat → Int → Prop) : Prop := ∀ b, b < bl.length → ∀ x, S b x → blockQ bl.length S (insAt bl b) x
/-- The sets lie within all that are closed. -/
def Low (bl : List (S85)) (S : Nat → Int → Prop) : Prop := ∀ (x : Int) (T : Nat → Int → Prop), (∀ b, b < bl.length → blockQ bl.length T (insAt bl b) x → T b x) → ∀ b, b < bl.length → S b x → T b x
def Fix (bl : List (S85)) (S : Nat → Int → Prop) : Prop := ∀ b, b < bl.length → ∀ x, S b x ↔ blockQ bl.length S (insAt bl b) x
theorem asc_step {bl : List (S85)} {S S' : Nat → Int → Prop} {b0 : Nat} (h : Asc bl S) (hb : b0 < bl.length) (h0 : ∀ x, S' b0 x ↔ blockQ bl.length S (insAt bl b0) x) (h1 : ∀ b, b ≠ b0 → ∀ x, S' b x ↔ S b x) : Asc bl S' ∧ ∀ b, b < bl.length → ∀ x, S b x → S' b x := by
  have hup : ∀ b, b < bl.length → ∀ x, S b x → S' b x := fun b hb' x hx => by
    by_cases e : b = b0
    · subst e; exact (h0 x).2 (h b hb' x hx)
    · exact (h1 b e x).2 hx
  refine ⟨fun b hb' x hx => ?_, hup⟩
  by_cases e : b = b0
  · subst e
    exact blockQ_mono (fun c hc => hup c hc x) _ ((h0 x).1 hx)
  · exact blockQ_mono (fun c hc => hup c hc x) _ (h b hb' x ((h1 b e x).1 hx))
theorem low_step {bl : List (S85)} {S S' : Nat → Int → Prop} {b0 : Nat} (h : Low bl S) (h0 : ∀ x, S' b0 x → blockQ bl.length S (insAt bl b0) x) (h1 : ∀ b, b ≠ b0 → ∀ x, S' b x → S b x) : Low bl S' := fun x T hT b hb hx => by
  by_cases e : b = b0
  · subst e
    exact hT b hb (blockQ_mono (fun c hc => h x T hT c hc) _ (h0 x hx))
  · exact h x T hT b hb (h1 b e x hx)
theorem SK_set (kss : List (List Int)) (b0 : Nat) (ks : List Int) (hb : b0 < kss.length) : (∀ x, SK (kss.set b0 ks) b0 x ↔ x ∈ ks) ∧ ∀ b, b ≠ b0 → ∀ x, SK (kss.set b0 ks) b x ↔ SK kss b x := by
  refine ⟨fun x => ?_, fun b hne x => ?_⟩
  · unfold SK
    rw [List.getD_eq_getElem?_getD, List.getElem?_set, if_pos rfl, if_pos hb]
    rfl
  · unfold SK
    rw [List.getD_eq_getElem?_getD, List.getElem?_set, if_neg (fun e => hne e.symm), ← List.getD_eq_getElem?_getD]
/-- What holds at each step of impl's loop. -/
structure KI (bl : List (S85)) (kss : List (List Int)) : Prop where
  hl : kss.length = bl.length
  nd : ∀ b, (kss.getD b []).Nodup
  sub : SubK (allR bl) kss
  asc : Asc bl (SK kss)
  low : Low bl (SK kss)
def sumK (kss : List (List Int)) : Nat := (kss.map List.length).sum
theorem sum_set : ∀ (l : List Nat) (i : Nat) (x : Nat), i < l.length → (l.set i x).sum + l.getD i 0 = l.sum + x
  | a :: l, 0, x, _ => by simp; omega
  | a :: l, i + 1, x, h => by
    have := sum_set l i x (by simpa using h)
    simp only [List.set_cons_succ, List.sum_cons, List.getD_cons_succ]
    omega
theorem sumK_set (kss : List (List Int)) (b : Nat) (ks : List Int) (hb : b < kss.length) : sumK (kss.set b ks) + (kss.getD b []).length = sumK kss + ks.length := by
  unfold sumK
  rw [List.map_set]
  have h := sum_set (kss.map List.length) b ks.length (by simpa using hb)
  have e : (kss.map List.length).getD b 0 = (kss.getD b []).length := by
    rw [List.getD_eq_getElem?_getD, List.getElem?_map, List.getD_eq_getElem?_getD, List.getElem?_eq_getElem hb]; rfl
  rw [e] at h
  exact h
theorem sumK_le {bl : List (S85)} {kss : List (List Int)} (h : KI bl kss) : sumK kss ≤ bl.length * (allR bl).length := by
  have : ∀ (l : List (List Int)) (m : Nat), (∀ k ∈ l, k.length ≤ m) → sumK l ≤ l.length * m := by
    intro l m hl
    unfold sumK
    induction l with
    | nil => simp
    | cons a l ih =>
      have h1 := hl a (by simp)
      have h2 := ih (fun k hk => hl k (by simp [hk]))
      simp only [List.map_cons, List.sum_cons, List.length_cons]
      rw [Nat.add_mul]
      omega
  rw [← h.hl]
  refine this kss _ (fun k hk => ?_)
  obtain ⟨i, hi, rfl⟩ := List.getElem_of_mem hk
  have e : kss.getD i [] = kss[i] := by rw [List.getD_eq_getElem?_getD, List.getElem?_eq_getElem hi]; rfl
  rw [← e]
  exact nodup_sub_len _ _ (h.nd i) (fun x hx => h.sub i x hx)
theorem KI.step {bl : List (S85)} {s : List (List Int) × Bool} (h : KI bl s.1) {b : Nat} (hb : b < bl.length) :
    KI bl (stepP bl s b).1 ∧ sumK s.1 ≤ sumK (stepP bl s b).1 ∧ ((stepP bl s b).2 = true → s.2 = true ∨ sumK s.1 < sumK (stepP bl s b).1) ∧ ((stepP bl s b).2 = false → (stepP bl s b).1 = s.1 ∧ s.2 = false ∧ (blockK s.1 (insAt bl b)).length = (s.1.getD b []).length) := by
  unfold stepP
  split
  · rename_i he
    exact ⟨h, Nat.le_refl _, fun h2 => .inl h2, fun h2 => ⟨rfl, h2, he⟩⟩
  · rename_i he
    have hbl : b < s.1.length := by rw [h.hl]; exact hb
    have hS := SK_set s.1 b (blockK s.1 (insAt bl b)) hbl
    have h0 : ∀ x, SK (s.1.set b (blockK s.1 (insAt bl b))) b x ↔ blockQ bl.length (SK s.1) (insAt bl b) x := fun x => by rw [hS.1 x, blockK_mem, h.hl]; exact Iff.rfl
    have hA := asc_step h.asc hb h0 hS.2
    have hLe : (s.1.getD b []).length ≤ (blockK s.1 (insAt bl b)).length := nodup_sub_len _ _ (h.nd b) (fun x hx => by rw [blockK_mem, h.hl]; exact h.asc b hb x hx)
    have hsum := sumK_set s.1 b (blockK s.1 (insAt bl b)) hbl
    have g1 : sumK s.1 ≤ sumK (s.1.set b (blockK s.1 (insAt bl b))) := by omega
    have g2 : sumK s.1 < sumK (s.1.set b (blockK s.1 (insAt bl b))) := by omega
    refine ⟨⟨by rw [List.length_set]; exact h.hl, fun c => ?_, SubK_set h.sub b (blockK_sub h.sub _ (allR_mem hb)), hA.1, low_step h.low (fun x hx => (h0 x).1 hx) (fun c hc x hx => (hS.2 c hc x).1 hx)⟩, g1, fun _ => .inr g2, fun h2 => (by cases h2)⟩
    show ((s.1.set b (blockK s.1 (insAt bl b))).getD c []).Nodup
    rw [List.getD_eq_getElem?_getD, List.getElem?_set]
    by_cases e : b = c
    · rw [if_pos e, if_pos hbl]; exact blockK_nodup _ _
    · rw [if_neg e, ← List.getD_eq_getElem?_getD]; exact h.nd c
theorem KI.pass {bl : List (S85)} {kss : List (List Int)} (h : KI bl kss) : ∀ (m : Nat), m ≤ bl.length →
    KI bl (passK bl kss m).1 ∧ sumK kss ≤ sumK (passK bl kss m).1 ∧ ((passK bl kss m).2 = true → sumK kss < sumK (passK bl kss m).1) ∧ ((passK bl kss m).2 = false → (passK bl kss m).1 = kss ∧ ∀ b, b < m → (blockK kss (insAt bl b)).length = (kss.getD b []).length)
  | 0, _ => ⟨h, Nat.le_refl _, fun h2 => (by cases h2), fun _ => ⟨rfl, fun b hb => absurd hb (Nat.not_lt_zero _)⟩⟩
  | m + 1, hm => by
    obtain ⟨h1, h2, h3, h4⟩ := KI.pass h m (by omega)
    obtain ⟨g1, g2, g3, g4⟩ := h1.step (b := m) (by omega)
    rw [passK_succ]
    refine ⟨g1, by omega, fun hh => ?_, fun hh => ?_⟩
    · rcases g3 hh with h5 | h5
      · have := h3 h5; omega
      · omega
    · obtain ⟨e1, e2, e3⟩ := g4 hh
      obtain ⟨e4, e5⟩ := h4 e2
      rw [e4] at e3
      refine ⟨e1.trans e4, fun b hb => ?_⟩
      rcases Nat.lt_or_ge b m with hb2 | hb2
      · exact e5 b hb2
      · obtain rfl : b = m := by omega
        exact e3
theorem nodup_sub_eq {a b : List Int} (ha : a.Nodup) (hs : ∀ x ∈ a, x ∈ b) (hl : b.length ≤ a.length) : ∀ x ∈ b, x ∈ a := fun x hx => by
  by_cases hxa : x ∈ a
  · exact hxa
  · have h1 : (x :: a).Nodup := List.nodup_cons.2 ⟨hxa, ha⟩
    have h2 := nodup_sub_len (x :: a) b h1 (fun y hy => by rcases List.mem_cons.1 hy with rfl | hy; exact hx; exact hs y hy)
    rw [List.length_cons] at h2
    omega
theorem loopK_ends (bl : List (S85)) : ∀ (d : Nat) (kss : List (List Int)), KI bl kss → bl.length * (allR bl).length - sumK kss ≤ d → ∃ r, loopK bl (d + 1) kss = some r ∧ KI bl r ∧ Fix bl (SK r) := by
  intro d
  induction d with
  | zero =>
    intro kss h hd
    obtain ⟨h1, h2, h3, h4⟩ := h.pass bl.length (Nat.le_refl _)
    have hle := sumK_le h1
    have hf : (passK bl kss bl.length).2 = false := by
      cases hp : (passK bl kss bl.length).2 with
      | false => rfl
      | true => have := h3 hp; omega
    obtain ⟨e1, e2⟩ := h4 hf
    refine ⟨kss, ?_, h, fun b hb x => ⟨h.asc b hb x, fun hx => nodup_sub_eq (h.nd b) (fun y hy => by rw [blockK_mem, h.hl]; exact h.asc b hb y hy) (by rw [e2 b hb]; exact Nat.le_refl _) x (by rw [blockK_mem, h.hl]; exact hx)⟩⟩
    rw [loopK, if_neg (by rw [hf]; simp), e1]
  | succ d ih =>
    intro kss h hd
    obtain ⟨h1, h2, h3, h4⟩ := h.pass bl.length (Nat.le_refl _)
    have hle := sumK_le h1
    cases hp : (passK bl kss bl.length).2 with
    | false =>
      obtain ⟨e1, e2⟩ := h4 hp
      refine ⟨kss, ?_, h, fun b hb x => ⟨h.asc b hb x, fun hx => nodup_sub_eq (h.nd b) (fun y hy => by rw [blockK_mem, h.hl]; exact h.asc b hb y hy) (by rw [e2 b hb]; exact Nat.le_refl _) x (by rw [blockK_mem, h.hl]; exact hx)⟩⟩
      rw [loopK, if_neg (by rw [hp]; simp), e1]
    | true =>
      have := h3 hp
      obtain ⟨r, hr, hk, hx⟩ := ih _ h1 (by omega)
      exact ⟨r, by rw [loopK, if_pos hp]; exact hr, hk, hx⟩
theorem KI.start (bl : List (S85)) : KI bl (List.replicate bl.length []) := by
  have h0 : ∀ b, (List.replicate bl.length ([] : List Int)).getD b [] = [] := fun b => by rw [List.getD_eq_getElem?_getD, List.getElem?_replicate]; split <;> rfl
  refine ⟨by simp, fun b => (by rw [h0]; exact List.nodup_nil), fun b x hx => (by rw [h0] at hx; cases hx), fun b hb x hx => ?_, fun x T hT b hb hx => ?_⟩
  · unfold SK at hx; rw [h0] at hx; cases hx
  · unfold SK at hx; rw [h0] at hx; cases hx
/-- impl's loop comes to an end, at the least closed sets. -/
theorem loopK_lfp (bl : List (S85)) : ∃ (K : Nat) (r : List (List Int)), (∀ k, K ≤ k → loopK bl k (List.replicate bl.length []) = some r) ∧ KI bl r ∧ Fix bl (SK r) := by
  obtain ⟨r, hr, hk, hx⟩ := loopK_ends bl _ _ (KI.start bl) (Nat.le_refl _)
  refine ⟨bl.length * (allR bl).length - sumK (List.replicate bl.length []) + 1, r, fun k hk2 => ?_, hk, hx⟩
  obtain ⟨d, rfl⟩ := Nat.exists_eq_add_of_le hk2
  clear hk2
  induction d with
  | zero => exact hr
  | succ d ih => exact loopK_mono bl _ _ r ih
end Go.Proofs.Ythegbhfoleiegaa.All

/- Plain laws: what an instruction reads, in both programs. -/
namespace Go.Proofs.Ythegbhfoleiegaa.All
open Go.RowKit Go.Proofs.YthegbhfoleiegaaW.PrintWords Go.Proofs.YthegbhfoleiegaaW.PrintLast Go.Proofs.YthegbhfoleiegaaW.PrintMore
set_option linter.unusedVariables false
set_option linter.unusedSimpArgs false
def posI (x : Int) : Bool := decide (0 ≤ x)
theorem rd_natL (l : List Int) (j : Nat) (h : j < l.length) : rd l (j : Int) = l[j] := by simp [rd, List.getElem?_eq_getElem h]
theorem implReads_loop (y : List Int) (hy : y.length ≤ 2000000) : ∀ (d i : Nat) (acc : List Int), i + d = y.length → acc.length ≤ i → Ev (fun k => impl_Reads.l0 k acc y (y.length : Int) (i : Int)) (acc ++ (y.drop i).filter posI)
  | 0, i, acc, h, ha => by
    refine Ev.succ ?_
    simp only [impl_Reads.l0]
    refine Ev.neg (by omega) (Ev.some ?_)
    rw [List.drop_eq_nil_of_le (by omega)]
    simp
  | d + 1, i, acc, h, ha => by
    have hi : i < y.length := by omega
    refine Ev.succ ?_
    simp only [impl_Reads.l0]
    refine Ev.pos (by omega) (Ev.pos (by omega) (Ev.pos (by omega) ?_))
    rw [rd_natL y i hi, wrap64_nat (by omega), List.drop_eq_getElem_cons hi]
    by_cases hx : 0 ≤ y[i]
    · refine Ev.pos hx (Ev.pos (by omega) ?_)
      have h1 := implReads_loop y hy d (i + 1) (acc ++ [y[i]]) (by omega) (by simp; omega)
      rw [List.filter_cons_of_pos (by simp [posI, hx])]
      rw [List.append_assoc] at h1
      exact h1
    · refine Ev.neg hx ?_
      have h1 := implReads_loop y hy d (i + 1) acc (by omega) (by omega)
      rw [List.filter_cons_of_neg (by simp [posI, hx])]
      exact h1
theorem specReads_loop (y : List Int) (a b c d2 e f : Int) (s : ByteArray) (hy : y.length ≤ 2000000) : ∀ (d i : Nat) (acc : List Int), i + d = y.length → acc.length ≤ i + 3 → Ev (fun k => spec_Reads.l0 k acc (i : Int) a b c d2 e f s y) (acc ++ (y.drop i).filter posI)
  | 0, i, acc, h, ha => by
    refine Ev.succ ?_
    simp only [spec_Reads.l0]
    refine Ev.neg (by omega) (Ev.some ?_)
    rw [List.drop_eq_nil_of_le (by omega)]
    simp
  | d + 1, i, acc, h, ha => by
    have hi : i < y.length := by omega
    refine Ev.succ ?_
    simp only [spec_Reads.l0]
    refine Ev.pos (by omega) (Ev.pos (by omega) ?_)
    rw [rd_natL y i hi, wrap64_nat (by omega), List.drop_eq_getElem_cons hi]
    by_cases hx : 0 ≤ y[i]
    · refine Ev.pos hx (Ev.pos (by omega) ?_)
      have h1 := specReads_loop y a b c d2 e f s hy d (i + 1) (acc ++ [y[i]]) (by omega) (by simp; omega)
      rw [List.filter_cons_of_pos (by simp [posI, hx])]
      rw [List.append_assoc] at h1
      exact h1
    · refine Ev.neg hx ?_
      have h1 := specReads_loop y a b c d2 e f s hy d (i + 1) acc (by omega) (by omega)
      rw [List.filter_cons_of_neg (by simp [posI, hx])]
      exact h1
theorem readsL_eq (i : S87) : readsL i = ([i.f2, i.f3, if i.f0 = 20 ∨ i.f0 = 21 ∨ i.f0 = 46 then -1 else i.f4] ++ i.f7).filter posI := rfl
theorem implReads_f (i : S87) (h : i.f7.length ≤ 1048576) : Ev (fun k => impl_Reads.f k i.f0 i.f1 i.f2 i.f3 i.f4 i.f5 i.f6 i.f7) (readsL i) := by
  have key : ∀ (c : Int) (b : Bool), (if b = true then (-1 : Int) else i.f4) = c → Ev (fun k => impl_Reads.j0 k ([] : List Int) i.f4 b i.f0 i.f1 i.f2 i.f3 i.f4 i.f5 i.f6 i.f7) (([i.f2, i.f3, c] ++ i.f7).filter posI) := by
    intro c b hc
    have h1 := implReads_loop ([i.f2, i.f3, c] ++ i.f7) (by simp; omega) _ 0 [] (Nat.zero_add _) (by simp)
    rw [List.drop_zero, List.nil_append] at h1
    refine Ev.succ ?_
    simp only [impl_Reads.j0]
    cases b with
    | true =>
      obtain rfl : (-1 : Int) = c := hc
      refine Ev.pos rfl (Ev.succ ?_)
      simp only [impl_Reads.j1]
      exact Ev.some_bind (Ev.pos (by simp; omega) (Ev.some_bind h1))
    | false =>
      obtain rfl : i.f4 = c := hc
      refine Ev.neg (by simp) (Ev.succ ?_)
      simp only [impl_Reads.j1]
      exact Ev.some_bind (Ev.pos (by simp; omega) (Ev.some_bind h1))
  rw [readsL_eq]
  unfold impl_Reads.f
  by_cases h1 : i.f0 = 20
  · refine Ev.pos h1 (key _ true ?_)
    rw [if_pos rfl, if_pos (.inl h1)]
  · refine Ev.neg h1 ?_
    by_cases h2 : i.f0 = 21
    · refine Ev.pos h2 (key _ true ?_)
      rw [if_pos rfl, if_pos (.inr (.inl h2))]
    · refine Ev.neg h2 (key _ _ ?_)
      by_cases h3 : i.f0 = 46
      · rw [if_pos (by simp [h3]), if_pos (.inr (.inr h3))]
      · rw [if_neg (by simp [h3]), if_neg (by simp [h1, h2, h3])]
theorem specReads_f (i : S87) (h : i.f7.length ≤ 1048576) : Ev (fun k => spec_Reads.f k i.f0 i.f1 i.f2 i.f3 i.f4 i.f5 i.f6 i.f7) (readsL i) := by
  have k3 : ∀ acc : List Int, acc.length ≤ 3 → Ev (fun k => spec_Reads.j3 k acc i.f0 i.f1 i.f2 i.f3 i.f4 i.f5 i.f6 i.f7) (acc ++ i.f7.filter posI) := fun acc ha => by
    refine Ev.succ ?_
    simp only [spec_Reads.j3]
    exact specReads_loop i.f7 i.f0 i.f1 i.f2 i.f3 i.f4 i.f5 i.f6 (by omega) _ 0 acc (Nat.zero_add _) (by omega)
  have k2 : ∀ (acc : List Int) (b : Bool), acc.length ≤ 2 → Ev (fun k => spec_Reads.j2 k acc b i.f0 i.f1 i.f2 i.f3 i.f4 i.f5 i.f6 i.f7) ((if b = true then acc ++ [i.f4] else acc) ++ i.f7.filter posI) := fun acc b ha => by
    refine Ev.succ ?_
    simp only [spec_Reads.j2]
    cases b with
    | true => exact Ev.pos rfl (Ev.pos (by omega) (k3 _ (by simp; omega)))
    | false => exact Ev.neg (by simp) (k3 _ (by omega))
  have k1 : ∀ acc : List Int, acc.length ≤ 2 → Ev (fun k => spec_Reads.j1 k acc i.f0 i.f1 i.f2 i.f3 i.f4 i.f5 i.f6 i.f7) ((if 0 ≤ i.f4 ∧ ¬ (i.f0 = 20 ∨ i.f0 = 21 ∨ i.f0 = 46) then acc ++ [i.f4] else acc) ++ i.f7.filter posI) := fun acc ha => by
    refine Ev.succ ?_
    simp only [spec_Reads.j1]
    by_cases h0 : 0 ≤ i.f4
    · refine Ev.pos h0 ?_
      by_cases h1 : i.f0 = 20
      · refine Ev.pos h1 ?_
        have := k2 acc false ha
        rw [if_neg (by simp [h1])]
        simpa using this
      · refine Ev.neg h1 ?_
        by_cases h2 : i.f0 = 21
        · refine Ev.pos h2 ?_
          have := k2 acc false ha
          rw [if_neg (by simp [h2])]
          simpa using this
        · refine Ev.neg h2 ?_
          have := k2 acc (i.f0 != 46) ha
          by_cases h3 : i.f0 = 46
          · rw [if_neg (by simp [h3])]
            rw [if_neg (by simp [h3])] at this
            exact this
          · rw [if_pos ⟨h0, by simp [h1, h2, h3]⟩]
            rw [if_pos (by simp [h3])] at this
            exact this
    · refine Ev.neg h0 ?_
      have := k2 acc false ha
      rw [if_neg (by simp [h0])]
      simpa using this
  have k0 : ∀ acc : List Int, acc.length ≤ 1 → Ev (fun k => spec_Reads.j0 k acc i.f0 i.f1 i.f2 i.f3 i.f4 i.f5 i.f6 i.f7) ((if 0 ≤ i.f4 ∧ ¬ (i.f0 = 20 ∨ i.f0 = 21 ∨ i.f0 = 46) then (if 0 ≤ i.f3 then acc ++ [i.f3] else acc) ++ [i.f4] else (if 0 ≤ i.f3 then acc ++ [i.f3] else acc)) ++ i.f7.filter posI) := fun acc ha => by
    refine Ev.succ ?_
    simp only [spec_Reads.j0]
    by_cases h0 : 0 ≤ i.f3
    · refine Ev.pos h0 (Ev.pos (by omega) ?_)
      have := k1 (acc ++ [i.f3]) (by simp; omega)
      rw [if_pos h0]
      exact this
    · refine Ev.neg h0 ?_
      have := k1 acc (by omega)
      rw [if_neg h0]
      exact this
  have hfin : ∀ acc : List Int, acc = (if 0 ≤ i.f2 then [i.f2] else []) → (if 0 ≤ i.f4 ∧ ¬ (i.f0 = 20 ∨ i.f0 = 21 ∨ i.f0 = 46) then (if 0 ≤ i.f3 then acc ++ [i.f3] else acc) ++ [i.f4] else (if 0 ≤ i.f3 then acc ++ [i.f3] else acc)) ++ i.f7.filter posI = readsL i := fun acc ha => by
    subst ha
    rw [readsL_eq, List.filter_append]
    congr 1
    by_cases h2 : 0 ≤ i.f2 <;> by_cases h3 : 0 ≤ i.f3 <;> by_cases h4 : 0 ≤ i.f4 <;> by_cases h5 : (i.f0 = 20 ∨ i.f0 = 21 ∨ i.f0 = 46) <;> simp [posI, h2, h3, h4, h5]
  unfold spec_Reads.f
  refine Ev.some_bind ?_
  by_cases h2 : 0 ≤ i.f2
  · refine Ev.pos h2 (Ev.pos (by simp) ?_)
    have h1 := k0 ([] ++ [i.f2]) (by simp)
    rw [hfin _ (by rw [if_pos h2]; rfl)] at h1
    exact h1
  · refine Ev.neg h2 ?_
    have h1 := k0 [] (by simp)
    rw [hfin _ (by rw [if_neg h2])] at h1
    exact h1
end Go.Proofs.Ythegbhfoleiegaa.All

/- Plain laws of the laws' sz, to and eq over VFunc. Printed by gen_plain.py. -/
namespace Go.Proofs.Ythegbhfoleiegaa.All
open Go.RowKit Go.Proofs.YthegbhfoleiegaaW.PrintWords Go.Proofs.YthegbhfoleiegaaW.PrintLast Go.Proofs.YthegbhfoleiegaaW.PrintMore
set_option linter.unusedVariables false
set_option linter.unusedSimpArgs false
theorem sz_bind {s1 s2 : Nat} {a : Int} {g : Nat → Option Int} {G : Nat → Int → Option Int} (h : Ev g (if (s1 : Int) ≤ a then a - (s1 : Int) else -1)) (h2 : (s1 : Int) ≤ a → Ev (fun k => G k (a - (s1 : Int))) (if (s2 : Int) ≤ a - (s1 : Int) then a - (s1 : Int) - (s2 : Int) else -1)) : Ev (fun k => (g k).bind fun t => if t < 0 then some (-1) else G k t) (if ((s1 + s2 : Nat) : Int) ≤ a then a - ((s1 + s2 : Nat) : Int) else -1) := by
  by_cases c : (s1 : Int) ≤ a
  · rw [if_pos c] at h
    refine Ev.bind h (Ev.neg (by omega) ?_)
    have e : (if (s2 : Int) ≤ a - (s1 : Int) then a - (s1 : Int) - (s2 : Int) else -1) = (if ((s1 + s2 : Nat) : Int) ≤ a then a - ((s1 + s2 : Nat) : Int) else -1) := by split <;> split <;> omega
    rw [← e]
    exact h2 c
  · rw [if_neg c] at h
    rw [if_neg (by omega)]
    exact Ev.bind h (Ev.pos (by omega) (Ev.now _))
theorem sz_str {s1 s2 : Nat} {a : Int} {G : Nat → Option Int} (h2 : (s1 : Int) ≤ a → Ev G (if (s2 : Int) ≤ a - (s1 : Int) then a - (s1 : Int) - (s2 : Int) else -1)) : Ev (fun k => if a - (s1 : Int) < 0 then some (-1) else G k) (if ((s1 + s2 : Nat) : Int) ≤ a then a - ((s1 + s2 : Nat) : Int) else -1) := by
  by_cases c : (s1 : Int) ≤ a
  · have e : (if (s2 : Int) ≤ a - (s1 : Int) then a - (s1 : Int) - (s2 : Int) else -1) = (if ((s1 + s2 : Nat) : Int) ≤ a then a - ((s1 + s2 : Nat) : Int) else -1) := by split <;> split <;> omega
    rw [← e]
    exact Ev.neg (by omega) (h2 c)
  · rw [if_neg (by omega)]
    exact Ev.pos (by omega) (Ev.now _)
theorem sz_end (a : Int) (h : 0 ≤ a) : Ev (fun _ => some a) (if ((0 : Nat) : Int) ≤ a then a - ((0 : Nat) : Int) else -1) := by
  rw [if_pos (by omega)]
  exact Ev.some (by omega)
theorem szInt64S_f (l : List Int) (a : Int) (h0 : 0 ≤ a) (h1 : a ≤ 1048576) (hl : l.length ≤ 9223372036854775807) : Ev (fun k => laws_szInt64S.f l a) (if (l.length : Int) ≤ a then a - (l.length : Int) else -1) := by
  unfold laws_szInt64S.f; rw [wrap64_id (by omega) (by omega)]
  by_cases h : (l.length : Int) ≤ a
  · rw [if_pos h]; exact Ev.neg (by omega) (Ev.now _)
  · rw [if_neg h]; exact Ev.pos (by omega) (Ev.now _)
theorem toInt64S_f (l : List Int) (hl : l.length ≤ 1048576) : Ev (fun k => laws_toInt64S.f k l) l := by
  unfold laws_toInt64S.f
  refine Ev.pos (by omega) (Ev.pos (by omega) ?_)
  have h := to_gen (fun x : Int => x) 0 0 l (fun k out i => laws_toInt64S.l0 k l out i) (fun i out r hi ho h => by
    refine Ev.succ ?_
    simp only [laws_toInt64S.l0]
    refine Ev.pos (by omega) (Ev.pos (by omega) (Ev.pos (by omega) ?_))
    rw [wrap64_nat (by omega)]
    simpa [rd] using h) (fun out _ => by
    refine Ev.succ ?_
    simp only [laws_toInt64S.l0]
    exact Ev.neg (by omega) (Ev.now _))
  simpa using h
theorem eqInt64S_f (l : List Int) (hl : l.length ≤ 1048576) : Ev (fun k => laws_eqInt64S.f k l l) true := by
  unfold laws_eqInt64S.f
  refine Ev.pos rfl (all_gen l.length (fun k i => laws_eqInt64S.l0 k l l i) (fun i hi h => ?_) ?_)
  · refine Ev.succ ?_
    simp only [laws_eqInt64S.l0]
    rw [wrap64_nat (by omega)]
    exact Ev.pos (by omega) (Ev.pos (by omega) (Ev.pos (by omega) (Ev.pos (by trivial) h)))
  · refine Ev.succ ?_
    simp only [laws_eqInt64S.l0]
    exact Ev.neg (by omega) (Ev.now _)
def iVIns (x : S224) : S87 := ⟨x.f0, x.f1, x.f2, x.f3, x.f4, x.f5, x.f6, x.f7⟩
def sVIns (x : S224) : Nat := x.f6.size + (x.f7.length + (0))
def lVIns (x : S224) : Prop := x.f6.size ≤ 9223372036854775807 ∧ x.f7.length ≤ 9223372036854775807
def bVIns (x : S87) : Prop := x.f7.length ≤ 1048576
theorem szVIns_f (x : S224) (a : Int) (h0 : 0 ≤ a) (h1 : a ≤ 1048576) (hx : lVIns x) : Ev (fun k => laws_szVIns.f x.f0 x.f1 x.f2 x.f3 x.f4 x.f5 x.f6 x.f7 a) (if (sVIns x : Int) ≤ a then a - (sVIns x : Int) else -1) := by
  obtain ⟨k0, k1⟩ := hx
  unfold laws_szVIns.f sVIns
  rw [wrap64_id (by omega) (by omega)]
  refine sz_str (fun e0 => ?_)
  refine sz_bind (szInt64S_f _ _ (by omega) (by omega) k1) (fun e1 => ?_)
  exact sz_end _ (by omega)
theorem toVIns_f (x : S224) (h : sVIns x ≤ 1048576) : Ev (fun k => laws_toVIns.f k x.f0 x.f1 x.f2 x.f3 x.f4 x.f5 x.f6 x.f7) (x.f0, x.f1, x.f2, x.f3, x.f4, x.f5, x.f6, x.f7) := by
  unfold sVIns at h
  unfold laws_toVIns.f
  refine Ev.bind (toInt64S_f _ (by omega)) ?_
  exact Ev.now _
theorem eqVIns_f (x : S87) (hb : bVIns x) : Ev (fun k => laws_eqVIns.f k x.f0 x.f1 x.f2 x.f3 x.f4 x.f5 x.f6 x.f7 x.f0 x.f1 x.f2 x.f3 x.f4 x.f5 x.f6 x.f7) true := by
  have k0 := hb
  unfold laws_eqVIns.f
  refine Ev.pos rfl ?_
  refine Ev.pos rfl ?_
  refine Ev.pos rfl ?_
  refine Ev.pos rfl ?_
  refine Ev.pos rfl ?_
  refine Ev.pos rfl ?_
  refine Ev.pos rfl ?_
  refine Ev.bind (eqInt64S_f _ k0) (Ev.pos rfl ?_)
  exact Ev.now _
theorem bVIns_of (x : S224) (h : sVIns x ≤ 1048576) : bVIns (iVIns x) := by
  unfold sVIns at h
  refine ?_
  · show x.f7.length ≤ _; omega
def sVInsS (xs : List S224) : Nat := xs.length + (xs.map sVIns).sum
def lVInsS (xs : List S224) : Prop := xs.length ≤ 9223372036854775807 ∧ ∀ x ∈ xs, lVIns x
def bVInsS (xs : List S87) : Prop := xs.length ≤ 1048576 ∧ ∀ x ∈ xs, bVIns x
theorem szVInsS_f (xs : List S224) (a : Int) (h0 : 0 ≤ a) (h1 : a ≤ 1048576) (hx : lVInsS xs) : Ev (fun k => laws_szVInsS.f k xs a) (if (sVInsS xs : Int) ≤ a then a - (sVInsS xs : Int) else -1) := by
  obtain ⟨hl, hx⟩ := hx
  unfold laws_szVInsS.f
  rw [wrap64_id (by omega) (by omega)]
  by_cases c : (xs.length : Int) ≤ a
  · refine Ev.neg (by omega) ?_
    have h := sz_gen sVIns z224 xs (fun k a i => laws_szVInsS.l0 k xs a i) (fun i a r hi h0 h1 h => by
      refine Ev.succ ?_
      simp only [laws_szVInsS.l0]
      refine Ev.pos (by omega) (Ev.pos (by omega) ?_)
      have hm : lVIns (rd_T224 xs i) := hx _ (by simp only [rd_T224, Int.toNat_natCast]; rw [getD_eq hi]; exact List.getElem_mem hi)
      have e : rd_T224 xs i = xs.getD i z224 := by simp [rd_T224]
      refine Ev.bind (szVIns_f _ a h0 h1 hm) ?_
      rw [e]
      split at h
      · rename_i hc
        rw [if_pos hc, wrap64_nat (by omega)]
        exact Ev.neg (by omega) h
      · rename_i hc
        rw [if_neg hc]
        exact Ev.pos (by omega) (Ev.some h.symm)) (fun a => by
      refine Ev.succ ?_
      simp only [laws_szVInsS.l0]
      exact Ev.neg (by omega) (Ev.now _)) (a - xs.length) (by omega) (by omega)
    have e : (if ((xs.map sVIns).sum : Int) ≤ a - xs.length then a - xs.length - (xs.map sVIns).sum else -1) = (if (sVInsS xs : Int) ≤ a then a - sVInsS xs else -1) := by unfold sVInsS; split <;> split <;> omega
    rw [← e]
    exact h
  · rw [if_neg (by unfold sVInsS; omega)]
    exact Ev.pos (by omega) (Ev.now _)
theorem atVInsS {xs : List S224} {i : Nat} (h : sVInsS xs ≤ 1048576) (hi : i < xs.length) : sVIns (xs.getD i z224) ≤ 1048576 := by
  have := sum_getD_le sVIns z224 xs i hi
  unfold sVInsS at h
  omega
theorem toVInsS_f (l : List S224) (hl : sVInsS l ≤ 1048576) : Ev (fun k => laws_toVInsS.f k l) (l.map iVIns) := by
  unfold laws_toVInsS.f
  have hl1 : l.length ≤ 1048576 := by unfold sVInsS at hl; omega
  refine Ev.pos (by omega) (Ev.pos (by omega) ?_)
  have h := to_gen iVIns z87 z224 l (fun k out i => laws_toVInsS.l0 k l out i) (fun i out r hi ho h => by
    refine Ev.succ ?_
    simp only [laws_toVInsS.l0]
    have e : rd_T224 l i = l.getD i z224 := by simp [rd_T224]
    rw [e]
    refine Ev.pos (by omega) (Ev.pos (by omega) (Ev.bind (toVIns_f _ (atVInsS hl hi)) (Ev.pos (by omega) ?_)))
    rw [wrap64_nat (by omega)]
    exact h) (fun out _ => by
    refine Ev.succ ?_
    simp only [laws_toVInsS.l0]
    exact Ev.neg (by omega) (Ev.now _))
  simpa using h
theorem eqVInsS_f (l : List S87) (hb : bVInsS l) : Ev (fun k => laws_eqVInsS.f k l l) true := by
  obtain ⟨hl, hb⟩ := hb
  unfold laws_eqVInsS.f
  refine Ev.pos rfl (all_gen l.length (fun k i => laws_eqVInsS.l0 k l l i) (fun i hi h => ?_) ?_)
  · refine Ev.succ ?_
    simp only [laws_eqVInsS.l0]
    rw [wrap64_nat (by omega)]
    have hm : bVIns (rd_T87 l i) := hb _ (by simp only [rd_T87, Int.toNat_natCast]; rw [getD_eq hi]; exact List.getElem_mem hi)
    exact Ev.pos (by omega) (Ev.pos (by omega) (Ev.pos (by omega) (Ev.bind (eqVIns_f _ hm) (Ev.pos rfl h))))
  · refine Ev.succ ?_
    simp only [laws_eqVInsS.l0]
    exact Ev.neg (by omega) (Ev.now _)
theorem bVInsS_of (xs : List S224) (h : sVInsS xs ≤ 1048576) : bVInsS (xs.map iVIns) := by
  refine ⟨by rw [List.length_map]; unfold sVInsS at h; omega, fun y hy => ?_⟩
  obtain ⟨x, hx, rfl⟩ := List.mem_map.1 hy
  obtain ⟨i, hi, rfl⟩ := List.getElem_of_mem hx
  have := atVInsS h hi
  rw [getD_eq hi] at this
  exact bVIns_of _ this
def iVBlock (x : S165) : S85 := ⟨(x.f0.map iVIns)⟩
def sVBlock (x : S165) : Nat := sVInsS x.f0 + (0)
def lVBlock (x : S165) : Prop := lVInsS x.f0
def bVBlock (x : S85) : Prop := bVInsS x.f0
theorem szVBlock_f (x : S165) (a : Int) (h0 : 0 ≤ a) (h1 : a ≤ 1048576) (hx : lVBlock x) : Ev (fun k => laws_szVBlock.f k x.f0 a) (if (sVBlock x : Int) ≤ a then a - (sVBlock x : Int) else -1) := by
  have k0 : lVInsS x.f0 := hx
  unfold laws_szVBlock.f sVBlock
  refine sz_bind (szVInsS_f _ _ (by omega) (by omega) k0) (fun e0 => ?_)
  exact sz_end _ (by omega)
theorem toVBlock_f (x : S165) (h : sVBlock x ≤ 1048576) : Ev (fun k => laws_toVBlock.f k x.f0) (x.f0.map iVIns) := by
  unfold sVBlock at h
  unfold laws_toVBlock.f
  refine Ev.bind (toVInsS_f _ (by omega)) ?_
  exact Ev.now _
theorem eqVBlock_f (x : S85) (hb : bVBlock x) : Ev (fun k => laws_eqVBlock.f k x.f0 x.f0) true := by
  have k0 := hb
  unfold laws_eqVBlock.f
  refine Ev.bind (eqVInsS_f _ k0) (Ev.pos rfl ?_)
  exact Ev.now _
theorem bVBlock_of (x : S165) (h : sVBlock x ≤ 1048576) : bVBlock (iVBlock x) := by
  unfold sVBlock at h
  refine ?_
  · exact bVInsS_of _ (by omega)
def sVBlockS (xs : List S165) : Nat := xs.length + (xs.map sVBlock).sum
def lVBlockS (xs : List S165) : Prop := xs.length ≤ 9223372036854775807 ∧ ∀ x ∈ xs, lVBlock x
def bVBlockS (xs : List S85) : Prop := xs.length ≤ 1048576 ∧ ∀ x ∈ xs, bVBlock x
theorem szVBlockS_f (xs : List S165) (a : Int) (h0 : 0 ≤ a) (h1 : a ≤ 1048576) (hx : lVBlockS xs) : Ev (fun k => laws_szVBlockS.f k xs a) (if (sVBlockS xs : Int) ≤ a then a - (sVBlockS xs : Int) else -1) := by
  obtain ⟨hl, hx⟩ := hx
  unfold laws_szVBlockS.f
  rw [wrap64_id (by omega) (by omega)]
  by_cases c : (xs.length : Int) ≤ a
  · refine Ev.neg (by omega) ?_
    have h := sz_gen sVBlock z165 xs (fun k a i => laws_szVBlockS.l0 k xs a i) (fun i a r hi h0 h1 h => by
      refine Ev.succ ?_
      simp only [laws_szVBlockS.l0]
      refine Ev.pos (by omega) (Ev.pos (by omega) ?_)
      have hm : lVBlock (rd_T165 xs i) := hx _ (by simp only [rd_T165, Int.toNat_natCast]; rw [getD_eq hi]; exact List.getElem_mem hi)
      have e : rd_T165 xs i = xs.getD i z165 := by simp [rd_T165]
      refine Ev.bind (szVBlock_f _ a h0 h1 hm) ?_
      rw [e]
      split at h
      · rename_i hc
        rw [if_pos hc, wrap64_nat (by omega)]
        exact Ev.neg (by omega) h
      · rename_i hc
        rw [if_neg hc]
        exact Ev.pos (by omega) (Ev.some h.symm)) (fun a => by
      refine Ev.succ ?_
      simp only [laws_szVBlockS.l0]
      exact Ev.neg (by omega) (Ev.now _)) (a - xs.length) (by omega) (by omega)
    have e : (if ((xs.map sVBlock).sum : Int) ≤ a - xs.length then a - xs.length - (xs.map sVBlock).sum else -1) = (if (sVBlockS xs : Int) ≤ a then a - sVBlockS xs else -1) := by unfold sVBlockS; split <;> split <;> omega
    rw [← e]
    exact h
  · rw [if_neg (by unfold sVBlockS; omega)]
    exact Ev.pos (by omega) (Ev.now _)
theorem atVBlockS {xs : List S165} {i : Nat} (h : sVBlockS xs ≤ 1048576) (hi : i < xs.length) : sVBlock (xs.getD i z165) ≤ 1048576 := by
  have := sum_getD_le sVBlock z165 xs i hi
  unfold sVBlockS at h
  omega
theorem toVBlockS_f (l : List S165) (hl : sVBlockS l ≤ 1048576) : Ev (fun k => laws_toVBlockS.f k l) (l.map iVBlock) := by
  unfold laws_toVBlockS.f
  have hl1 : l.length ≤ 1048576 := by unfold sVBlockS at hl; omega
  refine Ev.pos (by omega) (Ev.pos (by omega) ?_)
  have h := to_gen iVBlock z85 z165 l (fun k out i => laws_toVBlockS.l0 k l out i) (fun i out r hi ho h => by
    refine Ev.succ ?_
    simp only [laws_toVBlockS.l0]
    have e : rd_T165 l i = l.getD i z165 := by simp [rd_T165]
    rw [e]
    refine Ev.pos (by omega) (Ev.pos (by omega) (Ev.bind (toVBlock_f _ (atVBlockS hl hi)) (Ev.pos (by omega) ?_)))
    rw [wrap64_nat (by omega)]
    exact h) (fun out _ => by
    refine Ev.succ ?_
    simp only [laws_toVBlockS.l0]
    exact Ev.neg (by omega) (Ev.now _))
  simpa using h
theorem eqVBlockS_f (l : List S85) (hb : bVBlockS l) : Ev (fun k => laws_eqVBlockS.f k l l) true := by
  obtain ⟨hl, hb⟩ := hb
  unfold laws_eqVBlockS.f
  refine Ev.pos rfl (all_gen l.length (fun k i => laws_eqVBlockS.l0 k l l i) (fun i hi h => ?_) ?_)
  · refine Ev.succ ?_
    simp only [laws_eqVBlockS.l0]
    rw [wrap64_nat (by omega)]
    have hm : bVBlock (rd_T85 l i) := hb _ (by simp only [rd_T85, Int.toNat_natCast]; rw [getD_eq hi]; exact List.getElem_mem hi)
    exact Ev.pos (by omega) (Ev.pos (by omega) (Ev.pos (by omega) (Ev.bind (eqVBlock_f _ hm) (Ev.pos rfl h))))
  · refine Ev.succ ?_
    simp only [laws_eqVBlockS.l0]
    exact Ev.neg (by omega) (Ev.now _)
theorem bVBlockS_of (xs : List S165) (h : sVBlockS xs ≤ 1048576) : bVBlockS (xs.map iVBlock) := by
  refine ⟨by rw [List.length_map]; unfold sVBlockS at h; omega, fun y hy => ?_⟩
  obtain ⟨x, hx, rfl⟩ := List.mem_map.1 hy
  obtain ⟨i, hi, rfl⟩ := List.getElem_of_mem hx
  have := atVBlockS h hi
  rw [getD_eq hi] at this
  exact bVBlock_of _ this
def sVFunc (f0 : Int) (f1 : List Int) (f2 : List S165) : Nat := f1.length + (sVBlockS f2 + (0))
def lVFunc (f0 : Int) (f1 : List Int) (f2 : List S165) : Prop := f1.length ≤ 9223372036854775807 ∧ lVBlockS f2
def bVFunc (f0 : Int) (f1 : List Int) (f2 : List S85) : Prop := f1.length ≤ 1048576 ∧ bVBlockS f2
theorem szVFunc_f (f0 : Int) (f1 : List Int) (f2 : List S165) (a : Int) (h0 : 0 ≤ a) (h1 : a ≤ 1048576) (hx : lVFunc f0 f1 f2) : Ev (fun k => laws_szVFunc.f k f0 f1 f2 a) (if (sVFunc f0 f1 f2 : Int) ≤ a then a - (sVFunc f0 f1 f2 : Int) else -1) := by
  obtain ⟨k0, k1⟩ := hx
  unfold laws_szVFunc.f sVFunc
  refine sz_bind (szInt64S_f _ _ (by omega) (by omega) k0) (fun e0 => ?_)
  refine sz_bind (szVBlockS_f _ _ (by omega) (by omega) k1) (fun e1 => ?_)
  exact sz_end _ (by omega)
theorem toVFunc_f (f0 : Int) (f1 : List Int) (f2 : List S165) (h : sVFunc f0 f1 f2 ≤ 1048576) : Ev (fun k => laws_toVFunc.f k f0 f1 f2) (f0, f1, (f2.map iVBlock)) := by
  unfold sVFunc at h
  unfold laws_toVFunc.f
  refine Ev.bind (toInt64S_f _ (by omega)) ?_
  refine Ev.bind (toVBlockS_f _ (by omega)) ?_
  exact Ev.now _
theorem eqVFunc_f (f0 : Int) (f1 : List Int) (f2 : List S85) (hb : bVFunc f0 f1 f2) : Ev (fun k => laws_eqVFunc.f k f0 f1 f2 f0 f1 f2) true := by
  obtain ⟨k0, k1⟩ := hb
  unfold laws_eqVFunc.f
  refine Ev.pos rfl ?_
  refine Ev.bind (eqInt64S_f _ k0) (Ev.pos rfl ?_)
  refine Ev.bind (eqVBlockS_f _ k1) (Ev.pos rfl ?_)
  exact Ev.now _
theorem bVFunc_of (f0 : Int) (f1 : List Int) (f2 : List S165) (h : sVFunc f0 f1 f2 ≤ 1048576) : bVFunc f0 f1 (f2.map iVBlock) := by
  unfold sVFunc at h
  refine ⟨?_, ?_⟩
  · show f1.length ≤ _; omega
  · exact bVBlockS_of _ (by omega)
end Go.Proofs.Ythegbhfoleiegaa.All

/- Plain laws: spec.l18Live comes to the least closed sets of the registers that it looks at. -/
namespace Go.Proofs.Ythegbhfoleiegaa.All
open Go.RowKit Go.Proofs.YthegbhfoleiegaaW.PrintWords Go.Proofs.YthegbhfoleiegaaW.PrintLast Go.Proofs.YthegbhfoleiegaaW.PrintMore
set_option linter.unusedVariables false
set_option linter.unusedSimpArgs false
theorem readsL_pos {i : S87} {x : Int} (h : x ∈ readsL i) : 0 ≤ x := by unfold readsL at h; simpa using (List.mem_filter.1 h).2
theorem readsL_len (i : S87) : (readsL i).length ≤ i.f7.length + 3 := by
  unfold readsL
  refine Nat.le_trans (List.length_filter_le _ _) ?_
  simp
theorem insAt_eq {bl : List (S85)} {b : Nat} : (rd_T85 bl (b : Int)).f0 = insAt bl b := rfl
theorem insAt_b {bl : List (S85)} (hb : bVBlockS bl) {b : Nat} (h : b < bl.length) : (insAt bl b).length ≤ 1048576 ∧ ∀ i ∈ insAt bl b, i.f7.length ≤ 1048576 := by
  have e : insAt bl b = (bl[b]).f0 := by unfold insAt rd_T85; rw [Int.toNat_natCast, List.getD_eq_getElem?_getD, List.getElem?_eq_getElem h]; rfl
  rw [e]
  exact hb.2 _ (List.getElem_mem h)
theorem rdIns {is : List (S87)} {j : Nat} (h : j < is.length) : rd_T87 is (j : Int) = is[j] := by unfold rd_T87; rw [Int.toNat_natCast, List.getD_eq_getElem?_getD, List.getElem?_eq_getElem h]; rfl
/-! the greatest register that is named -/
theorem most_l2 (a0 : Int) (l1 : List Int) (bl : List (S85)) (b i : Int) (ls : List Int) (hl : ls.length ≤ 2000000) : ∀ (d j : Nat) (n : Int), j + d = ls.length → 0 ≤ n → n ≤ 1048576 →
    ∃ n' : Int, n ≤ n' ∧ n' ≤ 1048576 ∧ (∀ x ∈ ls.drop j, x < 1048576 → x < n') ∧ ∀ r, Ev (fun k => spec_l18Most.l1 k n' b (wrap64 (i + 1)) a0 l1 bl) r → Ev (fun k => spec_l18Most.l2 k n b i ls (j : Int) a0 l1 bl) r
  | 0, j, n, h, h0, h1 => by
    refine ⟨n, Int.le_refl _, h1, fun x hx => ?_, fun r hr => ?_⟩
    · rw [List.drop_eq_nil_of_le (by omega)] at hx; cases hx
    · refine Ev.succ ?_
      simp only [spec_l18Most.l2]
      exact Ev.neg (by omega) hr
  | d + 1, j, n, h, h0, h1 => by
    have hj : j < ls.length := by omega
    by_cases hx : ls[j] ≥ n ∧ ls[j] < 1048576
    · obtain ⟨n', g1, g2, g3, g4⟩ := most_l2 a0 l1 bl b i ls hl d (j + 1) (ls[j] + 1) (by omega) (by omega) (by omega)
      refine ⟨n', by omega, g2, fun x hm h9 => ?_, fun r hr => ?_⟩
      · rw [List.drop_eq_getElem_cons hj] at hm
        rcases List.mem_cons.1 hm with rfl | hm
        · omega
        · exact g3 x hm h9
      · refine Ev.succ ?_
        simp only [spec_l18Most.l2]
        rw [rd_natL ls j hj, wrap64_nat (by omega), wrap64_id (by omega) (by omega)]
        exact Ev.pos (by omega) (Ev.pos (by omega) (Ev.pos hx.1 (Ev.pos hx.2 (g4 r hr))))
    · obtain ⟨n', g1, g2, g3, g4⟩ := most_l2 a0 l1 bl b i ls hl d (j + 1) n (by omega) h0 h1
      refine ⟨n', g1, g2, fun x hm h9 => ?_, fun r hr => ?_⟩
      · rw [List.drop_eq_getElem_cons hj] at hm
        rcases List.mem_cons.1 hm with rfl | hm
        · omega
        · exact g3 x hm h9
      · refine Ev.succ ?_
        simp only [spec_l18Most.l2]
        rw [rd_natL ls j hj, wrap64_nat (by omega)]
        refine Ev.pos (by omega) (Ev.pos (by omega) ?_)
        by_cases h2 : ls[j] ≥ n
        · exact Ev.pos h2 (Ev.neg (by omega) (g4 r hr))
        · exact Ev.neg h2 (g4 r hr)
/-! what is live ahead of an instruction -/
theorem getD_set (l : List Bool) (i r : Nat) (v : Bool) (h : i < l.length) : (l.set i v).getD r false = if i = r then v else l.getD r false := by
  rw [List.getD_eq_getElem?_getD, List.getElem?_set]
  by_cases e : i = r
  · rw [if_pos e, if_pos e, if_pos h]; rfl
  · rw [if_neg e, if_neg e, ← List.getD_eq_getElem?_getD]
theorem ahead_l0 (ls : List Int) (hp : ∀ x ∈ ls, 0 ≤ x) (hl : ls.length ≤ 2000000) : ∀ (d j : Nat) (s : List Bool), j + d = ls.length →
    ∃ R : List Bool, R.length = s.length ∧ (∀ r, r < s.length → R.getD r false = (s.getD r false || decide ((r : Int) ∈ ls.drop j))) ∧ Ev (fun k => spec_l18Ahead.l0 k s ls (j : Int)) R
  | 0, j, s, h => by
    refine ⟨s, rfl, fun r hr => by rw [List.drop_eq_nil_of_le (by omega)]; simp, Ev.succ ?_⟩
    simp only [spec_l18Ahead.l0]
    exact Ev.neg (by omega) (Ev.now _)
  | d + 1, j, s, h => by
    have hj : j < ls.length := by omega
    have h0 := hp _ (List.getElem_mem hj)
    by_cases hx : ls[j] < (s.length : Int)
    · obtain ⟨R, g1, g2, g3⟩ := ahead_l0 ls hp hl d (j + 1) (s.set (ls[j]).toNat true) (by omega)
      rw [List.length_set] at g1 g2
      refine ⟨R, g1, fun r hr => ?_, Ev.succ ?_⟩
      · rw [g2 r hr, getD_set _ _ _ _ (by omega), List.drop_eq_getElem_cons hj]
        by_cases e : (ls[j]).toNat = r
        · rw [if_pos e]
          have : (r : Int) ∈ ls[j] :: ls.drop (j + 1) := List.mem_cons.2 (.inl (by omega))
          rw [decide_eq_true this]; simp
        · rw [if_neg e]
          have : ((r : Int) ∈ ls[j] :: ls.drop (j + 1)) ↔ (r : Int) ∈ ls.drop (j + 1) := by
            rw [List.mem_cons]
            exact ⟨fun h => h.elim (fun h => by omega) id, .inr⟩
          rw [decide_eq_decide.2 this]
      · simp only [spec_l18Ahead.l0]
        rw [rd_natL ls j hj, wrap64_nat (by omega)]
        exact Ev.pos (by omega) (Ev.pos (by omega) (Ev.pos hx (Ev.pos h0 g3)))
    · obtain ⟨R, g1, g2, g3⟩ := ahead_l0 ls hp hl d (j + 1) s (by omega)
      refine ⟨R, g1, fun r hr => ?_, Ev.succ ?_⟩
      · rw [g2 r hr, List.drop_eq_getElem_cons hj]
        have : ((r : Int) ∈ ls[j] :: ls.drop (j + 1)) ↔ (r : Int) ∈ ls.drop (j + 1) := by
          rw [List.mem_cons]
          exact ⟨fun h => h.elim (fun h => by omega) id, .inr⟩
        rw [decide_eq_decide.2 this]
      · simp only [spec_l18Ahead.l0]
        rw [rd_natL ls j hj, wrap64_nat (by omega)]
        exact Ev.pos (by omega) (Ev.pos (by omega) (Ev.neg hx g3))
theorem specAhead_f (i : S87) (s : List Bool) (hi : i.f7.length ≤ 1048576) (hs : s.length ≤ 1048576) :
    ∃ R : List Bool, R.length = s.length ∧ (∀ r, r < s.length → (R.getD r false = true ↔ (r : Int) ∈ readsL i ∨ ((r : Int) ≠ i.f1 ∧ s.getD r false = true))) ∧ Ev (fun k => spec_l18Ahead.f k i.f0 i.f1 i.f2 i.f3 i.f4 i.f5 i.f6 i.f7 s) R := by
  have hrl := readsL_len i
  have hj1 : ∀ t : List Bool, t.length = s.length → ∃ R : List Bool, R.length = s.length ∧ (∀ r, r < s.length → R.getD r false = (t.getD r false || decide ((r : Int) ∈ readsL i))) ∧ Ev (fun k => spec_l18Ahead.j1 k t i.f0 i.f1 i.f2 i.f3 i.f4 i.f5 i.f6 i.f7) R := fun t ht => by
    obtain ⟨R, g1, g2, g3⟩ := ahead_l0 (readsL i) (fun x hx => readsL_pos hx) (by omega) _ 0 t (Nat.zero_add _)
    refine ⟨R, g1.trans ht, fun r hr => by rw [g2 r (by omega), List.drop_zero], Ev.succ ?_⟩
    simp only [spec_l18Ahead.j1]
    exact Ev.bind (specReads_f i hi) g3
  unfold spec_l18Ahead.f
  by_cases h1 : i.f1 ≥ 0 ∧ i.f1 < (s.length : Int)
  · obtain ⟨R, g1, g2, g3⟩ := hj1 (s.set i.f1.toNat false) (by simp)
    refine ⟨R, g1, fun r hr => ?_, Ev.some_bind (Ev.pos (by simp; omega) (Ev.some_bind (Ev.pos h1.1 (Ev.succ ?_))))⟩
    · rw [g2 r hr, getD_set _ _ _ _ (by omega)]
      by_cases e : i.f1.toNat = r
      · rw [if_pos e]
        simp
        intro h2
        exact absurd (by omega : (r : Int) = i.f1) h2
      · rw [if_neg e]
        simp
        constructor
        · rintro (h | h)
          · exact .inr ⟨by omega, h⟩
          · exact .inl h
        · rintro (h | h)
          · exact .inr h
          · exact .inl h.2
    · simp only [spec_l18Ahead.j0, List.nil_append]
      exact Ev.pos (by simp; exact h1.2) (Ev.pos h1.1 (Ev.pos h1.2 g3))
  · obtain ⟨R, g1, g2, g3⟩ := hj1 s rfl
    have hne : ∀ r, r < s.length → (r : Int) ≠ i.f1 := fun r hr e => h1 ⟨by omega, by omega⟩
    have hR : ∀ r, r < s.length → (R.getD r false = true ↔ (r : Int) ∈ readsL i ∨ ((r : Int) ≠ i.f1 ∧ s.getD r false = true)) := fun r hr => by
      rw [g2 r hr]
      have := hne r hr
      simp [this]
      exact Or.comm
    refine ⟨R, g1, hR, Ev.some_bind (Ev.pos (by simp; omega) (Ev.some_bind ?_))⟩
    by_cases h2 : i.f1 ≥ 0
    · refine Ev.pos h2 (Ev.succ ?_)
      simp only [spec_l18Ahead.j0, List.nil_append]
      exact Ev.neg (by simp; omega) g3
    · refine Ev.neg h2 (Ev.succ ?_)
      simp only [spec_l18Ahead.j0, List.nil_append]
      exact Ev.neg (by simp) g3
theorem goes_f (i : S87) : spec_l18Goes.f i.f0 i.f1 i.f2 i.f3 i.f4 i.f5 i.f6 i.f7 = some (!stopsB i.f0) := by
  unfold spec_l18Goes.f stopsB impl_stops.f
  by_cases h1 : i.f0 = 23
  · rw [if_pos h1, if_pos h1]; rfl
  · rw [if_neg h1, if_neg h1]
    by_cases h2 : i.f0 = 62
    · rw [if_pos h2, if_pos h2]; rfl
    · rw [if_neg h2, if_neg h2]; rfl
theorem jumps_f (a0 : Int) (l1 : List Int) (bl : List (S85)) (i : S87) : spec_l18Jumps.f a0 l1 bl i.f0 i.f1 i.f2 i.f3 i.f4 i.f5 i.f6 i.f7 = some (if jumpsB i.f0 = true ∧ 0 ≤ i.f5 ∧ i.f5 < (bl.length : Int) then i.f5 else -1) := by
  have key : (if i.f5 < 0 then (some (-1)) else (if i.f5 ≥ (bl.length : Int) then (some (-1)) else (some i.f5))) = some (if 0 ≤ i.f5 ∧ i.f5 < (bl.length : Int) then i.f5 else -1) := by
    by_cases h1 : i.f5 < 0
    · rw [if_pos h1, if_neg (by omega)]
    · rw [if_neg h1]
      by_cases h2 : i.f5 ≥ (bl.length : Int)
      · rw [if_pos h2, if_neg (by omega)]
      · rw [if_neg h2, if_pos (by omega)]
  unfold spec_l18Jumps.f jumpsB impl_jumps.f
  by_cases h1 : i.f0 = 23
  · rw [if_pos h1, if_pos h1, key]; simp
  · rw [if_neg h1, if_neg h1]
    by_cases h2 : i.f0 = 24
    · rw [if_pos h2, if_pos h2, key]; simp
    · rw [if_neg h2, if_neg h2]
      by_cases h3 : i.f0 = 25
      · rw [if_pos h3, key]; simp [h3]
      · rw [if_neg h3]; simp [h3]
/-! behind an instruction, and a block -/
def SB (live : List (List Bool)) (b : Nat) (x : Int) : Prop := 0 ≤ x ∧ (live.getD b []).getD x.toNat false = true
theorem behind_f (k : Nat) (a0 : Int) (l1 : List Int) {bl : List (S85)} (live : List (List Bool)) {n b j : Nat} (hb : b < bl.length) (hj : j < (insAt bl b).length) (nx : List Bool) (hn : nx.length = n) (hn9 : n ≤ 1048576) (hL : live.length = bl.length) (hR : ∀ c, c < bl.length → (live.getD c []).length = n) :
    ∃ R : List Bool, R.length = n ∧ (∀ r, r < n → (R.getD r false = true ↔ (stopsB (insAt bl b)[j].f0 = false ∧ nx.getD r false = true) ∨ (jumpsB (insAt bl b)[j].f0 = true ∧ 0 ≤ (insAt bl b)[j].f5 ∧ (insAt bl b)[j].f5 < (bl.length : Int) ∧ SB live (insAt bl b)[j].f5.toNat (r : Int)))) ∧
      spec_l18Behind.f k a0 l1 bl live (b : Int) (j : Int) nx = some R := by
  obtain ⟨i, hi⟩ : ∃ i, i = (insAt bl b)[j] := ⟨_, rfl⟩
  have e1 : rd_T87 (rd_T85 bl (b : Int)).f0 (j : Int) = i := by rw [insAt_eq, rdIns hj, hi]
  rw [← hi]
  have hf : spec_l18Behind.f k a0 l1 bl live (b : Int) (j : Int) nx = (if 0 ≤ (if jumpsB i.f0 = true ∧ 0 ≤ i.f5 ∧ i.f5 < (bl.length : Int) then i.f5 else -1) then if (if jumpsB i.f0 = true ∧ 0 ≤ i.f5 ∧ i.f5 < (bl.length : Int) then i.f5 else -1) < (live.length : Int) then if nx.length ≤ (live.getD (if jumpsB i.f0 = true ∧ 0 ≤ i.f5 ∧ i.f5 < (bl.length : Int) then i.f5 else -1).toNat []).length then some (orTo nx.length (if (!stopsB i.f0) = true then nx else List.replicate nx.length false) (live.getD (if jumpsB i.f0 = true ∧ 0 ≤ i.f5 ∧ i.f5 < (bl.length : Int) then i.f5 else -1).toNat [])) else none else none else some (if (!stopsB i.f0) = true then nx else List.replicate nx.length false)) := by
    unfold spec_l18Behind.f
    rw [if_pos (by omega), if_pos (by omega), if_pos (by omega), if_pos (by rw [insAt_eq]; omega), if_pos (by omega), e1, goes_f, jumps_f]
    rfl
  rw [hf]
  have hnow : ∀ r, r < n → ((if (!stopsB i.f0) = true then nx else List.replicate nx.length false).getD r false = true ↔ stopsB i.f0 = false ∧ nx.getD r false = true) := fun r hr => by
    cases hs : stopsB i.f0
    · simp
    · simp only [Bool.not_true, Bool.false_eq_true, if_false]
      rw [List.getD_eq_getElem?_getD, List.getElem?_replicate]
      simp
      split <;> rfl
  have hnl : (if (!stopsB i.f0) = true then nx else List.replicate nx.length false).length = n := by split <;> simp [hn]
  by_cases hj2 : jumpsB i.f0 = true ∧ 0 ≤ i.f5 ∧ i.f5 < (bl.length : Int)
  · have hrl := hR i.f5.toNat (by omega)
    rw [if_pos hj2, if_pos hj2.2.1, if_pos (by omega), if_pos (by omega)]
    refine ⟨_, by rw [orTo_len]; exact hnl, fun r hr => ?_, rfl⟩
    rw [orTo_getD _ _ _ r (by omega)]
    have hd : decide (r < nx.length) = true := decide_eq_true (by omega)
    rw [hd]
    unfold SB
    rw [Bool.or_eq_true, hnow r hr, Bool.true_and]
    simp [hj2.1, hj2.2.1, hj2.2.2]
  · rw [if_neg hj2, if_neg (by omega)]
    refine ⟨_, hnl, fun r hr => ?_, rfl⟩
    rw [hnow r hr]
    exact ⟨.inl, fun h => h.elim id (fun h => absurd ⟨h.1, h.2.1, h.2.2.1⟩ hj2)⟩
theorem block_l0 (a0 : Int) (l1 : List Int) {bl : List (S85)} (hbv : bVBlockS bl) (live : List (List Bool)) {n b : Nat} (hb : b < bl.length) (hn9 : n ≤ 1048576) (hL : live.length = bl.length) (hR : ∀ c, c < bl.length → (live.getD c []).length = n) : ∀ (j : Nat) (nx : List Bool), j ≤ (insAt bl b).length → nx.length = n →
    (∀ r, r < n → (nx.getD r false = true ↔ blockQ bl.length (SB live) ((insAt bl b).drop j) (r : Int))) →
    ∃ R : List Bool, R.length = n ∧ (∀ r, r < n → (R.getD r false = true ↔ blockQ bl.length (SB live) (insAt bl b) (r : Int))) ∧ Ev (fun k => spec_l18Block.l0 k live (b : Int) nx ((j : Int) - 1) a0 l1 bl) R
  | 0, nx, _, hn, hnx => by
    refine ⟨nx, hn, fun r hr => by rw [hnx r hr, List.drop_zero], Ev.succ ?_⟩
    simp only [spec_l18Block.l0]
    exact Ev.neg (by omega) (Ev.now _)
  | j + 1, nx, hj, hn, hnx => by
    have hj2 : j < (insAt bl b).length := by omega
    obtain ⟨hi9, hi7⟩ := insAt_b hbv hb
    have h7 := hi7 _ (List.getElem_mem hj2)
    obtain ⟨R1, g1, g2, g3⟩ := behind_f 0 a0 l1 live hb hj2 nx hn hn9 hL hR
    obtain ⟨R2, q1, q2, q3⟩ := specAhead_f (insAt bl b)[j] R1 h7 (by omega)
    have hdr : (insAt bl b).drop j = (insAt bl b)[j] :: (insAt bl b).drop (j + 1) := List.drop_eq_getElem_cons hj2
    have hR2 : ∀ r, r < n → (R2.getD r false = true ↔ blockQ bl.length (SB live) ((insAt bl b).drop j) (r : Int)) := fun r hr => by
      rw [q2 r (by omega), g2 r hr, hdr, hnx r hr]
      exact Iff.rfl
    obtain ⟨R, p1, p2, p3⟩ := block_l0 a0 l1 hbv live hb hn9 hL hR j R2 (by omega) (by omega) hR2
    refine ⟨R, p1, p2, Ev.succ ?_⟩
    simp only [spec_l18Block.l0]
    have ej : ((j + 1 : Nat) : Int) - 1 = (j : Int) := by omega
    rw [ej, insAt_eq, rdIns hj2, wrap64_id (by omega) (by omega)]
    refine Ev.pos (by omega) (Ev.pos (by omega) (Ev.pos (by omega) (Ev.pos (by omega) (Ev.pos (by omega) (Ev.bind (⟨0, fun _ _ => g3⟩ : Ev (fun k => spec_l18Behind.f k a0 l1 bl live (b : Int) (j : Int) nx) R1) (Ev.bind q3 p3))))))
theorem specBlock_f (a0 : Int) (l1 : List Int) {bl : List (S85)} (hbv : bVBlockS bl) (live : List (List Bool)) {n b : Nat} (hb : b < bl.length) (hn9 : n ≤ 1048576) (hL : live.length = bl.length) (hR : ∀ c, c < bl.length → (live.getD c []).length = n) :
    ∃ R : List Bool, R.length = n ∧ (∀ r, r < n → (R.getD r false = true ↔ blockQ bl.length (SB live) (insAt bl b) (r : Int))) ∧ Ev (fun k => spec_l18Block.f k a0 l1 bl live (b : Int) (n : Int)) R := by
  obtain ⟨hi9, _⟩ := insAt_b hbv hb
  obtain ⟨R, p1, p2, p3⟩ := block_l0 a0 l1 hbv live hb hn9 hL hR (insAt bl b).length (List.replicate n false) (Nat.le_refl _) (by simp) (fun r hr => by
    rw [List.drop_length, List.getD_eq_getElem?_getD, List.getElem?_replicate]
    unfold blockQ
    simp
    split <;> rfl)
  refine ⟨R, p1, p2, ?_⟩
  unfold spec_l18Block.f
  rw [insAt_eq, wrap64_id (by omega) (by omega), Int.toNat_natCast]
  exact Ev.pos (by omega) (Ev.pos (by omega) (Ev.pos (by omega) (Ev.pos (by omega) p3)))
/-! the loop -/
theorem list_ext_B {a b : List Bool} (hl : a.length = b.length) (h : ∀ r, r < a.length → a.getD r false = b.getD r false) : a = b := list_ext_getD hl h
theorem count_le : ∀ (a b : List Bool), a.length = b.length → (∀ r, r < a.length → a.getD r false = true → b.getD r false = true) → a.count true ≤ b.count true ∧ (a ≠ b → a.count true < b.count true)
  | [], [], _, _ => ⟨Nat.le_refl _, fun h => absurd rfl h⟩
  | [], _ :: _, h, _ => by simp at h
  | _ :: _, [], h, _ => by simp at h
  | x :: a, y :: b, hl, h => by
    obtain ⟨h1, h2⟩ := count_le a b (by simpa using hl) (fun r hr => by have := h (r + 1) (by simp; omega); simpa using this)
    have h0 := h 0 (by simp)
    simp only [List.getD_cons_zero] at h0
    cases x <;> cases y
    · exact ⟨by simpa using h1, fun hne => by have : a ≠ b := fun e => hne (by rw [e]); simpa using h2 this⟩
    · exact ⟨by simp; omega, fun _ => by simp; omega⟩
    · simp at h0
    · exact ⟨by simpa using h1, fun hne => by have : a ≠ b := fun e => hne (by rw [e]); simpa using h2 this⟩
def cntB (live : List (List Bool)) : Nat := (live.map (List.count true)).sum
theorem cntB_set (live : List (List Bool)) (b : Nat) (s : List Bool) (hb : b < live.length) : cntB (live.set b s) + (live.getD b []).count true = cntB live + s.count true := by
  unfold cntB
  rw [List.map_set]
  have h := sum_set (live.map (List.count true)) b (s.count true) (by simpa using hb)
  have e : (live.map (List.count true)).getD b 0 = (live.getD b []).count true := by
    rw [List.getD_eq_getElem?_getD, List.getElem?_map, List.getD_eq_getElem?_getD, List.getElem?_eq_getElem hb]; rfl
  rw [e] at h
  exact h
structure BI (bl : List (S85)) (n : Nat) (live : List (List Bool)) : Prop where
  hl : live.length = bl.length
  hr : ∀ c, c < bl.length → (live.getD c []).length = n
  asc : Asc bl (SB live)
  low : Low bl (SB live)
theorem cntB_le {bl : List (S85)} {n : Nat} {live : List (List Bool)} (h : BI bl n live) : cntB live ≤ bl.length * n := by
  have : ∀ (l : List (List Bool)) (m : Nat), (∀ k ∈ l, k.length ≤ m) → cntB l ≤ l.length * m := by
    intro l m hl
    unfold cntB
    induction l with
    | nil => simp
    | cons a l ih =>
      have h1 := hl a (by simp)
      have h2 := ih (fun k hk => hl k (by simp [hk]))
      have h3 := List.count_le_length (a := true) (l := a)
      simp only [List.map_cons, List.sum_cons, List.length_cons]
      rw [Nat.add_mul]
      omega
  rw [← h.hl]
  refine this live _ (fun k hk => ?_)
  obtain ⟨i, hi, rfl⟩ := List.getElem_of_mem hk
  have e : live.getD i [] = live[i] := by rw [List.getD_eq_getElem?_getD, List.getElem?_eq_getElem hi]; rfl
  rw [← e]
  exact Nat.le_of_eq (h.hr i (by rw [← h.hl]; exact hi))
theorem SB_range {bl : List (S85)} {n : Nat} {live : List (List Bool)} (hr : ∀ c, c < bl.length → (live.getD c []).length = n) {b : Nat} (hb : b < bl.length) {x : Int} (h : SB live b x) : ∃ r : Nat, x = (r : Int) ∧ r < n := by
  obtain ⟨h0, h1⟩ := h
  refine ⟨x.toNat, by omega, ?_⟩
  rcases Nat.lt_or_ge x.toNat n with h2 | h2
  · exact h2
  · rw [List.getD_eq_getElem?_getD, List.getElem?_eq_none (by rw [hr b hb]; exact h2)] at h1
    cases h1
theorem BI.step {bl : List (S85)} {n : Nat} {live : List (List Bool)} (h : BI bl n live) {b : Nat} (hb : b < bl.length) {now : List Bool} (hn : now.length = n) (hq : ∀ r, r < n → (now.getD r false = true ↔ blockQ bl.length (SB live) (insAt bl b) (r : Int))) :
    BI bl n (live.set b now) ∧ cntB live ≤ cntB (live.set b now) ∧ (now ≠ live.getD b [] → cntB live < cntB (live.set b now)) ∧ (now = live.getD b [] → live.set b now = live ∧ ∀ r, r < n → (SB live b (r : Int) ↔ blockQ bl.length (SB live) (insAt bl b) (r : Int))) := by
  have hbl : b < live.length := by rw [h.hl]; exact hb
  have gS : ∀ c, (live.set b now).getD c [] = if b = c then now else live.getD c [] := fun c => by
    rw [List.getD_eq_getElem?_getD, List.getElem?_set]
    by_cases e : b = c
    · rw [if_pos e, if_pos e, if_pos hbl]; rfl
    · rw [if_neg e, if_neg e, ← List.getD_eq_getElem?_getD]
  have hr' : ∀ c, c < bl.length → ((live.set b now).getD c []).length = n := fun c hc => by
    rw [gS]; split
    · exact hn
    · exact h.hr c hc
  have s1 : ∀ c, c ≠ b → ∀ x, SB (live.set b now) c x ↔ SB live c x := fun c hc x => by unfold SB; rw [gS, if_neg (fun e => hc e.symm)]
  have s0 : ∀ r : Nat, SB (live.set b now) b (r : Int) ↔ now.getD r false = true := fun r => by
    unfold SB
    rw [gS, if_pos rfl, Int.toNat_natCast]
    exact ⟨fun h => h.2, fun h => ⟨Int.natCast_nonneg r, h⟩⟩
  have f0 : ∀ x, SB (live.set b now) b x → blockQ bl.length (SB live) (insAt bl b) x := fun x hx => by
    obtain ⟨r, rfl, hr⟩ := SB_range hr' hb hx
    exact (hq r hr).1 ((s0 r).1 hx)
  have up0 : ∀ x, SB live b x → SB (live.set b now) b x := fun x hx => by
    obtain ⟨r, rfl, hr⟩ := SB_range h.hr hb hx
    exact (s0 r).2 ((hq r hr).2 (h.asc b hb _ hx))
  have up : ∀ c, c < bl.length → ∀ x, SB live c x → SB (live.set b now) c x := fun c hc x hx => by
    by_cases e : c = b
    · subst e; exact up0 x hx
    · exact (s1 c e x).2 hx
  have hcl := count_le (live.getD b []) now (by rw [h.hr b hb, hn]) (fun r hr hx => by
    rw [h.hr b hb] at hr
    exact (s0 r).1 (up0 (r : Int) ⟨Int.natCast_nonneg r, by rw [Int.toNat_natCast]; exact hx⟩))
  have hsum := cntB_set live b now hbl
  refine ⟨⟨by rw [List.length_set]; exact h.hl, hr', fun c hc x hx => ?_, low_step h.low f0 (fun c hc x hx => (s1 c hc x).1 hx)⟩, by omega, fun hne => by have := hcl.2 (fun e => hne e.symm); omega, fun he => ?_⟩
  · by_cases e : c = b
    · subst e
      exact blockQ_mono (fun d hd => up d hd x) _ (f0 x hx)
    · exact blockQ_mono (fun d hd => up d hd x) _ (h.asc c hc x ((s1 c e x).1 hx))
  · refine ⟨?_, fun r hr => ?_⟩
    · rw [he, List.getD_eq_getElem?_getD, List.getElem?_eq_getElem hbl]
      exact List.set_getElem_self hbl
    · rw [← hq r hr]
      unfold SB
      rw [he, Int.toNat_natCast]
      exact ⟨fun h => h.2, fun h => ⟨Int.natCast_nonneg r, h⟩⟩
def FixN (bl : List (S85)) (n : Nat) (live : List (List Bool)) (b : Nat) : Prop := ∀ r, r < n → (SB live b (r : Int) ↔ blockQ bl.length (SB live) (insAt bl b) (r : Int))
theorem rdL12 (live : List (List Bool)) (b : Nat) : rd_L12 live (b : Int) = live.getD b [] := rfl
theorem live_l3 (a0 : Int) (l1 : List Int) {bl : List (S85)} (hbv : bVBlockS bl) {n b : Nat} {live : List (List Bool)} (hl : live.length = bl.length) (hr : ∀ c, c < bl.length → (live.getD c []).length = n) (hn9 : n ≤ 1048576) (hb : b < bl.length) (now : List Bool) (hn : now.length = n) : ∀ (d r : Nat) (again : Bool), r + d = n →
    ∃ ag : Bool, (ag = true ↔ again = true ∨ ∃ q, r ≤ q ∧ q < n ∧ now.getD q false ≠ (live.getD b []).getD q false) ∧ ∀ res, Ev (fun k => spec_l18Live.l2 k (n : Int) (live.set b now) ag ((b : Int) - 1) a0 l1 bl) res → Ev (fun k => spec_l18Live.l3 k (n : Int) live again (b : Int) now (r : Int) a0 l1 bl) res
  | 0, r, again, h => by
    have hb9 := hbv.1
    refine ⟨again, ⟨.inl, fun h2 => h2.elim id (fun ⟨q, q1, q2, _⟩ => by omega)⟩, fun res hres => Ev.succ ?_⟩
    simp only [spec_l18Live.l3]
    rw [show wrap64 ((b : Int) - 1) = (b : Int) - 1 from wrap64_id (by omega) (by omega), Int.toNat_natCast]
    exact Ev.neg (by omega) (Ev.pos (by omega) (Ev.pos (by omega) hres))
  | d + 1, r, again, h => by
    have hb9 := hbv.1
    have hrl := hr b hb
    have er : wrap64 ((r : Int) + 1) = ((r + 1 : Nat) : Int) := wrap64_nat (by omega)
    by_cases hx : now.getD r false = (live.getD b []).getD r false
    · obtain ⟨ag, g1, g2⟩ := live_l3 a0 l1 hbv hl hr hn9 hb now hn d (r + 1) again (by omega)
      refine ⟨ag, ?_, fun res hres => Ev.succ ?_⟩
      · rw [g1]
        refine or_congr Iff.rfl ⟨fun ⟨q, q1, q2, q3⟩ => ⟨q, by omega, q2, q3⟩, fun ⟨q, q1, q2, q3⟩ => ⟨q, ?_, q2, q3⟩⟩
        rcases Nat.lt_or_ge r q with h1 | h1
        · exact h1
        · obtain rfl : q = r := by omega
          exact absurd hx q3
      · simp only [spec_l18Live.l3]
        rw [er]
        refine Ev.pos (by omega) (Ev.pos (by omega) (Ev.pos (by omega) (Ev.pos (by omega) (Ev.pos (by omega) (Ev.pos (by rw [rdL12]; omega) (Ev.neg ?_ (g2 res hres)))))))
        show ¬ ((now.getD r false != (live.getD b []).getD r false) = true)
        rw [hx]
        simp
    · obtain ⟨ag, g1, g2⟩ := live_l3 a0 l1 hbv hl hr hn9 hb now hn d (r + 1) true (by omega)
      refine ⟨ag, ?_, fun res hres => Ev.succ ?_⟩
      · rw [g1]
        exact ⟨fun _ => .inr ⟨r, Nat.le_refl _, by omega, hx⟩, fun _ => .inl rfl⟩
      · simp only [spec_l18Live.l3]
        rw [er]
        refine Ev.pos (by omega) (Ev.pos (by omega) (Ev.pos (by omega) (Ev.pos (by omega) (Ev.pos (by omega) (Ev.pos (by rw [rdL12]; omega) (Ev.pos ?_ (g2 res hres)))))))
        show (now.getD r false != (live.getD b []).getD r false) = true
        exact bne_iff_ne.2 hx
theorem live_l2 (a0 : Int) (l1 : List Int) {bl : List (S85)} (hbv : bVBlockS bl) {n : Nat} (hn9 : n ≤ 1048576) : ∀ (j : Nat) (live : List (List Bool)) (again : Bool), j ≤ bl.length → BI bl n live →
    ∃ (live' : List (List Bool)) (ag : Bool), BI bl n live' ∧ cntB live ≤ cntB live' ∧ (ag = true → again = true ∨ cntB live < cntB live') ∧ (ag = false → again = false ∧ live' = live ∧ ∀ b, b < j → FixN bl n live b) ∧
      ∀ res, Ev (fun k => spec_l18Live.l1 k (n : Int) live' ag a0 l1 bl) res → Ev (fun k => spec_l18Live.l2 k (n : Int) live again ((j : Int) - 1) a0 l1 bl) res
  | 0, live, again, _, hB => by
    refine ⟨live, again, hB, Nat.le_refl _, .inl, fun h => ⟨h, rfl, fun b hb => absurd hb (Nat.not_lt_zero _)⟩, fun res hres => Ev.succ ?_⟩
    simp only [spec_l18Live.l2]
    exact Ev.neg (by omega) hres
  | j + 1, live, again, hj, hB => by
    have hjb : j < bl.length := by omega
    obtain ⟨R, g1, g2, g3⟩ := specBlock_f a0 l1 hbv live hjb hn9 hB.hl hB.hr
    obtain ⟨ag1, q1, q2⟩ := live_l3 a0 l1 hbv hB.hl hB.hr hn9 hjb R g1 n 0 again (Nat.zero_add _)
    obtain ⟨s1, s2, s3, s4⟩ := hB.step hjb g1 g2
    obtain ⟨live', ag, p1, p2, p3, p4, p5⟩ := live_l2 a0 l1 hbv hn9 j (live.set j R) ag1 (by omega) s1
    have hdiff : (∃ q, 0 ≤ q ∧ q < n ∧ R.getD q false ≠ (live.getD j []).getD q false) ↔ R ≠ live.getD j [] := by
      refine ⟨fun ⟨q, _, _, h⟩ e => h (by rw [e]), fun hne => ?_⟩
      refine Classical.byContradiction fun hno => hne (list_ext_B (by rw [g1, hB.hr j hjb]) (fun r hr => Classical.byContradiction fun hx => hno ⟨r, Nat.zero_le _, by omega, hx⟩))
    refine ⟨live', ag, p1, by omega, fun h => ?_, fun h => ?_, fun res hres => Ev.succ ?_⟩
    · rcases p3 h with h1 | h1
      · rcases q1.1 h1 with h2 | h2
        · exact .inl h2
        · have := s3 (hdiff.1 h2)
          exact .inr (by omega)
      · exact .inr (by omega)
    · obtain ⟨h1, h2, h3⟩ := p4 h
      have hno : ¬ (again = true ∨ ∃ q, 0 ≤ q ∧ q < n ∧ R.getD q false ≠ (live.getD j []).getD q false) := fun hh => by
        have := q1.2 hh
        rw [h1] at this
        cases this
      have hag : again = false := by cases again; rfl; exact absurd (.inl rfl) hno
      have heq : R = live.getD j [] := Classical.byContradiction fun hne => hno (.inr (hdiff.2 hne))
      obtain ⟨e1, e2⟩ := s4 heq
      rw [e1] at h2 h3
      refine ⟨hag, h2, fun b hb => ?_⟩
      rcases Nat.lt_or_ge b j with hb2 | hb2
      · exact h3 b hb2
      · obtain rfl : b = j := by omega
        exact e2
    · simp only [spec_l18Live.l2]
      have ej : ((j + 1 : Nat) : Int) - 1 = (j : Int) := by omega
      rw [ej]
      exact Ev.pos (by omega) (Ev.bind g3 (q2 res (p5 res hres)))
theorem live_l1 (a0 : Int) (l1 : List Int) {bl : List (S85)} (hbv : bVBlockS bl) {n : Nat} (hn9 : n ≤ 1048576) : ∀ (d : Nat) (live : List (List Bool)), BI bl n live → bl.length * n - cntB live ≤ d →
    ∃ L, BI bl n L ∧ (∀ b, b < bl.length → FixN bl n L b) ∧ Ev (fun k => spec_l18Live.l1 k (n : Int) live true a0 l1 bl) L := by
  have hb9 := hbv.1
  intro d
  induction d with
  | zero =>
    intro live hB hd
    obtain ⟨live', ag, p1, p2, p3, p4, p5⟩ := live_l2 a0 l1 hbv hn9 bl.length live false (Nat.le_refl _) hB
    have hle := cntB_le p1
    have hag : ag = false := by
      cases ag with
      | false => rfl
      | true => have := (p3 rfl).resolve_left (by simp); omega
    obtain ⟨_, e1, e2⟩ := p4 hag
    refine ⟨live, hB, e2, Ev.succ ?_⟩
    simp only [spec_l18Live.l1]
    rw [wrap64_id (by omega) (by omega)]
    refine Ev.pos trivial (p5 live ?_)
    rw [e1, hag]
    refine Ev.succ ?_
    simp only [spec_l18Live.l1]
    exact Ev.neg (by simp) (Ev.now _)
  | succ d ih =>
    intro live hB hd
    obtain ⟨live', ag, p1, p2, p3, p4, p5⟩ := live_l2 a0 l1 hbv hn9 bl.length live false (Nat.le_refl _) hB
    have hle := cntB_le p1
    cases ag with
    | false =>
      obtain ⟨_, e1, e2⟩ := p4 rfl
      refine ⟨live, hB, e2, Ev.succ ?_⟩
      simp only [spec_l18Live.l1]
      rw [wrap64_id (by omega) (by omega)]
      refine Ev.pos trivial (p5 live ?_)
      rw [e1]
      refine Ev.succ ?_
      simp only [spec_l18Live.l1]
      exact Ev.neg (by simp) (Ev.now _)
    | true =>
      have h1 := (p3 rfl).resolve_left (by simp)
      obtain ⟨L, q1, q2, q3⟩ := ih live' p1 (by omega)
      refine ⟨L, q1, q2, Ev.succ ?_⟩
      simp only [spec_l18Live.l1]
      rw [wrap64_id (by omega) (by omega)]
      exact Ev.pos trivial (p5 L q3)
theorem BI.start (bl : List (S85)) (n : Nat) : BI bl n (List.replicate bl.length (List.replicate n false)) := by
  have h0 : ∀ b, b < bl.length → (List.replicate bl.length (List.replicate n false)).getD b [] = List.replicate n false := fun b hb => by rw [List.getD_eq_getElem?_getD, List.getElem?_replicate, if_pos hb]; rfl
  have hS : ∀ b, b < bl.length → ∀ x, ¬ SB (List.replicate bl.length (List.replicate n false)) b x := fun b hb x h => by
    unfold SB at h
    rw [h0 b hb, List.getD_eq_getElem?_getD, List.getElem?_replicate] at h
    obtain ⟨_, h⟩ := h
    split at h <;> cases h
  exact ⟨by simp, fun c hc => by rw [h0 c hc]; simp, fun b hb x hx => absurd hx (hS b hb x), fun x T _ b hb hx => absurd hx (hS b hb x)⟩
theorem live_l0 (a0 : Int) (l1 : List Int) {bl : List (S85)} (hbv : bVBlockS bl) {n : Nat} (hn9 : n ≤ 1048576) (res : List (List Bool)) (hres : Ev (fun k => spec_l18Live.l1 k (n : Int) (List.replicate bl.length (List.replicate n false)) true a0 l1 bl) res) : ∀ (d b : Nat), b + d = bl.length →
    Ev (fun k => spec_l18Live.l0 k (n : Int) (List.replicate b (List.replicate n false)) (b : Int) a0 l1 bl) res
  | 0, b, h => by
    obtain rfl : b = bl.length := by omega
    refine Ev.succ ?_
    simp only [spec_l18Live.l0]
    exact Ev.neg (by omega) hres
  | d + 1, b, h => by
    have hb9 := hbv.1
    have h1 := live_l0 a0 l1 hbv hn9 res hres d (b + 1) (by omega)
    refine Ev.succ ?_
    simp only [spec_l18Live.l0]
    rw [wrap64_nat (by omega), Int.toNat_natCast, ← List.replicate_succ']
    exact Ev.pos (by omega) (Ev.pos (by omega) (Ev.pos (by omega) (Ev.pos (by simp; omega) h1)))
/-- Both programs hold the same registers live. -/
theorem live_same {bl : List (S85)} {n : Nat} {L : List (List Bool)} {kss : List (List Int)} (hB : BI bl n L) (hF : ∀ b, b < bl.length → FixN bl n L b) (hK : KI bl kss) (hX : Fix bl (SK kss)) (hx : ∀ x ∈ allR bl, x < 1048576 → x < (n : Int)) (hn9 : n ≤ 1048576) {b : Nat} (hb : b < bl.length) (x : Int) :
    (x ∈ kss.getD b [] ∧ x < 1048576) ↔ SB L b x := by
  constructor
  · rintro ⟨h1, h2⟩
    have hr := hx x (hK.sub b x h1) h2
    have h0 : 0 ≤ x := by
      have hm := hK.sub b x h1
      unfold allR at hm
      obtain ⟨c, _, hc⟩ := List.mem_flatMap.1 hm
      obtain ⟨i, _, hi⟩ := List.mem_flatMap.1 hc
      exact readsL_pos hi
    obtain ⟨r, rfl⟩ := Int.eq_ofNat_of_zero_le h0
    exact hK.low (r : Int) (SB L) (fun c hc hq => (hF c hc r (by omega)).2 hq) b hb h1
  · intro h
    obtain ⟨r, rfl, hr⟩ := SB_range hB.hr hb h
    exact ⟨hB.low (r : Int) (SK kss) (fun c hc hq => (hX c hc _).2 hq) b hb h, by omega⟩
end Go.Proofs.Ythegbhfoleiegaa.All

namespace Go.Proofs.Ythegbhfoleiegaa.All
open Go.RowKit Go.Proofs.YthegbhfoleiegaaW.PrintWords Go.Proofs.YthegbhfoleiegaaW.PrintLast Go.Proofs.YthegbhfoleiegaaW.PrintMore
attribute [local go_sem] max2_int min2_int max_two min_two max_three min_three max_four min_four   -- for this text's walks alone
set_option linter.unusedVariables false
set_option linter.unusedSimpArgs false

def hullIv (H : List (S111)) (cl : List Int) (r : Nat) : S113 := ⟨(r : Int), (rd_T111 H (r : Int)).f1, (rd_T111 H (r : Int)).f2, crossT cl (rd_T111 H (r : Int)).f1 (rd_T111 H (r : Int)).f2 cl.length⟩
def hullL (H : List (S111)) (cl : List Int) (m : Nat) : List (S113) := ((List.range m).filter fun (r : Nat) => (rd_T111 H (r : Int)).f0).map (hullIv H cl)
theorem hullL_succ (H : List (S111)) (cl : List Int) (m : Nat) : hullL H cl (m + 1) = if (rd_T111 H (m : Int)).f0 = true then hullL H cl m ++ [hullIv H cl m] else hullL H cl m := by
 unfold hullL
 rw [List.range_succ, List.filter_append, List.map_append]
 cases h : (rd_T111 H (m : Int)).f0
 · rw [List.filter_cons_of_neg (by rw [h]; simp)]; simp
 · rw [List.filter_cons_of_pos (by exact h)]; simp
theorem hullL_len (H : List (S111)) (cl : List Int) (m : Nat) : (hullL H cl m).length ≤ m := by unfold hullL; rw [List.length_map]; exact Nat.le_trans (List.length_filter_le _ _) (by simp)
theorem hullBlkC_mem (nb : Nat) (L : List (List Bool)) (is : List (S87)) (first : Int) (s : List (S111) × List Int) : ∀ (j : Nat) (x : Int), x ∈ (hullBlk nb L is first j s).2 → x ∈ s.2 ∨ (first ≤ x ∧ x < first + (j : Int))
 | 0, x, h => .inl h
 | j + 1, x, h => by
  rw [hullBlk_succ] at h
  dsimp only at h
  split at h
  · rcases List.mem_append.1 h with h3 | h3
    · rcases hullBlkC_mem nb L is first s j x h3 with h4 | h4
      · exact .inl h4
      · exact .inr ⟨h4.1, by omega⟩
    · rw [List.mem_singleton] at h3
      exact .inr ⟨by omega, by omega⟩
  · rcases hullBlkC_mem nb L is first s j x h with h4 | h4
    · exact .inl h4
    · exact .inr ⟨h4.1, by omega⟩
theorem hullPassC_mem (bl : List (S85)) (L : List (List Bool)) (n : Nat) : ∀ (m : Nat) (x : Int), x ∈ (hullPass bl L n m).2 → 0 ≤ x ∧ x < (firstH bl m : Nat)
 | 0, x, h => by cases h
 | m + 1, x, h => by
  rw [hullPass_succ] at h
  have hf := firstH_succ bl m
  split at h
  · have := hullPassC_mem bl L n m x h
    exact ⟨this.1, by omega⟩
  · rcases hullBlkC_mem _ _ _ _ _ _ x h with h1 | h1
    · have := hullPassC_mem bl L n m x h1
      exact ⟨this.1, by omega⟩
    · exact ⟨by omega, by omega⟩
def okH (k : Nat) (bl : List (S85)) (L : List (List Bool)) : Prop := L.length = bl.length ∧ (∀ c, c < bl.length → (L.getD c []).length ≤ 1000000000) ∧ bl.length ≤ 1000000000 ∧ firstH bl bl.length ≤ 1000000000 ∧ ∀ b, b < bl.length → ∀ i ∈ insAt bl b, spec_Reads.f k i.f0 i.f1 i.f2 i.f3 i.f4 i.f5 i.f6 i.f7 = some (readsL i) ∧ (readsL i).length ≤ 1000000000
instance (k : Nat) (bl : List (S85)) (L : List (List Bool)) : Decidable (okH k bl L) := by unfold okH; infer_instance
def spec_Intervals.f (k : Nat) (a0_0 : Int) (l0_1 : List Int) (l0_2 : List (S85)) : Option (List (S113)) :=
 (spec_l18Well.f k a0_0 l0_1 l0_2).bind fun ok => if ok = false then some [] else (spec_l18Most.f k a0_0 l0_1 l0_2).bind fun n => (spec_l18Live.f k a0_0 l0_1 l0_2).bind fun L => if (0 ≤ n ∧ n ≤ 1000000000) ∧ okH k l0_2 L then some (hullL (hullPass l0_2 L n.toNat l0_2.length).1 (hullPass l0_2 L n.toNat l0_2.length).2 n.toNat) else none
theorem grown_cellS (w : World) (a : Addr) (u : Value) : w.grownBy (w.setCell a u) (some a.block) :=
 ⟨rfl, rfl, rfl, by simp, fun i hi hne => Below.heap_setCell w a u i (fun e => hne (by rw [e]))⟩
theorem targetOf_f (a0 : Int) (l1 : List Int) (bl : List (S85)) (i : S87) : spec_l18Jumps.f a0 l1 bl i.f0 i.f1 i.f2 i.f3 i.f4 i.f5 i.f6 i.f7 = some (targetOf bl.length i) := jumps_f a0 l1 bl i
set_option maxHeartbeats 16000000 in
set_option maxRecDepth 100000 in
theorem spec_Intervals.calls (k : Nat) (a0_0 : Int) (A0_1 : Option Addr) (c0_1 : Nat) (l0_1 : List Int) (A0_2 : Option Addr) (c0_2 : Nat) (l0_2 : List (S85)) (r : List (S113)) (w : World) (hr0_1 : Kd.C (Kd.int .i64) w A0_1 l0_1.length l0_1) (hc0_1 : l0_1.length ≤ c0_1) (hr0_2 : Kd.C k85 w A0_2 l0_2.length l0_2) (hc0_2 : l0_2.length ≤ c0_2) (h : spec_Intervals.f k a0_0 l0_1 l0_2 = some r) :
 Calls Try.prog 23 #[.agg #[.int .i64 a0_0, .slice A0_1 l0_1.length c0_1, .slice A0_2 l0_2.length c0_2]] w fun e w' => ∃ v0_ : Value, e = .returned (v0_) ∧ Kd.R k113 113 w' w.heap.size (fun _ => True) v0_ r ∧ Below w.heap.size w w' := by
 have hu1 := Try.underlying29
 have hu5 := Try.underlying113
 have hu6 := Try.underlying111
 have HR1 := Aside0.mk hr0_1
 have HR := Aside0.mk hr0_2
 clear hr0_1 hr0_2
 unfold spec_Intervals.f at h
 obtain ⟨ok, hok, h⟩ := Option.bind_eq_some_iff.1 h
 have HWF := Aside0.mk hok
 have HX0 := Aside0.mk (blk_new w (.cells #[.int .i64 a0_0, .slice A0_1 l0_1.length c0_1, .slice A0_2 l0_2.length c0_2] 29 (0, 0)))
 have b0 := (blk_cell HX0.out 0).trans rfl
 have b1 := (blk_cell HX0.out 1).trans rfl
 have b2 := (blk_cell HX0.out 2).trans rfl
 have HB0 := Aside0.mk (below_alloc (Below.refl w.heap.size w) (.cells #[.int .i64 a0_0, .slice A0_1 l0_1.length c0_1, .slice A0_2 l0_2.length c0_2] 29 (0, 0)))
 clear hok
 cases ok with
 | false =>
  rw [if_pos rfl] at h
  obtain rfl := Option.some.inj h
  clear h
  go_enter Try.func23, Try.ntmps23
  go_wp2_with (first | (go_at_call 72; refine (spec_l18Well.calls k a0_0 A0_1 c0_1 l0_1 A0_2 c0_2 l0_2 false _ (Kd.C_below HR1.out (by exact HB9.out)) hc0_1 (Kd.C_below HR.out (by exact HB9.out)) hc0_2 HWF.out).mono ?_; rintro e w3 ⟨rfl, hb3⟩; have HO3 := Aside0.mk (Kd.R_below HO9.out hb3); have HB3 := Aside0.mk (below_step HB9.out hb3); have HX3 := Aside0.mk (blk_below HX9.out hb3); have b0 := (blk_cell HX3.out 0).trans rfl; have b1 := (blk_cell HX3.out 1).trans rfl; have b2 := (blk_cell HX3.out 2).trans rfl; clear hb3) | ((with_reducible refine gate_dst (N := 9) rfl ?_); refine Kd.R_lit k113 _ 113 ?hg (N := 9) ?hd (xs := ([] : List (S113))) (inner := []) (ok := fun _ => True) (okp := fun _ => True) ?hr ?hp (fun _ hk => hk) trivial (Below.refl _ _) (Nat.le_refl _) (by simp) ?_; (case hd => rfl); (case hg => rfl); (case hr => first | (go_simp; done) | (go_simp; rfl)); (case hp => exact (Reps.none _ _)); intro vO w9 ho9 hb9' hg9 hn9'; have HO9 := Aside0.mk (Kd.R_lower ho9 HB0.out.size); have HB9 := Aside0.mk (below_step HB0.out hb9'); have HX9 := Aside0.mk (blk_below HX0.out hb9'); have b0 := (blk_cell HX9.out 0).trans rfl; have b1 := (blk_cell HX9.out 1).trans rfl; have b2 := (blk_cell HX9.out 2).trans rfl; clear ho9 hb9' hg9 hn9'))
  go_ret
  exact ⟨_, rfl, HO3.out, HB3.out⟩
 | true =>
  rw [if_neg (by simp)] at h
  obtain ⟨nI, hM, h⟩ := Option.bind_eq_some_iff.1 h
  obtain ⟨L, hL, h⟩ := Option.bind_eq_some_iff.1 h
  split at h
  case isFalse => cases h
  rename_i hokh
  obtain ⟨⟨hn0, hn9⟩, hokh⟩ := hokh
  obtain ⟨n, rfl⟩ := Int.eq_ofNat_of_zero_le hn0
  rw [Int.toNat_natCast] at h
  have hk9 : n ≤ 1000000000 := by omega
  have HOK := Aside0.mk hokh
  have hb9 := hokh.2.2.1
  have hf9 := hokh.2.2.2.1
  have HL := Aside0.mk hL
  have HM := Aside0.mk hM
  have HJ := Aside0.mk (fun i : S87 => targetOf_f a0_0 l0_1 l0_2 i)
  have HRR := Aside0.mk (Option.some.inj h)
  clear h hM hL hokh hn0 hn9
  go_enter Try.func23, Try.ntmps23
  go_upto_region 5 with (first | (go_at_call 72; refine (spec_l18Well.calls k a0_0 A0_1 c0_1 l0_1 A0_2 c0_2 l0_2 true _ (Kd.C_below HR1.out (by exact HB9.out)) hc0_1 (Kd.C_below HR.out (by exact HB9.out)) hc0_2 HWF.out).mono ?_; rintro e w3 ⟨rfl, hb3⟩; have HO3 := Aside0.mk (Kd.R_below HO9.out hb3); have HB3 := Aside0.mk (below_step HB9.out hb3); have HX3 := Aside0.mk (blk_below HX9.out hb3); have b0 := (blk_cell HX3.out 0).trans rfl; have b1 := (blk_cell HX3.out 1).trans rfl; have b2 := (blk_cell HX3.out 2).trans rfl; clear hb3) | ((with_reducible refine gate_dst (N := 9) rfl ?_); refine Kd.R_lit k113 _ 113 ?hg (N := 9) ?hd (xs := ([] : List (S113))) (inner := []) (ok := fun _ => True) (okp := fun _ => True) ?hr ?hp (fun _ hk => hk) trivial (Below.refl _ _) (Nat.le_refl _) (by simp) ?_; (case hd => rfl); (case hg => rfl); (case hr => first | (go_simp; done) | (go_simp; rfl)); (case hp => exact (Reps.none _ _)); intro vO w9 ho9 hb9' hg9 hn9'; have HO9 := Aside0.mk (Kd.R_lower ho9 HB0.out.size); have HB9 := Aside0.mk (below_step HB0.out hb9'); have HX9 := Aside0.mk (blk_below HX0.out hb9'); have b0 := (blk_cell HX9.out 0).trans rfl; have b1 := (blk_cell HX9.out 1).trans rfl; have b2 := (blk_cell HX9.out 2).trans rfl; clear ho9 hb9' hg9 hn9') | (go_at_call 73; refine (hulls_calls k a0_0 A0_1 c0_1 l0_1 A0_2 c0_2 l0_2 L n _ (Kd.C_below HR1.out (by exact HB3.out)) hc0_1 (Kd.C_below HR.out (by exact HB3.out)) hc0_2 HL.out HM.out hk9 HOK.out.1 HOK.out.2.1 hb9 hf9 HOK.out.2.2.2.2 HJ.out).mono ?_; rintro e w4 ⟨vH, vC, rfl, hH4, hC4, hb4⟩; have HH4 := Aside0.mk hH4; have HC4 := Aside0.mk hC4; have HB4 := Aside0.mk hb4; clear hH4 hC4 hb4))
  obtain ⟨H, hH⟩ : ∃ H, H = (hullPass l0_2 L n l0_2.length).1 := ⟨_, rfl⟩
  obtain ⟨cl, hcl⟩ : ∃ cl, cl = (hullPass l0_2 L n l0_2.length).2 := ⟨_, rfl⟩
  rw [← hH] at HH4
  rw [← hcl] at HC4
  have HHL := Aside0.mk (show H.length = n by rw [hH]; exact hullPass_len _ _ _ _)
  have hcl9 : cl.length ≤ 1000000000 := by have h := hullPassC_len l0_2 L n l0_2.length; rw [← hcl] at h; omega
  have HCM := Aside0.mk (fun x hx => by rw [hcl] at hx; have := hullPassC_mem l0_2 L n l0_2.length x hx; omega : ∀ x ∈ cl, 0 ≤ x ∧ x ≤ 1000000000)
  have HRR2 := Aside0.mk (show hullL H cl n = r by rw [hH, hcl]; exact HRR.out)
  have hw3 : w.heap.size ≤ w3.heap.size := HB3.out.size
  have hvh : ∀ q, vH.ownBlock = some q → w3.heap.size ≤ q := fun q hq => own_geR HH4.out q hq
  have hvc : ∀ q, vC.ownBlock = some q → w3.heap.size ≤ q := fun q hq => own_geR HC4.out q hq
  have hvo : ∀ q, vO.ownBlock = some q → q < w3.heap.size := fun q hq => (HO3.out.2.choose_spec.1.lt q hq).2
  have HH5 := Aside0.mk (Kd.R_mono (Kd.R_tight rfl (Kd.R_lower HH4.out hw3)) (ok' := (fun q => some q = vH.ownBlock)) (fun q hq => hq))
  have HC5 := Aside0.mk (Kd.R_mono (Kd.R_tight rfl (Kd.R_lower HC4.out hw3)) (ok' := (fun q => some q = vC.ownBlock)) (fun q hq => hq))
  have HO5 := Aside0.mk (Kd.R_mono (Kd.R_tight rfl (Kd.R_below HO3.out HB4.out)) (ok' := (fun q => some q ≠ vH.ownBlock ∧ some q ≠ vC.ownBlock)) (fun q hq => ⟨fun e => by have h1 := hvh q e.symm; have h2 := hvo q hq.symm; omega, fun e => by have h1 := hvc q e.symm; have h2 := hvo q hq.symm; omega⟩))
  have HB5 := Aside0.mk (below_step HB3.out HB4.out)
  clear hH hcl hw3 hvh hvc hvo HH4 HC4 HO3 HB4 HX3 b0 b1 b2
  obtain ⟨AH, cH, eH⟩ := Kd.R_slice HH5.out
  subst eH
  obtain ⟨AC, cC, eC⟩ := Kd.R_slice HC5.out
  subst eC
  go_wp2
  go_loopw [3, 6] (fun v3 v6 wr => ∃ (t : Nat), t ≤ n ∧ v6 = .int .i64 (t : Int) ∧ Aside0 (Kd.R k111 111 wr w.heap.size (fun q => some q = (Value.slice AH H.length cH).ownBlock) (Value.slice AH H.length cH) H) ∧ Aside0 (Kd.R (Kd.int .i64) 2 wr w.heap.size (fun q => some q = (Value.slice AC cl.length cC).ownBlock) (Value.slice AC cl.length cC) cl) ∧ Aside0 (Kd.R k113 113 wr w.heap.size (fun q => some q ≠ (Value.slice AH H.length cH).ownBlock ∧ some q ≠ (Value.slice AC cl.length cC).ownBlock) v3 (hullL H cl t)) ∧ Aside0 (Below w.heap.size w wr)) (fun _ v _ => n - (intOf v).toNat)
  case atStart => exact ⟨0, Nat.zero_le _, rfl, HH5, HC5, HO5, HB5⟩
  case round =>
   clear HH5 HC5 HO5 HB5
   obtain ⟨t, ht, rfl, HH, HC, HO, HB⟩ := hrel
   by_cases hlt : t < n
   · have hHl := HHL.out
     obtain ⟨gH, capH, eH2, _, _, _⟩ := Kd.R_form HH.out (by omega)
     injection eH2 with eH2 eH3 eH4
     subst eH2
     obtain ⟨c, hcl, hM, hcc, hfr⟩ := Kd.R_elem HH.out z111 (t : Int) (by omega) (by omega)
     obtain ⟨x, hx⟩ : ∃ x, x = rd_T111 H (t : Int) := ⟨_, rfl⟩
     have hc : c = [.bool x.f0, .int .i64 x.f1, .int .i64 x.f2] := by rw [hx]; exact k111_openM hM
     subst hc
     have x0 := hcc 0 _ rfl
     have x1 := hcc 1 _ rfl
     have x2 := hcc 2 _ rfl
     simp only [show (k111).sz = 3 from rfl, Nat.add_zero, Int.toNat_natCast] at x0 x1 x2
     have hsu := hullL_succ H cl t
     have hiv : hullIv H cl t = ⟨(t : Int), x.f1, x.f2, crossT cl x.f1 x.f2 cl.length⟩ := by rw [hx]; rfl
     rw [← hx] at hsu
     obtain ⟨ol, hol⟩ : ∃ ol, ol = hullL H cl t := ⟨_, rfl⟩
     rw [← hol] at hsu HO
     have hol9 : ol.length ≤ 1000000000 := by rw [hol]; have := hullL_len H cl t; omega
     have HSU := Aside0.mk hsu
     have HIV := Aside0.mk hiv
     have hlt2 : t < H.length := by omega
     clear hx hcl hM hcc hfr eH3 eH4 hsu hiv hol hHl
     cases hf : x.f0 with
     | false =>
      rw [hf] at x0
      have hs2 : hullL H cl (t + 1) = ol := by rw [HSU.out, if_neg (by rw [hf]; simp)]
      have HS2 := Aside0.mk hs2
      clear hs2 hf
      go_wp2
      go_roundw
      case measure => simp [intOf]; omega
      case rel => first | exact ⟨t + 1, by omega, by go_num, HH, HC, ⟨by rw [HS2.out]; exact HO.out⟩, HB⟩ | ((repeat apply Exists.intro); exact ⟨⟨t + 1, by omega, by go_num, HH, HC, ⟨by rw [HS2.out]; exact HO.out⟩, HB⟩, rfl⟩)
     | true =>
      rw [hf] at x0
      have hs2 : hullL H cl (t + 1) = ol ++ [⟨(t : Int), x.f1, x.f2, crossT cl x.f1 x.f2 cl.length⟩] := by rw [HSU.out, if_pos hf, HIV.out]
      have HS2 := Aside0.mk hs2
      clear hs2 hf
      obtain ⟨bg, hbg⟩ : ∃ b, b = x.f1 := ⟨_, rfl⟩
      obtain ⟨en, hen⟩ : ∃ b, b = x.f2 := ⟨_, rfl⟩
      rw [← hbg] at x1
      rw [← hen] at x2
      rw [← hbg, ← hen] at HS2
      obtain ⟨AO, cO, eO⟩ := Kd.R_slice HO.out
      subst eO
      have bk := blk_new wr (.cells #[.int .i64 (t : Int), .int .i64 bg, .int .i64 en, .bool false] 113 (0, 0))
      have zf := blk_frozen (blk_new wr (.cells #[.int .i64 0, .int .i64 0, .int .i64 0, .bool false] 113 (0, 0))) 0
      have HBK := Aside0.mk bk
      have y1 := (below_alloc (Below.refl wr.heap.size wr) (.cells #[.int .i64 0, .int .i64 0, .int .i64 0, .bool false] 113 (0, 0))).cell (World.block_lt_of_cell? wr _ x1) |>.trans x1
      have y2 := (below_alloc (Below.refl wr.heap.size wr) (.cells #[.int .i64 0, .int .i64 0, .int .i64 0, .bool false] 113 (0, 0))).cell (World.block_lt_of_cell? wr _ x2) |>.trans x2
      clear bk hbg hen HSU HIV
      go_wp2
      go_region
      go_wp2
      have HBK := Aside0.mk (show ((wr.alloc (.cells #[.int .i64 (t : Int), .int .i64 bg, .int .i64 en, .bool false] 113 (0, 0))).drew).heap[wr.heap.size]? = _ from HBK.out)
      have HH5 := Aside0.mk (Kd.R_below (Kd.R_alloc HH.out (.cells #[.int .i64 (t : Int), .int .i64 bg, .int .i64 en, .bool false] 113 (0, 0))) (below_drew (Below.refl _ _)))
      have HC5 := Aside0.mk (Kd.R_below (Kd.R_alloc HC.out (.cells #[.int .i64 (t : Int), .int .i64 bg, .int .i64 en, .bool false] 113 (0, 0))) (below_drew (Below.refl _ _)))
      have HO5 := Aside0.mk (Kd.R_below (Kd.R_alloc HO.out (.cells #[.int .i64 (t : Int), .int .i64 bg, .int .i64 en, .bool false] 113 (0, 0))) (below_drew (Below.refl _ _)))
      have HB5 := Aside0.mk (below_drew (below_alloc HB.out (.cells #[.int .i64 (t : Int), .int .i64 bg, .int .i64 en, .bool false] 113 (0, 0))))
      have hqc : ∀ q, (Value.slice AC cl.length cC).ownBlock = some q → q < wr.heap.size := fun q hq => (HC.out.2.choose_spec.1.lt q hq).2
      have hqh : ∀ q, (Value.slice (some ⟨gH, 0, none⟩) H.length cH).ownBlock = some q → q < wr.heap.size := fun q hq => (HH.out.2.choose_spec.1.lt q hq).2
      have hqo : ∀ q, (Value.slice AO ol.length cO).ownBlock = some q → q < wr.heap.size := fun q hq => (HO.out.2.choose_spec.1.lt q hq).2
      have hww := HB.out.size
      obtain ⟨q7, hq7⟩ : ∃ q7, q7 = wr.heap.size := ⟨_, rfl⟩
      rw [← hq7] at HBK hqc hqh hqo hww ⊢
      have HQC := Aside0.mk hqc
      have HQH := Aside0.mk hqh
      have HQO := Aside0.mk hqo
      clear hqc hqh hqo HH HC HO HB x0 x1 x2 y1 y2 zf hq7
      generalize (wr.alloc (.cells #[.int .i64 (t : Int), .int .i64 bg, .int .i64 en, .bool false] 113 (0, 0))).drew = W5 at HH5 HC5 HO5 HB5 HBK ⊢
      go_loopw [8] (fun v wr => ∃ (c : Nat), c ≤ cl.length ∧ v = .int .i64 (c : Int) ∧ Aside0 (wr.heap[q7]? = some (.cells #[.int .i64 (t : Int), .int .i64 bg, .int .i64 en, .bool (crossT cl bg en c)] 113 (0, 0))) ∧ Aside0 (Kd.R k111 111 wr w.heap.size (fun q => some q = (Value.slice (some ⟨gH, 0, none⟩) H.length cH).ownBlock) (Value.slice (some ⟨gH, 0, none⟩) H.length cH) H) ∧ Aside0 (Kd.R (Kd.int .i64) 2 wr w.heap.size (fun q => some q = (Value.slice AC cl.length cC).ownBlock) (Value.slice AC cl.length cC) cl) ∧ Aside0 (Kd.R k113 113 wr w.heap.size (fun q => some q ≠ (Value.slice (some ⟨gH, 0, none⟩) H.length cH).ownBlock ∧ some q ≠ (Value.slice AC cl.length cC).ownBlock) (.slice AO ol.length cO) ol) ∧ Aside0 (Below w.heap.size w wr)) (fun v _ => cl.length - (intOf v).toNat)
      case atStart => exact ⟨0, Nat.zero_le _, rfl, HBK, HH5, HC5, HO5, HB5⟩
      case round =>
       clear HH5 HC5 HO5 HB5 HBK
       obtain ⟨c, hc, rfl, HBK, HH, HC, HO, HB⟩ := hrel
       by_cases hlc : c < cl.length
       · obtain ⟨gC, capC, eC, _, _, _⟩ := Kd.R_form HC.out (by omega)
         injection eC with eC eC2 eC3
         subst eC
         obtain ⟨cp, zp⟩ := Kd.R_celln 0 HC.out (c : Int) (by omega) (by omega)
         obtain ⟨p, hp⟩ : ∃ p, p = cl.getD c 0 := ⟨_, rfl⟩
         have hrp : rdOf 0 cl (c : Int) = p := by rw [hp]; simp [rdOf, List.getD_eq_getElem?_getD]
         rw [hrp, Int.toNat_natCast] at cp
         have hpm : p ∈ cl := by rw [hp, List.getD_eq_getElem?_getD, List.getElem?_eq_getElem hlc]; exact List.getElem_mem _
         obtain ⟨hp0, hp9⟩ := HCM.out p hpm
         obtain ⟨cu, hcu⟩ : ∃ cu, crossT cl bg en c = cu := ⟨_, rfl⟩
         have HCU := Aside0.mk hcu
         rw [hcu] at HBK
         have hgd := hp.symm
         have c3 := (blk_cell HBK.out 3).trans rfl
         have c1 := (blk_cell HBK.out 1).trans rfl
         have c2 := (blk_cell HBK.out 2).trans rfl
         have f3 := blk_frozen HBK.out 3
         have HGD := Aside0.mk hgd
         clear hp hrp hpm hcu hgd eC2 eC3 zp
         cases cu with
         | true =>
          have HBK9 := Aside0.mk (blk_put HBK.out 3 (.bool true) (cs' := #[.int .i64 (t : Int), .int .i64 bg, .int .i64 en, .bool true]) rfl)
          have g9 := grown_cellS wr ⟨q7, 3, none⟩ (.bool true)
          have HB9 := Aside0.mk (below_drew (HB.out.grown g9 HB.out.size (fun q e => by cases e; exact hww)))
          have HC9 := Aside0.mk (Kd.R_drew (Kd.R_grown2 HC.out rfl g9 (fun q e1 e2 => by have h1 := HQC.out q e2.symm; have h2 : q7 = q := Option.some.inj e1; omega)))
          have HH9 := Aside0.mk (Kd.R_drew (Kd.R_grown2 HH.out rfl g9 (fun q e1 e2 => by have h1 := HQH.out q e2.symm; have h2 : q7 = q := Option.some.inj e1; omega)))
          have HO9 := Aside0.mk (Kd.R_drew (Kd.R_grown2 HO.out rfl g9 (fun q e1 e2 => by have h1 := HQO.out q e2.symm; have h2 : q7 = q := Option.some.inj e1; omega)))
          have hnv : crossT cl bg en (c + 1) = true := by rw [crossT_succ, HGD.out, HCU.out]; simp [*]
          have Htrue := Aside0.mk hnv
          clear g9 hnv
          go_wp2
          go_region
          go_wp2
          go_roundw
          case measure => simp [intOf]; omega
          case rel => first | exact ⟨c + 1, by omega, by go_num, ⟨by rw [Htrue.out]; exact HBK9.out⟩, HH9, HC9, HO9, HB9⟩ | ((repeat apply Exists.intro); exact ⟨⟨c + 1, by omega, by go_num, ⟨by rw [Htrue.out]; exact HBK9.out⟩, HH9, HC9, HO9, HB9⟩, rfl⟩)
         | false =>
          by_cases h1 : bg ≤ 2 * p
          · have h1b : decide (bg ≤ 2 * p) = true := decide_eq_true h1
            by_cases h2 : 2 * p + 1 < en
            · have h2b : decide (2 * p + 1 < en) = true := decide_eq_true h2
              have HBK9 := Aside0.mk (blk_put HBK.out 3 (.bool true) (cs' := #[.int .i64 (t : Int), .int .i64 bg, .int .i64 en, .bool true]) rfl)
              have g9 := grown_cellS wr ⟨q7, 3, none⟩ (.bool true)
              have HB9 := Aside0.mk (below_drew (HB.out.grown g9 HB.out.size (fun q e => by cases e; exact hww)))
              have HC9 := Aside0.mk (Kd.R_drew (Kd.R_grown2 HC.out rfl g9 (fun q e1 e2 => by have h1 := HQC.out q e2.symm; have h2 : q7 = q := Option.some.inj e1; omega)))
              have HH9 := Aside0.mk (Kd.R_drew (Kd.R_grown2 HH.out rfl g9 (fun q e1 e2 => by have h1 := HQH.out q e2.symm; have h2 : q7 = q := Option.some.inj e1; omega)))
              have HO9 := Aside0.mk (Kd.R_drew (Kd.R_grown2 HO.out rfl g9 (fun q e1 e2 => by have h1 := HQO.out q e2.symm; have h2 : q7 = q := Option.some.inj e1; omega)))
              have hnv : crossT cl bg en (c + 1) = true := by rw [crossT_succ, HGD.out, HCU.out]; simp [*]
              have Htrue := Aside0.mk hnv
              clear g9 hnv
              go_wp2
              go_region
              go_wp2
              go_roundw
              case measure => simp [intOf]; omega
              case rel => first | exact ⟨c + 1, by omega, by go_num, ⟨by rw [Htrue.out]; exact HBK9.out⟩, HH9, HC9, HO9, HB9⟩ | ((repeat apply Exists.intro); exact ⟨⟨c + 1, by omega, by go_num, ⟨by rw [Htrue.out]; exact HBK9.out⟩, HH9, HC9, HO9, HB9⟩, rfl⟩)
            · have h2b : decide (2 * p + 1 < en) = false := decide_eq_false h2
              have HBK9 := Aside0.mk (blk_put HBK.out 3 (.bool false) (cs' := #[.int .i64 (t : Int), .int .i64 bg, .int .i64 en, .bool false]) rfl)
              have g9 := grown_cellS wr ⟨q7, 3, none⟩ (.bool false)
              have HB9 := Aside0.mk (below_drew (HB.out.grown g9 HB.out.size (fun q e => by cases e; exact hww)))
              have HC9 := Aside0.mk (Kd.R_drew (Kd.R_grown2 HC.out rfl g9 (fun q e1 e2 => by have h1 := HQC.out q e2.symm; have h2 : q7 = q := Option.some.inj e1; omega)))
              have HH9 := Aside0.mk (Kd.R_drew (Kd.R_grown2 HH.out rfl g9 (fun q e1 e2 => by have h1 := HQH.out q e2.symm; have h2 : q7 = q := Option.some.inj e1; omega)))
              have HO9 := Aside0.mk (Kd.R_drew (Kd.R_grown2 HO.out rfl g9 (fun q e1 e2 => by have h1 := HQO.out q e2.symm; have h2 : q7 = q := Option.some.inj e1; omega)))
              have hnv : crossT cl bg en (c + 1) = false := by rw [crossT_succ, HGD.out, HCU.out]; simp [*]
              have Hfalse := Aside0.mk hnv
              clear g9 hnv
              go_wp2
              go_region
              go_wp2
              go_roundw
              case measure => simp [intOf]; omega
              case rel => first | exact ⟨c + 1, by omega, by go_num, ⟨by rw [Hfalse.out]; exact HBK9.out⟩, HH9, HC9, HO9, HB9⟩ | ((repeat apply Exists.intro); exact ⟨⟨c + 1, by omega, by go_num, ⟨by rw [Hfalse.out]; exact HBK9.out⟩, HH9, HC9, HO9, HB9⟩, rfl⟩)
          · have h1b : decide (bg ≤ 2 * p) = false := decide_eq_false h1
            have HBK9 := Aside0.mk (blk_put HBK.out 3 (.bool false) (cs' := #[.int .i64 (t : Int), .int .i64 bg, .int .i64 en, .bool false]) rfl)
            have g9 := grown_cellS wr ⟨q7, 3, none⟩ (.bool false)
            have HB9 := Aside0.mk (below_drew (HB.out.grown g9 HB.out.size (fun q e => by cases e; exact hww)))
            have HC9 := Aside0.mk (Kd.R_drew (Kd.R_grown2 HC.out rfl g9 (fun q e1 e2 => by have h1 := HQC.out q e2.symm; have h2 : q7 = q := Option.some.inj e1; omega)))
            have HH9 := Aside0.mk (Kd.R_drew (Kd.R_grown2 HH.out rfl g9 (fun q e1 e2 => by have h1 := HQH.out q e2.symm; have h2 : q7 = q := Option.some.inj e1; omega)))
            have HO9 := Aside0.mk (Kd.R_drew (Kd.R_grown2 HO.out rfl g9 (fun q e1 e2 => by have h1 := HQO.out q e2.symm; have h2 : q7 = q := Option.some.inj e1; omega)))
            have hnv : crossT cl bg en (c + 1) = false := by rw [crossT_succ, HGD.out, HCU.out]; simp [*]
            have Hfalse := Aside0.mk hnv
            clear g9 hnv
            go_wp2
            go_region
            go_wp2
            go_roundw
            case measure => simp [intOf]; omega
            case rel => first | exact ⟨c + 1, by omega, by go_num, ⟨by rw [Hfalse.out]; exact HBK9.out⟩, HH9, HC9, HO9, HB9⟩ | ((repeat apply Exists.intro); exact ⟨⟨c + 1, by omega, by go_num, ⟨by rw [Hfalse.out]; exact HBK9.out⟩, HH9, HC9, HO9, HB9⟩, rfl⟩)
       · have hce : c = cl.length := by omega
         subst hce
         have d0 := (blk_cell HBK.out 0).trans rfl
         have d1 := (blk_cell HBK.out 1).trans rfl
         have d2 := (blk_cell HBK.out 2).trans rfl
         have d3 := (blk_cell HBK.out 3).trans rfl
         go_wp2_with (first | (at_builtin; refine Kd.R_append k113 (w0 := w) w.heap.size rfl (.tmp 73) (.tmp 75) 39 113 (.agg #[.int .i64 0, .int .i64 0, .int .i64 0, .bool false]) 32 rfl Try.underlying39 info113 rfl (by decide) (by decide) (.slice AO ol.length cO) ol (⟨(t : Int), bg, en, crossT cl bg en cl.length⟩ : S113) [.int .i64 (t : Int), .int .i64 bg, .int .i64 en, .bool (crossT cl bg en cl.length)] (fun q => some q ≠ (Value.slice (some ⟨gH, 0, none⟩) H.length cH).ownBlock ∧ some q ≠ (Value.slice AC cl.length cC).ownBlock) (fun _ => False) rfl rfl ?aP (fun _ hk => hk.elim) ?aF ?aO ?aB ?aS ?aL ?_; (case aP => exact k113_mkM _ _ _ (⟨(t : Int), bg, en, crossT cl bg en cl.length⟩ : S113)); (case aF => exact (fun q hq => ⟨fun e => by have h1 := (HH.out.2.choose_spec.1.lt q e.symm).2; omega, fun e => by have h1 := (HC.out.2.choose_spec.1.lt q e.symm).2; omega⟩)); (case aO => exact HO.out); (case aB => exact HB.out); (case aS => exact HB.out.size); (case aL => omega); intro v8 W8 ho8 hb8 hg8 hat8; have HO8 := Aside0.mk ho8; have HH8 := Aside0.mk (Kd.R_grown HH.out hg8 (fun q hq e => (HO.out.1 q e.symm).1 hq)); have HC8 := Aside0.mk (Kd.R_grown HC.out hg8 (fun q hq e => (HO.out.1 q e.symm).2 hq)); have HB8 := Aside0.mk hb8; clear ho8 hb8 hg8 hat8))
         go_roundw
         case measure => simp [intOf]; omega
         case rel => first | exact ⟨t + 1, by omega, by go_num, HH8, HC8, ⟨by rw [HS2.out]; exact HO8.out⟩, HB8⟩ | ((repeat apply Exists.intro); exact ⟨⟨t + 1, by omega, by go_num, HH8, HC8, ⟨by rw [HS2.out]; exact HO8.out⟩, HB8⟩, rfl⟩)
   · have hte : t = n := by omega
     subst hte
     have hge2 : ¬ t < H.length := by have := HHL.out; omega
     go_wp2
     go_ret
     exact ⟨_, rfl, by rw [← HRR2.out]; exact Kd.R_mono HO.out (fun _ _ => trivial), HB.out⟩

end Go.Proofs.Ythegbhfoleiegaa.All

/- What both programs call well-formed. -/
namespace Go.Proofs.Ythegbhfoleiegaa.All
open Go.RowKit Go.Proofs.YthegbhfoleiegaaW.PrintWords Go.Proofs.YthegbhfoleiegaaW.PrintLast Go.Proofs.YthegbhfoleiegaaW.PrintMore
set_option linter.unusedVariables false
set_option linter.unusedSimpArgs false
def badJ (R : Int) (nb : Nat) (last : Prop) (i : S87) : Prop := (stopsB i.f0 = true ∧ ¬ last) ∨ (jumpsB i.f0 = true ∧ (i.f5 < 0 ∨ (nb : Int) ≤ i.f5))
def okJ (R : Int) (nb : Nat) (last : Prop) (i : S87) : Prop := ¬ badJ R nb last i ∧ i.f1 < R ∧ ∀ x ∈ readsL i, x < R
def okB (R : Int) (bl : List (S85)) (b : Nat) : Prop := ∀ j : Nat, j < (insAt bl b).length → okJ R bl.length (j + 1 = (insAt bl b).length) (rd_T87 (insAt bl b) (j : Int))
def wellP (R : Int) (bl : List (S85)) : Prop := 0 ≤ R ∧ R ≤ 1048576 ∧ ∀ b : Nat, b < bl.length → okB R bl b
instance (R : Int) (nb : Nat) (last : Prop) [Decidable last] (i : S87) : Decidable (badJ R nb last i) := by unfold badJ; infer_instance
instance (R : Int) (nb : Nat) (last : Prop) [Decidable last] (i : S87) : Decidable (okJ R nb last i) := by unfold okJ; infer_instance
instance (R : Int) (bl : List (S85)) (b : Nat) : Decidable (okB R bl b) := by unfold okB; infer_instance
instance (R : Int) (bl : List (S85)) : Decidable (wellP R bl) := by unfold wellP; infer_instance
def wellB (R : Int) (bl : List (S85)) : Bool := decide (wellP R bl)
theorem wellB_yes {R : Int} {bl : List (S85)} (h : wellP R bl) : wellB R bl = true := by unfold wellB; exact decide_eq_true h
theorem wellB_no {R : Int} {bl : List (S85)} (h : ¬ wellP R bl) : wellB R bl = false := by unfold wellB; exact decide_eq_false h
end Go.Proofs.Ythegbhfoleiegaa.All

namespace Go.Proofs.Ythegbhfoleiegaa.All
open Go.RowKit Go.Proofs.YthegbhfoleiegaaW.PrintWords Go.Proofs.YthegbhfoleiegaaW.PrintLast Go.Proofs.YthegbhfoleiegaaW.PrintMore
attribute [local go_sem] max2_int min2_int max_two min_two max_three min_three max_four min_four   -- for this text's walks alone
set_option linter.unusedVariables false
set_option linter.unusedSimpArgs false

def impl_wellFormed.f (k : Nat) (a0_0 : Int) (l0_1 : List Int) (l0_2 : List (S85)) : Option Bool := if okV k l0_2 then some (wellB a0_0 l0_2) else none
set_option maxHeartbeats 16000000 in
set_option maxRecDepth 100000 in
theorem impl_wellFormed.calls (k : Nat) (a0_0 : Int) (A0_1 : Option Addr) (c0_1 : Nat) (l0_1 : List Int) (A0_2 : Option Addr) (c0_2 : Nat) (l0_2 : List (S85)) (r : Bool) (w : World) (hr0_1 : Kd.C (Kd.int .i64) w A0_1 l0_1.length l0_1) (hc0_1 : l0_1.length ≤ c0_1) (hr0_2 : Kd.C k85 w A0_2 l0_2.length l0_2) (hc0_2 : l0_2.length ≤ c0_2) (h : impl_wellFormed.f k a0_0 l0_1 l0_2 = some r) :
 Calls Try.prog 74 #[.agg #[.int .i64 a0_0, .slice A0_1 l0_1.length c0_1, .slice A0_2 l0_2.length c0_2]] w fun e w' => e = .returned (.bool r) ∧ Below w.heap.size w w' := by
 have hu1 := Try.underlying29
 have hu3 := Try.underlying85
 have hu4 := Try.underlying87
 unfold impl_wellFormed.f at h
 split at h
 case isFalse => cases h
 rename_i hok
 have HE := Aside0.mk (Option.some.inj h)
 have HOK := Aside0.mk hok
 have HR := Aside0.mk hr0_2
 have hn9 := hok.1
 have HX0 := Aside0.mk (blk_new w (.cells #[.int .i64 a0_0, .slice A0_1 l0_1.length c0_1, .slice A0_2 l0_2.length c0_2] 29 (0, 0)))
 have b0 := (blk_cell HX0.out 0).trans rfl
 have b2 := (blk_cell HX0.out 2).trans rfl
 have HB0 := Aside0.mk (below_alloc (Below.refl w.heap.size w) (.cells #[.int .i64 a0_0, .slice A0_1 l0_1.length c0_1, .slice A0_2 l0_2.length c0_2] 29 (0, 0)))
 clear hok hr0_1 hr0_2 h
 have HNO := Aside0.mk (fun hn : ¬ wellP a0_0 l0_2 => HE.out.symm.trans (wellB_no hn))
 have HYES := Aside0.mk (fun hn : wellP a0_0 l0_2 => HE.out.symm.trans (wellB_yes hn))
 clear HE
 go_enter Try.func74, Try.ntmps74
 by_cases c1 : a0_0 < 0
 · have c1b := decide_eq_true c1
   have hr := HNO.out (fun h => by have := h.1; omega)
   subst hr
   go_wp2
   go_ret
   exact ⟨rfl, HB0.out⟩
 · have c1b := decide_eq_false c1
   by_cases c2 : 1048576 < a0_0
   · have c2b := decide_eq_true c2
     have hr := HNO.out (fun h => by have := h.2.1; omega)
     subst hr
     go_wp2
     go_ret
     exact ⟨rfl, HB0.out⟩
   · have c2b := decide_eq_false c2
     go_wp2
     go_loopw [20] (fun v wr => ∃ b : Nat, b ≤ l0_2.length ∧ v = .int .i64 (b : Int) ∧ Aside0 (Below w.heap.size w wr) ∧ Aside0 (wr.heap[w.heap.size]? = some (.cells #[.int .i64 a0_0, .slice A0_1 l0_1.length c0_1, .slice A0_2 l0_2.length c0_2] 29 (0, 0))) ∧ Aside0 (∀ c, c < b → okB a0_0 l0_2 c)) (fun v _ => l0_2.length - (intOf v).toNat)
     case atStart => exact ⟨0, Nat.zero_le _, rfl, HB0, HX0, ⟨fun c hc => absurd hc (Nat.not_lt_zero _)⟩⟩
     case round =>
      clear HB0 HX0 b0 b2
      obtain ⟨b, hb, rfl, HB, HX, HP⟩ := hrel
      by_cases hlb : b < l0_2.length
      · obtain ⟨ad, A5, c5, e5, hx0, hl5, hi5⟩ := at_T85 HR.out (b : Int) (by omega) (by omega)
        cases e5
        replace hx0 := ck HB hx0
        rw [Int.toNat_natCast] at hx0
        obtain ⟨is, his⟩ : ∃ is, is = (rd_T85 l0_2 (b : Int)).f0 := ⟨_, rfl⟩
        rw [← his] at hx0 hl5 hi5
        have HIS := Aside0.mk (show insAt l0_2 b = is from his.symm)
        obtain ⟨hi9, hio⟩ := insAt_ok HOK.out hlb
        rw [HIS.out] at hi9 hio
        have HIO := Aside0.mk hio
        have HR5 := Aside0.mk hi5
        have HX4 := Aside0.mk (blk_new wr (.cells #[.slice A5 is.length c5] 85 (0, 0)))
        have v0 := (blk_cell HX4.out 0).trans rfl
        have HB4 := Aside0.mk (below_alloc HB.out (.cells #[.slice A5 is.length c5] 85 (0, 0)))
        have HX14 := Aside0.mk (blk_alloc HX.out (.cells #[.slice A5 is.length c5] 85 (0, 0)))
        obtain ⟨q4, hq4⟩ : ∃ q, q = wr.heap.size := ⟨_, rfl⟩
        clear his hi5 hio
        go_wp2
        rw [← hq4] at HX4 ⊢
        generalize (wr.alloc (.cells #[.slice A5 is.length c5] 85 (0, 0))) = W4 at HX4 HB4 HX14 ⊢
        clear hq4 HB HX v0 hx0
        go_loopw [27] (fun v wr => ∃ j : Nat, j ≤ is.length ∧ v = .int .i64 (j : Int) ∧ Aside0 (Below w.heap.size w wr) ∧ Aside0 (wr.heap[w.heap.size]? = some (.cells #[.int .i64 a0_0, .slice A0_1 l0_1.length c0_1, .slice (some ad) l0_2.length c0_2] 29 (0, 0))) ∧ Aside0 (wr.heap[q4]? = some (.cells #[.slice A5 is.length c5] 85 (0, 0))) ∧ Aside0 (∀ c : Nat, c < j → okJ a0_0 l0_2.length (c + 1 = is.length) (rd_T87 is (c : Int)))) (fun v _ => is.length - (intOf v).toNat)
        case atStart => exact ⟨0, Nat.zero_le _, rfl, HB4, HX14, HX4, ⟨fun c hc => absurd hc (Nat.not_lt_zero _)⟩⟩
        case round =>
         clear HB4 HX4 HX14
         obtain ⟨j, hj, rfl, HB, HX, HX4, HPJ⟩ := hrel
         by_cases hlj : j < is.length
         · obtain ⟨ad7, A7, c7, e7, hy0, hy1, hy2, hy3, hy4, hy5, hy6, hy7, hl7, hi7⟩ := at_T87 HR5.out (j : Int) (by omega) (by omega)
           cases e7
           obtain ⟨i, hi⟩ : ∃ i, i = rd_T87 is (j : Int) := ⟨_, rfl⟩
           rw [← hi] at hy0 hy1 hy2 hy3 hy4 hy5 hy6 hy7 hl7 hi7
           have him : i ∈ is := by rw [hi]; unfold rd_T87; rw [Int.toNat_natCast, List.getD_eq_getElem?_getD, List.getElem?_eq_getElem hlj]; exact List.getElem_mem _
           have hbb := HB.out
           replace hy0 := (hbb.cell (World.block_lt_of_cell? w _ hy0)).trans hy0
           replace hy1 := (hbb.cell (World.block_lt_of_cell? w _ hy1)).trans hy1
           replace hy2 := (hbb.cell (World.block_lt_of_cell? w _ hy2)).trans hy2
           replace hy3 := (hbb.cell (World.block_lt_of_cell? w _ hy3)).trans hy3
           replace hy4 := (hbb.cell (World.block_lt_of_cell? w _ hy4)).trans hy4
           replace hy5 := (hbb.cell (World.block_lt_of_cell? w _ hy5)).trans hy5
           replace hy6 := (hbb.cell (World.block_lt_of_cell? w _ hy6)).trans hy6
           replace hy7 := (hbb.cell (World.block_lt_of_cell? w _ hy7)).trans hy7
           rw [Int.toNat_natCast] at hy0 hy1 hy2 hy3 hy4 hy5 hy6 hy7
           have HRD := Aside0.mk (HIO.out i him).1
           have hrl := Nat.le_trans (allR_len hlb i (by rw [HIS.out]; exact him)) HOK.out.2.2
           have HR7 := Aside0.mk hi7
           have HI := Aside0.mk hi
           have HX6 := Aside0.mk (blk_new wr (.cells #[.int .i64 i.f0, .int .i64 i.f1, .int .i64 i.f2, .int .i64 i.f3, .int .i64 i.f4, .int .i64 i.f5, .string i.f6, .slice A7 i.f7.length c7] 87 (0, 0)))
           have HXa := Aside0.mk (blk_alloc HX.out (.cells #[.int .i64 i.f0, .int .i64 i.f1, .int .i64 i.f2, .int .i64 i.f3, .int .i64 i.f4, .int .i64 i.f5, .string i.f6, .slice A7 i.f7.length c7] 87 (0, 0)))
           have HXb := Aside0.mk (blk_alloc HX4.out (.cells #[.int .i64 i.f0, .int .i64 i.f1, .int .i64 i.f2, .int .i64 i.f3, .int .i64 i.f4, .int .i64 i.f5, .string i.f6, .slice A7 i.f7.length c7] 87 (0, 0)))
           have HBa := Aside0.mk (below_alloc HB.out (.cells #[.int .i64 i.f0, .int .i64 i.f1, .int .i64 i.f2, .int .i64 i.f3, .int .i64 i.f4, .int .i64 i.f5, .string i.f6, .slice A7 i.f7.length c7] 87 (0, 0)))
           have e0 := (blk_cell HX6.out 0).trans rfl
           have e1 := (blk_cell HX6.out 1).trans rfl
           have e5 := (blk_cell HX6.out 5).trans rfl
           have f0 := (blk_cell HXb.out 0).trans rfl
           have g0 := (blk_cell HXa.out 0).trans rfl
           have g2 := (blk_cell HXa.out 2).trans rfl
           obtain ⟨q6, hq6⟩ : ∃ q, q = wr.heap.size := ⟨_, rfl⟩
           clear hi hbb him hi7
           go_upto_region 9 with (fail)
           rw [← hq6] at HX6 e0 e1 e5 ⊢
           generalize (wr.alloc (.cells #[.int .i64 i.f0, .int .i64 i.f1, .int .i64 i.f2, .int .i64 i.f3, .int .i64 i.f4, .int .i64 i.f5, .string i.f6, .slice A7 i.f7.length c7] 87 (0, 0))) = W6 at HX6 HXa HXb HBa e0 e1 e5 f0 g0 g2 ⊢
           clear hq6 HB HX HX4 hy0 hy1 hy2 hy3 hy4 hy5 hy6 hy7
           go_cut [67] (fun v67 wc => ∃ bc : Bool, v67 = .bool bc ∧ Aside0 (bc = true ↔ (badJ a0_0 l0_2.length (j + 1 = is.length) i ∨ a0_0 ≤ i.f1)) ∧ Aside0 (Below w.heap.size w wc) ∧ Aside0 (wc.heap[w.heap.size]? = some (.cells #[.int .i64 a0_0, .slice A0_1 l0_1.length c0_1, .slice (some ad) l0_2.length c0_2] 29 (0, 0))) ∧ Aside0 (wc.heap[q4]? = some (.cells #[.slice (some ad7) is.length c5] 85 (0, 0))) ∧ Aside0 (wc.heap[q6]? = some (.cells #[.int .i64 i.f0, .int .i64 i.f1, .int .i64 i.f2, .int .i64 i.f3, .int .i64 i.f4, .int .i64 i.f5, .string i.f6, .slice A7 i.f7.length c7] 87 (0, 0))))
           case first =>
            cases hs : stopsB i.f0 with
            | true =>
             have HS := Aside0.mk ((stopsB_f i.f0).trans (by rw [hs]))
             by_cases c0 : j + 1 = is.length
             · have k1 : ((j : Int) == ((is.length : Int) - 1)) = true := beq_iff_eq.mpr (by omega)
               have k2 : ((j : Int) != ((is.length : Int) - 1)) = false := bne_eq_false_iff_eq.mpr (by omega)
               have k3 : (j : Int) = ((is.length : Int) - 1) := by omega
               have K3 := Aside0.mk k3
               clear k3
               cases hj : jumpsB i.f0 with
               | true =>
                have HJ := Aside0.mk ((jumpsB_f i.f0).trans (by rw [hj]))
                by_cases c2 : i.f5 < 0
                · have c2b := decide_eq_true c2
                  go_wp2_with (first | (go_at_call 130; refine (impl_stops.calls i.f0 _ _ HS.out).mono ?_; rintro e w' ⟨rfl, ⟨nd, rfl⟩⟩) | (go_at_call 76; refine (impl_jumps.calls i.f0 _ _ HJ.out).mono ?_; rintro e w' ⟨rfl, ⟨nd2, rfl⟩⟩))
                  go_meet
                  case rel => exact ⟨true, by first | rfl | (simp; done) | (simp [*]; done), ⟨⟨fun _ => .inl (.inr ⟨hj, .inl (by omega)⟩), fun _ => rfl⟩⟩, ⟨⟨HBa.out.os, HBa.out.tape, HBa.out.output, HBa.out.size, HBa.out.block⟩⟩, HXa, HXb, HX6⟩
                · have c2b := decide_eq_false c2
                  by_cases c3 : (l0_2.length : Int) ≤ i.f5
                  · have c3b := decide_eq_true c3
                    go_wp2_with (first | (go_at_call 130; refine (impl_stops.calls i.f0 _ _ HS.out).mono ?_; rintro e w' ⟨rfl, ⟨nd, rfl⟩⟩) | (go_at_call 76; refine (impl_jumps.calls i.f0 _ _ HJ.out).mono ?_; rintro e w' ⟨rfl, ⟨nd2, rfl⟩⟩))
                    go_meet
                    case rel => exact ⟨true, by first | rfl | (simp; done) | (simp [*]; done), ⟨⟨fun _ => .inl (.inr ⟨hj, .inr (by omega)⟩), fun _ => rfl⟩⟩, ⟨⟨HBa.out.os, HBa.out.tape, HBa.out.output, HBa.out.size, HBa.out.block⟩⟩, HXa, HXb, HX6⟩
                  · have c3b := decide_eq_false c3
                    by_cases c4 : a0_0 ≤ i.f1
                    · have c4b := decide_eq_true c4
                      go_wp2_with (first | (go_at_call 130; refine (impl_stops.calls i.f0 _ _ HS.out).mono ?_; rintro e w' ⟨rfl, ⟨nd, rfl⟩⟩) | (go_at_call 76; refine (impl_jumps.calls i.f0 _ _ HJ.out).mono ?_; rintro e w' ⟨rfl, ⟨nd2, rfl⟩⟩))
                      go_meet
                      case rel => exact ⟨true, by first | rfl | (simp; done) | (simp [*]; done), ⟨⟨fun _ => .inr (by omega), fun _ => rfl⟩⟩, ⟨⟨HBa.out.os, HBa.out.tape, HBa.out.output, HBa.out.size, HBa.out.block⟩⟩, HXa, HXb, HX6⟩
                    · have c4b := decide_eq_false c4
                      go_wp2_with (first | (go_at_call 130; refine (impl_stops.calls i.f0 _ _ HS.out).mono ?_; rintro e w' ⟨rfl, ⟨nd, rfl⟩⟩) | (go_at_call 76; refine (impl_jumps.calls i.f0 _ _ HJ.out).mono ?_; rintro e w' ⟨rfl, ⟨nd2, rfl⟩⟩))
                      go_meet
                      case rel => exact ⟨false, by first | rfl | (simp; done) | (simp [*]; done), ⟨⟨(fun h => by cases h), fun h => absurd h (fun h => h.elim (fun h => h.elim (fun h => h.2 c0) (fun h => h.2.elim (fun h => by omega) (fun h => by omega))) (fun h => by omega))⟩⟩, ⟨⟨HBa.out.os, HBa.out.tape, HBa.out.output, HBa.out.size, HBa.out.block⟩⟩, HXa, HXb, HX6⟩
               | false =>
                have HJ := Aside0.mk ((jumpsB_f i.f0).trans (by rw [hj]))
                by_cases c4 : a0_0 ≤ i.f1
                · have c4b := decide_eq_true c4
                  go_wp2_with (first | (go_at_call 130; refine (impl_stops.calls i.f0 _ _ HS.out).mono ?_; rintro e w' ⟨rfl, ⟨nd, rfl⟩⟩) | (go_at_call 76; refine (impl_jumps.calls i.f0 _ _ HJ.out).mono ?_; rintro e w' ⟨rfl, ⟨nd2, rfl⟩⟩))
                  go_meet
                  case rel => exact ⟨true, by first | rfl | (simp; done) | (simp [*]; done), ⟨⟨fun _ => .inr (by omega), fun _ => rfl⟩⟩, ⟨⟨HBa.out.os, HBa.out.tape, HBa.out.output, HBa.out.size, HBa.out.block⟩⟩, HXa, HXb, HX6⟩
                · have c4b := decide_eq_false c4
                  go_wp2_with (first | (go_at_call 130; refine (impl_stops.calls i.f0 _ _ HS.out).mono ?_; rintro e w' ⟨rfl, ⟨nd, rfl⟩⟩) | (go_at_call 76; refine (impl_jumps.calls i.f0 _ _ HJ.out).mono ?_; rintro e w' ⟨rfl, ⟨nd2, rfl⟩⟩))
                  go_meet
                  case rel => exact ⟨false, by first | rfl | (simp; done) | (simp [*]; done), ⟨⟨(fun h => by cases h), fun h => absurd h (fun h => h.elim (fun h => h.elim (fun h => h.2 c0) (fun h => by rw [hj] at h; cases h.1)) (fun h => by omega))⟩⟩, ⟨⟨HBa.out.os, HBa.out.tape, HBa.out.output, HBa.out.size, HBa.out.block⟩⟩, HXa, HXb, HX6⟩
             · have k1 : ((j : Int) == ((is.length : Int) - 1)) = false := beq_eq_false_iff_ne.mpr (by omega)
               have k2 : ((j : Int) != ((is.length : Int) - 1)) = true := bne_iff_ne.mpr (by omega)
               have HJ := Aside0.mk (jumpsB_f i.f0)
               go_wp2_with (first | (go_at_call 130; refine (impl_stops.calls i.f0 _ _ HS.out).mono ?_; rintro e w' ⟨rfl, ⟨nd, rfl⟩⟩) | (go_at_call 76; refine (impl_jumps.calls i.f0 _ _ HJ.out).mono ?_; rintro e w' ⟨rfl, ⟨nd2, rfl⟩⟩))
               go_meet
               case rel => exact ⟨true, by first | rfl | (simp; done) | (simp [*]; done), ⟨⟨fun _ => .inl (.inl ⟨hs, c0⟩), fun _ => rfl⟩⟩, ⟨⟨HBa.out.os, HBa.out.tape, HBa.out.output, HBa.out.size, HBa.out.block⟩⟩, HXa, HXb, HX6⟩
            | false =>
             have HS := Aside0.mk ((stopsB_f i.f0).trans (by rw [hs]))
             cases hj : jumpsB i.f0 with
             | true =>
              have HJ := Aside0.mk ((jumpsB_f i.f0).trans (by rw [hj]))
              by_cases c2 : i.f5 < 0
              · have c2b := decide_eq_true c2
                go_wp2_with (first | (go_at_call 130; refine (impl_stops.calls i.f0 _ _ HS.out).mono ?_; rintro e w' ⟨rfl, ⟨nd, rfl⟩⟩) | (go_at_call 76; refine (impl_jumps.calls i.f0 _ _ HJ.out).mono ?_; rintro e w' ⟨rfl, ⟨nd2, rfl⟩⟩))
                go_meet
                case rel => exact ⟨true, by first | rfl | (simp; done) | (simp [*]; done), ⟨⟨fun _ => .inl (.inr ⟨hj, .inl (by omega)⟩), fun _ => rfl⟩⟩, ⟨⟨HBa.out.os, HBa.out.tape, HBa.out.output, HBa.out.size, HBa.out.block⟩⟩, HXa, HXb, HX6⟩
              · have c2b := decide_eq_false c2
                by_cases c3 : (l0_2.length : Int) ≤ i.f5
                · have c3b := decide_eq_true c3
                  go_wp2_with (first | (go_at_call 130; refine (impl_stops.calls i.f0 _ _ HS.out).mono ?_; rintro e w' ⟨rfl, ⟨nd, rfl⟩⟩) | (go_at_call 76; refine (impl_jumps.calls i.f0 _ _ HJ.out).mono ?_; rintro e w' ⟨rfl, ⟨nd2, rfl⟩⟩))
                  go_meet
                  case rel => exact ⟨true, by first | rfl | (simp; done) | (simp [*]; done), ⟨⟨fun _ => .inl (.inr ⟨hj, .inr (by omega)⟩), fun _ => rfl⟩⟩, ⟨⟨HBa.out.os, HBa.out.tape, HBa.out.output, HBa.out.size, HBa.out.block⟩⟩, HXa, HXb, HX6⟩
                · have c3b := decide_eq_false c3
                  by_cases c4 : a0_0 ≤ i.f1
                  · have c4b := decide_eq_true c4
                    go_wp2_with (first | (go_at_call 130; refine (impl_stops.calls i.f0 _ _ HS.out).mono ?_; rintro e w' ⟨rfl, ⟨nd, rfl⟩⟩) | (go_at_call 76; refine (impl_jumps.calls i.f0 _ _ HJ.out).mono ?_; rintro e w' ⟨rfl, ⟨nd2, rfl⟩⟩))
                    go_meet
                    case rel => exact ⟨true, by first | rfl | (simp; done) | (simp [*]; done), ⟨⟨fun _ => .inr (by omega), fun _ => rfl⟩⟩, ⟨⟨HBa.out.os, HBa.out.tape, HBa.out.output, HBa.out.size, HBa.out.block⟩⟩, HXa, HXb, HX6⟩
                  · have c4b := decide_eq_false c4
                    go_wp2_with (first | (go_at_call 130; refine (impl_stops.calls i.f0 _ _ HS.out).mono ?_; rintro e w' ⟨rfl, ⟨nd, rfl⟩⟩) | (go_at_call 76; refine (impl_jumps.calls i.f0 _ _ HJ.out).mono ?_; rintro e w' ⟨rfl, ⟨nd2, rfl⟩⟩))
                    go_meet
                    case rel => exact ⟨false, by first | rfl | (simp; done) | (simp [*]; done), ⟨⟨(fun h => by cases h), fun h => absurd h (fun h => h.elim (fun h => h.elim (fun h => by rw [hs] at h; cases h.1) (fun h => h.2.elim (fun h => by omega) (fun h => by omega))) (fun h => by omega))⟩⟩, ⟨⟨HBa.out.os, HBa.out.tape, HBa.out.output, HBa.out.size, HBa.out.block⟩⟩, HXa, HXb, HX6⟩
             | false =>
              have HJ := Aside0.mk ((jumpsB_f i.f0).trans (by rw [hj]))
              by_cases c4 : a0_0 ≤ i.f1
              · have c4b := decide_eq_true c4
                go_wp2_with (first | (go_at_call 130; refine (impl_stops.calls i.f0 _ _ HS.out).mono ?_; rintro e w' ⟨rfl, ⟨nd, rfl⟩⟩) | (go_at_call 76; refine (impl_jumps.calls i.f0 _ _ HJ.out).mono ?_; rintro e w' ⟨rfl, ⟨nd2, rfl⟩⟩))
                go_meet
                case rel => exact ⟨true, by first | rfl | (simp; done) | (simp [*]; done), ⟨⟨fun _ => .inr (by omega), fun _ => rfl⟩⟩, ⟨⟨HBa.out.os, HBa.out.tape, HBa.out.output, HBa.out.size, HBa.out.block⟩⟩, HXa, HXb, HX6⟩
              · have c4b := decide_eq_false c4
                go_wp2_with (first | (go_at_call 130; refine (impl_stops.calls i.f0 _ _ HS.out).mono ?_; rintro e w' ⟨rfl, ⟨nd, rfl⟩⟩) | (go_at_call 76; refine (impl_jumps.calls i.f0 _ _ HJ.out).mono ?_; rintro e w' ⟨rfl, ⟨nd2, rfl⟩⟩))
                go_meet
                case rel => exact ⟨false, by first | rfl | (simp; done) | (simp [*]; done), ⟨⟨(fun h => by cases h), fun h => absurd h (fun h => h.elim (fun h => h.elim (fun h => by rw [hs] at h; cases h.1) (fun h => by rw [hj] at h; cases h.1)) (fun h => by omega))⟩⟩, ⟨⟨HBa.out.os, HBa.out.tape, HBa.out.output, HBa.out.size, HBa.out.block⟩⟩, HXa, HXb, HX6⟩
           case rest =>
            clear HX6 HXa HXb HBa e0 e1 e5 f0 g0 g2
            obtain ⟨bc, rfl, HC, HB, HX, HX4, HX6⟩ := hcut
            cases bc with
            | true =>
             have hbad := HC.out.1 rfl
             have hr := HNO.out (fun h => by
              have h2 := h.2.2 b hlb j (by rw [HIS.out]; exact hlj)
              rw [HIS.out, ← HI.out] at h2
              exact hbad.elim h2.1 (fun h3 => by have := h2.2.1; omega))
             subst hr
             go_wp2
             go_ret
             exact ⟨rfl, HB.out⟩
            | false =>
             have HGOOD := Aside0.mk (fun h => by cases HC.out.2 h : ¬ (badJ a0_0 l0_2.length (j + 1 = is.length) i ∨ a0_0 ≤ i.f1))
             have m0 := (blk_cell HX6.out 0).trans rfl
             have m1 := (blk_cell HX6.out 1).trans rfl
             have m2 := (blk_cell HX6.out 2).trans rfl
             have m3 := (blk_cell HX6.out 3).trans rfl
             have m4 := (blk_cell HX6.out 4).trans rfl
             have m5 := (blk_cell HX6.out 5).trans rfl
             have m6 := (blk_cell HX6.out 6).trans rfl
             have m7 := (blk_cell HX6.out 7).trans rfl
             clear HC
             go_wp2_with (first | (go_at_call 64; go_loud (refine (impl_Reads.calls k i.f0 i.f1 i.f2 i.f3 i.f4 i.f5 i.f6 A7 c7 i.f7 (readsL i) _ (Kd.C_below HR7.out (by exact HB.out)) hl7 HRD.out).mono ?_; rintro e w7 ⟨vR, rfl, hR7, hb7⟩; obtain ⟨AR, cR, eR⟩ := Kd.R_slice hR7; subst eR; have HRR := Aside0.mk hR7; have HB7 := Aside0.mk (below_step HB.out hb7); have HX7 := Aside0.mk (blk_below HX.out hb7); have HX47 := Aside0.mk (blk_below HX4.out hb7); clear hR7 hb7)))
             clear m0 m1 m2 m3 m4 m5 m6 m7 HB HX HX4 HX6
             obtain ⟨rs, hrs⟩ : ∃ rs, rs = readsL i := ⟨_, rfl⟩
             rw [← hrs] at HRR hrl ⊢
             have HRS := Aside0.mk hrs
             clear hrs
             go_loopw [71] (fun v wr => ∃ q : Nat, q ≤ rs.length ∧ v = .int .i64 (q : Int) ∧ Aside0 (Below w.heap.size w wr) ∧ Aside0 (wr.heap[w.heap.size]? = some (.cells #[.int .i64 a0_0, .slice A0_1 l0_1.length c0_1, .slice (some ad) l0_2.length c0_2] 29 (0, 0))) ∧ Aside0 (wr.heap[q4]? = some (.cells #[.slice (some ad7) is.length c5] 85 (0, 0))) ∧ Aside0 (Kd.R (Kd.int .i64) 2 wr wc.heap.size (fun _ => True) (.slice AR rs.length cR) rs) ∧ Aside0 (∀ c (h : c < rs.length), c < q → rs[c] < a0_0)) (fun v _ => rs.length - (intOf v).toNat)
             case atStart => exact ⟨0, Nat.zero_le _, rfl, HB7, HX7, HX47, HRR, ⟨fun c _ hc => absurd hc (Nat.not_lt_zero _)⟩⟩
             case round =>
              clear HB7 HX7 HX47 HRR
              obtain ⟨q, hq, rfl, HB, HX, HX4, HRR, HPQ⟩ := hrel
              have g0 := (blk_cell HX.out 0).trans rfl
              by_cases hlq : q < rs.length
              · obtain ⟨gR, cR2, eR, _, _, _⟩ := Kd.R_form HRR.out (by omega)
                injection eR with eR eR2 eR3
                subst eR
                obtain ⟨cx, zx⟩ := Kd.R_celln 0 HRR.out (q : Int) (by omega) (by omega)
                obtain ⟨x, hx⟩ : ∃ x, x = rs[q] := ⟨_, rfl⟩
                have hrx : rdOf 0 rs (q : Int) = x := by rw [hx]; simp [rdOf, List.getElem?_eq_getElem hlq]
                rw [hrx, Int.toNat_natCast] at cx
                have hxm : x ∈ rs := by rw [hx]; exact List.getElem_mem _
                have HXQ := Aside0.mk hx
                clear hrx hx eR2 eR3 zx
                by_cases c5 : a0_0 ≤ x
                · have c5b := decide_eq_true c5
                  have hr := HNO.out (fun h => by
                   have h2 := h.2.2 b hlb j (by rw [HIS.out]; exact hlj)
                   rw [HIS.out, ← HI.out] at h2
                   have h3 := h2.2.2 x (by rw [← HRS.out]; exact hxm)
                   omega)
                  subst hr
                  go_wp2
                  go_ret
                  exact ⟨rfl, HB.out⟩
                · have c5b := decide_eq_false c5
                  go_wp2
                  go_roundw
                  case measure => simp [intOf]; omega
                  case rel => first | exact ⟨q + 1, by omega, by go_num, HB, HX, HX4, HRR, ⟨fun c hc hcq => by
                   by_cases e : c = q
                   · subst e; rw [← HXQ.out]; omega
                   · exact HPQ.out c hc (by omega)⟩⟩ | ((repeat apply Exists.intro); exact ⟨⟨q + 1, by omega, by go_num, HB, HX, HX4, HRR, ⟨fun c hc hcq => by
                   by_cases e : c = q
                   · subst e; rw [← HXQ.out]; omega
                   · exact HPQ.out c hc (by omega)⟩⟩, rfl⟩)
              · have hqe : q = rs.length := by omega
                subst hqe
                go_wp2
                go_roundw
                case measure => simp [intOf]; omega
                case rel => first | exact ⟨j + 1, by omega, by go_num, HB, HX, HX4, ⟨fun c hc => by
                 by_cases e : c = j
                 · subst e
                   rw [← HI.out]
                   refine ⟨fun h => HGOOD.out (.inl h), Int.not_le.1 (fun h => HGOOD.out (.inr h)), fun x hx => ?_⟩
                   rw [← HRS.out] at hx
                   obtain ⟨q, hq, rfl⟩ := List.getElem_of_mem hx
                   exact HPQ.out q hq hq
                 · exact HPJ.out c (by omega)⟩⟩ | ((repeat apply Exists.intro); exact ⟨⟨j + 1, by omega, by go_num, HB, HX, HX4, ⟨fun c hc => by
                 by_cases e : c = j
                 · subst e
                   rw [← HI.out]
                   refine ⟨fun h => HGOOD.out (.inl h), Int.not_le.1 (fun h => HGOOD.out (.inr h)), fun x hx => ?_⟩
                   rw [← HRS.out] at hx
                   obtain ⟨q, hq, rfl⟩ := List.getElem_of_mem hx
                   exact HPQ.out q hq hq
                 · exact HPJ.out c (by omega)⟩⟩, rfl⟩)
         · have hje : j = is.length := by omega
           subst hje
           go_wp2
           go_roundw
           case measure => simp [intOf]; omega
           case rel => first | exact ⟨b + 1, by omega, by go_num, HB, HX, ⟨fun c hc => by
            by_cases e : c = b
            · subst e
              intro j hj
              rw [HIS.out] at hj ⊢
              exact HPJ.out j hj
            · exact HP.out c (by omega)⟩⟩ | ((repeat apply Exists.intro); exact ⟨⟨b + 1, by omega, by go_num, HB, HX, ⟨fun c hc => by
            by_cases e : c = b
            · subst e
              intro j hj
              rw [HIS.out] at hj ⊢
              exact HPJ.out j hj
            · exact HP.out c (by omega)⟩⟩, rfl⟩)
      · have hbe : b = l0_2.length := by omega
        subst hbe
        have hr := HYES.out ⟨by omega, by omega, HP.out⟩
        subst hr
        go_wp2
        go_ret
        exact ⟨rfl, HB.out⟩

end Go.Proofs.Ythegbhfoleiegaa.All

/- impl.liveOf: walked by hand. -/
namespace Go.Proofs.Ythegbhfoleiegaa.All
open Go.RowKit Go.Proofs.YthegbhfoleiegaaW.PrintWords Go.Proofs.YthegbhfoleiegaaW.PrintLast Go.Proofs.YthegbhfoleiegaaW.PrintMore
set_option linter.unusedVariables false
set_option linter.unusedSimpArgs false
theorem IsKeys.len {P : Program} {k e : TypeId} {w : World} {b : Nat} {ks : List Int} (h : IsKeys P k e w b ks) {t : TypeId} (ht : P.underlying t = some (.map k e)) (ty : TypeId) : (Builtin.len_ #[t] ty #[.map (some b)]).run P w = .ok (.int .i64 (ks.length : Nat)) w := by
  obtain ⟨D, h1, h2⟩ := h
  rw [← h2.1]
  exact h1.len ht ty
theorem IsKeys.ne_cells {P : Program} {k e : TypeId} {w : World} {b g : Nat} {ks : List Int} (h : IsKeys P k e w b ks) {cs : Array Value} {t : TypeId} {sh : Nat × Nat} (hg : w.heap[g]? = some (.cells cs t sh)) : b ≠ g := by
  obtain ⟨D, ⟨es, clock, hb, _⟩, _⟩ := h
  rintro rfl
  rw [hb] at hg
  cases hg
theorem grown_cell' (w : World) (a : Addr) (u : Value) : w.grownBy (w.setCell a u) (some a.block) :=
  ⟨rfl, rfl, rfl, by simp, fun i hi hne => Below.heap_setCell w a u i (fun e => hne (by rw [e]))⟩
/-- The state of liveOf. -/
structure LI (w W : World) (a0_0 : Int) (v1 : Value) (A2 : Option Addr) (n c2 : Nat) (vb : Value) (bs : List Nat) (kss : List (List Int)) : Prop where
  hb : Below w.heap.size w W
  b0 : W.heap[w.heap.size]? = some (.cells #[.int .i64 a0_0, v1, .slice A2 n c2] 29 (0, 0))
  b1 : W.heap[w.heap.size + 1]? = some (.cells #[.int .i64 a0_0, v1, .slice A2 n c2, vb] 102 (0, 0))
  r : KM.R 92 W w.heap.size (fun k => k ≠ w.heap.size ∧ k ≠ w.heap.size + 1) vb bs
  hl : bs.length = kss.length
  ks : ∀ j, j < kss.length → IsKeys Try.prog 2 4 W (bs.getD j 0) (kss.getD j [])
  lo : ∀ j, j < kss.length → w.heap.size ≤ bs.getD j 0
theorem LI.below {w W W' : World} {a0_0 : Int} {v1 : Value} {A2 : Option Addr} {n c2 : Nat} {vb : Value} {bs : List Nat} {kss : List (List Int)} (h : LI w W a0_0 v1 A2 n c2 vb bs kss) (hb : Below W.heap.size W W') : LI w W' a0_0 v1 A2 n c2 vb bs kss :=
  ⟨below_step h.hb hb, blk_below h.b0 hb, blk_below h.b1 hb, Kd.R_below h.r hb, h.hl, fun j hj => (h.ks j hj).below hb, h.lo⟩
theorem LI.alloc {w W : World} {a0_0 : Int} {v1 : Value} {A2 : Option Addr} {n c2 : Nat} {vb : Value} {bs : List Nat} {kss : List (List Int)} (h : LI w W a0_0 v1 A2 n c2 vb bs kss) (o : Obj) : LI w (W.alloc o) a0_0 v1 A2 n c2 vb bs kss := h.below (below_alloc (Below.refl _ _) o)
theorem LI.drewN {w W : World} {a0_0 : Int} {v1 : Value} {A2 : Option Addr} {n c2 : Nat} {vb : Value} {bs : List Nat} {kss : List (List Int)} (h : LI w W a0_0 v1 A2 n c2 vb bs kss) (m : Nat) : LI w (W.drewN m) a0_0 v1 A2 n c2 vb bs kss := h.below (pw_below_drewN (Below.refl _ _) m)
theorem LI.lt {w W : World} {a0_0 : Int} {v1 : Value} {A2 : Option Addr} {n c2 : Nat} {vb : Value} {bs : List Nat} {kss : List (List Int)} (h : LI w W a0_0 v1 A2 n c2 vb bs kss) : w.heap.size + 1 < W.heap.size := blk_lt h.b1
theorem LI.start (w : World) (a0_0 : Int) (v1 : Value) (A2 : Option Addr) (n c2 : Nat) : LI w ((w.alloc (.cells #[.int .i64 a0_0, v1, .slice A2 n c2] 29 (0, 0))).alloc (.cells #[.int .i64 a0_0, v1, .slice A2 n c2, .slice none 0 0] 102 (0, 0))) a0_0 v1 A2 n c2 (.slice none 0 0) [] [] := by
  have e2 : (w.alloc (.cells #[.int .i64 a0_0, v1, .slice A2 n c2] 29 (0, 0))).heap.size = w.heap.size + 1 := by simp
  refine ⟨below_alloc (below_alloc (Below.refl _ _) _) _, blk_alloc (blk_new w _) _, ?_, Kd.R_nil _ _ _ _ _, rfl, fun j hj => (by cases hj), fun j hj => (by cases hj)⟩
  rw [← e2]
  exact blk_new _ _
/-- A new empty map is appended. -/
theorem LI.push {w W w4 : World} {a0_0 : Int} {v1 : Value} {A2 : Option Addr} {n c2 : Nat} {vb v4 : Value} {bs : List Nat} {kss : List (List Int)} (h : LI w W a0_0 v1 A2 n c2 vb bs kss) (ks0 : List Int) (b : Nat) (hk : IsKeys Try.prog 2 4 W b ks0) (hlo : w.heap.size ≤ b)
    (h4 : KM.R 92 w4 w.heap.size (fun k => k ≠ w.heap.size ∧ k ≠ w.heap.size + 1) v4 (bs ++ [b])) (hb4 : Below w.heap.size w w4) (hg : W.grownBy w4 vb.ownBlock) :
    LI w (w4.setCell ⟨w.heap.size + 1, 3, none⟩ v4) a0_0 v1 A2 n c2 v4 (bs ++ [b]) (kss ++ [ks0]) := by
  have hn := h.r.1
  have hne0 : some w.heap.size ≠ vb.ownBlock := fun e => (hn _ e.symm).1 rfl
  have hne1 : some (w.heap.size + 1) ≠ vb.ownBlock := fun e => (hn _ e.symm).2 rfl
  have g5 := grown_cell' w4 ⟨w.heap.size + 1, 3, none⟩ v4
  have hks : ∀ (x : Nat) (ks : List Int), IsKeys Try.prog 2 4 W x ks → IsKeys Try.prog 2 4 (w4.setCell ⟨w.heap.size + 1, 3, none⟩ v4) x ks := fun x ks hx => by
    have h1 : x ≠ w.heap.size + 1 := hx.ne_cells h.b1
    have h2 : some x ≠ vb.ownBlock := fun e => by
      obtain ⟨A, cc, hv⟩ := Kd.R_slice h.r
      rcases Nat.eq_zero_or_pos bs.length with h0 | h0
      · obtain ⟨_, inner, ho, _⟩ := h.r
        obtain ⟨hz, ⟨hv0, _⟩ | ⟨g, cap, cur, hv0, hb, hg, _⟩⟩ := ho
        · rw [hv0] at e; cases e
        · rw [hv0] at e
          cases e
          exact hx.ne_cells hg rfl
      · obtain ⟨g, cap, hv0, _, _, cells, hg⟩ := Kd.R_form h.r h0
        rw [hv0] at e
        cases e
        exact hx.ne_cells hg rfl
    exact ((hx.kept hg h2).kept g5 (by intro e; exact h1 (Option.some.inj e)))
  refine ⟨belowG hb4 g5 (fun k e => by cases e; exact Nat.le_succ _), ?_, blk_set (blk_grown h.b1 hg hne1) 3 v4, Kd.R_grown h4 g5 (fun k hk e => by cases e; exact hk.2 rfl), by simp [h.hl], fun j hj => ?_, fun j hj => ?_⟩
  · exact blk_grown (blk_grown h.b0 hg hne0) g5 (by intro e; have := Option.some.inj e; simp at this)
  · rw [List.length_append, List.length_singleton] at hj
    by_cases hj2 : j < kss.length
    · rw [List.getD_eq_getElem?_getD, List.getD_eq_getElem?_getD, List.getElem?_append_left (by rw [h.hl]; exact hj2), List.getElem?_append_left hj2, ← List.getD_eq_getElem?_getD, ← List.getD_eq_getElem?_getD]
      exact hks _ _ (h.ks j hj2)
    · have hj3 : j = kss.length := by omega
      subst hj3
      rw [List.getD_eq_getElem?_getD, List.getD_eq_getElem?_getD, ← h.hl, List.getElem?_concat_length, h.hl, List.getElem?_concat_length]
      exact hks _ _ hk
  · rw [List.length_append, List.length_singleton] at hj
    by_cases hj2 : j < kss.length
    · rw [List.getD_eq_getElem?_getD, List.getElem?_append_left (by rw [h.hl]; exact hj2), ← List.getD_eq_getElem?_getD]
      exact h.lo j hj2
    · have hj3 : j = kss.length := by omega
      subst hj3
      rw [List.getD_eq_getElem?_getD, ← h.hl, List.getElem?_concat_length]
      exact hlo
theorem LI.set {w W : World} {a0_0 : Int} {v1 : Value} {A2 : Option Addr} {n c2 : Nat} {g m cap : Nat} {bs : List Nat} {kss : List (List Int)} (h : LI w W a0_0 v1 A2 n c2 (.slice (some ⟨g, 0, none⟩) m cap) bs kss) (hm : m = bs.length) (i : Nat) (hi : i < kss.length) (ks0 : List Int) (b : Nat) (hk : IsKeys Try.prog 2 4 W b ks0) (hlo : w.heap.size ≤ b) :
    LI w (W.setCell ⟨g, i, none⟩ (.map (some b))) a0_0 v1 A2 n c2 (.slice (some ⟨g, 0, none⟩) m cap) (bs.set i b) (kss.set i ks0) := by
  have hn := h.r.1 g rfl
  have g5 := grown_cell' W ⟨g, i, none⟩ (.map (some b))
  obtain ⟨g', cap', hv0, hbg, _, cells, hg⟩ := Kd.R_form h.r (by rw [h.hl]; omega)
  injection hv0 with e1 e2 e3
  cases e1
  have hks : ∀ (x : Nat) (ks : List Int), IsKeys Try.prog 2 4 W x ks → IsKeys Try.prog 2 4 (W.setCell ⟨g, i, none⟩ (.map (some b))) x ks := fun x ks hx => hx.kept g5 (by intro e; exact hx.ne_cells hg (Option.some.inj e))
  have hr := Kd.R_putn h.r (i : Int) b
  rw [Int.toNat_natCast] at hr
  refine ⟨belowG h.hb g5 (fun k e => by cases e; exact hbg), blk_grown h.b0 g5 (by intro e; exact hn.1 (Option.some.inj e).symm), blk_grown h.b1 g5 (by intro e; exact hn.2 (Option.some.inj e).symm), hr, by simp [h.hl], fun j hj => ?_, fun j hj => ?lo2⟩
  case lo2 =>
    rw [List.length_set] at hj
    rw [List.getD_eq_getElem?_getD, List.getElem?_set]
    by_cases hij : i = j
    · subst hij
      simp [hi, h.hl]
      exact hlo
    · rw [if_neg hij, ← List.getD_eq_getElem?_getD]
      exact h.lo j hj
  rw [List.length_set] at hj
  rw [List.getD_eq_getElem?_getD, List.getD_eq_getElem?_getD, List.getElem?_set, List.getElem?_set]
  by_cases hij : i = j
  · subst hij
    simp [hi, h.hl]
    exact hks _ _ hk
  · rw [if_neg hij, if_neg hij, ← List.getD_eq_getElem?_getD, ← List.getD_eq_getElem?_getD]
    exact hks _ _ (h.ks j hj)
set_option maxHeartbeats 8000000 in
set_option maxRecDepth 100000 in
theorem liveOf_calls (k : Nat) (a0_0 : Int) (A0_1 : Option Addr) (c0_1 : Nat) (l0_1 : List Int) (A0_2 : Option Addr) (c0_2 : Nat) (l0_2 : List (S85)) (r : List (List Int)) (w : World)
    (hr0_2 : Kd.C k85 w A0_2 l0_2.length l0_2) (hc0_2 : l0_2.length ≤ c0_2) (hok : okV k l0_2) (h : loopK l0_2 k (List.replicate l0_2.length []) = some r) :
    Calls Try.prog 70 #[.agg #[.int .i64 a0_0, .slice A0_1 l0_1.length c0_1, .slice A0_2 l0_2.length c0_2]] w fun e w' => ∃ (vb : Value) (bs : List Nat), e = .returned (.pointer (some ⟨w.heap.size + 1, 0, none⟩)) ∧ LI w w' a0_0 (.slice A0_1 l0_1.length c0_1) A0_2 l0_2.length c0_2 vb bs r ∧ r.length = l0_2.length ∧ SubK (allR l0_2) r := by
  have HR := Aside0.mk hr0_2
  have HOK := Aside0.mk hok
  have H := Aside0.mk h
  have hn9 := hok.1
  clear hr0_2 hok h
  have hu1 := Try.underlying29
  have hu2 := Try.underlying102
  have hu3 := Try.underlying85
  have hmm := @run_makeMap Try.prog
  have HI := Aside0.mk (LI.start w a0_0 (.slice A0_1 l0_1.length c0_1) A0_2 l0_2.length c0_2)
  have b0 := (blk_cell (blk_new w (.cells #[.int .i64 a0_0, .slice A0_1 l0_1.length c0_1, .slice A0_2 l0_2.length c0_2] 29 (0, 0))) 2).trans rfl
  have e1 : (w.alloc (.cells #[.int .i64 a0_0, .slice A0_1 l0_1.length c0_1, .slice A0_2 l0_2.length c0_2] 29 (0, 0))).heap.size = w.heap.size + 1 := by simp
  go_enter Try.func70, Try.ntmps70
  go_wp2
  go_loopw [15] (fun v wr => ∃ (m : Nat) (vb : Value) (bs : List Nat), m ≤ l0_2.length ∧ v = .int .i64 (m : Int) ∧ Aside0 (LI w wr a0_0 (.slice A0_1 l0_1.length c0_1) A0_2 l0_2.length c0_2 vb bs (List.replicate m []))) (fun v _ => l0_2.length - (intOf v).toNat)
  case atStart => exact ⟨0, .slice none 0 0, [], Nat.zero_le _, rfl, HI⟩
  case round =>
    clear HI b0 e1
    obtain ⟨m, vb, bs, hm, rfl, HI⟩ := hrel
    by_cases hlm : m < l0_2.length
    · obtain ⟨A3, c3, e3⟩ := Kd.R_slice HI.out.r
      subst e3
      have hbl : bs.length = m := by have := HI.out.hl; simpa using this
      have b3 := (blk_cell HI.out.b1 3).trans rfl
      have hlt := HI.out.lt
      have HI1 := Aside0.mk (HI.out.alloc (.map #[] 0))
      have hmk := IsKeys.made wr Try.prog 2 4
      have HMK := Aside0.mk hmk
      have hb9 : bs.length < 1000000000 := by omega
      have HBL := Aside0.mk hbl
      clear hmk hbl
      have e5 : (wr.alloc (.map #[] 0)).heap.size = wr.heap.size + 1 := by simp
      have E5 := Aside0.mk e5
      clear e5
      go_wp2_with (first | (at_builtin; refine Kd.R_append KM (w0 := w) w.heap.size rfl (.tmp 21) (.tmp 23) 100 92 (.map none) 8 rfl Try.underlying100 (by kernel_rfl) rfl (by decide) (by decide) (.slice A3 bs.length c3) bs wr.heap.size [.map (some wr.heap.size)] (fun k => k ≠ w.heap.size ∧ k ≠ w.heap.size + 1) (fun _ => False) rfl (by show Value.slice (some ⟨wr.heap.size + 1, 0, none⟩) 1 1 = _; rw [E5.out]) ?aP (fun _ hk => hk.elim) ?aF ?aO ?aB ?aS ?aL ?_; (case aP => exact rfl); (case aF => exact (fun k hk => by show k ≠ _ ∧ k ≠ _; have := E5.out; omega)); (case aO => exact HI1.out.r); (case aB => exact HI1.out.hb); (case aS => exact HI1.out.hb.size); (case aL => omega); intro v4 w4 ho4 hb4 hg4 hat4; obtain ⟨g4, c4, e4, _, _, _⟩ := Kd.R_form ho4 (by simp); subst e4; have HP := Aside0.mk (HI1.out.push [] wr.heap.size HMK.out HI.out.hb.size ho4 hb4 hg4); rw [show (bs ++ [wr.heap.size]).length = bs.length + 1 from by simp] at HP; have b4 := (blk_cell (blk_grown HI1.out.b1 hg4 (by intro e; have h := HI1.out.r.1 _ e.symm; exact h.2 rfl)) 3).trans rfl; have z4 := blk_frozen (blk_grown HI1.out.b1 hg4 (by intro e; have h := HI1.out.r.1 _ e.symm; exact h.2 rfl)) 3; clear ho4 hb4 hg4 hat4))
      have hrep : List.replicate m [] ++ [[]] = List.replicate (m + 1) ([] : List Int) := by rw [← List.replicate_succ']
      have HR5 := Aside0.mk hrep
      clear hrep
      go_roundw
      case measure => simp [intOf]; omega
      case rel => first | exact ⟨m + 1, _, _, by omega, by go_num, ⟨by rw [← HR5.out]; exact HP.out⟩⟩ | ((repeat apply Exists.intro); exact ⟨⟨m + 1, _, _, by omega, by go_num, ⟨by rw [← HR5.out]; exact HP.out⟩⟩, rfl⟩)
    · have hme : m = l0_2.length := by omega
      subst hme
      go_wp2
      go_loopg [4] k (fun gk v wr => ∃ (again : Bool) (kss : List (List Int)) (vb : Value) (bs : List Nat), v = .bool again ∧ Aside0 (LI w wr a0_0 (.slice A0_1 l0_1.length c0_1) A0_2 l0_2.length c0_2 vb bs kss) ∧ Aside0 (kss.length = l0_2.length) ∧ Aside0 (SubK (allR l0_2) kss) ∧ Aside0 (if again = true then loopK l0_2 gk kss = some r else kss = r))
      case atStart => exact ⟨true, _, vb, bs, rfl, HI, ⟨by simp⟩, ⟨fun j x hx => by rw [List.getD_eq_getElem?_getD, List.getElem?_replicate] at hx; split at hx <;> cases hx⟩, ⟨by rw [if_pos rfl]; exact H.out⟩⟩
      case round =>
        clear HI H
        obtain ⟨again, kss, vb, bs, rfl, HI, HL, HS, H⟩ := hrel
        cases again with
        | false =>
          have hk : kss = r := H.out
          subst hk
          go_wp2
          go_ret
          first | exact ⟨rfl, ⟨vb, bs, HI.out⟩, HL.out, HS.out⟩ | exact ⟨vb, bs, rfl, HI.out, HL.out, HS.out⟩
        | true =>
          cases gk with
          | zero => exact absurd H.out (by simp [loopK])
          | succ gk =>
            have h2 : loopK l0_2 (gk + 1) kss = some r := H.out
            rw [loopK] at h2
            have H2 := Aside0.mk h2
            clear h2 H
            have b2 := (blk_cell HI.out.b0 2).trans rfl
            go_wp2
            go_loopw [4, 32] (fun v4 v32 wr => ∃ (m : Nat) (vb : Value) (bs : List Nat), m ≤ l0_2.length ∧ v4 = .bool (passK l0_2 kss m).2 ∧ v32 = .int .i64 (m : Int) ∧ Aside0 (LI w wr a0_0 (.slice A0_1 l0_1.length c0_1) A0_2 l0_2.length c0_2 vb bs (passK l0_2 kss m).1) ∧ Aside0 ((passK l0_2 kss m).1.length = l0_2.length) ∧ Aside0 (SubK (allR l0_2) (passK l0_2 kss m).1)) (fun _ v _ => l0_2.length - (intOf v).toNat)
            case atStart => exact ⟨0, vb, bs, Nat.zero_le _, rfl, rfl, HI, HL, HS⟩
            case round =>
              clear HI HL HS b2
              obtain ⟨m, vb, bs, hm, rfl, rfl, HI, HL, HS⟩ := hrel
              by_cases hlm : m < l0_2.length
              · have p3 : (0 : Int) ≤ (m : Int) := by omega
                have q3 : (m : Int) < (l0_2.length : Int) := by omega
                obtain ⟨ad, A5, c5, e5, hx0, hl5, hi5⟩ := at_T85 HR.out (m : Int) p3 q3
                have HR5 := Aside0.mk hi5
                cases e5
                replace hx0 := (HI.out.hb.cell (World.block_lt_of_cell? w _ hx0)).trans hx0
                rw [Int.toNat_natCast] at hx0
                obtain ⟨kc, hkc⟩ : ∃ p, p = passK l0_2 kss m := ⟨_, rfl⟩
                obtain ⟨is, his⟩ : ∃ is, is = (rd_T85 l0_2 (m : Int)).f0 := ⟨_, rfl⟩
                rw [← his] at hx0 hl5 HR5
                have his2 : insAt l0_2 m = is := his.symm
                obtain ⟨hi9, hio⟩ := insAt_ok HOK.out hlm
                have har := allR_mem hlm
                rw [his2] at hi9 hio har
                have HIO := Aside0.mk hio
                have HAR := Aside0.mk har
                have HKC := Aside0.mk hkc
                have HIS := Aside0.mk his2
                rw [← hkc] at HI HL HS
                simp only [← hkc]
                obtain ⟨kl, ag⟩ := kc
                clear hkc his his2 hio har hi5
                have hlt := HI.out.lt
                have bk6 := blk_new wr (.cells #[.slice none 0 0] 85 (0, 0))
                have z6 := blk_frozen bk6 0
                have bk7 := blk_set bk6 0 (.slice A5 is.length c5)
                have c7 := (blk_cell bk7 0).trans rfl
                have HALN := Aside0.mk (allR_len hlm)
                go_wp2
                have e7 : (wr.alloc (.cells #[.slice A5 is.length c5] 85 (0, 0))).heap.size = wr.heap.size + 1 := by simp
                have hmk := IsKeys.made (wr.alloc (.cells #[.slice A5 is.length c5] 85 (0, 0))) Try.prog 2 4
                rw [e7] at hmk
                have HMK := Aside0.mk hmk
                have HI4 := Aside0.mk ((HI.out.alloc (.cells #[.slice A5 is.length c5] 85 (0, 0))).alloc (.map #[] 0))
                have HBX := Aside0.mk (blk_alloc (blk_new wr (.cells #[.slice A5 is.length c5] 85 (0, 0))) (.map #[] 0))
                obtain ⟨g6, hg6⟩ : ∃ g6, g6 = wr.heap.size := ⟨_, rfl⟩
                have hgsz : w.heap.size ≤ g6 := by rw [hg6]; exact HI.out.hb.size
                rw [← hg6] at HBX ⊢
                rw [← hg6] at HMK
                clear bk6 z6 bk7 c7 hx0 e7 hmk
                go_loopw [7, 8] (fun v7 v8 wl => ∃ (j bn : Nat), j ≤ is.length ∧ w.heap.size ≤ bn ∧ v7 = .map (some bn) ∧ v8 = .int .i64 ((j : Int) - 1) ∧ Aside0 (IsKeys Try.prog 2 4 wl bn (blockK kl (is.drop j))) ∧ Aside0 (LI w wl a0_0 (.slice A0_1 l0_1.length c0_1) (some ad) l0_2.length c0_2 vb bs kl) ∧ Aside0 (wl.heap[g6]? = some (.cells #[.slice A5 is.length c5] 85 (0, 0)))) (fun _ v8 _ => (intOf v8 + 1).toNat)
                case atStart => exact ⟨is.length, g6 + 1, Nat.le_refl _, Nat.le_succ_of_le hgsz, rfl, rfl, ⟨by rw [List.drop_length]; exact HMK.out⟩, HI4, HBX⟩
                case round =>
                  clear HMK HI4 HBX HI
                  obtain ⟨j, bn, hj, hbn, rfl, rfl, HMK, HI, HBX⟩ := hrel
                  cases j with
                  | zero =>
                    have hz : is.drop 0 = is := List.drop_zero
                    rw [hz] at HMK
                    obtain ⟨now, hnow⟩ : ∃ now, now = blockK kl is := ⟨_, rfl⟩
                    rw [← hnow] at HMK
                    have hbsl : bs.length = l0_2.length := HI.out.hl.trans HL.out
                    obtain ⟨g8, cap8, e8, hg8, hg9, cells8, hcells8⟩ := Kd.R_form HI.out.r (by omega)
                    subst e8
                    rw [hbsl] at HI
                    obtain ⟨c8, z8⟩ := Kd.R_celln 0 HI.out.r (m : Int) p3 q3
                    rw [Int.toNat_natCast] at c8 z8
                    obtain ⟨bm, hbm⟩ : ∃ bm, bm = bs.getD m 0 := ⟨_, rfl⟩
                    obtain ⟨km, hkm⟩ : ∃ km, km = kl.getD m [] := ⟨_, rfl⟩
                    have hrx : rdOf 0 bs (m : Int) = bm := by rw [hbm]; simp [rdOf, List.getD_eq_getElem?_getD]
                    rw [hrx] at c8
                    have hkx := HI.out.ks m (by rw [HL.out]; exact hlm)
                    rw [← hbm, ← hkm] at hkx
                    have l1 : ∀ n ty, (Builtin.len_ #[92] ty #[.map (some bn)]).run Try.prog (wr.drewN n) = .ok (.int .i64 (now.length : Nat)) (wr.drewN n) := fun n ty => (HMK.out.drewN n).len Try.underlying92 ty
                    have l2 : ∀ n ty, (Builtin.len_ #[92] ty #[.map (some bm)]).run Try.prog (wr.drewN n) = .ok (.int .i64 (km.length : Nat)) (wr.drewN n) := fun n ty => (hkx.drewN n).len Try.underlying92 ty
                    have b3 := (blk_cell HI.out.b1 3).trans rfl
                    have hpass : passK l0_2 kss (m + 1) = if now.length = km.length then (kl, ag) else (kl.set m now, true) := by rw [passK_succ, ← HKC.out]; unfold stepP; rw [HIS.out, ← hnow, ← hkm]
                    have HPS := Aside0.mk hpass
                    have hsub2 : SubK (allR l0_2) (passK l0_2 kss (m + 1)).1 := by rw [passK_succ, ← HKC.out]; exact stepP_sub hlm HS.out
                    have hlen2 : (passK l0_2 kss (m + 1)).1.length = l0_2.length := by rw [passK_succ, ← HKC.out, stepP_len]; exact HL.out
                    have HS2 := Aside0.mk hsub2
                    have HL2 := Aside0.mk hlen2
                    have ez : ((0 : Nat) : Int) - 1 = -1 := by omega
                    rw [ez]
                    clear hz hnow hbm hkm hrx hkx hpass hsub2 hlen2 ez hg8 hg9 hcells8 hbsl
                    by_cases hnl : now.length = km.length
                    · have hb1 : (((now.length : Nat) : Int) != ((km.length : Nat) : Int)) = false := by rw [hnl]; simp
                      go_wp2
                      go_quiet (fail)
                      go_wp2
                      have hp2 : passK l0_2 kss (m + 1) = (kl, ag) := by rw [HPS.out, if_pos hnl]
                      go_roundw
                      case measure => simp [intOf]; omega
                      case rel => first | exact ⟨m + 1, _, bs, by omega, by rw [hp2], by go_num, ⟨by rw [hp2]; exact HI.out.drewN nq⟩, HL2, HS2⟩ | ((repeat apply Exists.intro); exact ⟨⟨m + 1, _, bs, by omega, by rw [hp2], by go_num, ⟨by rw [hp2]; exact HI.out.drewN nq⟩, HL2, HS2⟩, rfl⟩)
                    · have hb1 : (((now.length : Nat) : Int) != ((km.length : Nat) : Int)) = true := by simp; omega
                      go_wp2
                      go_quiet (fail)
                      go_wp2
                      have hp2 : passK l0_2 kss (m + 1) = (kl.set m now, true) := by rw [HPS.out, if_neg hnl]
                      have HI9 := Aside0.mk ((HI.out.drewN nq).set (HI.out.hl.trans HL.out).symm m (by rw [HL.out]; exact hlm) now bn (HMK.out.drewN nq) hbn)
                      go_roundw
                      case measure => simp [intOf]; omega
                      case rel => first | exact ⟨m + 1, _, _, by omega, by rw [hp2], by go_num, ⟨by rw [hp2]; exact HI9.out⟩, HL2, HS2⟩ | ((repeat apply Exists.intro); exact ⟨⟨m + 1, _, _, by omega, by rw [hp2], by go_num, ⟨by rw [hp2]; exact HI9.out⟩, HL2, HS2⟩, rfl⟩)
                  | succ j =>
                    have ej : ((j + 1 : Nat) : Int) - 1 = (j : Int) := by omega
                    rw [ej]
                    have EJ := Aside0.mk ej
                    have p4 : (0 : Int) ≤ (j : Int) := by omega
                    have q4 : (j : Int) < (is.length : Int) := by omega
                    obtain ⟨ad7, A7, c7, e7, hx0, hx1, hx2, hx3, hx4, hx5, hx6, hx7, hl7, hi7⟩ := at_T87 HR5.out (j : Int) p4 q4
                    cases e7
                    obtain ⟨i, hi⟩ : ∃ i, i = rd_T87 is (j : Int) := ⟨_, rfl⟩
                    rw [← hi] at hx0 hx1 hx2 hx3 hx4 hx5 hx6 hx7 hl7 hi7
                    have him : i ∈ is := by rw [hi]; unfold rd_T87; rw [Int.toNat_natCast, List.getD_eq_getElem?_getD, List.getElem?_eq_getElem (by omega)]; exact List.getElem_mem _
                    have hdr : is.drop j = i :: is.drop (j + 1) := by rw [List.drop_eq_getElem_cons (by omega : j < is.length), hi]; unfold rd_T87; rw [Int.toNat_natCast, List.getD_eq_getElem?_getD, List.getElem?_eq_getElem (by omega)]; rfl
                    obtain ⟨nx, hnx⟩ : ∃ nx, nx = blockK kl (is.drop (j + 1)) := ⟨_, rfl⟩
                    have hbk : blockK kl (is.drop j) = stepK kl i nx := by rw [hdr, hnx]; rfl
                    rw [← hnx] at HMK
                    have hnxs : ∀ x ∈ nx, x ∈ allR l0_2 := by rw [hnx]; exact blockK_sub HS.out _ (fun i' h' => HAR.out i' (List.mem_of_mem_drop h'))
                    have hnl : nx.length ≤ (allR l0_2).length := nodup_sub_len _ _ HMK.out.nodup hnxs
                    have hbl : (behindK i.f0 i.f5 kl nx).length ≤ (allR l0_2).length := nodup_sub_len _ _ (behindK_nodup HMK.out.nodup _ _ _) (behindK_sub _ _ HS.out hnxs)
                    have hrl : (readsL i).length ≤ (allR l0_2).length := HALN.out i (by rw [HIS.out]; exact him)
                    have hal := HOK.out.2.2
                    have hkl : ∀ q, q < l0_2.length → (kl.getD q []).length < 549755813888 := fun q hq => Nat.lt_of_le_of_lt (nodup_sub_len _ _ (HI.out.ks q (by rw [HL.out]; exact hq)).nodup (HS.out q)) (by omega)
                    have hio := HIO.out i him
                    have HX := Aside0.mk (And.intro hx0 (And.intro hx1 (And.intro hx2 (And.intro hx3 (And.intro hx4 (And.intro hx5 (And.intro hx6 hx7)))))))
                    have HI7 := Aside0.mk hi7
                    have HBK := Aside0.mk hbk
                    have HKL := Aside0.mk hkl
                    have HOI := Aside0.mk hio
                    have HNL := Aside0.mk (And.intro hnl (And.intro hbl (And.intro hrl hal)))
                    clear hi hdr hnx hbk hnxs hnl hbl hrl hal hkl hio hi7 hx0 hx1 hx2 hx3 hx4 hx5 hx6 hx7 hg6 ej him
                    go_wp2
                    rw [Int.toNat_natCast] at HX
                    have x0 := (HI.out.hb.cell (World.block_lt_of_cell? w _ HX.out.1)).trans HX.out.1; have x1 := (HI.out.hb.cell (World.block_lt_of_cell? w _ HX.out.2.1)).trans HX.out.2.1; have x2 := (HI.out.hb.cell (World.block_lt_of_cell? w _ HX.out.2.2.1)).trans HX.out.2.2.1; have x3 := (HI.out.hb.cell (World.block_lt_of_cell? w _ HX.out.2.2.2.1)).trans HX.out.2.2.2.1; have x4 := (HI.out.hb.cell (World.block_lt_of_cell? w _ HX.out.2.2.2.2.1)).trans HX.out.2.2.2.2.1; have x5 := (HI.out.hb.cell (World.block_lt_of_cell? w _ HX.out.2.2.2.2.2.1)).trans HX.out.2.2.2.2.2.1; have x6 := (HI.out.hb.cell (World.block_lt_of_cell? w _ HX.out.2.2.2.2.2.2.1)).trans HX.out.2.2.2.2.2.2.1; have x7 := (HI.out.hb.cell (World.block_lt_of_cell? w _ HX.out.2.2.2.2.2.2.2)).trans HX.out.2.2.2.2.2.2.2
                    have y6 := (blk_cell HBX.out 0).trans rfl
                    go_region_with (first | (go_at_call 124; refine (behind_calls i.f0 i.f1 i.f2 i.f3 i.f4 i.f5 i.f6 A7 c7 i.f7 bn nx _ (w.heap.size + 1) w.heap.size (fun k => k ≠ w.heap.size ∧ k ≠ w.heap.size + 1) (.int .i64 a0_0) (.slice A0_1 l0_1.length c0_1) vb (some ad) c0_2 l0_2.length bs kl (by exact HI.out.b1) (by exact HI.out.r) (HI.out.hl.trans HL.out) HL.out (by intro q hq; exact HI.out.ks q (by rw [HL.out]; exact hq)) (by exact HMK.out) (by have := HNL.out; omega) HKL.out).mono ?_; rintro e w2 ⟨b2, rfl, hge2, hk2, hb2⟩; have HI2 := Aside0.mk (LI.below (by exact HI.out.drewN 1) hb2); have HK2 := Aside0.mk hk2; have HBX2 := Aside0.mk (blk_below (by exact HBX.out) hb2); clear hk2 hb2 hge2; have x0 := (HI2.out.hb.cell (World.block_lt_of_cell? w _ HX.out.1)).trans HX.out.1; have x1 := (HI2.out.hb.cell (World.block_lt_of_cell? w _ HX.out.2.1)).trans HX.out.2.1; have x2 := (HI2.out.hb.cell (World.block_lt_of_cell? w _ HX.out.2.2.1)).trans HX.out.2.2.1; have x3 := (HI2.out.hb.cell (World.block_lt_of_cell? w _ HX.out.2.2.2.1)).trans HX.out.2.2.2.1; have x4 := (HI2.out.hb.cell (World.block_lt_of_cell? w _ HX.out.2.2.2.2.1)).trans HX.out.2.2.2.2.1; have x5 := (HI2.out.hb.cell (World.block_lt_of_cell? w _ HX.out.2.2.2.2.2.1)).trans HX.out.2.2.2.2.2.1; have x6 := (HI2.out.hb.cell (World.block_lt_of_cell? w _ HX.out.2.2.2.2.2.2.1)).trans HX.out.2.2.2.2.2.2.1; have x7 := (HI2.out.hb.cell (World.block_lt_of_cell? w _ HX.out.2.2.2.2.2.2.2)).trans HX.out.2.2.2.2.2.2.2; have y62 := (blk_cell HBX2.out 0).trans rfl) | (go_at_call 123; refine (ahead_calls k i.f0 i.f1 i.f2 i.f3 i.f4 i.f5 i.f6 A7 c7 i.f7 b2 (behindK i.f0 i.f5 kl nx) (readsL i) _ (Kd.C_below HI7.out (by exact HI2.out.hb)) hl7 (by exact HK2.out) HOI.out.1 HOI.out.2 (by have := HNL.out; omega)).mono ?_; rintro e w3 ⟨b3, rfl, hge3, hk3, hb3⟩; have HI3 := Aside0.mk (LI.below (by exact HI2.out) hb3); have HK3 := Aside0.mk hk3; have HBX3 := Aside0.mk (blk_below (by exact HBX2.out) hb3); have HGE := Aside0.mk (Nat.le_trans HI2.out.hb.size hge3); clear hk3 hb3 hge3))
                    all_goals go_wp2
                    all_goals go_roundw
                    all_goals first | (simp only [intOf]; omega) | ((repeat apply Exists.intro); exact ⟨⟨j, b3, by omega, HGE.out, rfl, rfl, ⟨by rw [HBK.out]; exact HK3.out⟩, HI3, HBX3⟩, rfl⟩) | exact ⟨j, b3, by omega, HGE.out, rfl, rfl, ⟨by rw [HBK.out]; exact HK3.out⟩, HI3, HBX3⟩
              · have hme : m = l0_2.length := by omega
                subst hme
                obtain ⟨p, hp⟩ : ∃ p, p = passK l0_2 kss l0_2.length := ⟨_, rfl⟩
                rw [← hp] at HI HL HS H2
                simp only [← hp]
                obtain ⟨k2, ag⟩ := p
                have HP2 := Aside0.mk hp
                clear hp
                go_wp2
                go_roundg gk
                case measure => exact Nat.lt_succ_self _
                case rel => exact ⟨ag, k2, vb, bs, rfl, HI, HL, HS, ⟨by have h := H2.out; cases ag <;> simpa using h⟩⟩
end Go.Proofs.Ythegbhfoleiegaa.All

/- impl.Intervals: walked by hand. -/
namespace Go.Proofs.Ythegbhfoleiegaa.All
open Go.RowKit Go.Proofs.YthegbhfoleiegaaW.PrintWords Go.Proofs.YthegbhfoleiegaaW.PrintLast Go.Proofs.YthegbhfoleiegaaW.PrintMore
set_option linter.unusedVariables false
set_option linter.unusedSimpArgs false
-- 2 2T Derived.BigRegion
attribute [local go_sem] max2_int min2_int max_two min_two max_three min_three max_four min_four
/-- The three maps of impl.Intervals, in their boxes. -/
structure IV (w2 W : World) (ka kb ke : List Int) (gB gE : Int → Int) : Prop where
  hb : Below w2.heap.size w2 W
  bB : W.heap[w2.heap.size + 2]? = some (.cells #[.map (some w2.heap.size)] 114 (0, 0))
  bE : W.heap[w2.heap.size + 3]? = some (.cells #[.map (some (w2.heap.size + 1))] 114 (0, 0))
  bA : W.heap[w2.heap.size + 5]? = some (.cells #[.map (some (w2.heap.size + 4))] 92 (0, 0))
  kA : IsKeys Try.prog 2 4 W (w2.heap.size + 4) ka
  mB : IsMapI Try.prog 2 2 W w2.heap.size kb gB
  mE : IsMapI Try.prog 2 2 W (w2.heap.size + 1) ke gE
section
variable {w2 W W1 : World} {ka kb ke : List Int} {gB gE : Int → Int}
theorem IV.lt (h : IV w2 W ka kb ke gB gE) : w2.heap.size + 5 < W.heap.size := blk_lt h.bA
theorem IV.grown {row : Option Nat} (h : IV w2 W ka kb ke gB gE) (hg : W.grownBy W1 row) (hr : ∀ k, row = some k → w2.heap.size + 6 ≤ k) : IV w2 W1 ka kb ke gB gE := by
  have hn : ∀ k, k < w2.heap.size + 6 → some k ≠ row := fun k hk e => by have := hr k e.symm; omega
  exact ⟨belowG h.hb hg (fun k e => by have := hr k e; omega), blk_grown h.bB hg (hn _ (by omega)), blk_grown h.bE hg (hn _ (by omega)), blk_grown h.bA hg (hn _ (by omega)), h.kA.kept hg (hn _ (by omega)), h.mB.kept hg (hn _ (by omega)), h.mE.kept hg (hn _ (by omega))⟩
theorem IV.below (h : IV w2 W ka kb ke gB gE) (hb : Below W.heap.size W W1) : IV w2 W1 ka kb ke gB gE := h.grown (grown_of_below hb none) (fun k e => by cases e)
theorem IV.alloc (h : IV w2 W ka kb ke gB gE) (o : Obj) : IV w2 (W.alloc o) ka kb ke gB gE := h.below (below_alloc (Below.refl _ _) o)
theorem IV.drewN (h : IV w2 W ka kb ke gB gE) (m : Nat) : IV w2 (W.drewN m) ka kb ke gB gE := h.below (pw_below_drewN (Below.refl _ _) m)
theorem below_fr3 {n : Nat} (h : Below w2.heap.size w2 W) {x y z : Nat} (hf : Fr3 x y z W W1) (hx : w2.heap.size ≤ x) (hy : w2.heap.size ≤ y) (hz : w2.heap.size ≤ z) : Below w2.heap.size w2 W1 :=
  ⟨hf.os.trans h.os, hf.tape.trans h.tape, hf.output.trans h.output, Nat.le_trans h.size hf.size, fun k hk => (hf.old k (Nat.lt_of_lt_of_le hk h.size) (by omega) (by omega) (by omega)).trans (h.block k hk)⟩
theorem IV.touch {ka' kb' ke' : List Int} {gB' gE' : Int → Int} (h : IV w2 W ka kb ke gB gE) (hA : IsKeys Try.prog 2 4 W1 (w2.heap.size + 4) ka') (hB : IsMapI Try.prog 2 2 W1 w2.heap.size kb' gB') (hE : IsMapI Try.prog 2 2 W1 (w2.heap.size + 1) ke' gE')
    (hf : Fr3 (w2.heap.size + 4) w2.heap.size (w2.heap.size + 1) W W1) : IV w2 W1 ka' kb' ke' gB' gE' :=
  ⟨below_fr3 (n := 0) h.hb hf (by omega) (by omega) (by omega), (hf.old _ (blk_lt h.bB) (by omega) (by omega) (by omega)).trans h.bB, (hf.old _ (blk_lt h.bE) (by omega) (by omega) (by omega)).trans h.bE, (hf.old _ (blk_lt h.bA) (by omega) (by omega) (by omega)).trans h.bA, hA, hB, hE⟩
theorem IV.putB {kb' : List Int} {gB' : Int → Int} (h : IV w2 W ka kb ke gB gE) (hB : IsMapI Try.prog 2 2 W1 w2.heap.size kb' gB') (hg : W.drew.grownBy W1 (some w2.heap.size)) : IV w2 W1 ka kb' ke gB' gE := by
  have hn : ∀ k, k ≠ w2.heap.size → some k ≠ some w2.heap.size := fun k hk e => hk (Option.some.inj e)
  exact ⟨belowG (below_drew h.hb) hg (fun k e => by cases e; exact Nat.le_refl _), blk_grown (blk_drew h.bB) hg (hn _ (by omega)), blk_grown (blk_drew h.bE) hg (hn _ (by omega)), blk_grown (blk_drew h.bA) hg (hn _ (by omega)), (h.kA.drew).kept hg (hn _ (by omega)), hB, (h.mE.drew).kept hg (hn _ (by omega))⟩
theorem IV.putE {ke' : List Int} {gE' : Int → Int} (h : IV w2 W ka kb ke gB gE) (hE : IsMapI Try.prog 2 2 W1 (w2.heap.size + 1) ke' gE') (hg : W.drew.grownBy W1 (some (w2.heap.size + 1))) : IV w2 W1 ka kb ke' gB gE' := by
  have hn : ∀ k, k ≠ w2.heap.size + 1 → some k ≠ some (w2.heap.size + 1) := fun k hk e => hk (Option.some.inj e)
  exact ⟨belowG (below_drew h.hb) hg (fun k e => by cases e; omega), blk_grown (blk_drew h.bB) hg (hn _ (by omega)), blk_grown (blk_drew h.bE) hg (hn _ (by omega)), blk_grown (blk_drew h.bA) hg (hn _ (by omega)), (h.kA.drew).kept hg (hn _ (by omega)), (h.mB.drew).kept hg (hn _ (by omega)), hE⟩
theorem IV.start (w2 : World) : IV w2 ((((((w2.alloc (.map #[] 0)).alloc (.map #[] 0)).alloc (.cells #[.map (some w2.heap.size)] 114 (0, 0))).alloc (.cells #[.map (some (w2.heap.size + 1))] 114 (0, 0))).alloc (.map #[] 0)).alloc (.cells #[.map (some (w2.heap.size + 4))] 92 (0, 0))) [] [] [] (fun _ => 0) (fun _ => 0) := by
  have e1 : (w2.alloc (.map #[] 0)).heap.size = w2.heap.size + 1 := by simp
  have e2 : ((w2.alloc (.map #[] 0)).alloc (.map #[] 0)).heap.size = w2.heap.size + 2 := by simp
  have e3 : (((w2.alloc (.map #[] 0)).alloc (.map #[] 0)).alloc (.cells #[.map (some w2.heap.size)] 114 (0, 0))).heap.size = w2.heap.size + 3 := by simp
  have e4 : ((((w2.alloc (.map #[] 0)).alloc (.map #[] 0)).alloc (.cells #[.map (some w2.heap.size)] 114 (0, 0))).alloc (.cells #[.map (some (w2.heap.size + 1))] 114 (0, 0))).heap.size = w2.heap.size + 4 := by simp
  have e5 : (((((w2.alloc (.map #[] 0)).alloc (.map #[] 0)).alloc (.cells #[.map (some w2.heap.size)] 114 (0, 0))).alloc (.cells #[.map (some (w2.heap.size + 1))] 114 (0, 0))).alloc (.map #[] 0)).heap.size = w2.heap.size + 5 := by simp
  have a1 := blk_new ((w2.alloc (.map #[] 0)).alloc (.map #[] 0)) (.cells #[.map (some w2.heap.size)] 114 (0, 0))
  have a2 := blk_new (((w2.alloc (.map #[] 0)).alloc (.map #[] 0)).alloc (.cells #[.map (some w2.heap.size)] 114 (0, 0))) (.cells #[.map (some (w2.heap.size + 1))] 114 (0, 0))
  have a3 := blk_new (((((w2.alloc (.map #[] 0)).alloc (.map #[] 0)).alloc (.cells #[.map (some w2.heap.size)] 114 (0, 0))).alloc (.cells #[.map (some (w2.heap.size + 1))] 114 (0, 0))).alloc (.map #[] 0)) (.cells #[.map (some (w2.heap.size + 4))] 92 (0, 0))
  have m1 := IsMapI.made w2 Try.prog 2 2
  have m2 := IsMapI.made (w2.alloc (.map #[] 0)) Try.prog 2 2
  have m3 := IsKeys.made ((((w2.alloc (.map #[] 0)).alloc (.map #[] 0)).alloc (.cells #[.map (some w2.heap.size)] 114 (0, 0))).alloc (.cells #[.map (some (w2.heap.size + 1))] 114 (0, 0))) Try.prog 2 4
  rw [e2] at a1
  rw [e3] at a2
  rw [e5] at a3
  rw [e1] at m2
  rw [e4] at m3
  have al : ∀ (w : World) (o : Obj), Below w.heap.size w (w.alloc o) := fun w o => below_alloc (Below.refl _ _) o
  exact ⟨below_alloc (below_alloc (below_alloc (below_alloc (below_alloc (below_alloc (Below.refl _ _) _) _) _) _) _) _, blk_alloc (blk_alloc (blk_alloc a1 _) _) _, blk_alloc (blk_alloc a2 _) _, a3, m3.alloc _, ((((m1.below (al _ _)).below (al _ _)).below (al _ _)).below (al _ _)).below (al _ _), (((m2.below (al _ _)).below (al _ _)).below (al _ _)).below (al _ _)⟩
end
theorem Kd.R_fr3 {α : Type} {d : Kd α} {e : TypeId} {base : Nat} {ok : Nat → Prop} {v : Value} {xs : List α} {x y z : Nat} {W W1 : World} (h : d.R e W base ok v xs) (hf : Fr3 x y z W W1) (hok : ∀ k, ok k → k ≠ x ∧ k ≠ y ∧ k ≠ z) : d.R e W1 base ok v xs :=
  Kd.R_step h (fun k ho hk => hf.old k hk (hok k ho).1 (hok k ho).2.1 (hok k ho).2.2)
def SubW (AW ks : List Int) : Prop := ∀ x ∈ ks, x ∈ AW
theorem SubW.ins {AW ks : List Int} (h : SubW AW ks) {x : Int} (hx : x ∈ AW) : SubW AW (insK ks x) := fun y hy => by rcases (insK_mem _ _ _).1 hy with h1 | rfl; exact h y h1; exact hx
theorem firs_set (n m : Nat) (f : Nat → Int) (h : m < n) : ((List.range m).map f ++ List.replicate (n - m) 0).set m (f m) = (List.range (m + 1)).map f ++ List.replicate (n - (m + 1)) 0 := by
  obtain ⟨d, hd⟩ : ∃ d, n - m = d + 1 := ⟨n - m - 1, by omega⟩
  rw [hd, show n - (m + 1) = d by omega, List.range_succ, List.map_append, List.replicate_succ, List.set_append_right _ _ (by simp)]
  simp
theorem rd_range (f : Nat → Int) (n b : Nat) (h : b < n) : rdOf 0 ((List.range n).map f) (b : Int) = f b := by
  simp [rdOf, List.getD_eq_getElem?_getD, List.getElem?_map, List.getElem?_range h]
theorem wfN {x : Int} (h1 : -1000000000000 ≤ x) (h2 : x ≤ 1000000000000) : (Lit.int .i64 x).wf = true := by
  have e1 : IntKind.i64.min = -9223372036854775808 := by decide
  have e2 : IntKind.i64.max = 9223372036854775807 := by decide
  show (decide (IntKind.i64.min ≤ x) && decide (x ≤ IntKind.i64.max)) = true
  rw [e1, e2, decide_eq_true (by omega), decide_eq_true (by omega)]
  rfl
theorem SubW.len {AW ks : List Int} (h : SubW AW ks) (hn : ks.Nodup) (hl : AW.length ≤ 1000000000) : ks.length < 1099511627776 := Nat.lt_of_le_of_lt (nodup_sub_len _ _ hn h) (by omega)
end Go.Proofs.Ythegbhfoleiegaa.All

namespace Go.Proofs.Ythegbhfoleiegaa.All
open Go.RowKit Go.Proofs.YthegbhfoleiegaaW.PrintWords Go.Proofs.YthegbhfoleiegaaW.PrintLast Go.Proofs.YthegbhfoleiegaaW.PrintMore
attribute [local go_sem] max2_int min2_int max_two min_two max_three min_three max_four min_four   -- for this text's walks alone
set_option linter.unusedVariables false
set_option linter.unusedSimpArgs false

def impl_Intervals.f (k : Nat) (a0_0 : Int) (l0_1 : List Int) (l0_2 : List (S85)) : Option (List (S113)) :=
 (impl_wellFormed.f k a0_0 l0_1 l0_2).bind fun ok => if ok = false then some [] else if okW k l0_2 then (loopK l0_2 k (List.replicate l0_2.length [])).bind fun kss => some (ivAll l0_2 kss) else none
set_option maxHeartbeats 16000000 in
set_option maxRecDepth 100000 in
theorem impl_Intervals.calls (k : Nat) (a0_0 : Int) (A0_1 : Option Addr) (c0_1 : Nat) (l0_1 : List Int) (A0_2 : Option Addr) (c0_2 : Nat) (l0_2 : List (S85)) (r : List (S113)) (w : World) (hr0_1 : Kd.C (Kd.int .i64) w A0_1 l0_1.length l0_1) (hc0_1 : l0_1.length ≤ c0_1) (hr0_2 : Kd.C k85 w A0_2 l0_2.length l0_2) (hc0_2 : l0_2.length ≤ c0_2) (h : impl_Intervals.f k a0_0 l0_1 l0_2 = some r) :
 Calls Try.prog 24 #[.agg #[.int .i64 a0_0, .slice A0_1 l0_1.length c0_1, .slice A0_2 l0_2.length c0_2]] w fun e w' => ∃ v0_ : Value, e = .returned (v0_) ∧ Kd.R k113 113 w' w.heap.size (fun _ => True) v0_ r ∧ Below w.heap.size w w' := by
 have hu1 := Try.underlying29
 have hu2 := Try.underlying102
 have hu3 := Try.underlying85
 have hu4 := Try.underlying87
 have hu5 := Try.underlying113
 have hmm := @run_makeMap Try.prog
 have HR1 := Aside0.mk hr0_1
 have HR := Aside0.mk hr0_2
 clear hr0_1 hr0_2
 unfold impl_Intervals.f at h
 obtain ⟨ok, hok, h⟩ := Option.bind_eq_some_iff.1 h
 have HWF := Aside0.mk hok
 have HX0 := Aside0.mk (blk_new w (.cells #[.int .i64 a0_0, .slice A0_1 l0_1.length c0_1, .slice A0_2 l0_2.length c0_2] 29 (0, 0)))
 have b0 := (blk_cell HX0.out 0).trans rfl
 have b1 := (blk_cell HX0.out 1).trans rfl
 have b2 := (blk_cell HX0.out 2).trans rfl
 have HB0 := Aside0.mk (below_alloc (Below.refl w.heap.size w) (.cells #[.int .i64 a0_0, .slice A0_1 l0_1.length c0_1, .slice A0_2 l0_2.length c0_2] 29 (0, 0)))
 have e1 : (w.alloc (.cells #[.int .i64 a0_0, .slice A0_1 l0_1.length c0_1, .slice A0_2 l0_2.length c0_2] 29 (0, 0))).heap.size = w.heap.size + 1 := by simp
 have E1 := Aside0.mk e1
 clear hok e1
 cases ok with
 | false =>
  rw [if_pos rfl] at h
  obtain rfl := Option.some.inj h
  clear h
  go_enter Try.func24, Try.ntmps24
  go_wp2_with (first | (go_at_call 74; refine (impl_wellFormed.calls k a0_0 A0_1 c0_1 l0_1 A0_2 c0_2 l0_2 false _ (Kd.C_below HR1.out (by exact HB0.out)) hc0_1 (Kd.C_below HR.out (by exact HB0.out)) hc0_2 HWF.out).mono ?_; rintro e w3 ⟨rfl, hb3⟩; have HB3 := Aside0.mk (below_step HB0.out hb3); clear hb3))
  go_ret
  exact ⟨_, rfl, Kd.R_nil _ _ _ _ _, HB3.out⟩
 | true =>
  rw [if_neg (by simp)] at h
  split at h
  case isFalse => cases h
  rename_i hokw
  obtain ⟨kss, hq, h⟩ := Option.bind_eq_some_iff.1 h
  have HOW := Aside0.mk hokw
  have HQ := Aside0.mk hq
  have HRR := Aside0.mk (Option.some.inj h)
  have hn9 := hokw.1.1
  clear h hq hokw
  go_enter Try.func24, Try.ntmps24
  have hst := fun (a_ : Addr) (m_ : Mode) (W_ : World) (c1 c2 c3 : Value) => run_store Try.prog W_ a_ (.func (.func 75) #[] #[c1, c2, c3]) m_ rfl
  have hmf : ∀ (fn : Fn) (first cap : Array Value) (w : World), (Instr.makeFunc fn first cap).run Try.prog w = .ok (.func fn first cap) w := fun _ _ _ _ => rfl
  go_upto_region 9 with (first | (go_at_call 74; refine (impl_wellFormed.calls k a0_0 A0_1 c0_1 l0_1 A0_2 c0_2 l0_2 true _ (Kd.C_below HR1.out (by exact HB0.out)) hc0_1 (Kd.C_below HR.out (by exact HB0.out)) hc0_2 HWF.out).mono ?_; rintro e wb ⟨rfl, hb3⟩; have HB3 := Aside0.mk (below_step HB0.out hb3); have HX3 := Aside0.mk (blk_below HX0.out hb3); have b0 := (blk_cell HX3.out 0).trans rfl; have b1 := (blk_cell HX3.out 1).trans rfl; have b2 := (blk_cell HX3.out 2).trans rfl; clear hb3) | (go_at_call 70; refine (liveOf_calls k a0_0 A0_1 c0_1 l0_1 A0_2 c0_2 l0_2 kss _ (Kd.C_below HR.out (by exact HB3.out)) hc0_2 HOW.out.1 HQ.out).mono ?_; rintro e w2 ⟨vb, bs, rfl, hli, hkl, hsk⟩; have HI := Aside0.mk hli; have HKL := Aside0.mk hkl; have HSK := Aside0.mk hsk; have HB2 := Aside0.mk (below_step HB3.out hli.hb); have HX2 := Aside0.mk (blk_below HX3.out hli.hb); have z2 := blk_frozen (IV.start w2).bB 0; clear hli hkl hsk b0 b1 b2))
  have hIV := IV.start w2
  simp only [Nat.add_assoc, Nat.reduceAdd]
  generalize hWW : ((((((w2.alloc (.map #[] 0)).alloc (.map #[] 0)).alloc (.cells #[.map (some w2.heap.size)] 114 (0, 0))).alloc (.cells #[.map (some (w2.heap.size + 1))] 114 (0, 0))).alloc (.map #[] 0)).alloc (.cells #[.map (some (w2.heap.size + 4))] 92 (0, 0))) = W at hIV ⊢
  clear hWW z2 hst hmf
  have hWl := hIV.lt
  have HV := Aside0.mk hIV
  clear hIV
  have hxw := blk_lt HX2.out
  have hx9 := (HV.out.hb.block _ hxw).trans HX2.out
  have b2 := (blk_cell hx9 2).trans rfl
  go_upto_region 10 with (first | ((with_reducible refine gate_dst (N := 42) rfl ?_); refine Kd.R_make (Kd.int .i64) (w0 := W) W.heap.size 2 rfl (N := 42) rfl 22 _ _ rfl (l0_2.length : Int) rfl rfl Try.underlying22 (.int .i64 0) 8 info2 rfl (by decide) (by omega) (0 : Int) (ok := fun _ => True) (okp := fun _ => True) rfl (fun _ hk => hk) trivial (by omega) (by omega) (Below.refl _ _) (Nat.le_refl _) ?_; intro vF W3 ho3 hb3 hg3 hnew3; rw [Int.toNat_natCast] at ho3; obtain ⟨AF, cF, eF⟩ := Kd.R_slice ho3; subst eF; rw [List.length_replicate] at ho3 hnew3; have HO3 := Aside0.mk ho3; have HV3 := Aside0.mk (HV.out.below hb3); have hx93 := blk_below hx9 hb3; have b23 := (blk_cell hx93 2).trans rfl; clear ho3 hb3 hg3 hnew3))
  have HLF := Aside0.mk (show ∀ q, (Value.slice AF l0_2.length cF).ownBlock = some q → w2.heap.size + 6 ≤ q from fun q hq => by have := own_geR HO3.out q hq; omega)
  have HF3 := Aside0.mk (Kd.R_mono (Kd.R_tight rfl (Kd.R_lower HO3.out (show w2.heap.size ≤ W.heap.size by omega))) (ok' := (fun q => some q = (Value.slice AF l0_2.length cF).ownBlock)) (fun q hq => hq))
  clear hx9 hx93 b2 HO3 HV
  have hal := HOW.out.2.1
  have hfl := HOW.out.2.2.1
  go_wp2
  go_loopw [8, 9, 46] (fun v8 v9 v46 wr => ∃ (m : Nat) (kb ke : List Int), m ≤ l0_2.length ∧ v46 = .int .i64 (m : Int) ∧ v8 = .int .i64 (firstT l0_2 m : Nat) ∧ Aside0 (IV w2 wr (passT l0_2 m).1.1 kb ke (passT l0_2 m).1.2.1 (passT l0_2 m).1.2.2) ∧ Aside0 (Kd.R (Kd.int .i64) 2 wr w2.heap.size (fun q => w2.heap.size + 6 ≤ q ∧ some q ≠ (Value.slice AF l0_2.length cF).ownBlock) v9 (passT l0_2 m).2) ∧ Aside0 (Kd.R (Kd.int .i64) 2 wr w2.heap.size (fun q => some q = (Value.slice AF l0_2.length cF).ownBlock) (.slice AF l0_2.length cF) ((List.range (m)).map (fun b => (firstT l0_2 b : Int)) ++ List.replicate (l0_2.length - (m)) 0)) ∧ Aside0 (SubW (allW l0_2) (passT l0_2 m).1.1 ∧ SubW (allW l0_2) kb ∧ SubW (allW l0_2) ke)) (fun _ _ v _ => l0_2.length - (intOf v).toNat)
  case atStart => exact ⟨0, [], [], Nat.zero_le _, rfl, rfl, HV3, ⟨Kd.R_nil _ _ _ _ _⟩, ⟨by simpa using HF3.out⟩, ⟨(fun x hx => by cases hx), (fun x hx => by cases hx), fun x hx => by cases hx⟩⟩
  case round =>
   clear HV3 HF3 b23
   obtain ⟨m, kb, ke, hm, rfl, rfl, HV, HC, HF, HS⟩ := hrel
   by_cases hlm : m < l0_2.length
   · have p3 : (0 : Int) ≤ (m : Int) := by omega
     have q3 : (m : Int) < (l0_2.length : Int) := by omega
     have hBw := below_step HB2.out HV.out.hb
     obtain ⟨ad, A5, c5, e5, hx0, hl5, hi5⟩ := at_T85 HR.out (m : Int) p3 q3
     have HR5 := Aside0.mk hi5
     cases e5
     replace hx0 := (hBw.cell (World.block_lt_of_cell? w _ hx0)).trans hx0
     rw [Int.toNat_natCast] at hx0
     obtain ⟨is, his⟩ : ∃ is, is = (rd_T85 l0_2 (m : Int)).f0 := ⟨_, rfl⟩
     rw [← his] at hx0 hl5 HR5
     have his2 : insAt l0_2 m = is := his.symm
     obtain ⟨hi9, hio⟩ := insAt_ok HOW.out.1 hlm
     have haw : ∀ i ∈ is, i.f1 ∈ allW l0_2 ∧ ∀ x ∈ readsL i, x ∈ allW l0_2 := fun i hi => allW_mem hlm (by rw [his2]; exact hi)
     rw [his2] at hi9 hio
     have hfs := firstT_succ l0_2 m
     rw [his2] at hfs
     have hfle : firstT l0_2 (m + 1) ≤ firstT l0_2 l0_2.length := by have h := firstT_le (bl := l0_2) (l0_2.length - (m + 1)) (m + 1); rwa [show m + 1 + (l0_2.length - (m + 1)) = l0_2.length by omega] at h
     have hp9 : firstT l0_2 m + is.length ≤ 1000000000 := by omega
     have HIO := Aside0.mk hio
     have HAW := Aside0.mk haw
     have HIS := Aside0.mk his2
     have hlt := HV.out.lt
     obtain ⟨gF, cF2, eF2, _, hgF, _⟩ := Kd.R_form HF.out (by simp; omega)
     injection eF2 with eF2 eF3 eF4
     subst eF2
     obtain ⟨cF0, zF0⟩ := Kd.R_celln 0 (Kd.R_alloc HF.out (.cells #[.slice A5 is.length c5] 85 (0, 0))) (m : Int) p3 q3
     rw [Int.toNat_natCast] at cF0 zF0
     have hgF6 := HLF.out gF rfl
     obtain ⟨v9b, hv9⟩ : ∃ v, v = u9 := ⟨_, rfl⟩
     clear his his2 hio haw hi5 hfs hfle eF3 eF4
     go_wp2
     have HV4 := Aside0.mk ((HV.out.grown (grown_cell' wr ⟨gF, m, none⟩ (.int .i64 (firstT l0_2 m : Nat))) (fun q e => by cases e; exact hgF6)).alloc (.cells #[.slice A5 is.length c5] 85 (0, 0)))
     have HC4 := Aside0.mk (Kd.R_alloc (Kd.R_far HC.out (p := ⟨gF, m, none⟩) (fun q hq e => hq.2 (by rw [e]; rfl)) (.int .i64 (firstT l0_2 m : Nat))) (.cells #[.slice A5 is.length c5] 85 (0, 0)))
     have hF4 := Kd.R_alloc (Kd.R_putn HF.out (m : Int) ((firstT l0_2 m : Nat) : Int)) (.cells #[.slice A5 is.length c5] 85 (0, 0))
     rw [Int.toNat_natCast, firs_set l0_2.length m (fun b => ((firstT l0_2 b : Nat) : Int)) hlm] at hF4
     have HF4 := Aside0.mk hF4
     clear hF4 cF0 zF0 hx0 HV HC HF hBw
     generalize ((wr.setCell ⟨gF, m, none⟩ (.int .i64 (firstT l0_2 m : Nat))).alloc (.cells #[.slice A5 is.length c5] 85 (0, 0))) = W4 at HV4 HC4 HF4 ⊢
     go_loopw [8, 9, 58] (fun v8 v9 v58 wr => ∃ (j : Nat) (kb ke : List Int), j ≤ is.length ∧ v58 = .int .i64 (j : Int) ∧ v8 = .int .i64 ((firstT l0_2 m + j : Nat) : Int) ∧ Aside0 (IV w2 wr (blkT is j (passT l0_2 m) (firstT l0_2 m : Nat)).1.1 kb ke (blkT is j (passT l0_2 m) (firstT l0_2 m : Nat)).1.2.1 (blkT is j (passT l0_2 m) (firstT l0_2 m : Nat)).1.2.2) ∧ Aside0 (Kd.R (Kd.int .i64) 2 wr w2.heap.size (fun q => w2.heap.size + 6 ≤ q ∧ some q ≠ (Value.slice (some ⟨gF, 0, none⟩) l0_2.length cF).ownBlock) v9 (blkT is j (passT l0_2 m) (firstT l0_2 m : Nat)).2) ∧ Aside0 (Kd.R (Kd.int .i64) 2 wr w2.heap.size (fun q => some q = (Value.slice (some ⟨gF, 0, none⟩) l0_2.length cF).ownBlock) (.slice (some ⟨gF, 0, none⟩) l0_2.length cF) ((List.range (m + 1)).map (fun b => (firstT l0_2 b : Int)) ++ List.replicate (l0_2.length - (m + 1)) 0)) ∧ Aside0 (SubW (allW l0_2) (blkT is j (passT l0_2 m) (firstT l0_2 m : Nat)).1.1 ∧ SubW (allW l0_2) kb ∧ SubW (allW l0_2) ke)) (fun _ _ v _ => is.length - (intOf v).toNat)
     case atStart => exact ⟨0, kb, ke, Nat.zero_le _, rfl, rfl, HV4, HC4, HF4, HS⟩
     case round =>
      clear HV4 HC4 HF4 HS
      obtain ⟨j, kb, ke, hj, rfl, rfl, HV, HC, HF, HS⟩ := hrel
      by_cases hlj : j < is.length
      · obtain ⟨p, hp⟩ : ∃ p, p = firstT l0_2 m + j := ⟨_, rfl⟩
        have hpn : p + 1 ≤ 1000000000 := by omega
        rw [← hp]
        have p4 : (0 : Int) ≤ (j : Int) := by omega
        have q4 : (j : Int) < (is.length : Int) := by omega
        have hBw2 := below_step HB2.out HV.out.hb
        obtain ⟨ad7, A7, c7, e7, hy0, hy1, hy2, hy3, hy4, hy5, hy6, hy7, hl7, hi7⟩ := at_T87 HR5.out (j : Int) p4 q4
        cases e7
        obtain ⟨i, hi⟩ : ∃ i, i = rd_T87 is (j : Int) := ⟨_, rfl⟩
        rw [← hi] at hy0 hy1 hy2 hy3 hy4 hy5 hy6 hy7 hl7 hi7
        have him : i ∈ is := by rw [hi]; unfold rd_T87; rw [Int.toNat_natCast, List.getD_eq_getElem?_getD, List.getElem?_eq_getElem hlj]; exact List.getElem_mem _
        obtain ⟨s0, hs0⟩ : ∃ s0, s0 = (blkT is j (passT l0_2 m) (firstT l0_2 m : Nat)).1 := ⟨_, rfl⟩
        obtain ⟨cl, hcl⟩ : ∃ cl, cl = (blkT is j (passT l0_2 m) (firstT l0_2 m : Nat)).2 := ⟨_, rfl⟩
        have HCL9 := Aside0.mk (show cl.length ≤ 1000000000 from by rw [hcl]; have h := callsT_len l0_2 m j hlm (by rw [HIS.out]; omega); rw [HIS.out] at h; omega)
        obtain ⟨rs, hrs⟩ : ∃ rs, rs = readsL i := ⟨_, rfl⟩
        rw [← hs0] at HV HS
        rw [← hcl] at HC
        have hsu : blkT is (j + 1) (passT l0_2 m) (firstT l0_2 m : Nat) = (insT s0 i (p : Int), callsT cl i (p : Int)) := by rw [blkT_succ, ← hs0, ← hcl, ← hi, hp]; rfl
        have hio := HIO.out i him
        have haw := HAW.out i him
        rw [← hrs] at haw
        have HSU := Aside0.mk hsu
        have HPP := Aside0.mk hp
        have HOI := Aside0.mk (show impl_Reads.f k i.f0 i.f1 i.f2 i.f3 i.f4 i.f5 i.f6 i.f7 = some rs from by rw [hrs]; exact hio.1)
        have HAI := Aside0.mk haw
        have HRS := Aside0.mk hrs
        have HI7 := Aside0.mk hi7
        have hwall := HOW.out.2.2.2
        have HWA := Aside0.mk hwall
        replace hy0 := (hBw2.cell (World.block_lt_of_cell? w _ hy0)).trans hy0
        replace hy1 := (hBw2.cell (World.block_lt_of_cell? w _ hy1)).trans hy1
        replace hy2 := (hBw2.cell (World.block_lt_of_cell? w _ hy2)).trans hy2
        replace hy3 := (hBw2.cell (World.block_lt_of_cell? w _ hy3)).trans hy3
        replace hy4 := (hBw2.cell (World.block_lt_of_cell? w _ hy4)).trans hy4
        replace hy5 := (hBw2.cell (World.block_lt_of_cell? w _ hy5)).trans hy5
        replace hy6 := (hBw2.cell (World.block_lt_of_cell? w _ hy6)).trans hy6
        replace hy7 := (hBw2.cell (World.block_lt_of_cell? w _ hy7)).trans hy7
        rw [Int.toNat_natCast] at hy0 hy1 hy2 hy3 hy4 hy5 hy6 hy7
        clear hs0 hcl hsu hio haw hi hrs hi7 hBw2 hwall hp
        have HIM := Aside0.mk him
        clear him
        obtain ⟨q14, hq14⟩ : ∃ q14, q14 = wr.heap.size := ⟨_, rfl⟩
        have hbx := blk_new wr (.cells #[.int .i64 i.f0, .int .i64 i.f1, .int .i64 i.f2, .int .i64 i.f3, .int .i64 i.f4, .int .i64 i.f5, .string i.f6, .slice A7 i.f7.length c7] 87 (0, 0))
        have hq6 : w2.heap.size + 6 ≤ q14 := by have := HV.out.lt; omega
        have HV5 := Aside0.mk (HV.out.alloc (.cells #[.int .i64 i.f0, .int .i64 i.f1, .int .i64 i.f2, .int .i64 i.f3, .int .i64 i.f4, .int .i64 i.f5, .string i.f6, .slice A7 i.f7.length c7] 87 (0, 0)))
        have HC5 := Aside0.mk (Kd.R_alloc HC.out (.cells #[.int .i64 i.f0, .int .i64 i.f1, .int .i64 i.f2, .int .i64 i.f3, .int .i64 i.f4, .int .i64 i.f5, .string i.f6, .slice A7 i.f7.length c7] 87 (0, 0)))
        have HF5 := Aside0.mk (Kd.R_alloc HF.out (.cells #[.int .i64 i.f0, .int .i64 i.f1, .int .i64 i.f2, .int .i64 i.f3, .int .i64 i.f4, .int .i64 i.f5, .string i.f6, .slice A7 i.f7.length c7] 87 (0, 0)))
        have HBX5 := Aside0.mk hbx
        have z0 := (blk_cell hbx 0).trans rfl
        have z1 := (blk_cell hbx 1).trans rfl
        have z2 := (blk_cell hbx 2).trans rfl
        have z3 := (blk_cell hbx 3).trans rfl
        have z4 := (blk_cell hbx 4).trans rfl
        have z5 := (blk_cell hbx 5).trans rfl
        have z6 := (blk_cell hbx 6).trans rfl
        have z7 := (blk_cell hbx 7).trans rfl
        have zf := blk_frozen (blk_new wr (.cells #[.int .i64 0, .int .i64 0, .int .i64 0, .int .i64 0, .int .i64 0, .int .i64 0, .string ⟨#[]⟩, .slice none 0 0] 87 (0, 0))) 0
        have hsz5 : wr.heap.size ≤ (wr.alloc (.cells #[.int .i64 i.f0, .int .i64 i.f1, .int .i64 i.f2, .int .i64 i.f3, .int .i64 i.f4, .int .i64 i.f5, .string i.f6, .slice A7 i.f7.length c7] 87 (0, 0))).heap.size := by simp
        have HSZ5 := Aside0.mk hsz5
        have HQ14 := Aside0.mk hq14
        clear hbx HV HC HF hsz5 hq14
        go_wp2_with (first | (go_at_call 64; refine (impl_Reads.calls k i.f0 i.f1 i.f2 i.f3 i.f4 i.f5 i.f6 A7 c7 i.f7 rs _ (Kd.C_below HI7.out (by exact below_step HB2.out HV5.out.hb)) hl7 HOI.out).mono ?_; rintro e W6 ⟨v6, rfl, hr6, hb6⟩; obtain ⟨A6, c6, e6⟩ := Kd.R_slice hr6; subst e6; have HV6 := Aside0.mk (HV5.out.below hb6); have HC6 := Aside0.mk (Kd.R_below HC5.out hb6); have HF6 := Aside0.mk (Kd.R_below HF5.out hb6); have HBX6 := Aside0.mk (by have h := blk_below HBX5.out hb6; rw [← HQ14.out] at h; exact h); have HR6 := Aside0.mk (Kd.R_mono (Kd.R_tight rfl (Kd.R_lower hr6 (show w2.heap.size ≤ _ from HV5.out.hb.size))) (ok' := fun q => w2.heap.size + 6 ≤ q) (fun q hq => by have h1 := own_geR hr6 q hq.symm; have h2 := HV5.out.lt; omega)); clear hr6 hb6 HV5 HC5 HF5 HBX5 z0 z1 z2 z3 z4 z5 z6 z7 zf hy0 hy1 hy2 hy3 hy4 hy5 hy6 hy7))
        rw [← HQ14.out]
        have hqW : q14 < W6.heap.size := blk_lt HBX6.out
        have hrl : rs.length ≤ 1000000000 := by have h1 := allR_len hlm i (by rw [HIS.out]; exact HIM.out); have h2 := HOW.out.1.2.2; rw [← HRS.out] at h1; omega
        go_loopw [65] (fun v wr => ∃ (t : Nat) (kb ke : List Int), t ≤ rs.length ∧ v = .int .i64 (t : Int) ∧ Aside0 (IV w2 wr (readT s0 (rs.take t) (2 * (p : Int))).1 kb ke (readT s0 (rs.take t) (2 * (p : Int))).2.1 (readT s0 (rs.take t) (2 * (p : Int))).2.2) ∧ Aside0 (Kd.R (Kd.int .i64) 2 wr w2.heap.size (fun q => w2.heap.size + 6 ≤ q ∧ some q ≠ (Value.slice (some ⟨gF, 0, none⟩) l0_2.length cF).ownBlock) u9 cl) ∧ Aside0 (Kd.R (Kd.int .i64) 2 wr w2.heap.size (fun q => some q = (Value.slice (some ⟨gF, 0, none⟩) l0_2.length cF).ownBlock) (.slice (some ⟨gF, 0, none⟩) l0_2.length cF) ((List.range (m + 1)).map (fun b => (firstT l0_2 b : Int)) ++ List.replicate (l0_2.length - (m + 1)) 0)) ∧ Aside0 (SubW (allW l0_2) (readT s0 (rs.take t) (2 * (p : Int))).1 ∧ SubW (allW l0_2) kb ∧ SubW (allW l0_2) ke) ∧ Aside0 (wr.heap[q14]? = some (.cells #[.int .i64 i.f0, .int .i64 i.f1, .int .i64 i.f2, .int .i64 i.f3, .int .i64 i.f4, .int .i64 i.f5, .string i.f6, .slice A7 i.f7.length c7] 87 (0, 0))) ∧ Aside0 (Kd.R (Kd.int .i64) 2 wr w2.heap.size (fun q => w2.heap.size + 6 ≤ q) (.slice A6 rs.length c6) rs)) (fun v _ => rs.length - (intOf v).toNat)
        case atStart => exact ⟨0, kb, ke, Nat.zero_le _, rfl, HV6, HC6, HF6, HS, HBX6, HR6⟩
        case round =>
         clear HV6 HC6 HF6 HBX6 HR6 HS hqW
         obtain ⟨t, kb, ke, ht, rfl, HV, HC, HF, HS, HBX, HR6⟩ := hrel
         by_cases hlt2 : t < rs.length
         · obtain ⟨g9, cap9, e9, _, _, _⟩ := Kd.R_form HR6.out (by omega)
           injection e9 with e9 e10 e11
           subst e9
           obtain ⟨cx, _⟩ := Kd.R_celln 0 HR6.out (t : Int) (by omega) (by omega)
           obtain ⟨x, hx⟩ : ∃ x, x = rs[t] := ⟨_, rfl⟩
           have hrx : rdOf 0 rs (t : Int) = x := by rw [hx]; simp [rdOf, List.getElem?_eq_getElem hlt2]
           rw [hrx, Int.toNat_natCast] at cx
           have hxm : x ∈ rs := by rw [hx]; exact List.getElem_mem _
           have hxW := HAI.out.2 x hxm
           have hxw := HWA.out x hxW
           have hrt : readT s0 (rs.take (t + 1)) (2 * (p : Int)) = touchS (readT s0 (rs.take t) (2 * (p : Int))) x (2 * (p : Int)) := by unfold readT; rw [List.take_succ_eq_append_getElem hlt2, List.foldl_append, ← hx]; rfl
           have HRT := Aside0.mk hrt
           have HXW := Aside0.mk hxW
           have hltw := HV.out.lt
           clear hrx hx hxm hrt e10 e11 hxW
           go_wp2_with (first | (go_at_call 75; refine (touch_calls (w2.heap.size + 5) (w2.heap.size + 2) (w2.heap.size + 3) (w2.heap.size + 4) w2.heap.size (w2.heap.size + 1) _ kb ke _ _ x (2 * (p : Int)) _ HV.out.bA HV.out.bB HV.out.bE HV.out.kA HV.out.mB HV.out.mE (by omega) (by omega) (by omega) (HS.out.1.len HV.out.kA.nodup hal) (HS.out.2.1.len HV.out.mB.nodup hal) (HS.out.2.2.len HV.out.mE.nodup hal) hxw (wfN (by omega) (by omega))).mono ?_; rintro e W7 ⟨rfl, hA7, hB7, hE7, hf7⟩; have HV7 := Aside0.mk (HV.out.touch hA7 hB7 hE7 hf7); have HC7 := Aside0.mk (Kd.R_fr3 HC.out hf7 (fun q hq => by have := hq.1; omega)); have HF7 := Aside0.mk (Kd.R_fr3 HF.out hf7 (fun q hq => by have := HLF.out q hq.symm; omega)); have HBX7 := Aside0.mk ((hf7.old q14 (blk_lt HBX.out) (by omega) (by omega) (by omega)).trans HBX.out); have HR7 := Aside0.mk (Kd.R_fr3 HR6.out hf7 (fun q hq => by omega)); clear hA7 hB7 hE7 hf7))
           go_roundw
           case measure => simp [intOf]; omega
           case rel => first | exact ⟨t + 1, insK kb x, insK ke x, by omega, by go_num, ⟨by rw [HRT.out]; exact HV7.out⟩, HC7, HF7, ⟨by rw [HRT.out]; exact HS.out.1.ins HXW.out, HS.out.2.1.ins HXW.out, HS.out.2.2.ins HXW.out⟩, HBX7, HR7⟩ | ((repeat apply Exists.intro); exact ⟨⟨t + 1, insK kb x, insK ke x, by omega, by go_num, ⟨by rw [HRT.out]; exact HV7.out⟩, HC7, HF7, ⟨by rw [HRT.out]; exact HS.out.1.ins HXW.out, HS.out.2.1.ins HXW.out, HS.out.2.2.ins HXW.out⟩, HBX7, HR7⟩, rfl⟩)
         · have hte : t = rs.length := by omega
           subst hte
           rw [List.take_length] at HV HS
           have hltw := HV.out.lt
           have z0 := (blk_cell HBX.out 0).trans rfl
           have z1 := (blk_cell HBX.out 1).trans rfl
           have hxw := HWA.out i.f1 HAI.out.1
           obtain ⟨AC, cC, eC⟩ := Kd.R_slice HC.out
           have hcl9 : cl.length ≤ 1000000000 := HCL9.out
           subst eC
           by_cases cc : 0 ≤ i.f1
           · have ccb : decide (0 ≤ i.f1) = true := decide_eq_true cc
             have HIN := Aside0.mk (show insT s0 i (p : Int) = touchS (readT s0 rs (2 * (p : Int))) i.f1 (2 * (p : Int) + 1) from by unfold insT; rw [if_pos cc, HRS.out])
             by_cases dd : i.f0 = 61
             · have ddb : (i.f0 == 61) = true := by rw [dd]; rfl
               have HCA := Aside0.mk (show callsT cl i (p : Int) = cl ++ [(p : Int)] from if_pos dd)
               go_wp2_with (first | (go_at_call 75; refine (touch_calls (w2.heap.size + 5) (w2.heap.size + 2) (w2.heap.size + 3) (w2.heap.size + 4) w2.heap.size (w2.heap.size + 1) _ kb ke _ _ i.f1 (2 * (p : Int) + 1) _ HV.out.bA HV.out.bB HV.out.bE HV.out.kA HV.out.mB HV.out.mE (by omega) (by omega) (by omega) (HS.out.1.len HV.out.kA.nodup hal) (HS.out.2.1.len HV.out.mB.nodup hal) (HS.out.2.2.len HV.out.mE.nodup hal) hxw (wfN (by omega) (by omega))).mono ?_; rintro e W7 ⟨rfl, hA7, hB7, hE7, hf7⟩; have HV7 := Aside0.mk (HV.out.touch hA7 hB7 hE7 hf7); have HC7 := Aside0.mk (Kd.R_fr3 HC.out hf7 (fun q hq => by have := hq.1; omega)); have HF7 := Aside0.mk (Kd.R_fr3 HF.out hf7 (fun q hq => by have := HLF.out q hq.symm; omega)); have HBX7 := Aside0.mk ((hf7.old q14 (blk_lt HBX.out) (by omega) (by omega) (by omega)).trans HBX.out); have HV9 := HV7; have HC9 := HC7; have HF9 := HF7; have y0 := (blk_cell HBX7.out 0).trans rfl; clear hA7 hB7 hE7 hf7) | (at_builtin; refine Kd.R_append (Kd.int .i64) (w0 := w2) w2.heap.size rfl (.tmp 88) (.tmp 90) 22 2 (.int .i64 0) 8 rfl Try.underlying22 info2 rfl (by decide) (by decide) (.slice AC cl.length cC) cl (p : Int) [.int .i64 (p : Int)] (fun q => w2.heap.size + 6 ≤ q ∧ some q ≠ (Value.slice (some ⟨gF, 0, none⟩) l0_2.length cF).ownBlock) (fun _ => False) rfl rfl ?aP (fun _ hk => hk.elim) ?aF ?aO ?aB ?aS ?aL ?_; (case aP => exact rfl); (case aF => exact (fun q hq => ⟨by have := HV9.out.lt; omega, fun e => by have e2 : some q = some gF := e; have e3 := Option.some.inj e2; have e4 := (HF9.out.2.choose_spec.1.lt gF rfl).2; omega⟩)); (case aO => exact HC9.out); (case aB => exact HV9.out.hb); (case aS => exact HV9.out.hb.size); (case aL => omega); intro v8 W8 ho8 hb8 hg8 hat8; have HC8 := Aside0.mk ho8; have HV8 := Aside0.mk (HV9.out.grown hg8 (fun q e => (HC9.out.1 q e).1)); have HF8 := Aside0.mk (Kd.R_grown HF9.out hg8 (fun q hq e => by have h1 := HC9.out.1 q e.symm; exact h1.2 hq)); clear ho8 hb8 hg8 hat8))
               go_roundw
               case measure => simp [intOf]; omega
               case rel => first | exact ⟨j + 1, (insK kb i.f1), (insK ke i.f1), by omega, by go_num, (by have h := HPP.out; congr 1; omega), ⟨by rw [HSU.out, HIN.out]; exact HV8.out⟩, ⟨by rw [HSU.out, HCA.out]; exact HC8.out⟩, HF8, ⟨by rw [HSU.out, HIN.out]; exact HS.out.1.ins HAI.out.1, HS.out.2.1.ins HAI.out.1, HS.out.2.2.ins HAI.out.1⟩⟩ | ((repeat apply Exists.intro); exact ⟨⟨j + 1, (insK kb i.f1), (insK ke i.f1), by omega, by go_num, (by have h := HPP.out; congr 1; omega), ⟨by rw [HSU.out, HIN.out]; exact HV8.out⟩, ⟨by rw [HSU.out, HCA.out]; exact HC8.out⟩, HF8, ⟨by rw [HSU.out, HIN.out]; exact HS.out.1.ins HAI.out.1, HS.out.2.1.ins HAI.out.1, HS.out.2.2.ins HAI.out.1⟩⟩, rfl⟩)
             · have ddb : (i.f0 == 61) = false := beq_eq_false_iff_ne.2 dd
               have HCA := Aside0.mk (show callsT cl i (p : Int) = cl from if_neg dd)
               go_wp2_with (first | (go_at_call 75; refine (touch_calls (w2.heap.size + 5) (w2.heap.size + 2) (w2.heap.size + 3) (w2.heap.size + 4) w2.heap.size (w2.heap.size + 1) _ kb ke _ _ i.f1 (2 * (p : Int) + 1) _ HV.out.bA HV.out.bB HV.out.bE HV.out.kA HV.out.mB HV.out.mE (by omega) (by omega) (by omega) (HS.out.1.len HV.out.kA.nodup hal) (HS.out.2.1.len HV.out.mB.nodup hal) (HS.out.2.2.len HV.out.mE.nodup hal) hxw (wfN (by omega) (by omega))).mono ?_; rintro e W7 ⟨rfl, hA7, hB7, hE7, hf7⟩; have HV7 := Aside0.mk (HV.out.touch hA7 hB7 hE7 hf7); have HC7 := Aside0.mk (Kd.R_fr3 HC.out hf7 (fun q hq => by have := hq.1; omega)); have HF7 := Aside0.mk (Kd.R_fr3 HF.out hf7 (fun q hq => by have := HLF.out q hq.symm; omega)); have HBX7 := Aside0.mk ((hf7.old q14 (blk_lt HBX.out) (by omega) (by omega) (by omega)).trans HBX.out); have HV9 := HV7; have HC9 := HC7; have HF9 := HF7; have y0 := (blk_cell HBX7.out 0).trans rfl; clear hA7 hB7 hE7 hf7))
               go_roundw
               case measure => simp [intOf]; omega
               case rel => first | exact ⟨j + 1, (insK kb i.f1), (insK ke i.f1), by omega, by go_num, (by have h := HPP.out; congr 1; omega), ⟨by rw [HSU.out, HIN.out]; exact HV9.out⟩, ⟨by rw [HSU.out, HCA.out]; exact HC9.out⟩, HF9, ⟨by rw [HSU.out, HIN.out]; exact HS.out.1.ins HAI.out.1, HS.out.2.1.ins HAI.out.1, HS.out.2.2.ins HAI.out.1⟩⟩ | ((repeat apply Exists.intro); exact ⟨⟨j + 1, (insK kb i.f1), (insK ke i.f1), by omega, by go_num, (by have h := HPP.out; congr 1; omega), ⟨by rw [HSU.out, HIN.out]; exact HV9.out⟩, ⟨by rw [HSU.out, HCA.out]; exact HC9.out⟩, HF9, ⟨by rw [HSU.out, HIN.out]; exact HS.out.1.ins HAI.out.1, HS.out.2.1.ins HAI.out.1, HS.out.2.2.ins HAI.out.1⟩⟩, rfl⟩)
           · have ccb : decide (0 ≤ i.f1) = false := decide_eq_false cc
             have HIN := Aside0.mk (show insT s0 i (p : Int) = readT s0 rs (2 * (p : Int)) from by unfold insT; rw [if_neg cc, HRS.out])
             by_cases dd : i.f0 = 61
             · have ddb : (i.f0 == 61) = true := by rw [dd]; rfl
               have HCA := Aside0.mk (show callsT cl i (p : Int) = cl ++ [(p : Int)] from if_pos dd)
               have HV9 := HV
               have HC9 := HC
               have HF9 := HF
               go_wp2_with (first | (at_builtin; refine Kd.R_append (Kd.int .i64) (w0 := w2) w2.heap.size rfl (.tmp 88) (.tmp 90) 22 2 (.int .i64 0) 8 rfl Try.underlying22 info2 rfl (by decide) (by decide) (.slice AC cl.length cC) cl (p : Int) [.int .i64 (p : Int)] (fun q => w2.heap.size + 6 ≤ q ∧ some q ≠ (Value.slice (some ⟨gF, 0, none⟩) l0_2.length cF).ownBlock) (fun _ => False) rfl rfl ?aP (fun _ hk => hk.elim) ?aF ?aO ?aB ?aS ?aL ?_; (case aP => exact rfl); (case aF => exact (fun q hq => ⟨by have := HV9.out.lt; omega, fun e => by have e2 : some q = some gF := e; have e3 := Option.some.inj e2; have e4 := (HF9.out.2.choose_spec.1.lt gF rfl).2; omega⟩)); (case aO => exact HC9.out); (case aB => exact HV9.out.hb); (case aS => exact HV9.out.hb.size); (case aL => omega); intro v8 W8 ho8 hb8 hg8 hat8; have HC8 := Aside0.mk ho8; have HV8 := Aside0.mk (HV9.out.grown hg8 (fun q e => (HC9.out.1 q e).1)); have HF8 := Aside0.mk (Kd.R_grown HF9.out hg8 (fun q hq e => by have h1 := HC9.out.1 q e.symm; exact h1.2 hq)); clear ho8 hb8 hg8 hat8))
               go_roundw
               case measure => simp [intOf]; omega
               case rel => first | exact ⟨j + 1, kb, ke, by omega, by go_num, (by have h := HPP.out; congr 1; omega), ⟨by rw [HSU.out, HIN.out]; exact HV8.out⟩, ⟨by rw [HSU.out, HCA.out]; exact HC8.out⟩, HF8, ⟨by rw [HSU.out, HIN.out]; exact HS.out.1, HS.out.2.1, HS.out.2.2⟩⟩ | ((repeat apply Exists.intro); exact ⟨⟨j + 1, kb, ke, by omega, by go_num, (by have h := HPP.out; congr 1; omega), ⟨by rw [HSU.out, HIN.out]; exact HV8.out⟩, ⟨by rw [HSU.out, HCA.out]; exact HC8.out⟩, HF8, ⟨by rw [HSU.out, HIN.out]; exact HS.out.1, HS.out.2.1, HS.out.2.2⟩⟩, rfl⟩)
             · have ddb : (i.f0 == 61) = false := beq_eq_false_iff_ne.2 dd
               have HCA := Aside0.mk (show callsT cl i (p : Int) = cl from if_neg dd)
               have HV9 := HV
               have HC9 := HC
               have HF9 := HF
               go_wp2_with (fail)
               go_roundw
               case measure => simp [intOf]; omega
               case rel => first | exact ⟨j + 1, kb, ke, by omega, by go_num, (by have h := HPP.out; congr 1; omega), ⟨by rw [HSU.out, HIN.out]; exact HV9.out⟩, ⟨by rw [HSU.out, HCA.out]; exact HC9.out⟩, HF9, ⟨by rw [HSU.out, HIN.out]; exact HS.out.1, HS.out.2.1, HS.out.2.2⟩⟩ | ((repeat apply Exists.intro); exact ⟨⟨j + 1, kb, ke, by omega, by go_num, (by have h := HPP.out; congr 1; omega), ⟨by rw [HSU.out, HIN.out]; exact HV9.out⟩, ⟨by rw [HSU.out, HCA.out]; exact HC9.out⟩, HF9, ⟨by rw [HSU.out, HIN.out]; exact HS.out.1, HS.out.2.1, HS.out.2.2⟩⟩, rfl⟩)

      · have hme : j = is.length := by omega
        subst hme
        have hps : blkT is is.length (passT l0_2 m) (firstT l0_2 m : Nat) = passT l0_2 (m + 1) := by rw [passT_succ, HIS.out]
        have hfs := firstT_succ l0_2 m
        rw [HIS.out] at hfs
        rw [hps] at HV HC HS
        rw [← hfs]
        clear hps hfs
        go_wp2
        go_roundw
        case measure => simp [intOf]; omega
        case rel => first | exact ⟨m + 1, kb, ke, by omega, by go_num, rfl, HV, HC, HF, HS⟩ | ((repeat apply Exists.intro); exact ⟨⟨m + 1, kb, ke, by omega, by go_num, rfl, HV, HC, HF, HS⟩, rfl⟩)

   · have hme : m = l0_2.length := by omega
     subst hme
     have HF2 := Aside0.mk (show Kd.R (Kd.int .i64) 2 wr w2.heap.size (fun q => some q = (Value.slice AF l0_2.length cF).ownBlock) (.slice AF l0_2.length cF) ((List.range l0_2.length).map (fun b => (firstT l0_2 b : Int))) from by have h := HF.out; rw [Nat.sub_self, List.replicate_zero, List.append_nil] at h; exact h)
     clear HF
     obtain ⟨AC, cC, eC⟩ := Kd.R_slice HC.out
     subst eC
     obtain ⟨⟨⟨A, gB0, gE0⟩, cl⟩, hpt⟩ : ∃ x, x = passT l0_2 l0_2.length := ⟨_, rfl⟩
     rw [← hpt] at HV HC HS
     have hcl9 := callsP_len l0_2 l0_2.length
     rw [← hpt] at hcl9
     simp only [← hpt]
     have HPT := Aside0.mk hpt
     have HSA := Aside0.mk HS.out.1
     have HS2 := Aside0.mk HS.out.2
     clear hpt HS
     have hBw := below_step HB2.out HV.out.hb
     have hxv := (HV.out.hb.block _ (blk_lt HX2.out)).trans HX2.out
     have y2 := (blk_cell hxv 2).trans rfl
     clear hBw hxv
     go_wp2
     go_loopw [99] (fun v wr => ∃ (m : Nat) (kb ke : List Int) (gB gE : Int → Int), m ≤ l0_2.length ∧ v = .int .i64 (m : Int) ∧ Aside0 (passU l0_2 kss m (gB0, gE0) = (gB, gE)) ∧ Aside0 (IV w2 wr A kb ke gB gE) ∧ Aside0 (Kd.R (Kd.int .i64) 2 wr w2.heap.size (fun q => w2.heap.size + 6 ≤ q ∧ some q ≠ (Value.slice AF l0_2.length cF).ownBlock) (.slice AC cl.length cC) cl) ∧ Aside0 (Kd.R (Kd.int .i64) 2 wr w2.heap.size (fun q => some q = (Value.slice AF l0_2.length cF).ownBlock) (.slice AF l0_2.length cF) ((List.range l0_2.length).map (fun b => (firstT l0_2 b : Int)))) ∧ Aside0 (SubW (allW l0_2) kb ∧ SubW (allW l0_2) ke)) (fun v _ => l0_2.length - (intOf v).toNat)
     case atStart => exact ⟨0, kb, ke, gB0, gE0, Nat.zero_le _, rfl, ⟨rfl⟩, HV, HC, HF2, HS2⟩
     case round =>
      clear HV HC HF2 HS2 y2
      obtain ⟨m, kb, ke, gB, gE, hm, rfl, HU, HV, HC, HF, HS⟩ := hrel
      by_cases hlm : m < l0_2.length
      · have p3 : (0 : Int) ≤ (m : Int) := by omega
        have q3 : (m : Int) < (l0_2.length : Int) := by omega
        have hBw := below_step HB2.out HV.out.hb
        obtain ⟨ad, A5, c5, e5, hx0, hl5, hi5⟩ := at_T85 HR.out (m : Int) p3 q3
        have HR5 := Aside0.mk hi5
        cases e5
        replace hx0 := (hBw.cell (World.block_lt_of_cell? w _ hx0)).trans hx0
        rw [Int.toNat_natCast] at hx0
        obtain ⟨is, his⟩ : ∃ is, is = (rd_T85 l0_2 (m : Int)).f0 := ⟨_, rfl⟩
        rw [← his] at hx0 hl5 HR5
        have his2 : insAt l0_2 m = is := his.symm
        obtain ⟨hi9, hio⟩ := insAt_ok HOW.out.1 hlm
        rw [his2] at hi9 hio
        have hfs := firstT_succ l0_2 m
        rw [his2] at hfs
        have hfle : firstT l0_2 (m + 1) ≤ firstT l0_2 l0_2.length := by have h := firstT_le (bl := l0_2) (l0_2.length - (m + 1)) (m + 1); rwa [show m + 1 + (l0_2.length - (m + 1)) = l0_2.length by omega] at h
        have hp9 : firstT l0_2 m + is.length ≤ 1000000000 := by omega
        have hlt := HV.out.lt
        obtain ⟨gF, cF2, eF2, _, hgF, _⟩ := Kd.R_form HF.out (by simp; omega)
        injection eF2 with eF2 eF3 eF4
        subst eF2
        have HLIw := Aside0.mk (HI.out.below HV.out.hb)
        have HIS := Aside0.mk his2
        have hpu := passU_succ l0_2 kss m (gB0, gE0)
        rw [HU.out] at hpu
        have hgF6 := HLF.out gF rfl
        have bk18 := blk_new wr (.cells #[.slice A5 is.length c5] 85 (0, 0))
        have c18 := (blk_cell bk18 0).trans rfl
        have z18 := blk_frozen (blk_new wr (.cells #[.slice none 0 0] 85 (0, 0))) 0
        by_cases hz : is.length = 0
        · have hzb : ((is.length : Int) == 0) = true := by rw [hz]; rfl
          have HPU := Aside0.mk (show passU l0_2 kss (m + 1) (gB0, gE0) = (gB, gE) from by rw [hpu]; unfold stretchT; rw [HIS.out, if_pos hz])
          clear hpu hi5 his his2 hio hfs hfle eF3 eF4 hBw
          go_wp2
          go_roundw
          case measure => simp [intOf]; omega
          case rel => exact ⟨m + 1, kb, ke, gB, gE, by omega, by go_num, HPU, ⟨HV.out.alloc _⟩, ⟨Kd.R_alloc HC.out _⟩, ⟨Kd.R_alloc HF.out _⟩, HS⟩
        · have hzb : ((is.length : Int) == 0) = false := beq_eq_false_iff_ne.2 (by omega)
          have hpu2 : passU l0_2 kss (m + 1) (gB0, gE0) = (minOn (kss.getD m []) gB (2 * (firstT l0_2 m : Nat)), endB kss l0_2.length (2 * ((firstT l0_2 m : Nat) + (is.length : Nat) - 1) + 1) is is.length gE) := by rw [hpu]; unfold stretchT; rw [HIS.out, if_neg hz]
          have HPU := Aside0.mk hpu2
          obtain ⟨g8, cap8, e8, _, hg8, _⟩ := Kd.R_form HLIw.out.r (by rw [HLIw.out.hl, HKL.out]; omega)
          have hbsl : bs.length = l0_2.length := HLIw.out.hl.trans HKL.out
          subst e8
          rw [hbsl] at HLIw HI
          obtain ⟨c8, z8⟩ := Kd.R_celln 0 (Kd.R_alloc HLIw.out.r (.cells #[.slice A5 is.length c5] 85 (0, 0))) (m : Int) p3 q3
          rw [Int.toNat_natCast] at c8 z8
          obtain ⟨bj, hbj⟩ : ∃ bj, bj = bs.getD m 0 := ⟨_, rfl⟩
          obtain ⟨kj, hkj⟩ : ∃ kj, kj = kss.getD m [] := ⟨_, rfl⟩
          have hrx : rdOf 0 bs (m : Int) = bj := by rw [hbj]; simp [rdOf, List.getD_eq_getElem?_getD]
          rw [hrx] at c8
          have hkx := HLIw.out.ks m (by rw [HKL.out]; exact hlm)
          have hkx2 := HI.out.ks m (by rw [HKL.out]; exact hlm)
          rw [← hbj, ← hkj] at hkx hkx2
          have hbjl := hkx2.lt
          have d3 := (blk_cell (blk_alloc HLIw.out.b1 (.cells #[.slice A5 is.length c5] 85 (0, 0))) 3).trans rfl
          have HKX := Aside0.mk (hkx.alloc (.cells #[.slice A5 is.length c5] 85 (0, 0)))
          have HKJ := Aside0.mk hkj
          have hsubj : ∀ x ∈ kj, x ∈ allW l0_2 := fun x hx => allR_W (HSK.out m x (by rw [← hkj]; exact hx))
          have HSJ := Aside0.mk hsubj
          have HIO := Aside0.mk hio
          obtain ⟨fm, hfm⟩ : ∃ fm, fm = firstT l0_2 m := ⟨_, rfl⟩
          rw [← hfm] at hp9 HPU
          have HFM := Aside0.mk hfm
          have hsz18 : (wr.alloc (.cells #[.slice A5 is.length c5] 85 (0, 0))).heap.size = wr.heap.size + 1 := by simp
          have HSZ := Aside0.mk hsz18
          clear hpu hpu2 hi5 his his2 hio hfs hfle eF3 eF4 hBw hrx hkx hkx2 hbj hkj hsubj hfm hsz18
          go_wp2_with (first | (at_range; refine wpList_range_keys rfl _ 92 rfl 2 4 (Maps.int_keyed Try.underlying2) Try.underlying92 bj kj rfl HKX.out ?_; intro w0 hrg0 hg0 hs0))
          rw [HSZ.out] at hrg0 hs0
          have HG := Aside0.mk hrg0
          have HV0 := Aside0.mk ((HV.out.alloc (.cells #[.slice A5 is.length c5] 85 (0, 0))).grown hg0 (fun q e => by cases e))
          have HC0 := Aside0.mk (Kd.R_grown (Kd.R_alloc HC.out (.cells #[.slice A5 is.length c5] 85 (0, 0))) hg0 (fun q _ e => by cases e))
          have HF0 := Aside0.mk (Kd.R_grown (Kd.R_alloc HF.out (.cells #[.slice A5 is.length c5] 85 (0, 0))) hg0 (fun q _ e => by cases e))
          have HX18 := Aside0.mk (blk_grown bk18 hg0 (by simp))
          obtain ⟨q18, hq18⟩ : ∃ q18, q18 = wr.heap.size := ⟨_, rfl⟩
          rw [← hq18] at HG HX18 hs0 hlt
          have HQ18 := Aside0.mk hq18
          go_frame
          (try rw [HSZ.out])
          (try rw [← hq18])
          have HLC := Aside0.mk (show ∀ q, (Value.slice AC cl.length cC).ownBlock = some q → q < q18 from fun q hq => by rw [hq18]; exact (HC.out.2.choose_spec.1.lt q hq).2)
          have hgq : gF < q18 := by rw [hq18]; exact hgF
          have hqn : w2.heap.size + 6 ≤ q18 := by omega
          have HSK5 := Aside0.mk HS.out
          clear hrg0 hg0 c18 z18 bk18 c8 z8 d3 hx0 HV HC HF HKX HS hq18
          go_loopw [20] (fun _ wr => ∃ (lf kb : List Int) (gBx : Int → Int), Aside0 (KRange Try.prog 2 4 wr bj (q18 + 1) kj lf) ∧ Aside0 (∀ x ∈ lf, x ∈ kj) ∧ Aside0 (IV w2 wr A kb ke gBx gE) ∧ Aside0 (∀ x, gBx x = if x ∈ kj ∧ x ∉ lf then min (gB x) (2 * (fm : Int)) else gB x) ∧ Aside0 (Kd.R (Kd.int .i64) 2 wr w2.heap.size (fun q => w2.heap.size + 6 ≤ q ∧ some q ≠ (Value.slice (some ⟨gF, 0, none⟩) l0_2.length cF).ownBlock) (.slice AC cl.length cC) cl) ∧ Aside0 (Kd.R (Kd.int .i64) 2 wr w2.heap.size (fun q => some q = (Value.slice (some ⟨gF, 0, none⟩) l0_2.length cF).ownBlock) (.slice (some ⟨gF, 0, none⟩) l0_2.length cF) ((List.range l0_2.length).map (fun b => (firstT l0_2 b : Int)))) ∧ Aside0 (SubW (allW l0_2) kb) ∧ Aside0 (wr.heap[q18]? = some (.cells #[.slice A5 is.length c5] 85 (0, 0)))) (fun _ wr => wr.rangeLeft bj (q18 + 1))
          case atStart => exact ⟨kj, kb, gB, HG, ⟨fun x h => h⟩, HV0, ⟨fun x => by rw [if_neg (fun h => h.2 h.1)]⟩, HC0, HF0, ⟨HSK5.out.1⟩, HX18⟩
          case round =>
           clear HG HV0 HC0 HF0 HX18
           obtain ⟨lf, kb, gBx, HG, HSL, HV, HGX, HC, HF, HSB, HX18⟩ := hrel
           go_wp2_with (first | (at_next; refine wpList_next_keys rfl _ rfl 2 4 (Maps.int_keyed Try.underlying2) Try.underlying2 Try.underlying4 bj (q18 + 1) kj lf rfl HG.out HSL.out ?_ ?_))
           · intro hlf
             subst hlf
             have hgx : gBx = minOn kj gB (2 * (fm : Int)) := by funext x; rw [HGX.out]; unfold minOn; simp
             subst hgx
             have c18 := (blk_cell HX18.out 0).trans rfl
             obtain ⟨gB2, hgB2⟩ : ∃ g, g = minOn kj gB (2 * (fm : Int)) := ⟨_, rfl⟩
             rw [← hgB2] at HV
             have HGB2 := Aside0.mk hgB2
             have HSE := Aside0.mk HSK5.out.2
             clear hgB2 HGX HG HSL HX18
             go_wp2
             go_loopw [135] (fun v wr => ∃ (j : Nat) (ke : List Int) (gEx : Int → Int), j ≤ is.length ∧ v = .int .i64 (j : Int) ∧ Aside0 (IV w2 wr A kb ke gB2 gEx) ∧ Aside0 (gEx = endB kss l0_2.length (2 * ((fm : Int) + (is.length : Int) - 1) + 1) is j gE) ∧ Aside0 (Kd.R (Kd.int .i64) 2 wr w2.heap.size (fun q => w2.heap.size + 6 ≤ q ∧ some q ≠ (Value.slice (some ⟨gF, 0, none⟩) l0_2.length cF).ownBlock) (.slice AC cl.length cC) cl) ∧ Aside0 (Kd.R (Kd.int .i64) 2 wr w2.heap.size (fun q => some q = (Value.slice (some ⟨gF, 0, none⟩) l0_2.length cF).ownBlock) (.slice (some ⟨gF, 0, none⟩) l0_2.length cF) ((List.range l0_2.length).map (fun b => (firstT l0_2 b : Int)))) ∧ Aside0 (SubW (allW l0_2) ke)) (fun v _ => is.length - (intOf v).toNat)
             case atStart => exact ⟨0, ke, gE, Nat.zero_le _, rfl, HV, ⟨rfl⟩, HC, HF, HSE⟩
             case round =>
              clear HV HC HF HSE c18
              obtain ⟨j, ke, gEx, hj, rfl, HV, HGE, HC, HF, HSE⟩ := hrel
              by_cases hlj : j < is.length
              · have p4 : (0 : Int) ≤ (j : Int) := by omega
                have q4 : (j : Int) < (is.length : Int) := by omega
                have hBw2 := below_step HB2.out HV.out.hb
                obtain ⟨ad7, A7, c7, e7, hy0, hy1, hy2, hy3, hy4, hy5, hy6, hy7, hl7, hi7⟩ := at_T87 HR5.out (j : Int) p4 q4
                cases e7
                obtain ⟨i, hi⟩ : ∃ i, i = rd_T87 is (j : Int) := ⟨_, rfl⟩
                rw [← hi] at hy0 hy1 hy2 hy3 hy4 hy5 hy6 hy7
                have hes : endB kss l0_2.length (2 * ((fm : Int) + (is.length : Int) - 1) + 1) is (j + 1) gE = endI kss l0_2.length (2 * ((fm : Int) + (is.length : Int) - 1) + 1) gEx i := by rw [endB_succ, ← hi, ← HGE.out]
                replace hy0 := (hBw2.cell (World.block_lt_of_cell? w _ hy0)).trans hy0
                replace hy1 := (hBw2.cell (World.block_lt_of_cell? w _ hy1)).trans hy1
                replace hy2 := (hBw2.cell (World.block_lt_of_cell? w _ hy2)).trans hy2
                replace hy3 := (hBw2.cell (World.block_lt_of_cell? w _ hy3)).trans hy3
                replace hy4 := (hBw2.cell (World.block_lt_of_cell? w _ hy4)).trans hy4
                replace hy5 := (hBw2.cell (World.block_lt_of_cell? w _ hy5)).trans hy5
                replace hy6 := (hBw2.cell (World.block_lt_of_cell? w _ hy6)).trans hy6
                replace hy7 := (hBw2.cell (World.block_lt_of_cell? w _ hy7)).trans hy7
                rw [Int.toNat_natCast] at hy0 hy1 hy2 hy3 hy4 hy5 hy6 hy7
                obtain ⟨jm, hjm⟩ : ∃ s, s = jumpsB i.f0 := ⟨_, rfl⟩
                have hjp := jumpsB_f i.f0
                rw [← hjm] at hjp
                have HJP := Aside0.mk hjp
                have hbx := blk_new wr (.cells #[.int .i64 i.f0, .int .i64 i.f1, .int .i64 i.f2, .int .i64 i.f3, .int .i64 i.f4, .int .i64 i.f5, .string i.f6, .slice A7 i.f7.length c7] 87 (0, 0))
                have z0 := (blk_cell hbx 0).trans rfl
                have z5 := (blk_cell hbx 5).trans rfl
                have zf := blk_frozen (blk_new wr (.cells #[.int .i64 0, .int .i64 0, .int .i64 0, .int .i64 0, .int .i64 0, .int .i64 0, .string ⟨#[]⟩, .slice none 0 0] 87 (0, 0))) 0
                have HV5 := Aside0.mk (HV.out.alloc (.cells #[.int .i64 i.f0, .int .i64 i.f1, .int .i64 i.f2, .int .i64 i.f3, .int .i64 i.f4, .int .i64 i.f5, .string i.f6, .slice A7 i.f7.length c7] 87 (0, 0)))
                have HC5 := Aside0.mk (Kd.R_alloc HC.out (.cells #[.int .i64 i.f0, .int .i64 i.f1, .int .i64 i.f2, .int .i64 i.f3, .int .i64 i.f4, .int .i64 i.f5, .string i.f6, .slice A7 i.f7.length c7] 87 (0, 0)))
                have HF5 := Aside0.mk (Kd.R_alloc HF.out (.cells #[.int .i64 i.f0, .int .i64 i.f1, .int .i64 i.f2, .int .i64 i.f3, .int .i64 i.f4, .int .i64 i.f5, .string i.f6, .slice A7 i.f7.length c7] 87 (0, 0)))
                have hlt := HV.out.lt
                have hxv := (HV5.out.hb.block _ (blk_lt HX2.out)).trans HX2.out
                have y2 := (blk_cell hxv 2).trans rfl
                have HES := Aside0.mk hes
                have HJM := Aside0.mk hjm
                have HBX := Aside0.mk hbx
                clear hi hi7 hes hBw2 hjp hjm hbx hxv HV HC HF
                by_cases hq : jm = true ∧ 0 ≤ i.f5 ∧ i.f5 < (l0_2.length : Int)
                · obtain ⟨rfl, c0, c1⟩ := hq
                  have c0b : decide (0 ≤ i.f5) = true := decide_eq_true c0
                  have c1b : decide (i.f5 < (l0_2.length : Int)) = true := decide_eq_true c1
                  have HEI := Aside0.mk (show endB kss l0_2.length (2 * ((fm : Int) + (is.length : Int) - 1) + 1) is (j + 1) gE = maxOn (kss.getD i.f5.toNat []) gEx (2 * ((fm : Int) + (is.length : Int) - 1) + 1) from by rw [HES.out]; unfold endI; rw [← HJM.out, if_pos ⟨rfl, c0, c1⟩])
                  go_upto_region 42 with (first | (go_at_call 76; refine (impl_jumps.calls i.f0 true _ HJP.out).mono ?_; rintro e w' ⟨rfl, ⟨nd, rfl⟩⟩))
                  have hL5 := HI.out.below HV5.out.hb
                  obtain ⟨c9, _⟩ := Kd.R_celln 0 hL5.r i.f5 c0 c1
                  obtain ⟨bt, hbt⟩ : ∃ bt, bt = bs.getD i.f5.toNat 0 := ⟨_, rfl⟩
                  obtain ⟨kt, hkt⟩ : ∃ kt, kt = kss.getD i.f5.toNat [] := ⟨_, rfl⟩
                  have hrx2 : rdOf 0 bs i.f5 = bt := by rw [hbt]; simp [rdOf, List.getD_eq_getElem?_getD]
                  rw [hrx2] at c9
                  have hkx3 := hL5.ks i.f5.toNat (by rw [HKL.out]; omega)
                  have hkx4 := HI.out.ks i.f5.toNat (by rw [HKL.out]; omega)
                  rw [← hbt, ← hkt] at hkx3 hkx4
                  have hbtl := hkx4.lt
                  have d4 := (blk_cell hL5.b1 3).trans rfl
                  have hsubt : ∀ x ∈ kt, x ∈ allW l0_2 := fun x hx => allR_W (HSK.out i.f5.toNat x (by rw [← hkt]; exact hx))
                  have HST := Aside0.mk hsubt
                  rw [← hkt] at HEI
                  have HKX5 := Aside0.mk (hkx3.drewN nd)
                  have HV6 := Aside0.mk (HV5.out.drewN nd)
                  have HC6 := Aside0.mk (Kd.R_drewN HC5.out nd)
                  have HF6 := Aside0.mk (Kd.R_drewN HF5.out nd)
                  have c9' : ((wr.alloc (.cells #[.int .i64 i.f0, .int .i64 i.f1, .int .i64 i.f2, .int .i64 i.f3, .int .i64 i.f4, .int .i64 i.f5, .string i.f6, .slice A7 i.f7.length c7] 87 (0, 0))).drewN nd).cell? ⟨g8, i.f5.toNat, none⟩ = _ := c9
                  have d4' : ((wr.alloc (.cells #[.int .i64 i.f0, .int .i64 i.f1, .int .i64 i.f2, .int .i64 i.f3, .int .i64 i.f4, .int .i64 i.f5, .string i.f6, .slice A7 i.f7.length c7] 87 (0, 0))).drewN nd).cell? ⟨wb.heap.size + 1, 3, none⟩ = _ := d4
                  have z5' : ((wr.alloc (.cells #[.int .i64 i.f0, .int .i64 i.f1, .int .i64 i.f2, .int .i64 i.f3, .int .i64 i.f4, .int .i64 i.f5, .string i.f6, .slice A7 i.f7.length c7] 87 (0, 0))).drewN nd).cell? ⟨wr.heap.size, 5, none⟩ = _ := z5
                  obtain ⟨q22, hq22⟩ : ∃ q22, q22 = wr.heap.size := ⟨_, rfl⟩
                  clear hL5 c9 d4 z0 z5 zf hbt hkt hrx2 hkx3 hkx4 hsubt HV5 HC5 HF5 y2 hy0 hy1 hy2 hy3 hy4 hy5 hy6 hy7 HBX
                  generalize ((wr.alloc (.cells #[.int .i64 i.f0, .int .i64 i.f1, .int .i64 i.f2, .int .i64 i.f3, .int .i64 i.f4, .int .i64 i.f5, .string i.f6, .slice A7 i.f7.length c7] 87 (0, 0))).drewN nd) = W5 at HV6 HC6 HF6 HKX5 c9' d4' z5' ⊢
                  have hlt5 := HV6.out.lt
                  go_cut [163] (fun v163 wc => ∃ (it : Nat), v163 = .pointer (some ⟨it, 0, none⟩) ∧ w2.heap.size + 6 ≤ it ∧ gF < it ∧ Aside0 (∀ q, (Value.slice AC cl.length cC).ownBlock = some q → q < it) ∧ Aside0 (KRange Try.prog 2 4 wc bt it kt kt) ∧ Aside0 (IV w2 wc A kb ke gB2 gEx) ∧ Aside0 (Kd.R (Kd.int .i64) 2 wc w2.heap.size (fun q => w2.heap.size + 6 ≤ q ∧ some q ≠ (Value.slice (some ⟨gF, 0, none⟩) l0_2.length cF).ownBlock) (.slice AC cl.length cC) cl) ∧ Aside0 (Kd.R (Kd.int .i64) 2 wc w2.heap.size (fun q => some q = (Value.slice (some ⟨gF, 0, none⟩) l0_2.length cF).ownBlock) (.slice (some ⟨gF, 0, none⟩) l0_2.length cF) ((List.range l0_2.length).map (fun b => (firstT l0_2 b : Int)))))
                  case first =>
                   rename_i J1 K1 hJ hK
                   obtain ⟨w0, hrun, hrg0, hg0, hs0⟩ := ((HKX5.out.drew).range (Maps.int_keyed Try.underlying2) Try.underlying92)
                   have hsd : W5.drew.heap.size = W5.heap.size := rfl
                   have hHC7 := Kd.R_grown (Kd.R_drew HC6.out) hg0 (fun q _ e => by cases e)
                   have hHF7 := Kd.R_grown (Kd.R_drew HF6.out) hg0 (fun q _ e => by cases e)
                   have hHV7 := (show IV w2 W5.drew A kb ke gB2 gEx from HV6.out.drewN 1).grown hg0 (fun q e => by cases e)
                   have hvl : ∀ q, (Value.slice AC cl.length cC).ownBlock = some q → q < W5.heap.size := fun q hq => (HC6.out.2.choose_spec.1.lt q hq).2
                   have hgl : gF < W5.heap.size := (HF6.out.2.choose_spec.1.lt gF rfl).2
                   have H7 := Aside0.mk (And.intro hHC7 (And.intro hHF7 (And.intro hHV7 (And.intro hvl hrg0))))
                   clear hHC7 hHF7 hHV7 hvl hrg0 hg0
                   go_region_with (fail)
                   all_goals refine hK _ _ ?_
                   all_goals refine hJ _ _ ?_
                   all_goals ((repeat apply Exists.intro); exact ⟨⟨W5.heap.size, rfl, by omega, hgl, ⟨H7.out.2.2.2.1⟩, ⟨H7.out.2.2.2.2⟩, ⟨H7.out.2.2.1⟩, ⟨H7.out.1⟩, ⟨H7.out.2.1⟩⟩, rfl⟩)
                  case rest =>
                   clear HV6 HC6 HF6 HKX5 c9' d4' z5' hlt5
                   obtain ⟨it, rfl, hit6, hgit, HLC, HG, HV, HC, HF⟩ := hcut
                   go_wp2
                   go_loopw [23] (fun _ wr => ∃ (lf ke : List Int) (gEy : Int → Int), Aside0 (KRange Try.prog 2 4 wr bt it kt lf) ∧ Aside0 (∀ x ∈ lf, x ∈ kt) ∧ Aside0 (IV w2 wr A kb ke gB2 gEy) ∧ Aside0 (∀ x, gEy x = if x ∈ kt ∧ x ∉ lf then max (gEx x) (2 * ((fm : Int) + (is.length : Int) - 1) + 1) else gEx x) ∧ Aside0 (Kd.R (Kd.int .i64) 2 wr w2.heap.size (fun q => w2.heap.size + 6 ≤ q ∧ some q ≠ (Value.slice (some ⟨gF, 0, none⟩) l0_2.length cF).ownBlock) (.slice AC cl.length cC) cl) ∧ Aside0 (Kd.R (Kd.int .i64) 2 wr w2.heap.size (fun q => some q = (Value.slice (some ⟨gF, 0, none⟩) l0_2.length cF).ownBlock) (.slice (some ⟨gF, 0, none⟩) l0_2.length cF) ((List.range l0_2.length).map (fun b => (firstT l0_2 b : Int)))) ∧ Aside0 (SubW (allW l0_2) ke)) (fun _ wr => wr.rangeLeft bt it)
                   case atStart => exact ⟨kt, ke, gEx, HG, ⟨fun x h => h⟩, HV, ⟨fun x => by rw [if_neg (fun h => h.2 h.1)]⟩, HC, HF, HSE⟩
                   case round =>
                    clear HG HV HC HF HSE
                    obtain ⟨lf, ke, gEy, HG, HSL, HV, HGX, HC, HF, HSE⟩ := hrel
                    go_wp2_with (first | (at_next; refine wpList_next_keys rfl _ rfl 2 4 (Maps.int_keyed Try.underlying2) Try.underlying2 Try.underlying4 bt it kt lf rfl HG.out HSL.out ?_ ?_))
                    · intro hlf
                      subst hlf
                      have hgx : gEy = endB kss l0_2.length (2 * ((fm : Int) + (is.length : Int) - 1) + 1) is (j + 1) gE := by rw [HEI.out]; funext x; rw [HGX.out]; unfold maxOn; simp
                      have HGX2 := Aside0.mk hgx
                      clear hgx HGX
                      go_wp2
                      go_roundw
                      case measure => simp [intOf]; omega
                      case rel => first | exact ⟨j + 1, ke, gEy, by omega, by go_num, HV, HGX2, HC, HF, HSE⟩ | ((repeat apply Exists.intro); exact ⟨⟨j + 1, ke, gEy, by omega, by go_num, HV, HGX2, HC, HF, HSE⟩, rfl⟩)
                    · intro x w1 hwx hx hg1 hlt1 hgr hsz1 hen
                      have HV1 := Aside0.mk (HV.out.grown hgr (fun q e => by cases e; omega))
                      have HC1 := Aside0.mk (Kd.R_grown2 HC.out rfl hgr (fun q e1 e2 => by have h1 := HLC.out q e2.symm; have h2 := Option.some.inj e1; omega))
                      have HF1 := Aside0.mk (Kd.R_grown2 HF.out rfl hgr (fun q e1 e2 => by have h2 := Option.some.inj e1; have h3 : some q = some gF := e2; have h4 := Option.some.inj h3; omega))
                      obtain ⟨cF0, zF0⟩ := Kd.R_celln 0 HF1.out (m : Int) p3 q3
                      rw [Int.toNat_natCast, rd_range (fun b => ((firstT l0_2 b : Nat) : Int)) l0_2.length m hlm, ← HFM.out] at cF0
                      have cE := (blk_cell HV1.out.bE 0).trans rfl
                      have hz0 : (zeroValue 2).run Try.prog w1.drew = .ok (.int .i64 0) w1.drew := by kernel_rfl
                      obtain ⟨l1, wf1⟩ := (HV1.out.mE.drew).look Try.underlying2 Try.underlying114 Try.underlying2 hz0 hwx
                      obtain ⟨mv, hmv⟩ : ∃ mv, (if gEy x < (2 * ((fm : Int) + (is.length : Int) - 1) + 1) then (2 * ((fm : Int) + (is.length : Int) - 1) + 1) else gEy x) = mv := ⟨_, rfl⟩
                      have hmv2 : mv = max (gEx x) (2 * ((fm : Int) + (is.length : Int) - 1) + 1) := by
                       have h1 := HGX.out x
                       rw [if_neg (fun h => h.2 hx)] at h1
                       rw [← hmv, h1]
                       split <;> omega
                      have wf3 : (Lit.int .i64 mv).wf = true := by rw [← hmv]; split; exact wfN (by omega) (by omega); exact wf1
                      obtain ⟨w3, r2, hE2, g2⟩ := (HV1.out.mE.drew).put Try.underlying2 Try.underlying114 Try.underlying2 (Nat.lt_trans (HSE.out.len HV1.out.mE.nodup hal) (by decide)) hwx wf3
                      have HG3 := Aside0.mk ((show KRange Try.prog 2 4 w1.drew bt it kt _ from hg1).kept g2 (by intro e; have := Option.some.inj e; omega) (by intro e; have := Option.some.inj e; omega))
                      have hlt2 := (show KRange Try.prog 2 4 w1.drew bt it kt _ from hg1).left_kept g2 (by intro e; have := Option.some.inj e; omega) (by intro e; have := Option.some.inj e; omega)
                      have HV4 := Aside0.mk (HV1.out.putE hE2 g2)
                      have HC4 := Aside0.mk (Kd.R_grown (Kd.R_drew HC1.out) g2 (fun q hq e => by have := Option.some.inj e; have := hq.1; omega))
                      have HF4 := Aside0.mk (Kd.R_grown2 (Kd.R_drew HF1.out) rfl g2 (fun q e1 e2 => by have h2 := Option.some.inj e1; have h3 : some q = some gF := e2; have h4 := Option.some.inj h3; omega))
                      have hgx4 : ∀ y, updI gEy x mv y = if y ∈ kt ∧ y ∉ lf.filter (fun y => !decide (y = x)) then max (gEx y) (2 * ((fm : Int) + (is.length : Int) - 1) + 1) else gEx y := fun y => by
                       unfold updI
                       by_cases hy : y = x
                       · subst hy
                         rw [if_pos rfl, if_pos ⟨HSL.out y hx, by simp⟩, hmv2]
                       · rw [if_neg hy, HGX.out y]
                         simp [List.mem_filter, hy]
                      have HGX4 := Aside0.mk hgx4
                      have HSB4 := Aside0.mk (HSE.out.ins (HST.out x (HSL.out x hx)))
                      clear hg1 hgr hE2 g2 HV HC HF HG hz0 wf1 wf3 hmv2 hgx4
                      go_wp2
                      go_region
                      go_wp2
                      go_roundw
                      case measure => rw [hlt2]; exact hlt1
                      case rel => exact ⟨_, _, _, HG3, ⟨fun y hy => HSL.out y (List.mem_filter.1 hy).1⟩, HV4, HGX4, HC4, HF4, HSB4⟩
                · have hei : endB kss l0_2.length (2 * ((fm : Int) + (is.length : Int) - 1) + 1) is (j + 1) gE = gEx := by rw [HES.out]; unfold endI; rw [← HJM.out, if_neg hq]
                  have HEI := Aside0.mk hei
                  clear hei
                  cases jm
                  · go_wp2_with (first | (go_at_call 76; refine (impl_jumps.calls i.f0 false _ HJP.out).mono ?_; rintro e w' ⟨rfl, ⟨nd, rfl⟩⟩))
                    go_roundw
                    case measure => simp [intOf]; omega
                    case rel => first | exact ⟨j + 1, ke, gEx, by omega, by go_num, ⟨HV5.out.drewN nd⟩, ⟨HEI.out.symm⟩, ⟨Kd.R_drewN HC5.out nd⟩, ⟨Kd.R_drewN HF5.out nd⟩, HSE⟩ | ((repeat apply Exists.intro); exact ⟨⟨j + 1, ke, gEx, by omega, by go_num, ⟨HV5.out.drewN nd⟩, ⟨HEI.out.symm⟩, ⟨Kd.R_drewN HC5.out nd⟩, ⟨Kd.R_drewN HF5.out nd⟩, HSE⟩, rfl⟩)
                  · by_cases c0 : 0 ≤ i.f5
                    · have c1 : ¬ i.f5 < (l0_2.length : Int) := fun h => hq ⟨rfl, c0, h⟩
                      have c0b : decide (0 ≤ i.f5) = true := decide_eq_true c0
                      have c1b : decide (i.f5 < (l0_2.length : Int)) = false := decide_eq_false c1
                      go_wp2_with (first | (go_at_call 76; refine (impl_jumps.calls i.f0 true _ HJP.out).mono ?_; rintro e w' ⟨rfl, ⟨nd, rfl⟩⟩))
                      go_roundw
                      case measure => simp [intOf]; omega
                      case rel => first | exact ⟨j + 1, ke, gEx, by omega, by go_num, ⟨HV5.out.drewN nd⟩, ⟨HEI.out.symm⟩, ⟨Kd.R_drewN HC5.out nd⟩, ⟨Kd.R_drewN HF5.out nd⟩, HSE⟩ | ((repeat apply Exists.intro); exact ⟨⟨j + 1, ke, gEx, by omega, by go_num, ⟨HV5.out.drewN nd⟩, ⟨HEI.out.symm⟩, ⟨Kd.R_drewN HC5.out nd⟩, ⟨Kd.R_drewN HF5.out nd⟩, HSE⟩, rfl⟩)
                    · have c0b : decide (0 ≤ i.f5) = false := decide_eq_false c0
                      go_wp2_with (first | (go_at_call 76; refine (impl_jumps.calls i.f0 true _ HJP.out).mono ?_; rintro e w' ⟨rfl, ⟨nd, rfl⟩⟩))
                      go_roundw
                      case measure => simp [intOf]; omega
                      case rel => first | exact ⟨j + 1, ke, gEx, by omega, by go_num, ⟨HV5.out.drewN nd⟩, ⟨HEI.out.symm⟩, ⟨Kd.R_drewN HC5.out nd⟩, ⟨Kd.R_drewN HF5.out nd⟩, HSE⟩ | ((repeat apply Exists.intro); exact ⟨⟨j + 1, ke, gEx, by omega, by go_num, ⟨HV5.out.drewN nd⟩, ⟨HEI.out.symm⟩, ⟨Kd.R_drewN HC5.out nd⟩, ⟨Kd.R_drewN HF5.out nd⟩, HSE⟩, rfl⟩)
              · have hme : j = is.length := by omega
                subst hme
                have hpu3 : passU l0_2 kss (m + 1) (gB0, gE0) = (gB2, gEx) := by rw [HPU.out, ← HKJ.out, ← HGB2.out, HGE.out]
                have HP3 := Aside0.mk hpu3
                clear hpu3
                go_wp2
                go_roundw
                case measure => simp [intOf]; omega
                case rel => first | exact ⟨m + 1, kb, ke, gB2, gEx, by omega, by go_num, HP3, HV, HC, HF, ⟨HSB.out, HSE.out⟩⟩ | ((repeat apply Exists.intro); exact ⟨⟨m + 1, kb, ke, gB2, gEx, by omega, by go_num, HP3, HV, HC, HF, ⟨HSB.out, HSE.out⟩⟩, rfl⟩)
           · intro x w1 hwx hx hg1 hlt1 hgr hsz1 hen
             have HV1 := Aside0.mk (HV.out.grown hgr (fun q e => by cases e; omega))
             have HC1 := Aside0.mk (Kd.R_grown2 HC.out rfl hgr (fun q e1 e2 => by have h1 := HLC.out q e2.symm; have h2 := Option.some.inj e1; omega))
             have HF1 := Aside0.mk (Kd.R_grown2 HF.out rfl hgr (fun q e1 e2 => by have h2 := Option.some.inj e1; have h3 : some q = some gF := e2; have h4 := Option.some.inj h3; omega))
             have hx6 := blk_grown HX18.out hgr (by intro e; have := Option.some.inj e; omega)
             have HX18 := Aside0.mk hx6
             have HG1 := Aside0.mk hg1
             obtain ⟨cF0, zF0⟩ := Kd.R_celln 0 HF1.out (m : Int) p3 q3
             rw [Int.toNat_natCast, rd_range (fun b => ((firstT l0_2 b : Nat) : Int)) l0_2.length m hlm, ← HFM.out] at cF0
             have cB := (blk_cell HV1.out.bB 0).trans rfl
             have hz0 : (zeroValue 2).run Try.prog w1.drew = .ok (.int .i64 0) w1.drew := by kernel_rfl
             obtain ⟨l1, wf1⟩ := (HV1.out.mB.drew).look Try.underlying2 Try.underlying114 Try.underlying2 hz0 hwx
             obtain ⟨mv, hmv⟩ : ∃ mv, (if 2 * (fm : Int) < gBx x then 2 * (fm : Int) else gBx x) = mv := ⟨_, rfl⟩
             have hmv2 : mv = min (gB x) (2 * (fm : Int)) := by
              have h1 := HGX.out x
              rw [if_neg (fun h => h.2 hx)] at h1
              rw [← hmv, h1]
              split <;> omega
             have wf3 : (Lit.int .i64 mv).wf = true := by rw [← hmv]; split; exact wfN (by omega) (by omega); exact wf1
             obtain ⟨w3, r2, hB2, g2⟩ := (HV1.out.mB.drew).put Try.underlying2 Try.underlying114 Try.underlying2 (Nat.lt_trans (HSB.out.len HV1.out.mB.nodup hal) (by decide)) hwx wf3
             have HV3 := Aside0.mk (HV1.out.drewN 1)
             have HG3 := Aside0.mk ((show KRange Try.prog 2 4 w1.drew bj (q18 + 1) kj _ from hg1).kept g2 (by intro e; have := Option.some.inj e; omega) (by intro e; have := Option.some.inj e; omega))
             have hlt2 := (show KRange Try.prog 2 4 w1.drew bj (q18 + 1) kj _ from hg1).left_kept g2 (by intro e; have := Option.some.inj e; omega) (by intro e; have := Option.some.inj e; omega)
             have HV4 := Aside0.mk (HV1.out.putB hB2 g2)
             have HC4 := Aside0.mk (Kd.R_grown (Kd.R_drew HC1.out) g2 (fun q hq e => by have := Option.some.inj e; have := hq.1; omega))
             have HF4 := Aside0.mk (Kd.R_grown2 (Kd.R_drew HF1.out) rfl g2 (fun q e1 e2 => by have h2 := Option.some.inj e1; have h3 : some q = some gF := e2; have h4 := Option.some.inj h3; omega))
             have HX4 := Aside0.mk (blk_grown (show w1.drew.heap[q18]? = _ from hx6) g2 (by intro e; have := Option.some.inj e; omega))
             have hgx4 : ∀ y, updI gBx x mv y = if y ∈ kj ∧ y ∉ lf.filter (fun y => !decide (y = x)) then min (gB y) (2 * (fm : Int)) else gB y := fun y => by
              unfold updI
              by_cases hy : y = x
              · subst hy
                rw [if_pos rfl, if_pos ⟨HSL.out y hx, by simp⟩, hmv2]
              · rw [if_neg hy, HGX.out y]
                simp [List.mem_filter, hy]
             have HGX4 := Aside0.mk hgx4
             have HSB4 := Aside0.mk (HSB.out.ins (HSJ.out x (HSL.out x hx)))
             clear hg1 hgr hB2 g2 HV HC HF HG hx6 hz0 wf1 wf3 hmv2 hgx4
             go_wp2
             go_region
             go_wp2
             go_roundw
             case measure => rw [hlt2]; exact hlt1
             case rel => exact ⟨_, _, _, HG3, ⟨fun y hy => HSL.out y (List.mem_filter.1 hy).1⟩, HV4, HGX4, HC4, HF4, HSB4, HX4⟩
      · have hme : m = l0_2.length := by omega
        subst hme
        have cA := (blk_cell HV.out.bA 0).trans rfl
        have hkn := HSA.out.len HV.out.kA.nodup hal
        have HCT := Aside0.mk (Kd.R_mono (Kd.R_tight rfl HC.out) (ok' := (fun q => some q = (Value.slice AC cl.length cC).ownBlock)) (fun q hq => hq))
        have HCL := Aside0.mk HC.out.1
        have hcm : ∀ x ∈ cl, 0 ≤ x ∧ x ≤ 1000000000 := fun x hx => by
         have h1 : x ∈ (passT l0_2 l0_2.length).2 := by rw [← HPT.out]; exact hx
         have h2 := callsP_mem l0_2 l0_2.length x h1
         omega
        have HCM := Aside0.mk hcm
        clear hcm
        go_wp2_with (first | (go_at_call 71; refine (xsorted_calls (w2.heap.size + 4) A _ HV.out.kA hkn).mono ?_; rintro e W6 ⟨vS, rfl, hr6, hb6⟩; obtain ⟨AS, cS, eS⟩ := Kd.R_slice hr6; subst eS; have HSR := Aside0.mk hr6; have HB6 := Aside0.mk hb6; clear hr6 hb6))
        obtain ⟨sx, hsx⟩ : ∃ sx, sx = sortI A := ⟨_, rfl⟩
        rw [← hsx] at HSR ⊢
        have hslo : ∀ q, (Value.slice AS sx.length cS).ownBlock = some q → wr.heap.size ≤ q := fun q hq => own_geR HSR.out q hq
        have hclo : ∀ q, (Value.slice AC cl.length cC).ownBlock = some q → q < wr.heap.size := fun q hq => (HC.out.2.choose_spec.1.lt q hq).2
        have hlt6 := HV.out.lt
        have HV6 := Aside0.mk (HV.out.below HB6.out)
        have HC6 := Aside0.mk (Kd.R_below HCT.out HB6.out)
        have HS6 := Aside0.mk (Kd.R_mono (Kd.R_tight rfl (Kd.R_lower HSR.out (show w2.heap.size ≤ wr.heap.size from HV.out.hb.size))) (ok' := (fun q => some q = (Value.slice AS sx.length cS).ownBlock)) (fun q hq => hq))
        have HSL := Aside0.mk (show ∀ q, (Value.slice AS sx.length cS).ownBlock = some q → w2.heap.size + 6 ≤ q from fun q hq => by have := hslo q hq; omega)
        have hsxm : ∀ x ∈ sx, x ∈ allW l0_2 := fun x hx => HSA.out x ((sortI_perm A).mem_iff.1 (by rw [← hsx]; exact hx))
        have HSX := Aside0.mk hsxm
        have HSXE := Aside0.mk hsx
        have hsxl : sx.length < 1099511627776 := by rw [hsx, sortI_len]; exact hkn
        clear HV HC HF HS HCT HSR HB6 hslo hclo hsxm hsx cA
        go_loopw [24, 188] (fun v24 v wr => ∃ (t : Nat), t ≤ sx.length ∧ v = .int .i64 (t : Int) ∧ Aside0 (IV w2 wr A kb ke gB gE) ∧ Aside0 (Kd.R (Kd.int .i64) 2 wr w2.heap.size (fun q => some q = (Value.slice AC cl.length cC).ownBlock) (.slice AC cl.length cC) cl) ∧ Aside0 (Kd.R (Kd.int .i64) 2 wr w2.heap.size (fun q => some q = (Value.slice AS sx.length cS).ownBlock) (.slice AS sx.length cS) sx) ∧ Aside0 (Kd.R k113 113 wr w2.heap.size (fun q => w2.heap.size + 6 ≤ q ∧ some q ≠ (Value.slice AC cl.length cC).ownBlock ∧ some q ≠ (Value.slice AS sx.length cS).ownBlock) v24 ((sx.take t).map (ivOf (gB, gE) cl)))) (fun _ v _ => sx.length - (intOf v).toNat)
        case atStart => exact ⟨0, Nat.zero_le _, rfl, HV6, HC6, HS6, ⟨Kd.R_nil _ _ _ _ _⟩⟩
        case round =>
         clear HV6 HC6 HS6 hlt6
         obtain ⟨t, ht, rfl, HV, HC, HS, HO⟩ := hrel
         by_cases hlt3 : t < sx.length
         · obtain ⟨gS, capS, eS, _, _, _⟩ := Kd.R_form HS.out (by omega)
           injection eS with eS eS2 eS3
           subst eS
           obtain ⟨cx, zx⟩ := Kd.R_celln 0 HS.out (t : Int) (by omega) (by omega)
           obtain ⟨x, hx⟩ : ∃ x, x = sx[t] := ⟨_, rfl⟩
           have hrx : rdOf 0 sx (t : Int) = x := by rw [hx]; simp [rdOf, List.getElem?_eq_getElem hlt3]
           rw [hrx, Int.toNat_natCast] at cx
           have hxm := HSX.out x (by rw [hx]; exact List.getElem_mem _)
           have hxw := HOW.out.2.2.2 x hxm
           have htk : (sx.take (t + 1)).map (ivOf (gB, gE) cl) = (sx.take t).map (ivOf (gB, gE) cl) ++ [ivOf (gB, gE) cl x] := by rw [List.take_succ_eq_append_getElem hlt3, List.map_append, ← hx]; rfl
           have HTK := Aside0.mk htk
           have cB := (blk_cell HV.out.bB 0).trans rfl
           have cE := (blk_cell HV.out.bE 0).trans rfl
           have hz0 : (zeroValue 2).run Try.prog wr = .ok (.int .i64 0) wr := by kernel_rfl
           obtain ⟨l1, _⟩ := (HV.out.mB).look Try.underlying2 Try.underlying114 Try.underlying2 hz0 hxw
           obtain ⟨l2, _⟩ := (HV.out.mE).look Try.underlying2 Try.underlying114 Try.underlying2 hz0 hxw
           have bk := blk_new wr (.cells #[.int .i64 x, .int .i64 (gB x), .int .i64 (gE x), .bool false] 113 (0, 0))
           have zf := blk_frozen (blk_new wr (.cells #[.int .i64 0, .int .i64 0, .int .i64 0, .bool false] 113 (0, 0))) 0
           have HBK := Aside0.mk bk
           have hltw := HV.out.lt
           clear hx hrx hxm htk hz0 bk eS2 eS3 zx
           obtain ⟨AO, cO, eO⟩ := Kd.R_slice HO.out
           subst eO
           have hlt9 : ((sx.take t).map (ivOf (gB, gE) cl)).length = t := by rw [List.length_map, List.length_take]; omega
           rw [hlt9] at HO ⊢
           have HLT9 := Aside0.mk hlt9
           clear hlt9
           go_wp2
           have HV5 := Aside0.mk (HV.out.alloc (.cells #[.int .i64 x, .int .i64 (gB x), .int .i64 (gE x), .bool false] 113 (0, 0)))
           have HC5 := Aside0.mk (Kd.R_alloc HC.out (.cells #[.int .i64 x, .int .i64 (gB x), .int .i64 (gE x), .bool false] 113 (0, 0)))
           have HS5 := Aside0.mk (Kd.R_alloc HS.out (.cells #[.int .i64 x, .int .i64 (gB x), .int .i64 (gE x), .bool false] 113 (0, 0)))
           have HO5 := Aside0.mk (Kd.R_alloc HO.out (.cells #[.int .i64 x, .int .i64 (gB x), .int .i64 (gE x), .bool false] 113 (0, 0)))
           have hqc : ∀ q, (Value.slice AC cl.length cC).ownBlock = some q → q < wr.heap.size := fun q hq => (HC.out.2.choose_spec.1.lt q hq).2
           have hqs : ∀ q, (Value.slice (some ⟨gS, 0, none⟩) sx.length cS).ownBlock = some q → q < wr.heap.size := fun q hq => (HS.out.2.choose_spec.1.lt q hq).2
           have hqo : ∀ q, (Value.slice AO t cO).ownBlock = some q → q < wr.heap.size := fun q hq => (HO.out.2.choose_spec.1.lt q hq).2
           obtain ⟨q27, hq27⟩ : ∃ q27, q27 = wr.heap.size := ⟨_, rfl⟩
           rw [← hq27] at HBK hqc hqs hqo hltw ⊢
           have HQC := Aside0.mk hqc
           have HQS := Aside0.mk hqs
           have HQO := Aside0.mk hqo
           have hq6 : w2.heap.size + 6 ≤ q27 := by omega
           clear hqc hqs hqo HV HC HS HO cB cE cx zf l1 l2 hq27
           generalize (wr.alloc (.cells #[.int .i64 x, .int .i64 (gB x), .int .i64 (gE x), .bool false] 113 (0, 0))) = W5 at HV5 HC5 HS5 HO5 HBK ⊢
           have hcl10 : cl.length ≤ 1000000000 := by omega
           go_loopw [202] (fun v wr => ∃ (c : Nat), c ≤ cl.length ∧ v = .int .i64 (c : Int) ∧ Aside0 (wr.heap[q27]? = some (.cells #[.int .i64 x, .int .i64 (gB x), .int .i64 (gE x), .bool (crossT cl (gB x) (gE x) c)] 113 (0, 0))) ∧ Aside0 (IV w2 wr A kb ke gB gE) ∧ Aside0 (Kd.R (Kd.int .i64) 2 wr w2.heap.size (fun q => some q = (Value.slice AC cl.length cC).ownBlock) (.slice AC cl.length cC) cl) ∧ Aside0 (Kd.R (Kd.int .i64) 2 wr w2.heap.size (fun q => some q = (Value.slice (some ⟨gS, 0, none⟩) sx.length cS).ownBlock) (.slice (some ⟨gS, 0, none⟩) sx.length cS) sx) ∧ Aside0 (Kd.R k113 113 wr w2.heap.size (fun q => w2.heap.size + 6 ≤ q ∧ some q ≠ (Value.slice AC cl.length cC).ownBlock ∧ some q ≠ (Value.slice (some ⟨gS, 0, none⟩) sx.length cS).ownBlock) (.slice AO t cO) ((sx.take t).map (ivOf (gB, gE) cl)))) (fun v _ => cl.length - (intOf v).toNat)
           case atStart => exact ⟨0, Nat.zero_le _, rfl, HBK, HV5, HC5, HS5, HO5⟩
           case round =>
            clear HV5 HC5 HS5 HO5 HBK
            obtain ⟨c, hc, rfl, HBK, HV, HC, HS, HO⟩ := hrel
            by_cases hlc : c < cl.length
            · obtain ⟨gC, capC, eC, _, _, _⟩ := Kd.R_form HC.out (by omega)
              injection eC with eC eC2 eC3
              subst eC
              obtain ⟨cp, zp⟩ := Kd.R_celln 0 HC.out (c : Int) (by omega) (by omega)
              obtain ⟨p, hp⟩ : ∃ p, p = cl.getD c 0 := ⟨_, rfl⟩
              have hrp : rdOf 0 cl (c : Int) = p := by rw [hp]; simp [rdOf, List.getD_eq_getElem?_getD]
              rw [hrp, Int.toNat_natCast] at cp
              have hpm : p ∈ cl := by rw [hp, List.getD_eq_getElem?_getD, List.getElem?_eq_getElem hlc]; exact List.getElem_mem _
              obtain ⟨hp0, hp9⟩ := HCM.out p hpm
              obtain ⟨cu, hcu⟩ : ∃ cu, crossT cl (gB x) (gE x) c = cu := ⟨_, rfl⟩
              have HCU := Aside0.mk hcu
              rw [hcu] at HBK
              have hgd := hp.symm
              have c3 := (blk_cell HBK.out 3).trans rfl
              have c1 := (blk_cell HBK.out 1).trans rfl
              have c2 := (blk_cell HBK.out 2).trans rfl
              have f3 := blk_frozen HBK.out 3
              have HGD := Aside0.mk hgd
              clear hp hrp hpm hcu hgd eC2 eC3 zp
              cases cu with
              | true =>
               have HBK9 := Aside0.mk (blk_put HBK.out 3 (.bool true) (cs' := #[.int .i64 x, .int .i64 (gB x), .int .i64 (gE x), .bool true]) rfl)
               have g9 := grown_cell' wr ⟨q27, 3, none⟩ (.bool true)
               have HV9 := Aside0.mk (HV.out.grown g9 (fun q e => by cases e; exact hq6))
               have HC9 := Aside0.mk (Kd.R_grown2 HC.out rfl g9 (fun q e1 e2 => by have h1 := HQC.out q e2.symm; have h2 : q27 = q := Option.some.inj e1; omega))
               have HS9 := Aside0.mk (Kd.R_grown2 HS.out rfl g9 (fun q e1 e2 => by have h1 := HQS.out q e2.symm; have h2 : q27 = q := Option.some.inj e1; omega))
               have HO9 := Aside0.mk (Kd.R_grown2 HO.out rfl g9 (fun q e1 e2 => by have h1 := HQO.out q e2.symm; have h2 : q27 = q := Option.some.inj e1; omega))
               have hnv : crossT cl (gB x) (gE x) (c + 1) = true := by rw [crossT_succ, HGD.out, HCU.out]; simp [*]
               have Htrue := Aside0.mk hnv
               clear g9 hnv
               go_wp2
               go_roundw
               case measure => simp [intOf]; omega
               case rel => first | exact ⟨c + 1, by omega, by go_num, ⟨by rw [Htrue.out]; exact HBK9.out⟩, HV9, HC9, HS9, HO9⟩ | ((repeat apply Exists.intro); exact ⟨⟨c + 1, by omega, by go_num, ⟨by rw [Htrue.out]; exact HBK9.out⟩, HV9, HC9, HS9, HO9⟩, rfl⟩)
              | false =>
               by_cases h1 : gB x ≤ 2 * p
               · have h1b : decide (gB x ≤ 2 * p) = true := decide_eq_true h1
                 by_cases h2 : 2 * p + 1 < gE x
                 · have h2b : decide (2 * p + 1 < gE x) = true := decide_eq_true h2
                   have HBK9 := Aside0.mk (blk_put HBK.out 3 (.bool true) (cs' := #[.int .i64 x, .int .i64 (gB x), .int .i64 (gE x), .bool true]) rfl)
                   have g9 := grown_cell' wr ⟨q27, 3, none⟩ (.bool true)
                   have HV9 := Aside0.mk (HV.out.grown g9 (fun q e => by cases e; exact hq6))
                   have HC9 := Aside0.mk (Kd.R_grown2 HC.out rfl g9 (fun q e1 e2 => by have h1 := HQC.out q e2.symm; have h2 : q27 = q := Option.some.inj e1; omega))
                   have HS9 := Aside0.mk (Kd.R_grown2 HS.out rfl g9 (fun q e1 e2 => by have h1 := HQS.out q e2.symm; have h2 : q27 = q := Option.some.inj e1; omega))
                   have HO9 := Aside0.mk (Kd.R_grown2 HO.out rfl g9 (fun q e1 e2 => by have h1 := HQO.out q e2.symm; have h2 : q27 = q := Option.some.inj e1; omega))
                   have hnv : crossT cl (gB x) (gE x) (c + 1) = true := by rw [crossT_succ, HGD.out, HCU.out]; simp [*]
                   have Htrue := Aside0.mk hnv
                   clear g9 hnv
                   go_wp2
                   go_roundw
                   case measure => simp [intOf]; omega
                   case rel => first | exact ⟨c + 1, by omega, by go_num, ⟨by rw [Htrue.out]; exact HBK9.out⟩, HV9, HC9, HS9, HO9⟩ | ((repeat apply Exists.intro); exact ⟨⟨c + 1, by omega, by go_num, ⟨by rw [Htrue.out]; exact HBK9.out⟩, HV9, HC9, HS9, HO9⟩, rfl⟩)
                 · have h2b : decide (2 * p + 1 < gE x) = false := decide_eq_false h2
                   have HBK9 := Aside0.mk (blk_put HBK.out 3 (.bool false) (cs' := #[.int .i64 x, .int .i64 (gB x), .int .i64 (gE x), .bool false]) rfl)
                   have g9 := grown_cell' wr ⟨q27, 3, none⟩ (.bool false)
                   have HV9 := Aside0.mk (HV.out.grown g9 (fun q e => by cases e; exact hq6))
                   have HC9 := Aside0.mk (Kd.R_grown2 HC.out rfl g9 (fun q e1 e2 => by have h1 := HQC.out q e2.symm; have h2 : q27 = q := Option.some.inj e1; omega))
                   have HS9 := Aside0.mk (Kd.R_grown2 HS.out rfl g9 (fun q e1 e2 => by have h1 := HQS.out q e2.symm; have h2 : q27 = q := Option.some.inj e1; omega))
                   have HO9 := Aside0.mk (Kd.R_grown2 HO.out rfl g9 (fun q e1 e2 => by have h1 := HQO.out q e2.symm; have h2 : q27 = q := Option.some.inj e1; omega))
                   have hnv : crossT cl (gB x) (gE x) (c + 1) = false := by rw [crossT_succ, HGD.out, HCU.out]; simp [*]
                   have Hfalse := Aside0.mk hnv
                   clear g9 hnv
                   go_wp2
                   go_roundw
                   case measure => simp [intOf]; omega
                   case rel => first | exact ⟨c + 1, by omega, by go_num, ⟨by rw [Hfalse.out]; exact HBK9.out⟩, HV9, HC9, HS9, HO9⟩ | ((repeat apply Exists.intro); exact ⟨⟨c + 1, by omega, by go_num, ⟨by rw [Hfalse.out]; exact HBK9.out⟩, HV9, HC9, HS9, HO9⟩, rfl⟩)
               · have h1b : decide (gB x ≤ 2 * p) = false := decide_eq_false h1
                 have HBK9 := Aside0.mk (blk_put HBK.out 3 (.bool false) (cs' := #[.int .i64 x, .int .i64 (gB x), .int .i64 (gE x), .bool false]) rfl)
                 have g9 := grown_cell' wr ⟨q27, 3, none⟩ (.bool false)
                 have HV9 := Aside0.mk (HV.out.grown g9 (fun q e => by cases e; exact hq6))
                 have HC9 := Aside0.mk (Kd.R_grown2 HC.out rfl g9 (fun q e1 e2 => by have h1 := HQC.out q e2.symm; have h2 : q27 = q := Option.some.inj e1; omega))
                 have HS9 := Aside0.mk (Kd.R_grown2 HS.out rfl g9 (fun q e1 e2 => by have h1 := HQS.out q e2.symm; have h2 : q27 = q := Option.some.inj e1; omega))
                 have HO9 := Aside0.mk (Kd.R_grown2 HO.out rfl g9 (fun q e1 e2 => by have h1 := HQO.out q e2.symm; have h2 : q27 = q := Option.some.inj e1; omega))
                 have hnv : crossT cl (gB x) (gE x) (c + 1) = false := by rw [crossT_succ, HGD.out, HCU.out]; simp [*]
                 have Hfalse := Aside0.mk hnv
                 clear g9 hnv
                 go_wp2
                 go_roundw
                 case measure => simp [intOf]; omega
                 case rel => first | exact ⟨c + 1, by omega, by go_num, ⟨by rw [Hfalse.out]; exact HBK9.out⟩, HV9, HC9, HS9, HO9⟩ | ((repeat apply Exists.intro); exact ⟨⟨c + 1, by omega, by go_num, ⟨by rw [Hfalse.out]; exact HBK9.out⟩, HV9, HC9, HS9, HO9⟩, rfl⟩)
            · have hce : c = cl.length := by omega
              subst hce
              have d0 := (blk_cell HBK.out 0).trans rfl
              have d1 := (blk_cell HBK.out 1).trans rfl
              have d2 := (blk_cell HBK.out 2).trans rfl
              have d3 := (blk_cell HBK.out 3).trans rfl
              have hol : ((sx.take t).map (ivOf (gB, gE) cl)).length ≤ 1099511627776 := by rw [List.length_map, List.length_take]; omega
              obtain ⟨ol, hol2⟩ : ∃ ol, ol = (sx.take t).map (ivOf (gB, gE) cl) := ⟨_, rfl⟩
              rw [← hol2] at HO hol HTK
              have HOL2 := Aside0.mk hol2
              clear hol2
              go_wp2_with (first | (at_builtin; refine Kd.R_append k113 (w0 := w2) w2.heap.size rfl (.tmp 225) (.tmp 227) 39 113 (.agg #[.int .i64 0, .int .i64 0, .int .i64 0, .bool false]) 32 rfl Try.underlying39 info113 rfl (by decide) (by decide) (.slice AO t cO) ol (ivOf (gB, gE) cl x) [.int .i64 x, .int .i64 (gB x), .int .i64 (gE x), .bool (crossT cl (gB x) (gE x) cl.length)] (fun q => w2.heap.size + 6 ≤ q ∧ some q ≠ (Value.slice AC cl.length cC).ownBlock ∧ some q ≠ (Value.slice (some ⟨gS, 0, none⟩) sx.length cS).ownBlock) (fun _ => False) rfl rfl ?aP (fun _ hk => hk.elim) ?aF ?aO ?aB ?aS ?aL ?_; (case aP => exact k113_mkM _ _ _ (ivOf (gB, gE) cl x)); (case aF => exact (fun q hq => by have h1 := HV.out.lt; have h2 := (fun q hq => (HC.out.2.choose_spec.1.lt q hq).2 : ∀ q, (Value.slice AC cl.length cC).ownBlock = some q → q < wr.heap.size); have h3 := (fun q hq => (HS.out.2.choose_spec.1.lt q hq).2 : ∀ q, (Value.slice (some ⟨gS, 0, none⟩) sx.length cS).ownBlock = some q → q < wr.heap.size); exact ⟨by omega, fun e => by have := h2 q e.symm; omega, fun e => by have := h3 q e.symm; omega⟩)); (case aO => exact HO.out); (case aB => exact HV.out.hb); (case aS => exact HV.out.hb.size); (case aL => omega); intro v8 W8 ho8 hb8 hg8 hat8; have HO8 := Aside0.mk ho8; have HV8 := Aside0.mk (HV.out.grown hg8 (fun q e => (HO.out.1 q e).1)); have HC8 := Aside0.mk (Kd.R_grown HC.out hg8 (fun q hq e => by have h1 := HO.out.1 q e.symm; exact h1.2.1 hq)); have HS8 := Aside0.mk (Kd.R_grown HS.out hg8 (fun q hq e => by have h1 := HO.out.1 q e.symm; exact h1.2.2 hq)); clear ho8 hb8 hg8 hat8))
              go_roundw
              case measure => simp [intOf]; omega
              case rel => first | exact ⟨t + 1, by omega, by go_num, HV8, HC8, HS8, ⟨by rw [HTK.out]; exact HO8.out⟩⟩ | ((repeat apply Exists.intro); exact ⟨⟨t + 1, by omega, by go_num, HV8, HC8, HS8, ⟨by rw [HTK.out]; exact HO8.out⟩⟩, rfl⟩)
         · have hte : t = sx.length := by omega
           subst hte
           go_wp2
           go_ret
           refine ⟨_, rfl, ?_, below_step HB2.out HV.out.hb⟩
           have h := HO.out
           rw [List.take_length] at h
           have hfin : sx.map (ivOf (gB, gE) cl) = r := by rw [← HRR.out]; unfold ivAll; rw [← HPT.out, HU.out, ← HSXE.out]
           rw [hfin] at h
           exact Kd.R_mono (Kd.R_lower h HB2.out.size) (fun _ _ => trivial)

set_option linter.unusedVariables false
set_option linter.unusedSimpArgs false

def laws_eqInterval.f (a0_0 : Int) (a0_1 : Int) (a0_2 : Int) (a0_3 : Bool) (a1_0 : Int) (a1_1 : Int) (a1_2 : Int) (a1_3 : Bool) : Option (Bool) := if a0_0 = a1_0 then (if a0_1 = a1_1 then (if a0_2 = a1_2 then (if (a0_3 != a1_3) = true then (some false) else (some true)) else (some false)) else (some false)) else (some false)
set_option maxHeartbeats 8000000 in
set_option maxRecDepth 100000 in
theorem laws_eqInterval.calls (a0_0 : Int) (a0_1 : Int) (a0_2 : Int) (a0_3 : Bool) (a1_0 : Int) (a1_1 : Int) (a1_2 : Int) (a1_3 : Bool) (r : Bool) (w : World) (h : laws_eqInterval.f a0_0 a0_1 a0_2 a0_3 a1_0 a1_1 a1_2 a1_3 = some r) :
 Calls Try.prog 77 #[.agg #[.int .i64 a0_0, .int .i64 a0_1, .int .i64 a0_2, .bool a0_3], .agg #[.int .i64 a1_0, .int .i64 a1_1, .int .i64 a1_2, .bool a1_3]] w fun e w' => e = .returned (.bool r) ∧ Below w.heap.size w w' := by
 have hu1 := Try.underlying113
 unfold laws_eqInterval.f at h
 have e1 : (w.alloc (.cells #[.int .i64 a0_0, .int .i64 a0_1, .int .i64 a0_2, .bool a0_3] 113 (0, 0))).heap.size = w.heap.size + 1 := by simp
 have HX1 := blk_new (w.alloc (.cells #[.int .i64 a0_0, .int .i64 a0_1, .int .i64 a0_2, .bool a0_3] 113 (0, 0))) (.cells #[.int .i64 a1_0, .int .i64 a1_1, .int .i64 a1_2, .bool a1_3] 113 (0, 0))
 have HX0 := blk_alloc (blk_new w (.cells #[.int .i64 a0_0, .int .i64 a0_1, .int .i64 a0_2, .bool a0_3] 113 (0, 0))) (.cells #[.int .i64 a1_0, .int .i64 a1_1, .int .i64 a1_2, .bool a1_3] 113 (0, 0))
 have e0 := (blk_cell HX0 0).trans rfl
 have e2 := (blk_cell HX0 1).trans rfl
 have e3 := (blk_cell HX0 2).trans rfl
 have e4 := (blk_cell HX0 3).trans rfl
 have f0 := (blk_cell HX1 0).trans rfl
 have f1 := (blk_cell HX1 1).trans rfl
 have f2 := (blk_cell HX1 2).trans rfl
 have f3 := (blk_cell HX1 3).trans rfl
 rw [e1] at f0 f1 f2 f3
 have HB := Aside0.mk (below_alloc (below_alloc (Below.refl w.heap.size w) (.cells #[.int .i64 a0_0, .int .i64 a0_1, .int .i64 a0_2, .bool a0_3] 113 (0, 0))) (.cells #[.int .i64 a1_0, .int .i64 a1_1, .int .i64 a1_2, .bool a1_3] 113 (0, 0)))
 clear HX1 HX0
 go_enter Try.func77, Try.ntmps77
 by_cases c0 : a0_0 = a1_0
 · rw [if_pos c0] at h
   have k0 : (a0_0 != a1_0) = false := bne_eq_false_iff_eq.mpr c0
   have j0 : (a0_0 == a1_0) = true := beq_iff_eq.mpr c0
   clear c0
   by_cases c1 : a0_1 = a1_1
   · rw [if_pos c1] at h
     have k1 : (a0_1 != a1_1) = false := bne_eq_false_iff_eq.mpr c1
     have j1 : (a0_1 == a1_1) = true := beq_iff_eq.mpr c1
     clear c1
     by_cases c2 : a0_2 = a1_2
     · rw [if_pos c2] at h
       have k2 : (a0_2 != a1_2) = false := bne_eq_false_iff_eq.mpr c2
       have j2 : (a0_2 == a1_2) = true := beq_iff_eq.mpr c2
       clear c2
       cases a0_3 with
       | false =>
        cases a1_3 with
        | false =>
         obtain rfl := Option.some.inj (show some true = some r from h)
         clear h
         go_wp2
         go_ret
         exact ⟨rfl, HB.out⟩
        | true =>
         obtain rfl := Option.some.inj (show some false = some r from h)
         clear h
         go_wp2
         go_ret
         exact ⟨rfl, HB.out⟩
       | true =>
        cases a1_3 with
        | false =>
         obtain rfl := Option.some.inj (show some false = some r from h)
         clear h
         go_wp2
         go_ret
         exact ⟨rfl, HB.out⟩
        | true =>
         obtain rfl := Option.some.inj (show some true = some r from h)
         clear h
         go_wp2
         go_ret
         exact ⟨rfl, HB.out⟩
     · rw [if_neg c2] at h
       have k2 : (a0_2 != a1_2) = true := bne_iff_ne.mpr c2
       have j2 : (a0_2 == a1_2) = false := beq_eq_false_iff_ne.mpr c2
       obtain rfl := Option.some.inj h
       clear h
       go_wp2
       go_ret
       exact ⟨rfl, HB.out⟩
   · rw [if_neg c1] at h
     have k1 : (a0_1 != a1_1) = true := bne_iff_ne.mpr c1
     have j1 : (a0_1 == a1_1) = false := beq_eq_false_iff_ne.mpr c1
     obtain rfl := Option.some.inj h
     clear h
     go_wp2
     go_ret
     exact ⟨rfl, HB.out⟩
 · rw [if_neg c0] at h
   have k0 : (a0_0 != a1_0) = true := bne_iff_ne.mpr c0
   have j0 : (a0_0 == a1_0) = false := beq_eq_false_iff_ne.mpr c0
   obtain rfl := Option.some.inj h
   clear h
   go_wp2
   go_ret
   exact ⟨rfl, HB.out⟩

end Go.Proofs.Ythegbhfoleiegaa.All

