/- Part 3 of the proof of FnCasts: functions of the translation with what they return, and plain laws of these. Written by programs of this session over the kit's print, and by hand. -/
import Derived.Test.YtkohjiajbdkcbaaDoorProg
import Derived.Test.YtkohjiajbdkcbaaDoorCFnCastsWApart
import Derived.Test.YtkohjiajbdkcbaaDoorCFnCastsWArr
import Derived.Test.YtkohjiajbdkcbaaDoorCFnCastsWFoot
import Derived.Test.YtkohjiajbdkcbaaDoorCFnCastsWGuard
import Derived.Test.YtkohjiajbdkcbaaDoorCFnCastsWKept
import Derived.Test.YtkohjiajbdkcbaaDoorCFnCastsWLast
import Derived.Test.YtkohjiajbdkcbaaDoorCFnCastsWMore
import Derived.Test.YtkohjiajbdkcbaaDoorCFnCastsWN
import Derived.Test.YtkohjiajbdkcbaaDoorCFnCastsWNEv
import Derived.Test.YtkohjiajbdkcbaaDoorCFnCastsWQPut
import Derived.Test.YtkohjiajbdkcbaaDoorCFnCastsWRepsOne
import Derived.Test.YtkohjiajbdkcbaaDoorCFnCastsWShare
import Derived.Test.YtkohjiajbdkcbaaDoorCFnCastsWTab
import Derived.Test.YtkohjiajbdkcbaaDoorCFnCastsWWords
import Derived.Test.YtkohjiajbdkcbaaDoorCFnCastsWZeros
import Derived.Below
import Derived.Deep.Draws
import Derived.Deep.AppendLies
import Derived.Maps.AppendAt
import Derived.OwnWalk
import Derived.Laws.BytesArg
import Derived.Laws.MakeOwn
import Derived.Laws.OwnMore
import Derived.Deep.OwnRows
import Derived.Tactics
import Derived.Lib.ConvBytes
import Derived.Laws.Slices
import Derived.WalkKit
import Derived.KernelRfl
import Derived.RowKit3
import Derived.Deep.LoopGhost
import Derived.Deep.QuietTactic
import Derived.BigQuiet
import Derived.WideLaws
import Derived.Deep.DeepCutAuto
import Derived.Deep.CutBlock
import Derived.Deep.RegionHeld3
import Derived.Laws.Rows
import Derived.Lib.AppendStr
import Derived.ArgAppend
import Derived.Laws.IdiomCopy
import Derived.OrdersHeld
import Derived.Laws.BitsLemmas
import Derived.RowKit
import Derived.Lib.LaidTab
import Derived.Lib.ItoaNum
import Derived.Sort.Grow
import Derived.Shelf.Strconv.Itoa4
import Derived.Shelf.LaysM
import Derived.Shelf.LaysC
import Derived.Shelf.Strconv.Itoa1
import Derived.Shelf.Strconv.ErrVarParseInt
import Derived.Shelf.Strconv.ParseIntPublic10
import Derived.Laws.BitsAllLaws
import Derived.Lib.ItoaLen
import Derived.Lib.ParseIntBCases
import Derived.Deep.Slices
import Derived.ChangeArms
import Derived.OpenShut
import Derived.Stop.LaidErr
import Derived.LaidMore
import Derived.ProofKit
import Derived.ShutString
import Derived.ChangeOld
import Derived.SizedLaws
import Derived.Deep.DeepHandedRow
import Derived.Deep.DeepWitnessRowRef
import Derived.SevenTiedAt
import Derived.Test.YtkohjiajbdkcbaaDoorCFnCasts1
import Derived.Test.YtkohjiajbdkcbaaDoorCFnCasts2
/- Plain laws of ParseWord: the reference's and the program's are one. -/
namespace Go.Proofs.YtkohjiajbdkcbaaDoor.All
open Go.RowKit Go.Proofs.YtkohjiajbdkcbaaDoorW.PrintWords Go.Proofs.YtkohjiajbdkcbaaDoorW.PrintLast Go.Proofs.YtkohjiajbdkcbaaDoorW.PrintMore
set_option linter.unusedVariables false
set_option linter.unusedSimpArgs false
theorem dg_nat {d : Nat} (h : d < 10) : (UInt8.ofNat (48 + d)).toNat = 48 + d := by rw [UInt8.toNat_ofNat']; omega
theorem parseM_app (M : Nat) : ∀ (l1 l2 : List UInt8) (acc : Nat) (a : Nat), Lib.parseUintM M acc l1 = .ok a → Lib.parseUintM M acc (l1 ++ l2) = Lib.parseUintM M a l2
  | [], l2, acc, a, h => by simp only [Lib.parseUintM] at h; injection h with h; subst h; rfl
  | c :: r, l2, acc, a, h => by
    simp only [Lib.parseUintM, List.cons_append] at h ⊢
    split at h
    · rename_i hc
      rw [if_pos hc]
      split at h
      · cases h
      · rename_i h1
        rw [if_neg h1]
        split at h
        · cases h
        · rename_i h2
          rw [if_neg h2]
          exact parseM_app M r l2 _ a h
    · cases h
theorem parseM_dec : ∀ (u : Nat), u < 18446744073709551616 → Lib.parseUintM 18446744073709551615 0 (Lib.decDigits u) = .ok u := by
  intro u
  induction u using Nat.strongRecOn with
  | _ u ih =>
    intro h
    by_cases c : u < 10
    · rw [decDigits_small c]
      simp only [Lib.parseUintM, dg_nat c]
      rw [if_pos (by omega), if_neg (by omega), if_neg (by omega)]
      congr 1; omega
    · rw [decDigits_big c, parseM_app _ _ _ _ _ (ih (u / 10) (by omega) (by omega))]
      have hd := dg_nat (d := u % 10) (by omega)
      simp only [Lib.parseUintM, hd]
      rw [if_pos (by omega), if_neg (by omega), if_neg (by omega)]
      congr 1; omega
theorem dec_digits : ∀ (u : Nat), ∀ c ∈ Lib.decDigits u, 48 ≤ c.toNat ∧ c.toNat ≤ 57 := by
  intro u
  induction u using Nat.strongRecOn with
  | _ u ih =>
    intro c hc
    by_cases h : u < 10
    · rw [decDigits_small h] at hc
      rw [List.mem_singleton.1 hc, dg_nat h]; omega
    · rw [decDigits_big h] at hc
      rcases List.mem_append.1 hc with hc | hc
      · exact ih (u / 10) (by omega) c hc
      · rw [List.mem_singleton.1 hc, dg_nat (by omega)]; omega
theorem dec_ne (u : Nat) : Lib.decDigits u ≠ [] := by
  intro e
  have h1 := Lib.decDigits_length u
  have h2 := Lib.nDigits_pos u
  rw [e] at h1
  simp at h1
  omega
theorem parse_itoa {n : Int} (h0 : -9223372036854775808 ≤ n) (h1 : n ≤ 9223372036854775807) : Lib.parseIntB 64 (Lib.itoa n) = .ok n := by
  have hB : ∀ u : Nat, u < 18446744073709551616 → Lib.parseUintB 64 (Lib.decDigits u) = .ok u := fun u hu => by
    unfold Lib.parseUintB
    rw [if_neg (dec_ne u)]
    exact parseM_dec u hu
  by_cases c : n < 0
  · rw [itoa_neg c, Lib.parseIntB_minus, hB _ (by omega)]
    simp only [Lib.signedC]
    rw [if_neg (by show ¬ (2 ^ 63 < n.natAbs); omega)]
    congr 1; omega
  · rw [itoa_pos (by omega)]
    have hd := dec_digits n.toNat
    cases hl : Lib.decDigits n.toNat with
    | nil => exact absurd hl (dec_ne _)
    | cons x r =>
      have hx := hd x (by rw [hl]; exact List.mem_cons_self ..)
      rw [Lib.parseIntB_plain 64 x r (by omega) (by omega), ← hl, hB _ (by omega)]
      simp only [Lib.signlessC]
      rw [if_neg (by show ¬ (2 ^ 63 ≤ n.toNat); omega)]
      congr 1; omega
/-- What the reference reckons of a text's bytes. -/
def foldS (acc : Int) : List UInt8 → Int
  | [] => acc
  | c :: r => foldS (if (c.toNat : Int) = 45 then acc else (acc * 10 + c.toNat - 48) % 18446744073709551616) r
theorem foldS_app : ∀ (a b : List UInt8) (acc : Int), foldS acc (a ++ b) = foldS (foldS acc a) b
  | [], _, _ => rfl
  | c :: r, b, acc => foldS_app r b _
theorem foldS_dec : ∀ (u : Nat), u < 18446744073709551616 → foldS 0 (Lib.decDigits u) = u := by
  intro u
  induction u using Nat.strongRecOn with
  | _ u ih =>
    intro h
    by_cases c : u < 10
    · rw [decDigits_small c]
      simp only [foldS, dg_nat c]
      rw [if_neg (by omega)]; omega
    · rw [decDigits_big c, foldS_app, ih (u / 10) (by omega) (by omega)]
      have hd := dg_nat (d := u % 10) (by omega)
      simp only [foldS, hd]
      rw [if_neg (by omega)]; omega
theorem foldS_range : ∀ (l : List UInt8) (acc : Int), 0 ≤ acc → acc < 18446744073709551616 → 0 ≤ foldS acc l ∧ foldS acc l < 18446744073709551616
  | [], acc, h0, h1 => ⟨h0, h1⟩
  | c :: r, acc, h0, h1 => by
    simp only [foldS]
    split
    · exact foldS_range r acc h0 h1
    · exact foldS_range r _ (by omega) (by omega)
def wordS (l : List UInt8) : Int := if l.head?.map (·.toNat) = some 45 then (-(foldS 0 l)) % 18446744073709551616 else foldS 0 l
theorem wordS_range (l : List UInt8) : 0 ≤ wordS l ∧ wordS l < 18446744073709551616 := by
  have := foldS_range l 0 (by omega) (by omega)
  unfold wordS
  split <;> omega
theorem wordS_itoa {n : Int} (h0 : -9223372036854775808 ≤ n) (h1 : n ≤ 9223372036854775807) : wordS (Lib.itoa n) = n % 18446744073709551616 := by
  unfold wordS
  by_cases c : n < 0
  · rw [itoa_neg c, if_pos (show ((45 :: Lib.decDigits n.natAbs).head?.map fun x => x.toNat) = some 45 from rfl)]
    have e : foldS 0 (45 :: Lib.decDigits n.natAbs) = foldS 0 (Lib.decDigits n.natAbs) := rfl
    rw [e, foldS_dec _ (by omega)]
    omega
  · rw [itoa_pos (by omega), foldS_dec _ (by omega)]
    have hd := dec_digits n.toNat
    cases hl : Lib.decDigits n.toNat with
    | nil => exact absurd hl (dec_ne _)
    | cons x r =>
      have hx := hd x (by rw [hl]; exact List.mem_cons_self ..)
      rw [if_neg (by simp; omega)]
      omega
theorem bt_at (s : ByteArray) (i : Nat) (h : i < s.data.toList.length) : bt s (i : Int) = ((s.data.toList[i]'h).toNat : Int) := by
  have hs : i < s.size := by simpa using h
  unfold bt
  rw [dif_pos (by simpa using hs)]
  rfl
theorem mod_cut (w n : Int) : n % 18446744073709551616 % pw w = n % pw w := by
  refine Int.emod_emod_of_dvd n ?_
  unfold pw
  repeat' split
  all_goals decide
/-- What both say. -/
def parseW (w : Int) (l : List UInt8) : Bool × Int := if VW w ∧ Lib.itoa (numW w (cutW w (wordS l))) = l then (true, cutW w (wordS l)) else (false, 0)
theorem specParse_f (w : Int) (s : ByteArray) (hs : s.size ≤ 1048576) : Ev (fun k => spec_ParseWord.f k w s) (parseW w s.data.toList) := by
  unfold spec_ParseWord.f
  rw [validS_f]; simp only [Option.bind_some]
  have bad : Ev (fun k => spec_ParseWord.j0 k w s true) (false, 0) := by
    refine Ev.succ ?_
    simp only [spec_ParseWord.j0]
    exact Ev.pos (by trivial) (Ev.now _)
  by_cases hw : VW w
  · rw [decide_eq_true hw]
    refine Ev.pos rfl ?_
    have hlen : s.data.toList.length = s.size := by simp
    by_cases h30 : (s.size : Int) > 30
    · rw [decide_eq_true h30]
      have e : parseW w s.data.toList = (false, 0) := by
        unfold parseW
        rw [if_neg]
        rintro ⟨_, h⟩
        have hc := cutW_range w (wordS s.data.toList)
        have h1 := fmtW_len hc.1 hc.2
        rw [h] at h1
        omega
      rw [e]
      exact bad
    · rw [decide_eq_false h30]
      refine Ev.succ ?_
      simp only [spec_ParseWord.j0]
      refine Ev.neg (by decide) ?_
      have tail : Ev (fun k => spec_ParseWord.j3 k w s (wordS s.data.toList)) (parseW w s.data.toList) := by
        have hr := wordS_range s.data.toList
        refine Ev.succ ?_
        simp only [spec_ParseWord.j3]
        rw [cutS_f hw hr.1 hr.2]
        refine Ev.some_bind ?_
        have hc := cutW_range w (wordS s.data.toList)
        by_cases hn : s.toList = ([] : List UInt8)
        · refine Ev.pos hn (Ev.some ?_)
          unfold parseW
          rw [if_neg]
          rintro ⟨_, h⟩
          rw [ByteArray.toList_eq] at hn
          rw [hn] at h
          unfold Lib.itoa at h
          split at h
          · cases h
          · exact dec_ne _ h
        · refine Ev.neg hn (Ev.bind (fmtS_f hw hc.1 hc.2) ?_)
          have e1 : (fmtW w (cutW w (wordS s.data.toList))).toList = Lib.itoa (numW w (cutW w (wordS s.data.toList))) := bsOf_toList _
          unfold parseW
          by_cases hq : Lib.itoa (numW w (cutW w (wordS s.data.toList))) = s.data.toList
          · refine Ev.pos (by rw [e1, hq, ByteArray.toList_eq]) (Ev.some ?_)
            rw [if_pos ⟨hw, hq⟩]
          · refine Ev.neg (by rw [e1, ByteArray.toList_eq]; exact hq) (Ev.some ?_)
            rw [if_neg (fun h => hq h.2)]
      have loop : ∀ (d i : Nat) (acc : Int), i + d = s.size → 0 ≤ acc → acc < 18446744073709551616 → foldS acc (s.data.toList.drop i) = foldS 0 s.data.toList →
          Ev (fun k => spec_ParseWord.l0 k w s acc (i : Int)) (parseW w s.data.toList) := by
        intro d
        induction d with
        | zero =>
          intro i acc hi h0 h1 hf
          rw [List.drop_of_length_le (by omega)] at hf
          simp only [foldS] at hf
          refine Ev.succ ?_
          simp only [spec_ParseWord.l0]
          refine Ev.neg (by omega) ?_
          have fin : ∀ b : Bool, wordS s.data.toList = (if b = true then (-acc) % 18446744073709551616 else acc) → Ev (fun k => spec_ParseWord.j2 k w s acc b) (parseW w s.data.toList) := by
            intro b hb
            refine Ev.succ ?_
            simp only [spec_ParseWord.j2]
            cases b with
            | true =>
              refine Ev.pos rfl ?_
              rw [IntKind.wrap_u64, show (-acc) % 18446744073709551616 = wordS s.data.toList from by rw [hb]; rfl]
              exact tail
            | false =>
              refine Ev.neg (by decide) ?_
              have hb' : wordS s.data.toList = acc := by rw [hb]; rfl
              rw [← hb']
              exact tail
          by_cases hp : (s.size : Int) > 0
          · refine Ev.pos hp (Ev.pos (by omega) (fin _ ?_))
            have h2 := bt_at s 0 (by omega)
            rw [show ((0 : Nat) : Int) = 0 from rfl] at h2
            unfold wordS
            rw [hf, List.head?_eq_getElem?, List.getElem?_eq_getElem (by omega)]
            rw [h2]
            simp only [Option.map_some, Option.some.injEq, beq_iff_eq]
            congr 1
            rw [eq_iff_iff]; omega
          · refine Ev.neg hp (fin false ?_)
            unfold wordS
            have e : s.data.toList = [] := List.eq_nil_of_length_eq_zero (by omega)
            rw [e] at hf ⊢
            simp only [foldS] at hf ⊢
            simp
            omega
        | succ d ih =>
          intro i acc hi h0 h1 hf
          have hl : i < s.data.toList.length := by omega
          refine Ev.succ ?_
          simp only [spec_ParseWord.l0]
          refine Ev.pos (by omega) (Ev.pos (by omega) ?_)
          rw [bt_at s i hl, wrap64_nat (by omega)]
          rw [List.drop_eq_getElem_cons hl] at hf
          simp only [foldS] at hf
          by_cases hc : ((s.data.toList[i]'hl).toNat : Int) = 45
          · rw [if_pos hc] at hf
            exact Ev.pos hc (ih (i + 1) acc (by omega) h0 h1 hf)
          · rw [if_neg hc] at hf
            refine Ev.neg hc ?_
            have e : IntKind.u64.wrap (IntKind.u64.wrap (IntKind.u64.wrap (acc * 10) + IntKind.u64.wrap ((s.data.toList[i]'hl).toNat : Int)) - 48) = (acc * 10 + ((s.data.toList[i]'hl).toNat : Int) - 48) % 18446744073709551616 := by
              simp only [IntKind.wrap_u64]; omega
            rw [e]
            exact ih (i + 1) _ (by omega) (by omega) (by omega) hf
      exact loop s.size 0 0 (by omega) (by omega) (by omega) (by rw [List.drop_zero])
  · rw [decide_eq_false hw]
    refine Ev.neg (by decide) ?_
    have e : parseW w s.data.toList = (false, 0) := by unfold parseW; rw [if_neg (fun h => hw h.1)]
    rw [e]
    exact bad
theorem implParse_f (w : Int) (s : ByteArray) (hs : s.size ≤ 1048576) : impl_ParseWord.f w s = some (parseW w s.data.toList) := by
  unfold impl_ParseWord.f
  rw [validI_f]; simp only [Option.bind_some]
  by_cases hw : VW w
  · rw [if_pos (decide_eq_true hw), if_pos (by omega)]
    have canon : ∀ c, 0 ≤ c → c < pw w → Lib.itoa (numW w c) = s.data.toList → Lib.parseIntB 64 s.data.toList = .ok (numW w c) ∧ cutW w (wordS s.data.toList) = c := by
      intro c h0 h1 he
      have hr := numW_range h0 h1
      rw [← he, parse_itoa hr.1 hr.2, wordS_itoa hr.1 hr.2]
      refine ⟨rfl, ?_⟩
      unfold cutW
      rw [mod_cut, numW_mod h0 h1]
    have hc := cutW_range w (wordS s.data.toList)
    unfold parseW
    by_cases hq : Lib.itoa (numW w (cutW w (wordS s.data.toList))) = s.data.toList
    · obtain ⟨h1, _⟩ := canon _ hc.1 hc.2 hq
      rw [if_pos ⟨hw, hq⟩, h1]
      simp only
      have e : cutW w (IntKind.u64.wrap (numW w (cutW w (wordS s.data.toList)))) = cutW w (wordS s.data.toList) := by
        rw [IntKind.wrap_u64]
        show _ % _ % pw w = _
        rw [mod_cut, numW_mod hc.1 hc.2]
      rw [cutI_f hw (by rw [IntKind.wrap_u64]; omega) (by rw [IntKind.wrap_u64]; omega), e]; simp only [Option.bind_some]
      rw [fmtI_f hw hc.1 hc.2]; simp only [Option.bind_some]
      rw [if_pos (by rw [ByteArray.toList_eq s]; exact (bsOf_toList _).trans hq)]
    · rw [if_neg (fun h => hq h.2)]
      cases hp : Lib.parseIntB 64 s.data.toList with
      | ok v =>
        simp only
        rw [cutI_f hw (by rw [IntKind.wrap_u64]; omega) (by rw [IntKind.wrap_u64]; omega)]; simp only [Option.bind_some]
        have hc2 := cutW_range w (IntKind.u64.wrap v)
        rw [fmtI_f hw hc2.1 hc2.2]; simp only [Option.bind_some]
        rw [if_neg]
        intro he
        rw [ByteArray.toList_eq s] at he
        have he2 : Lib.itoa (numW w (cutW w (IntKind.u64.wrap v))) = s.data.toList := (bsOf_toList _).symm.trans he
        obtain ⟨_, h2⟩ := canon _ hc2.1 hc2.2 he2
        rw [h2] at hq
        exact hq he2
      | range => rfl
      | _ => rfl
  · rw [if_neg (by simpa using hw)]
    unfold parseW
    rw [if_neg (fun h => hw h.1)]
end Go.Proofs.YtkohjiajbdkcbaaDoor.All


/- Plain laws of casts and of the words that the laws draw. -/
namespace Go.Proofs.YtkohjiajbdkcbaaDoor.All
open Go.RowKit Go.Proofs.YtkohjiajbdkcbaaDoorW.PrintWords Go.Proofs.YtkohjiajbdkcbaaDoorW.PrintLast Go.Proofs.YtkohjiajbdkcbaaDoorW.PrintMore
set_option linter.unusedVariables false
set_option linter.unusedSimpArgs false
theorem castZ {a b v : Int} (ha : VW a) (hb : VW b) (hab : a < b) (h0 : 0 ≤ v) (h1 : v < pw a) : Ev (fun k => impl_Cast.f k 16 a b v) (0, v) := by
  have hp := pw_pos a
  unfold impl_Cast.f
  refine Ev.eq_bind (isI_f h0 (by omega)) (Ev.pos (decide_eq_true ⟨ha, h1⟩) (Ev.eq_bind (validI_f b) ?_))
  rw [decide_eq_true hb]
  refine Ev.succ ?_
  simp only [impl_Cast.j0]
  refine Ev.neg (by decide) (Ev.pos trivial ?_)
  rw [decide_eq_true (show b > a from hab)]
  refine Ev.succ ?_
  simp only [impl_Cast.j1]
  exact Ev.pos trivial (Ev.now _)
theorem castS {a b v : Int} (ha : VW a) (hb : VW b) (hab : a < b) (h0 : 0 ≤ v) (h1 : v < pw a) : Ev (fun k => impl_Cast.f k 17 a b v) (0, cutW b (sgnW a v % 18446744073709551616)) := by
  have hp := pw_pos a
  unfold impl_Cast.f
  refine Ev.eq_bind (isI_f h0 (by omega)) (Ev.pos (decide_eq_true ⟨ha, h1⟩) (Ev.eq_bind (validI_f b) ?_))
  rw [decide_eq_true hb]
  refine Ev.succ ?_
  simp only [impl_Cast.j0]
  refine Ev.neg (by decide) (Ev.neg (by decide) (Ev.succ ?_))
  simp only [impl_Cast.j1]
  refine Ev.neg (by decide) (Ev.pos trivial ?_)
  rw [decide_eq_true (show b > a from hab)]
  refine Ev.succ ?_
  simp only [impl_Cast.j2]
  refine Ev.pos trivial (Ev.eq_bind (sgnI_f ha h0 h1) ?_)
  rw [IntKind.wrap_u64]
  exact Ev.eq_bind (cutI_f hb (Int.emod_nonneg _ (by decide)) (Int.emod_lt_of_pos _ (by decide))) (Ev.now _)
theorem castT {a b v : Int} (ha : VW a) (hb : VW b) (hab : b < a) (h0 : 0 ≤ v) (h1 : v < pw a) : Ev (fun k => impl_Cast.f k 18 a b v) (0, cutW b v) := by
  have hp := pw_pos a
  unfold impl_Cast.f
  refine Ev.eq_bind (isI_f h0 (by omega)) (Ev.pos (decide_eq_true ⟨ha, h1⟩) (Ev.eq_bind (validI_f b) ?_))
  rw [decide_eq_true hb]
  refine Ev.succ ?_
  simp only [impl_Cast.j0]
  refine Ev.neg (by decide) (Ev.neg (by decide) (Ev.succ ?_))
  simp only [impl_Cast.j1]
  refine Ev.neg (by decide) (Ev.neg (by decide) (Ev.succ ?_))
  simp only [impl_Cast.j2]
  exact Ev.neg (by decide) (Ev.pos trivial (Ev.pos hab (Ev.eq_bind (cutI_f hb h0 (by omega)) (Ev.now _))))
theorem castT_no {a b v : Int} (ha : VW a) (hb : VW b) (hab : a < b) (h0 : 0 ≤ v) (h1 : v < pw a) : Ev (fun k => impl_Cast.f k 18 a b v) (3, 0) := by
  have hp := pw_pos a
  unfold impl_Cast.f
  refine Ev.eq_bind (isI_f h0 (by omega)) (Ev.pos (decide_eq_true ⟨ha, h1⟩) (Ev.eq_bind (validI_f b) ?_))
  rw [decide_eq_true hb]
  refine Ev.succ ?_
  simp only [impl_Cast.j0]
  refine Ev.neg (by decide) (Ev.neg (by decide) (Ev.succ ?_))
  simp only [impl_Cast.j1]
  refine Ev.neg (by decide) (Ev.neg (by decide) (Ev.succ ?_))
  simp only [impl_Cast.j2]
  exact Ev.neg (by decide) (Ev.pos trivial (Ev.neg (by omega) (Ev.now _)))
theorem castZ_no {a b v : Int} (ha : VW a) (hb : VW b) (hab : b < a) (h0 : 0 ≤ v) (h1 : v < pw a) : Ev (fun k => impl_Cast.f k 16 a b v) (3, 0) := by
  have hp := pw_pos a
  unfold impl_Cast.f
  refine Ev.eq_bind (isI_f h0 (by omega)) (Ev.pos (decide_eq_true ⟨ha, h1⟩) (Ev.eq_bind (validI_f b) ?_))
  rw [decide_eq_true hb]
  refine Ev.succ ?_
  simp only [impl_Cast.j0]
  refine Ev.neg (by decide) (Ev.pos trivial ?_)
  rw [decide_eq_false (show ¬ b > a by omega)]
  refine Ev.succ ?_
  simp only [impl_Cast.j1]
  refine Ev.neg (by decide) (Ev.neg (by decide) (Ev.succ ?_))
  simp only [impl_Cast.j2]
  exact Ev.neg (by decide) (Ev.neg (by decide) (Ev.now _))
theorem cut_cut {a b v : Int} (ha : VW a) (hb : VW b) (hab : a < b) : cutW a (cutW b v) = cutW a v := by
  unfold cutW
  refine Int.emod_emod_of_dvd v ?_
  rcases ha with rfl | rfl | rfl | rfl | rfl <;> rcases hb with rfl | rfl | rfl | rfl | rfl <;> first | (exfalso; omega) | (exact ⟨_, by kernel_rfl⟩) | decide
theorem digit_only {n : Int} : ∀ c ∈ Lib.itoa n, c ≠ 32 := by
  intro c hc e
  subst e
  unfold Lib.itoa at hc
  split at hc
  · rcases List.mem_cons.1 hc with h | h
    · cases h
    · have := dec_digits _ _ h; simp at this
  · have := dec_digits _ _ hc; simp at this
end Go.Proofs.YtkohjiajbdkcbaaDoor.All


/- Plain laws of what the laws draw out of bytes: lwAt, lwWidth, lwWord. -/
namespace Go.Proofs.YtkohjiajbdkcbaaDoor.All
open Go.RowKit Go.Proofs.YtkohjiajbdkcbaaDoorW.PrintWords Go.Proofs.YtkohjiajbdkcbaaDoorW.PrintLast Go.Proofs.YtkohjiajbdkcbaaDoorW.PrintMore
set_option linter.unusedVariables false
set_option linter.unusedSimpArgs false
theorem tmod_pos {x m : Int} (hx : 0 ≤ x) (hm : 0 < m) : 0 ≤ Int.tmod x m ∧ Int.tmod x m < m := by
  rw [Int.tmod_eq_emod_of_nonneg hx]
  exact ⟨Int.emod_nonneg _ (by omega), Int.emod_lt_of_pos _ hm⟩
theorem rd_byte {l : List Int} (hb : ∀ y ∈ l, 0 ≤ y ∧ y ≤ 255) (i : Int) : 0 ≤ rd l i ∧ rd l i ≤ 255 := by
  unfold rd
  rcases Nat.lt_or_ge i.toNat l.length with h | h
  · rw [getD_eq h]; exact hb _ (List.getElem_mem h)
  · rw [List.getD_eq_getElem?_getD, List.getElem?_eq_none h]; exact ⟨by decide, by decide⟩
theorem lwAt_f (l : List Int) (a m : Int) (hl : l.length ≤ 1048576) (hb : ∀ y ∈ l, 0 ≤ y ∧ y ≤ 255) (h0 : 0 ≤ a) (h1 : a ≤ 1000) (hm : m ≤ 256) : ∃ v, laws_lwAt.f l a m = some v ∧ 0 ≤ v ∧ (m ≤ 1 → v = 0) ∧ (1 < m → v < m) := by
  unfold laws_lwAt.f
  by_cases c : m ≤ 1
  · rw [if_pos c]; exact ⟨0, rfl, by decide, fun _ => rfl, fun h => by omega⟩
  rw [if_neg c]
  have hw7 : wrap64 (a * 7) = a * 7 := wrap64_id (by omega) (by omega)
  by_cases c0 : (l.length : Int) = 0
  · rw [if_pos c0, if_neg (by omega), hw7]
    have h := tmod_pos (x := a * 7) (m := m) (by omega) (by omega)
    exact ⟨_, rfl, h.1, fun h => by omega, fun _ => h.2⟩
  rw [if_neg c0]
  have hp := tmod_pos (x := a) (m := (l.length : Int)) h0 (by omega)
  rw [if_pos hp.1, if_pos hp.2]
  have hr := rd_byte hb (Int.tmod a (l.length : Int))
  have hd : 0 ≤ Int.tdiv a (l.length : Int) ∧ Int.tdiv a (l.length : Int) ≤ a := by
    rw [Int.tdiv_eq_ediv_of_nonneg h0]
    exact ⟨Int.ediv_nonneg h0 (by omega), Int.ediv_le_self _ h0⟩
  generalize Int.tdiv a (l.length : Int) = q at hd ⊢
  generalize rd l (Int.tmod a (l.length : Int)) = x at hr ⊢
  have e1 : wrap64 (wrap64 x + wrap64 (wrap64 q * 3)) = x + q * 3 := by
    rw [wrap64_id (x := x) (by omega) (by omega), wrap64_id (x := q) (by omega) (by omega), wrap64_id (x := q * 3) (by omega) (by omega), wrap64_id (by omega) (by omega)]
  rw [e1]
  by_cases c2 : m > 200
  · have ha : wrap64 (a + 1) = a + 1 := wrap64_id (by omega) (by omega)
    have hp2 := tmod_pos (x := a + 1) (m := (l.length : Int)) (by omega) (by omega)
    have hr2 := rd_byte hb (Int.tmod (a + 1) (l.length : Int))
    rw [if_pos c2, ha, if_pos hp2.1, if_pos hp2.2, if_neg (by omega)]
    generalize rd l (Int.tmod (a + 1) (l.length : Int)) = y at hr2 ⊢
    have e2 : wrap64 (wrap64 ((x + q * 3) * 251) + wrap64 y) = (x + q * 3) * 251 + y := by
      rw [wrap64_id (x := (x + q * 3) * 251) (by omega) (by omega), wrap64_id (x := y) (by omega) (by omega), wrap64_id (by omega) (by omega)]
    rw [e2]
    have h := tmod_pos (x := (x + q * 3) * 251 + y) (m := m) (by omega) (by omega)
    exact ⟨_, rfl, h.1, fun h => by omega, fun _ => h.2⟩
  · rw [if_neg c2, if_neg (by omega)]
    have h := tmod_pos (x := x + q * 3) (m := m) (by omega) (by omega)
    exact ⟨_, rfl, h.1, fun h => by omega, fun _ => h.2⟩
theorem lwWidth_f {k : Int} (h0 : 0 ≤ k) (h1 : k < 5) : laws_lwWidth.f k = some (rd [1, 8, 16, 32, 64] k) := by
  unfold laws_lwWidth.f
  rw [Option.bind_some, if_pos h0, if_pos (show k < (([1, 8, 16, 32, 64] : List Int).length : Int) from h1)]
theorem mask_w {w x : Int} (h : VW w) (hw : w < 64) (h0 : 0 ≤ x) (h1 : x < 18446744073709551616) : 0 ≤ IntKind.u64.wrap w ∧ Go.bits .and .u64 x (IntKind.u64.wrap ((shl .u64 1 (IntKind.u64.wrap w)) - 1)) = cutW w x := by
  have e : IntKind.u64.wrap ((shl .u64 1 (IntKind.u64.wrap w)) - 1) = pw w - 1 := by
    rcases h with rfl | rfl | rfl | rfl | rfl <;> first | (exfalso; omega) | kernel_rfl
  rw [e]
  refine ⟨?_, and_mask h h0 h1⟩
  rw [IntKind.wrap_u64]
  exact Int.emod_nonneg _ (by decide)
theorem or_range {x y : Int} (hx : 0 ≤ x ∧ x < 18446744073709551616) (hy : 0 ≤ y ∧ y < 18446744073709551616) : 0 ≤ Go.bits .or .u64 x y ∧ Go.bits .or .u64 x y < 18446744073709551616 := by
  obtain ⟨n, rfl⟩ : ∃ n : Nat, x = (n : Int) := ⟨x.toNat, by omega⟩
  obtain ⟨m, rfl⟩ : ∃ m : Nat, y = (m : Int) := ⟨y.toNat, by omega⟩
  rw [u64_or_nat n m (by omega) (by omega)]
  have h : n ||| m < 2 ^ 64 := Nat.or_lt_two_pow (by omega) (by omega)
  omega
theorem wrapU (x : Int) : 0 ≤ IntKind.u64.wrap x ∧ IntKind.u64.wrap x < 18446744073709551616 := by
  rw [IntKind.wrap_u64]
  exact ⟨Int.emod_nonneg _ (by decide), Int.emod_lt_of_pos _ (by decide)⟩
theorem lwLoop_f (l : List Int) (a w : Int) (hl : l.length ≤ 1048576) (hb : ∀ y ∈ l, 0 ≤ y ∧ y ≤ 255) (h0 : 0 ≤ a) (h1 : a ≤ 100) (hw : VW w) : ∀ (d i : Nat) (x : Int), d + i = 8 → 0 ≤ x → x < 18446744073709551616 → ∃ v, Ev (fun k => laws_lwWord.l0 k l a w x (i : Int)) v ∧ 0 ≤ v ∧ v < pw w
  | 0, i, x, h, hx0, hx1 => by
    by_cases c : w < 64
    · obtain ⟨m0, m1⟩ := mask_w hw c hx0 hx1
      refine ⟨cutW w x, Ev.succ ?_, (cutW_range w x).1, (cutW_range w x).2⟩
      simp only [laws_lwWord.l0]
      rw [m1]
      exact Ev.neg (by omega) (Ev.pos c (Ev.pos m0 (Ev.now _)))
    · have e : w = 64 := by unfold VW at hw; omega
      subst e
      refine ⟨x, Ev.succ ?_, hx0, hx1⟩
      simp only [laws_lwWord.l0]
      exact Ev.neg (by omega) (Ev.neg (by decide) (Ev.now _))
  | d + 1, i, x, h, hx0, hx1 => by
    have e1 : wrap64 (wrap64 (a + 1) + (i : Int)) = a + 1 + i := by rw [wrap64_id (x := a + 1) (by omega) (by omega), wrap64_id (by omega) (by omega)]
    obtain ⟨t, ht, _⟩ := lwAt_f l (a + 1 + i) 256 hl hb (by omega) (by omega) (by decide)
    have hr := or_range (wrapU (x * 256)) (wrapU t)
    obtain ⟨v, hv, hv2⟩ := lwLoop_f l a w hl hb h0 h1 hw d (i + 1) _ (by omega) hr.1 hr.2
    refine ⟨v, Ev.succ ?_, hv2⟩
    simp only [laws_lwWord.l0]
    rw [e1, wrap64_nat (by omega)]
    exact Ev.pos (by omega) (Ev.eq_bind ht hv)
theorem lwWord_f (l : List Int) (a w : Int) (hl : l.length ≤ 1048576) (hb : ∀ y ∈ l, 0 ≤ y ∧ y ≤ 255) (h0 : 0 ≤ a) (h1 : a ≤ 100) (hw : VW w) : ∃ v, Ev (fun k => laws_lwWord.f k l a w) v ∧ 0 ≤ v ∧ v < pw w := by
  have e1 : wrap64 (a + 1) = a + 1 := wrap64_id (by omega) (by omega)
  obtain ⟨t, ht, _⟩ := lwAt_f l a 5 hl hb h0 (by omega) (by decide)
  obtain ⟨t7, ht7, _⟩ := lwAt_f l (a + 1) 7 hl hb (by omega) (by omega) (by decide)
  obtain ⟨t3, ht3, _⟩ := lwAt_f l (a + 1) 3 hl hb (by omega) (by omega) (by decide)
  unfold laws_lwWord.f
  rw [e1]
  have fin : ∀ x : Int, ∃ v, Ev (fun _ : Nat => if w < 64 then (if 0 ≤ IntKind.u64.wrap w then some (Go.bits .and .u64 (IntKind.u64.wrap x) (IntKind.u64.wrap ((shl .u64 1 (IntKind.u64.wrap w)) - 1))) else none) else some (IntKind.u64.wrap x)) v ∧ 0 ≤ v ∧ v < pw w := by
    intro x
    have hx := wrapU x
    by_cases c : w < 64
    · obtain ⟨m0, m1⟩ := mask_w hw c hx.1 hx.2
      refine ⟨cutW w (IntKind.u64.wrap x), ?_, (cutW_range w _).1, (cutW_range w _).2⟩
      rw [m1]
      exact Ev.pos c (Ev.pos m0 (Ev.now _))
    · have e : w = 64 := by unfold VW at hw; omega
      subst e
      exact ⟨_, Ev.neg (by decide) (Ev.now _), hx.1, hx.2⟩
  by_cases c0 : t = 0
  · obtain ⟨v, hv, hv2⟩ := fin t7
    exact ⟨v, Ev.eq_bind ht (Ev.pos c0 (Ev.eq_bind ht7 hv)), hv2⟩
  by_cases c1 : t = 1
  · obtain ⟨v, hv, hv2⟩ := fin (-(IntKind.u64.wrap t7))
    exact ⟨v, Ev.eq_bind ht (Ev.neg c0 (Ev.pos c1 (Ev.eq_bind ht7 hv))), hv2⟩
  by_cases c2 : t = 2
  · obtain ⟨v, hv, hv2⟩ := fin ((IntKind.u64.wrap ((shl .u64 1 (IntKind.u64.wrap (wrap64 (w - 1)))) - (IntKind.u64.wrap t3))) + 1)
    exact ⟨v, Ev.eq_bind ht (Ev.neg c0 (Ev.neg c1 (Ev.pos c2 (Ev.pos (wrapU _).1 (Ev.eq_bind ht3 hv))))), hv2⟩
  · obtain ⟨v, hv, hv2⟩ := lwLoop_f l a w hl hb h0 h1 hw 8 0 0 rfl (by decide) (by decide)
    exact ⟨v, Ev.eq_bind ht (Ev.neg c0 (Ev.neg c1 (Ev.neg c2 hv))), hv2⟩
end Go.Proofs.YtkohjiajbdkcbaaDoor.All


/- What reads as data of a type can be read as a value of its kind. -/
namespace Go.Proofs.YtkohjiajbdkcbaaDoor.All
open Go.RowKit Go.Proofs.YtkohjiajbdkcbaaDoorW.PrintWords Go.Proofs.YtkohjiajbdkcbaaDoorW.PrintLast Go.Proofs.YtkohjiajbdkcbaaDoorW.PrintMore
set_option linter.unusedVariables false
set_option linter.unusedSimpArgs false
structure Rdb {α : Type} (d : Kd α) (P : Program) (t : TypeId) (ok : α → Prop) : Prop where
  sz : P.cellsOf t = d.sz
  rd : ∀ {H : Type} {enc : TypeId × Value → H} {w : World} {base : Nat} {sp : Nat → Bool} {held : Bool} {fuel : Nat} {cs : List Value} {x : DataW H × List MemPlace}, DataW.trod enc P w base sp held fuel t cs = some x → ∃ a, d.K w a cs ∧ ok a
theorem Rdb.int {P : Program} {t : TypeId} {k : IntKind} (ht : P.underlying t = some (.int k)) (hs : P.cellsOf t = 1) : Rdb (Kd.int k) P t (fun a => (Lit.int k a).wf = true) :=
  ⟨hs, fun h => by obtain ⟨n, rfl, _, hw⟩ := DataW.trod_int ht h; exact ⟨n, rfl, hw⟩⟩
theorem Rdb.bool {P : Program} {t : TypeId} (ht : P.underlying t = some .bool) (hs : P.cellsOf t = 1) : Rdb Kd.bool P t (fun _ => True) :=
  ⟨hs, fun h => by obtain ⟨b, rfl, _⟩ := DataW.trod_bool ht h; exact ⟨b, rfl, trivial⟩⟩
theorem Rdb.string {P : Program} {t : TypeId} (ht : P.underlying t = some .string) (hs : P.cellsOf t = 1) : Rdb Kd.string P t (fun s => s.size ≤ 9223372036854775807) :=
  ⟨hs, fun h => by obtain ⟨s, rfl, _, hm⟩ := DataW.trod_string ht h; exact ⟨s, rfl, hm⟩⟩
theorem rdb_list {α : Type} {P : Nat → α → Prop} : ∀ n : Nat, (∀ j, j < n → ∃ x, P j x) → ∃ l : List α, l.length = n ∧ ∀ (j : Nat) (x : α), l[j]? = some x → P j x
  | 0, _ => ⟨[], rfl, fun j x h => by simp at h⟩
  | n + 1, h => by
    obtain ⟨l, hl, hp⟩ := rdb_list n (fun j hj => h j (by omega))
    obtain ⟨x, hx⟩ := h n (by omega)
    refine ⟨l ++ [x], by simp [hl], fun j y hy => ?_⟩
    by_cases hj : j < n
    · rw [List.getElem?_append_left (by omega)] at hy
      exact hp j y hy
    · have hlt := (List.getElem?_eq_some_iff.1 hy).1
      simp [hl] at hlt
      have : j = n := by omega
      subst this
      rw [List.getElem?_append_right (by omega)] at hy
      simp [hl] at hy
      subst hy
      exact hx
theorem Rdb.slice {α : Type} {d : Kd α} {P : Program} {t e : TypeId} {ok : α → Prop} (ht : P.underlying t = some (.slice e)) (hs : P.cellsOf t = 1) (h : Rdb d P e ok) : Rdb (Kd.slice e d) P t (fun xs => xs.length ≤ 9223372036854775807 ∧ ∀ x ∈ xs, ok x) := by
  refine ⟨hs, fun {H enc w base sp held fuel cs x} hx => ?_⟩
  rcases Deep.open_slice ht hx with ⟨rfl, _⟩ | ⟨a, len, cap, m, n, D, Pl, rfl, hb, hl, hm, hmm, _, hel⟩
  · exact ⟨[], ⟨none, 0, rfl, Nat.le_refl _, rfl, by simp, fun h0 => by simp at h0⟩, by simp, fun x hx => by simp at hx⟩
  · have hmax : len ≤ 9223372036854775807 := Nat.le_trans hl hm
    have hlm : len ≤ m := by rw [hmm]; split <;> omega
    obtain ⟨xs, hlen, hxs⟩ := rdb_list (P := fun j (x : α) => ok x ∧ ∃ c, c.length = d.sz ∧ d.K w x c ∧ ∀ (i : Nat) (u : Value), c[i]? = some u → w.cell? (a.add (j * d.sz + i)) = some u) len (fun j hj => by
      obtain ⟨cs', hc, htr⟩ := hel j (by omega)
      obtain ⟨x, hK, hok⟩ := h.rd htr
      obtain ⟨_, hcl, hcc⟩ := World.cells?_some hc
      rw [h.sz] at hcl hcc
      refine ⟨x, hok, cs', hcl, hK, fun i u hu => ?_⟩
      have hi := (List.getElem?_eq_some_iff.1 hu).1
      have := hcc i (by omega)
      rw [Addr.add_add] at this
      exact this.trans hu)
    refine ⟨xs, ⟨some a, cap, by rw [hlen], by omega, rfl, by omega, fun _ => ⟨a, rfl, fun j p hj => (hxs j p hj).2⟩⟩, by omega, fun x hx => ?_⟩
    obtain ⟨j, hj⟩ := List.getElem?_of_mem hx
    exact (hxs j x hj).1
/-- The fields of a struct (types and places) from cell 'off' on. -/
structure RdbFs {α : Type} (d : Kd α) (P : Program) (fs : List (TypeId × Nat)) (off : Nat) (ok : α → Prop) : Prop where
  rd : ∀ {H : Type} {enc : TypeId × Value → H} {w : World} {base : Nat} {sp : Nat → Bool} {held : Bool} {n : Nat} {cs : List Value}, cs.length = off + d.sz →
    (∀ f ∈ fs, ∃ x, DataW.trod enc P w base sp held n f.1 ((cs.drop f.2).take (P.cellsOf f.1)) = some x) → ∃ a, d.K w a (cs.drop off) ∧ ok a
theorem RdbFs.one {α : Type} {d : Kd α} {P : Program} {t : TypeId} {off : Nat} {ok : α → Prop} (h : Rdb d P t ok) : RdbFs d P [(t, off)] off ok := by
  refine ⟨fun {H enc w base sp held n cs} hl hf => ?_⟩
  obtain ⟨x, hx⟩ := hf (t, off) (by simp)
  simp only at hx
  rw [h.sz, List.take_of_length_le (by rw [List.length_drop]; omega)] at hx
  exact h.rd hx
theorem RdbFs.cons {α β : Type} {a : Kd α} {b : Kd β} {P : Program} {t : TypeId} {fs : List (TypeId × Nat)} {off off' : Nat} {ok : α → Prop} {ok' : β → Prop} (ho : off + a.sz = off') (h : Rdb a P t ok) (hs : RdbFs b P fs off' ok') : RdbFs (Kd.pair a b) P ((t, off) :: fs) off (fun x => ok x.1 ∧ ok' x.2) := by
  subst ho
  refine ⟨fun {H enc w base sp held n cs} hl hf => ?_⟩
  have hl' : cs.length = off + a.sz + b.sz := by rw [hl]; show off + (a.sz + b.sz) = _; omega
  obtain ⟨x, hx⟩ := hf (t, off) (by simp)
  simp only at hx
  rw [h.sz] at hx
  obtain ⟨y, hy, oky⟩ := h.rd hx
  obtain ⟨z, hz, okz⟩ := hs.rd hl' (fun g hg => hf g (by simp [hg]))
  refine ⟨(y, z), ⟨(cs.drop off).take a.sz, cs.drop (off + a.sz), ?_, hy, hz⟩, oky, okz⟩
  rw [← List.drop_drop, List.take_append_drop]
theorem Rdb.struct {α : Type} {d : Kd α} {P : Program} {t : TypeId} {fs : Array Field} {ok : α → Prop} (ht : P.underlying t = some (.struct fs)) (hs : P.cellsOf t = d.sz) (tos : List (TypeId × Nat)) (htos : fs.toList.map (fun f => (f.type, f.offset)) = tos) (h : RdbFs d P tos 0 ok) : Rdb d P t ok := by
  subst htos
  refine ⟨hs, fun hx => ?_⟩
  obtain ⟨xs, n, rfl, rfl, hl, hxl, hf⟩ := DataW.trod_struct ht hx
  have := h.rd (n := n) (by rw [hl, hs, Nat.zero_add]) (fun f hfm => by
    obtain ⟨f', hf', rfl⟩ := List.mem_map.1 hfm
    obtain ⟨i, hi⟩ := List.getElem?_of_mem hf'
    rw [Array.getElem?_toList] at hi
    have h1 := hf i f' hi
    have hlt : i < xs.length := by rw [hxl]; exact (Array.getElem?_eq_some_iff.1 hi).1
    exact ⟨xs[i], by rw [h1, List.getElem?_eq_getElem hlt]⟩)
  simpa using this
end Go.Proofs.YtkohjiajbdkcbaaDoor.All


/- How the laws' arguments read. Printed by gen_row.py. -/
namespace Go.Proofs.YtkohjiajbdkcbaaDoor.All
open Go.RowKit Go.Proofs.YtkohjiajbdkcbaaDoorW.PrintWords
set_option linter.unusedVariables false
end Go.Proofs.YtkohjiajbdkcbaaDoor.All


/- FnCasts: the printed law is true of all arguments. -/
namespace Go.Proofs.YtkohjiajbdkcbaaDoor.Pure
open Go.Proofs.YtkohjiajbdkcbaaDoor.All
open Go.RowKit Go.Proofs.YtkohjiajbdkcbaaDoorW.PrintWords Go.Proofs.YtkohjiajbdkcbaaDoorW.PrintLast Go.Proofs.YtkohjiajbdkcbaaDoorW.PrintMore
set_option linter.unusedVariables false
set_option linter.unusedSimpArgs false
theorem widths {k j : Int} (h0 : 0 ≤ k) (h1 : k < 4) (g0 : 0 ≤ j) (g1 : k + 1 + j ≤ 4) : ∃ a b, laws_lwWidth.f k = some a ∧ laws_lwWidth.f (k + 1 + j) = some b ∧ VW a ∧ VW b ∧ a < b := by
  rw [lwWidth_f h0 (by omega), lwWidth_f (k := k + 1 + j) (by omega) (by omega)]
  refine ⟨_, _, rfl, rfl, ?_⟩
  obtain rfl | rfl | rfl | rfl : k = 0 ∨ k = 1 ∨ k = 2 ∨ k = 3 := by omega
  · obtain rfl | rfl | rfl | rfl : j = 0 ∨ j = 1 ∨ j = 2 ∨ j = 3 := by omega
    all_goals (unfold VW; decide)
  · obtain rfl | rfl | rfl : j = 0 ∨ j = 1 ∨ j = 2 := by omega
    all_goals (unfold VW; decide)
  · obtain rfl | rfl : j = 0 ∨ j = 1 := by omega
    all_goals (unfold VW; decide)
  · obtain rfl : j = 0 := by omega
    unfold VW; decide
theorem sext {a b v : Int} (ha : VW a) (hb : VW b) (hab : a < b) (h0 : 0 ≤ v) (h1 : v < pw a) : sgnW b (cutW b (sgnW a v % 18446744073709551616)) = sgnW a v ∧ cutW a (cutW b (sgnW a v % 18446744073709551616)) = v ∧ v < pw b := by
  have hc : cutW a (cutW b (sgnW a v % 18446744073709551616)) = v := by
    rw [cut_cut ha hb hab]
    unfold cutW
    rw [mod_cut, sgnW_mod h0 h1]
  refine ⟨?_, hc, ?_⟩
  · unfold cutW
    rw [mod_cut]
    unfold sgnW
    rcases ha with rfl | rfl | rfl | rfl | rfl <;> rcases hb with rfl | rfl | rfl | rfl | rfl <;> first | (exfalso; omega) | (simp only [show pw 1 = 2 from rfl, show pw 8 = 256 from rfl, show pw 16 = 65536 from rfl, show pw 32 = 4294967296 from rfl, show pw 64 = 18446744073709551616 from rfl] at h1 ⊢; split <;> split <;> omega)
  · rcases ha with rfl | rfl | rfl | rfl | rfl <;> rcases hb with rfl | rfl | rfl | rfl | rfl <;> first | (exfalso; omega) | (simp only [show pw 1 = 2 from rfl, show pw 8 = 256 from rfl, show pw 16 = 65536 from rfl, show pw 32 = 4294967296 from rfl, show pw 64 = 18446744073709551616 from rfl] at h1 ⊢; omega)
theorem parse_fmt {w v : Int} (h : VW w) (h0 : 0 ≤ v) (h1 : v < pw w) : parseW w (Lib.itoa (numW w v)) = (true, v) := by
  have hr := numW_range h0 h1
  have e : cutW w (wordS (Lib.itoa (numW w v))) = v := by
    rw [wordS_itoa hr.1 hr.2]
    unfold cutW
    rw [mod_cut, numW_mod h0 h1]
  unfold parseW
  rw [e, if_pos ⟨h, rfl⟩]
theorem parse_sp (w : Int) (l : List UInt8) : parseW w (l ++ [32]) = (false, 0) := by
  unfold parseW
  refine if_neg (fun h => ?_)
  have h2 : (32 : UInt8) ∈ Lib.itoa (numW w (cutW w (wordS (l ++ [32])))) := by rw [h.2]; simp
  exact digit_only _ h2 rfl
theorem dec_head0 : ∀ (u : Nat) (l : List UInt8), Lib.decDigits u = 48 :: l → u = 0 := by
  intro u
  induction u using Nat.strongRecOn with
  | _ u ih =>
    intro l h
    by_cases c : u < 10
    · rw [decDigits_small c] at h
      injection h with h1 _
      have h2 := congrArg UInt8.toNat h1
      rw [dg_nat c] at h2
      have : (48 : UInt8).toNat = 48 := rfl
      omega
    · rw [decDigits_big c] at h
      obtain ⟨x, xs, hx⟩ : ∃ x xs, Lib.decDigits (u / 10) = x :: xs := by
        cases hq : Lib.decDigits (u / 10) with
        | nil => exact absurd hq (dec_ne _)
        | cons x xs => exact ⟨x, xs, rfl⟩
      rw [hx, List.cons_append] at h
      injection h with h1 _
      subst h1
      have := ih (u / 10) (by omega) xs hx
      omega
theorem parse_zero (w n : Int) : parseW w (48 :: Lib.itoa n) = (false, 0) := by
  unfold parseW
  refine if_neg (fun h => ?_)
  have h2 := h.2
  generalize numW w (cutW w (wordS (48 :: Lib.itoa n))) = m at h2
  have hne : Lib.itoa n ≠ [] := by
    unfold Lib.itoa
    split
    · exact List.cons_ne_nil _ _
    · exact dec_ne _
  by_cases c : m < 0
  · rw [itoa_neg c] at h2
    injection h2 with h3 _
    cases h3
  · rw [itoa_pos (by omega)] at h2
    have h0 := dec_head0 _ _ h2
    rw [h0, decDigits_small (by decide)] at h2
    injection h2 with _ h4
    exact hne h4.symm
theorem text_app (a : List UInt8) : (bsOf a ++ (⟨#[32]⟩ : ByteArray)).data.toList = a ++ [32] := by
  rw [show (⟨#[32]⟩ : ByteArray) = bsOf [32] from rfl, bsOf_append]
  rfl
theorem text_pre (a : List UInt8) : ((⟨#[48]⟩ : ByteArray) ++ bsOf a).data.toList = 48 :: a := by
  rw [show (⟨#[48]⟩ : ByteArray) = bsOf [48] from rfl, bsOf_append]
  rfl
theorem FnCasts : ∀ (l0 : List Int), (l0.length ≤ 9223372036854775807 ∧ ∀ y ∈ l0, (Lit.int .u8 y).wf = true) → ∃ k, laws_FnCasts.f k l0 = some true := by
  intro l hl
  refine Ev.rounds ?_
  unfold laws_FnCasts.f
  by_cases c : (l.length : Int) > 1048576
  · exact Ev.pos c (Ev.now _)
  refine Ev.neg c ?_
  have hl1 : l.length ≤ 1048576 := by omega
  have hb : ∀ y ∈ l, 0 ≤ y ∧ y ≤ 255 := fun y hy => bounds_u8 (hl.2 y hy)
  obtain ⟨k, hk, k0, _, k1⟩ := lwAt_f l 0 4 hl1 hb (by decide) (by decide) (by decide)
  have k4 := k1 (by decide)
  have e1 : wrap64 (4 - k) = 4 - k := wrap64_id (by omega) (by omega)
  obtain ⟨j, hj, j0, j1, j2⟩ := lwAt_f l 1 (4 - k) hl1 hb (by decide) (by decide) (by omega)
  have j3 : k + 1 + j ≤ 4 := by
    by_cases c1 : 4 - k ≤ 1
    · have := j1 c1; omega
    · have := j2 (by omega); omega
  have e2 : wrap64 (wrap64 (k + 1) + j) = k + 1 + j := by rw [wrap64_id (x := k + 1) (by omega) (by omega), wrap64_id (by omega) (by omega)]
  obtain ⟨a, b, ha0, hb0, ha, hbw, hab⟩ := widths k0 k4 j0 j3
  obtain ⟨v, hv, v0, v1⟩ := lwWord_f l 2 a hl1 hb (by decide) (by decide) ha
  obtain ⟨x, hx, x0, x1⟩ := lwWord_f l 20 64 hl1 hb (by decide) (by decide) (Or.inr (Or.inr (Or.inr (Or.inr rfl))))
  obtain ⟨o, ho, o0, o1⟩ := lwWord_f l 30 64 hl1 hb (by decide) (by decide) (Or.inr (Or.inr (Or.inr (Or.inr rfl))))
  obtain ⟨hs1, hs2, hvb⟩ := sext ha hbw hab v0 v1
  have hsr := cutW_range b (sgnW a v % 18446744073709551616)
  have hZ := castZ ha hbw hab v0 v1
  have hS := castS ha hbw hab v0 v1
  generalize cutW b (sgnW a v % 18446744073709551616) = s at hs1 hs2 hsr hS
  refine Ev.eq_bind hk ?_
  rw [e1]
  refine Ev.eq_bind hj (Ev.eq_bind ha0 ?_)
  rw [e2]
  refine Ev.eq_bind hb0 (Ev.bind hv (Ev.bind hZ (Ev.bind hS (Ev.pos rfl (Ev.pos rfl (Ev.pos rfl (Ev.eq_bind (sgnI_f hbw hsr.1 hsr.2) (Ev.eq_bind (sgnI_f ha v0 v1) ?_))))))))
  rw [hs1, bne_self_eq_false]
  refine Ev.succ ?_
  simp only [laws_FnCasts.j0]
  have hcv : cutW a v = v := ((cutW_self v0).2 v1).symm
  refine Ev.neg (by decide) (Ev.bind (castT hbw ha hab v0 hvb) (Ev.pos hcv (Ev.bind (castT hbw ha hab hsr.1 hsr.2) (Ev.pos hs2 (Ev.bind (castT_no ha hbw hab v0 v1) (Ev.pos rfl (Ev.bind (castZ_no hbw ha hab (by decide) (by have := pw_pos b; omega)) ?_)))))))
  refine Ev.succ ?_
  simp only [laws_FnCasts.j1]
  have hx64 : x < 18446744073709551616 := x1
  have hcr := cutW_range b x
  have hpb := pw_pos b
  have hpa := pw_pos a
  refine Ev.neg (by decide) (Ev.bind hx (Ev.eq_bind (cutI_f ha x0 hx64) (Ev.eq_bind (cutI_f hbw x0 hx64) (Ev.eq_bind (cutI_f ha hcr.1 (by omega)) (Ev.pos (cut_cut ha hbw hab).symm ?_)))))
  have hnr := numW_range hsr.1 hsr.2
  have hnl := Lib.itoa_length_le _ hnr.1 hnr.2
  have hor := numW_range (w := 64) o0 o1
  have hol := Lib.itoa_length_le _ hor.1 hor.2
  have hp1 : impl_ParseWord.f b (fmtW b s) = some (true, s) := by
    rw [implParse_f _ _ (by unfold fmtW; rw [bsOf_size]; omega)]
    exact congrArg some (parse_fmt hbw hsr.1 hsr.2)
  have hp2 : impl_ParseWord.f b (fmtW b s ++ (⟨#[32]⟩ : ByteArray)) = some (false, 0) := by
    rw [implParse_f _ _ (by unfold fmtW; rw [ByteArray.size_append, bsOf_size]; show _ + 1 ≤ _; omega)]
    unfold fmtW
    rw [text_app, parse_sp]
  have hp3 : impl_ParseWord.f b ((⟨#[48]⟩ : ByteArray) ++ fmtW b s) = some (false, 0) := by
    rw [implParse_f _ _ (by unfold fmtW; rw [ByteArray.size_append, bsOf_size]; show 1 + _ ≤ _; omega)]
    unfold fmtW
    rw [text_pre, parse_zero]
  have hfs : (fmtW b s).size ≤ 21 := by unfold fmtW; rw [bsOf_size]; exact hnl
  have hfo := fmtS_f (w := 64) (v := o) (Or.inr (Or.inr (Or.inr (Or.inr rfl)))) o0 o1
  have hos : (fmtW 64 o).size ≤ 1048576 := by unfold fmtW; rw [bsOf_size]; omega
  have hq := implParse_f a (fmtW 64 o) hos
  have hqS := specParse_f a (fmtW 64 o) hos
  have htail : Ev (fun _ : Nat => if (fmtW b s).size + 1 ≤ 9223372036854775807 then ((impl_ParseWord.f b (fmtW b s ++ (⟨#[32]⟩ : ByteArray))).bind fun bt => (if bt.1 = true then (some false) else (if 1 + (fmtW b s).size ≤ 9223372036854775807 then ((impl_ParseWord.f b ((⟨#[48]⟩ : ByteArray) ++ fmtW b s)).bind fun bt2 => (some (!bt2.1))) else (none)))) else (none)) true := by
    refine Ev.pos (by omega) (Ev.eq_bind hp2 (Ev.neg (by decide) (Ev.pos (by omega) (Ev.eq_bind hp3 (Ev.now _)))))
  refine Ev.eq_bind (fmtI_f hbw hsr.1 hsr.2) (Ev.eq_bind hp1 (Ev.bind ho (Ev.bind hfo (Ev.eq_bind hq (Ev.pos rfl (Ev.pos rfl ?_))))))
  by_cases hgood : VW a ∧ Lib.itoa (numW a (cutW a (wordS (fmtW 64 o).data.toList))) = (fmtW 64 o).data.toList
  · have hpe : parseW a (fmtW 64 o).data.toList = (true, cutW a (wordS (fmtW 64 o).data.toList)) := if_pos hgood
    have hcr2 := cutW_range a (wordS (fmtW 64 o).data.toList)
    rw [hpe] at hqS ⊢
    refine Ev.pos rfl (Ev.eq_bind (fmtI_f ha hcr2.1 hcr2.2) (Ev.pos ?_ (Ev.bind hqS (Ev.pos rfl htail))))
    rw [ByteArray.toList_eq, ByteArray.toList_eq]
    exact hgood.2
  · have hpe : parseW a (fmtW 64 o).data.toList = (false, 0) := if_neg hgood
    rw [hpe] at hqS ⊢
    exact Ev.neg (by decide) (Ev.bind hqS (Ev.pos rfl htail))
end Go.Proofs.YtkohjiajbdkcbaaDoor.Pure


/- From the row's list of package-level variables to the facts of Laid. -/
namespace Go.Proofs.YtkohjiajbdkcbaaDoor.All
open Go.RowKit Go.Proofs.YtkohjiajbdkcbaaDoorW.PrintWords Go.Proofs.YtkohjiajbdkcbaaDoorW.PrintLast Go.Proofs.YtkohjiajbdkcbaaDoorW.PrintMore
set_option linter.unusedVariables false
set_option linter.unusedSimpArgs false
theorem var_kept {P : Program} {W w' : World} {n : String} {cs : Array Value} (h : W.var? P n = some cs) (hb : Below W.heap.size W w') : w'.var? P n = some cs := by
  unfold World.var? at h ⊢
  cases hg : P.globalNamed n with
  | none => rw [hg] at h; cases h
  | some g =>
    rw [hg] at h
    simp only [Option.bind_some] at h ⊢
    have hl : g < W.heap.size := by
      rcases Nat.lt_or_ge g W.heap.size with hl | hl
      · exact hl
      · rw [Array.getElem?_eq_none hl] at h; cases h
    rw [hb.block g hl]
    exact h
theorem ltTab_of {W : World} {x y : String × DataW Unit} {r : List (String × DataW Unit)} (h : laidMet Tryd.prog (x :: y :: ("internal/strconv.uint64pow10", Lib.tabData .u64 Lib.pow10Tab) :: r) W) : LtTab W := fun w' hb => by
  have h2 := Lib.tabIs_of_head (g := 0) (t := 171) (e := 22) (n := 20) (by kernel_rfl) (by kernel_rfl) Tryd.underlying171 Tryd.underlying22 (by kernel_rfl) (by kernel_rfl) h.tail.tail
  exact var_kept h2 hb
theorem es_star : "*errors.errorString" = "*" ++ "errors.errorString" := by decide
theorem es_name : ∀ u, Tryd.prog.typeName? 3 u = some "*errors.errorString" → u = 191 := fun u h =>
  typeName_ptr_named (nm := "errors.errorString") (by rw [← es_star]; kernel_rfl) (by kernel_rfl) (by decide) u (by rw [← es_star]; exact h)
theorem ltErr_of {W : World} {x y z : String × DataW Unit} {a b : List UInt8}
    (h : laidMet Tryd.prog [x, y, z, ("strconv.ErrRange", .iface "*errors.errorString" (.ptr (.agg [.lit (.string a)]))), ("strconv.ErrSyntax", .iface "*errors.errorString" (.ptr (.agg [.lit (.string b)])))] W) : LtErr W := by
  obtain ⟨a1, s1, h1, _⟩ := laid_sentinel (g := 2) (ti := 91) (tp := 191) (te := 193) (ts := 9) h.tail.tail.tail (by kernel_rfl) (by kernel_rfl) Tryd.underlying91 es_name Tryd.underlying191 Tryd.underlying193 rfl rfl Tryd.underlying9 (by kernel_rfl) (by kernel_rfl)
  obtain ⟨a2, s2, h2, _⟩ := laid_sentinel (g := 1) (ti := 91) (tp := 191) (te := 193) (ts := 9) h.tail.tail.tail.tail (by kernel_rfl) (by kernel_rfl) Tryd.underlying91 es_name Tryd.underlying191 Tryd.underlying193 rfl rfl Tryd.underlying9 (by kernel_rfl) (by kernel_rfl)
  exact ⟨_, _, _, _, fun w' hb => ⟨var_kept h2 hb, var_kept h1 hb⟩⟩
end Go.Proofs.YtkohjiajbdkcbaaDoor.All

