/- Part 5 of the proof of FnExactDominators: functions of the translation with what they return, and plain laws of these. Written by programs of this session over the kit's print, and by hand. -/
import Derived.Test.YtoedcnhgobbnfaaProg
import Derived.Test.YtoedcnhgobbnfaaCFnExactDominatorsWApart
import Derived.Test.YtoedcnhgobbnfaaCFnExactDominatorsWArr
import Derived.Test.YtoedcnhgobbnfaaCFnExactDominatorsWFoot
import Derived.Test.YtoedcnhgobbnfaaCFnExactDominatorsWGuard
import Derived.Test.YtoedcnhgobbnfaaCFnExactDominatorsWKept
import Derived.Test.YtoedcnhgobbnfaaCFnExactDominatorsWLast
import Derived.Test.YtoedcnhgobbnfaaCFnExactDominatorsWMore
import Derived.Test.YtoedcnhgobbnfaaCFnExactDominatorsWN
import Derived.Test.YtoedcnhgobbnfaaCFnExactDominatorsWNEv
import Derived.Test.YtoedcnhgobbnfaaCFnExactDominatorsWQPut
import Derived.Test.YtoedcnhgobbnfaaCFnExactDominatorsWRepsOne
import Derived.Test.YtoedcnhgobbnfaaCFnExactDominatorsWShare
import Derived.Test.YtoedcnhgobbnfaaCFnExactDominatorsWTab
import Derived.Test.YtoedcnhgobbnfaaCFnExactDominatorsWWords
import Derived.Test.YtoedcnhgobbnfaaCFnExactDominatorsWZeros
import Derived.Below
import Derived.Deep.Draws
import Derived.Deep.AppendLies
import Derived.Maps.AppendAt
import Derived.OwnWalk
import Derived.Laws.BytesArg
import Derived.Laws.MakeOwn
import Derived.Laws.OwnMore
import Derived.Deep.OwnRows
import Derived.Tactics
import Derived.Lib.ConvBytes
import Derived.Laws.Slices
import Derived.WalkKit
import Derived.KernelRfl
import Derived.RowKit3
import Derived.Deep.LoopGhost
import Derived.Deep.QuietTactic
import Derived.BigQuiet
import Derived.WideLaws
import Derived.Deep.DeepCutAuto
import Derived.Deep.CutBlock
import Derived.Deep.RegionHeld3
import Derived.Laws.Rows
import Derived.Lib.AppendStr
import Derived.ArgAppend
import Derived.Laws.IdiomCopy
import Derived.OrdersHeld
import Derived.Laws.BitsLemmas
import Derived.RowKit
import Derived.Maps.OwnSet
import Derived.Maps.OwnOps
import Derived.Deep.Slices
import Derived.ChangeArms
import Derived.ProofKit
import Derived.OpenShut
import Derived.ShutString
import Derived.ChangeOld
import Derived.SizedLaws
import Derived.Test.YtoedcnhgobbnfaaCFnExactDominators1
import Derived.Test.YtoedcnhgobbnfaaCFnExactDominators2
import Derived.Test.YtoedcnhgobbnfaaCFnExactDominators3
import Derived.Test.YtoedcnhgobbnfaaCFnExactDominators4
/- Plain laws of szFunc, toFunc, eqFunc over the laws' functions. -/
namespace Go.Proofs.Ytoedcnhgobbnfaa.All
open Go.RowKit Go.Proofs.YtoedcnhgobbnfaaW.PrintWords Go.Proofs.YtoedcnhgobbnfaaW.PrintLast Go.Proofs.YtoedcnhgobbnfaaW.PrintMore
set_option linter.unusedVariables false
set_option linter.unusedSimpArgs false
def iOperand (x : S158) : S75 := ⟨x.f0, x.f1, x.f2, x.f3⟩
def iInstr (x : S140) : S66 := ⟨x.f0, x.f1, x.f2, x.f3, x.f4, x.f5, x.f6.map iOperand, x.f7, x.f8⟩
def iBlock (x : S96) : S62 := ⟨x.f0.map iInstr⟩
def sInstr (x : S140) : Nat := x.f6.length + x.f7.length + x.f8.length
def sInstrS (xs : List S140) : Nat := xs.length + (xs.map sInstr).sum
def sBlock (x : S96) : Nat := sInstrS x.f0
def sBlockS (xs : List S96) : Nat := xs.length + (xs.map sBlock).sum
/-- What is known of lengths: each list's own is a machine number. -/
def lInstr (x : S140) : Prop := x.f6.length ≤ 9223372036854775807 ∧ x.f7.length ≤ 9223372036854775807 ∧ x.f8.length ≤ 9223372036854775807
def lInstrS (xs : List S140) : Prop := xs.length ≤ 9223372036854775807 ∧ ∀ x ∈ xs, lInstr x
def lBlockS (xs : List S96) : Prop := xs.length ≤ 9223372036854775807 ∧ ∀ x ∈ xs, lInstrS x.f0
theorem szInt64S_f (l : List Int) (a : Int) (h0 : 0 ≤ a) (h1 : a ≤ 1048576) (hl : l.length ≤ 9223372036854775807) : laws_szInt64S.f l a = some (if (l.length : Int) ≤ a then a - l.length else -1) := by
  unfold laws_szInt64S.f; rw [wrap64_id (by omega) (by omega)]
  by_cases h : (l.length : Int) ≤ a
  · rw [if_neg (by omega), if_pos h]
  · rw [if_pos (by omega), if_neg h]
theorem szUint64S_f (l : List Int) (a : Int) (h0 : 0 ≤ a) (h1 : a ≤ 1048576) (hl : l.length ≤ 9223372036854775807) : laws_szUint64S.f l a = some (if (l.length : Int) ≤ a then a - l.length else -1) := by
  unfold laws_szUint64S.f; rw [wrap64_id (by omega) (by omega)]
  by_cases h : (l.length : Int) ≤ a
  · rw [if_neg (by omega), if_pos h]
  · rw [if_pos (by omega), if_neg h]
theorem szOperandS_f (l : List S158) (a : Int) (h0 : 0 ≤ a) (h1 : a ≤ 1048576) (hl : l.length ≤ 9223372036854775807) : laws_szOperandS.f l a = some (if (l.length : Int) ≤ a then a - l.length else -1) := by
  unfold laws_szOperandS.f; rw [wrap64_id (by omega) (by omega)]
  by_cases h : (l.length : Int) ≤ a
  · rw [if_neg (by omega), if_pos h]
  · rw [if_pos (by omega), if_neg h]
theorem szInstr_f (x : S140) (a : Int) (h0 : 0 ≤ a) (h1 : a ≤ 1048576) (hx : lInstr x) : laws_szInstr.f x.f0 x.f1 x.f2 x.f3 x.f4 x.f5 x.f6 x.f7 x.f8 a = some (if (sInstr x : Int) ≤ a then a - sInstr x else -1) := by
  obtain ⟨l6, l7, l8⟩ := hx
  unfold laws_szInstr.f sInstr
  rw [szOperandS_f _ _ h0 h1 l6]; simp only [Option.bind_some]
  by_cases c6 : (x.f6.length : Int) ≤ a
  · rw [if_pos c6, if_neg (by omega), szInt64S_f _ _ (by omega) (by omega) l7]; simp only [Option.bind_some]
    by_cases c7 : (x.f7.length : Int) ≤ a - x.f6.length
    · rw [if_pos c7, if_neg (by omega), szUint64S_f _ _ (by omega) (by omega) l8]; simp only [Option.bind_some]
      by_cases c8 : (x.f8.length : Int) ≤ a - x.f6.length - x.f7.length
      · rw [if_pos c8, if_neg (by omega), if_pos (by omega)]; congr 1; omega
      · rw [if_neg c8, if_pos (by omega), if_neg (by omega)]
    · rw [if_neg c7, if_pos (by omega), if_neg (by omega)]
  · rw [if_neg c6, if_pos (by omega), if_neg (by omega)]
theorem szInstrS_f (xs : List S140) (a : Int) (h0 : 0 ≤ a) (h1 : a ≤ 1048576) (hx : lInstrS xs) : Ev (fun k => laws_szInstrS.f k xs a) (if (sInstrS xs : Int) ≤ a then a - sInstrS xs else -1) := by
  obtain ⟨hl, hx⟩ := hx
  unfold laws_szInstrS.f
  rw [wrap64_id (by omega) (by omega)]
  by_cases c : (xs.length : Int) ≤ a
  · refine Ev.neg (by omega) ?_
    have h := sz_gen sInstr z140 xs (fun k a i => laws_szInstrS.l0 k xs a i) (fun i a r hi h0 h1 h => by
      refine Ev.succ ?_
      simp only [laws_szInstrS.l0]
      refine Ev.pos (by omega) (Ev.pos (by omega) ?_)
      have hm : lInstr (rd_T140 xs i) := hx _ (by simp only [rd_T140, Int.toNat_natCast]; rw [getD_eq hi]; exact List.getElem_mem hi)
      refine Ev.eq_bind (szInstr_f _ a h0 h1 hm) ?_
      have e : rd_T140 xs i = xs.getD i z140 := by simp [rd_T140]
      rw [e]
      split at h
      · rename_i hc
        rw [if_pos hc, wrap64_nat (by omega)]
        exact Ev.neg (by omega) h
      · rename_i hc
        rw [if_neg hc]
        exact Ev.pos (by omega) (Ev.some h.symm)) (fun a => by
      refine Ev.succ ?_
      simp only [laws_szInstrS.l0]
      exact Ev.neg (by omega) (Ev.now _)) (a - xs.length) (by omega) (by omega)
    have e : (if ((xs.map sInstr).sum : Int) ≤ a - xs.length then a - xs.length - (xs.map sInstr).sum else -1) = (if (sInstrS xs : Int) ≤ a then a - sInstrS xs else -1) := by unfold sInstrS; split <;> split <;> omega
    rw [← e]
    exact h
  · rw [if_neg (by unfold sInstrS; omega)]
    exact Ev.pos (by omega) (Ev.now _)
theorem szBlockS_f (xs : List S96) (a : Int) (h0 : 0 ≤ a) (h1 : a ≤ 1048576) (hx : lBlockS xs) : Ev (fun k => laws_szBlockS.f k xs a) (if (sBlockS xs : Int) ≤ a then a - sBlockS xs else -1) := by
  obtain ⟨hl, hx⟩ := hx
  unfold laws_szBlockS.f
  rw [wrap64_id (by omega) (by omega)]
  by_cases c : (xs.length : Int) ≤ a
  · refine Ev.neg (by omega) ?_
    have h := sz_gen sBlock z96 xs (fun k a i => laws_szBlockS.l0 k xs a i) (fun i a r hi h0 h1 h => by
      refine Ev.succ ?_
      simp only [laws_szBlockS.l0]
      refine Ev.pos (by omega) (Ev.pos (by omega) ?_)
      have hm : lInstrS (rd_T96 xs i).f0 := hx _ (by simp only [rd_T96, Int.toNat_natCast]; rw [getD_eq hi]; exact List.getElem_mem hi)
      have e : rd_T96 xs i = xs.getD i z96 := by simp [rd_T96]
      rw [e] at hm ⊢
      have h2 := szInstrS_f _ a h0 h1 hm
      unfold laws_szBlock.f
      split at h
      · rename_i hc
        rw [if_pos (show (sInstrS (xs.getD i z96).f0 : Int) ≤ a from hc)] at h2
        refine Ev.bind (Ev.bind h2 (Ev.neg (by unfold sBlock at hc; omega) (Ev.now _))) ?_
        rw [wrap64_nat (by omega)]
        exact Ev.neg (by unfold sBlock at hc; omega) h
      · rename_i hc
        rw [if_neg (show ¬ (sInstrS (xs.getD i z96).f0 : Int) ≤ a from hc)] at h2
        refine Ev.bind (Ev.bind h2 (Ev.pos (by omega) (Ev.now _))) ?_
        exact Ev.pos (by omega) (Ev.some h.symm)) (fun a => by
      refine Ev.succ ?_
      simp only [laws_szBlockS.l0]
      exact Ev.neg (by omega) (Ev.now _)) (a - xs.length) (by omega) (by omega)
    have e : (if ((xs.map sBlock).sum : Int) ≤ a - xs.length then a - xs.length - (xs.map sBlock).sum else -1) = (if (sBlockS xs : Int) ≤ a then a - sBlockS xs else -1) := by unfold sBlockS; split <;> split <;> omega
    rw [← e]
    exact h
  · rw [if_neg (by unfold sBlockS; omega)]
    exact Ev.pos (by omega) (Ev.now _)
theorem szFunc_f (n : ByteArray) (b : Int) (ps : List Int) (c : Int) (bs : List S96) (hn : n.size ≤ 9223372036854775807) (hp : ps.length ≤ 9223372036854775807) (hb : lBlockS bs) :
    ∃ r, Ev (fun k => laws_szFunc.f k n b ps c bs 1048576) r ∧ (r < 0 ∨ n.size + ps.length + sBlockS bs ≤ 1048576) := by
  unfold laws_szFunc.f
  rw [wrap64_id (by omega) (by omega)]
  by_cases c1 : (n.size : Int) ≤ 1048576
  · by_cases c2 : (ps.length : Int) ≤ 1048576 - n.size
    · by_cases c3 : (sBlockS bs : Int) ≤ 1048576 - n.size - ps.length
      · refine ⟨1048576 - n.size - ps.length - sBlockS bs, Ev.neg (by omega) ?_, .inr (by omega)⟩
        refine Ev.eq_bind (szInt64S_f _ _ (by omega) (by omega) hp) ?_
        rw [if_pos c2]
        refine Ev.neg (by omega) ?_
        have h := szBlockS_f bs (1048576 - n.size - ps.length) (by omega) (by omega) hb
        rw [if_pos c3] at h
        exact Ev.bind h (Ev.neg (by omega) (Ev.now _))
      · refine ⟨-1, Ev.neg (by omega) ?_, .inl (by omega)⟩
        refine Ev.eq_bind (szInt64S_f _ _ (by omega) (by omega) hp) ?_
        rw [if_pos c2]
        refine Ev.neg (by omega) ?_
        have h := szBlockS_f bs (1048576 - n.size - ps.length) (by omega) (by omega) hb
        rw [if_neg c3] at h
        exact Ev.bind h (Ev.pos (by omega) (Ev.now _))
    · refine ⟨-1, Ev.neg (by omega) ?_, .inl (by omega)⟩
      refine Ev.eq_bind (szInt64S_f _ _ (by omega) (by omega) hp) ?_
      rw [if_neg c2]
      exact Ev.pos (by omega) (Ev.now _)
  · exact ⟨-1, Ev.pos (by omega) (Ev.now _), .inl (by omega)⟩

/-! ### to -/
theorem toInt64S_f (l : List Int) (hl : l.length ≤ 1048576) : Ev (fun k => laws_toInt64S.f k l) l := by
  unfold laws_toInt64S.f
  refine Ev.pos (by omega) (Ev.pos (by omega) ?_)
  have h := to_gen (fun x : Int => x) 0 0 l (fun k out i => laws_toInt64S.l0 k l out i) (fun i out r hi ho h => by
    refine Ev.succ ?_
    simp only [laws_toInt64S.l0]
    refine Ev.pos (by omega) (Ev.pos (by omega) (Ev.pos (by omega) ?_))
    rw [wrap64_nat (by omega)]
    simpa [rd] using h) (fun out _ => by
    refine Ev.succ ?_
    simp only [laws_toInt64S.l0]
    exact Ev.neg (by omega) (Ev.now _))
  simpa using h
theorem toUint64S_f (l : List Int) (hl : l.length ≤ 1048576) : Ev (fun k => laws_toUint64S.f k l) l := by
  unfold laws_toUint64S.f
  refine Ev.pos (by omega) (Ev.pos (by omega) ?_)
  have h := to_gen (fun x : Int => x) 0 0 l (fun k out i => laws_toUint64S.l0 k l out i) (fun i out r hi ho h => by
    refine Ev.succ ?_
    simp only [laws_toUint64S.l0]
    refine Ev.pos (by omega) (Ev.pos (by omega) (Ev.pos (by omega) ?_))
    rw [wrap64_nat (by omega)]
    simpa [rd] using h) (fun out _ => by
    refine Ev.succ ?_
    simp only [laws_toUint64S.l0]
    exact Ev.neg (by omega) (Ev.now _))
  simpa using h
theorem toOperandS_f (l : List S158) (hl : l.length ≤ 1048576) : Ev (fun k => laws_toOperandS.f k l) (l.map iOperand) := by
  unfold laws_toOperandS.f
  refine Ev.pos (by omega) (Ev.pos (by omega) ?_)
  have h := to_gen iOperand z75 z158 l (fun k out i => laws_toOperandS.l0 k l out i) (fun i out r hi ho h => by
    refine Ev.succ ?_
    simp only [laws_toOperandS.l0]
    refine Ev.pos (by omega) (Ev.pos (by omega) (Ev.eq_bind (by unfold laws_toOperand.f; rfl) (Ev.pos (by omega) ?_)))
    rw [wrap64_nat (by omega)]
    simpa [rd_T158, iOperand] using h) (fun out _ => by
    refine Ev.succ ?_
    simp only [laws_toOperandS.l0]
    exact Ev.neg (by omega) (Ev.now _))
  simpa using h
theorem toInstrS_f (l : List S140) (hl : sInstrS l ≤ 1048576) : Ev (fun k => laws_toInstrS.f k l) (l.map iInstr) := by
  unfold laws_toInstrS.f
  have hl1 : l.length ≤ 1048576 := by unfold sInstrS at hl; omega
  refine Ev.pos (by omega) (Ev.pos (by omega) ?_)
  have h := to_gen iInstr z66 z140 l (fun k out i => laws_toInstrS.l0 k l out i) (fun i out r hi ho h => by
    refine Ev.succ ?_
    simp only [laws_toInstrS.l0]
    have hs := sum_getD_le sInstr z140 l i hi
    have e : rd_T140 l i = l.getD i z140 := by simp [rd_T140]
    rw [e]
    have hz : sInstr (l.getD i z140) = (l.getD i z140).f6.length + (l.getD i z140).f7.length + (l.getD i z140).f8.length := rfl
    unfold sInstrS at hl
    refine Ev.pos (by omega) (Ev.pos (by omega) (Ev.bind (a := ((l.getD i z140).f0, (l.getD i z140).f1, (l.getD i z140).f2, (l.getD i z140).f3, (l.getD i z140).f4, (l.getD i z140).f5, (l.getD i z140).f6.map iOperand, (l.getD i z140).f7, (l.getD i z140).f8)) ?_ (Ev.pos (by omega) ?_)))
    · unfold laws_toInstr.f
      exact Ev.bind (toOperandS_f _ (by omega)) (Ev.bind (toInt64S_f _ (by omega)) (Ev.bind (toUint64S_f _ (by omega)) (Ev.now _)))
    · rw [wrap64_nat (by omega)]
      exact h) (fun out _ => by
    refine Ev.succ ?_
    simp only [laws_toInstrS.l0]
    exact Ev.neg (by omega) (Ev.now _))
  simpa using h
theorem toBlockS_f (l : List S96) (hl : sBlockS l ≤ 1048576) : Ev (fun k => laws_toBlockS.f k l) (l.map iBlock) := by
  unfold laws_toBlockS.f
  have hl1 : l.length ≤ 1048576 := by unfold sBlockS at hl; omega
  refine Ev.pos (by omega) (Ev.pos (by omega) ?_)
  have h := to_gen iBlock z62 z96 l (fun k out i => laws_toBlockS.l0 k l out i) (fun i out r hi ho h => by
    refine Ev.succ ?_
    simp only [laws_toBlockS.l0]
    have hs := sum_getD_le sBlock z96 l i hi
    have e : rd_T96 l i = l.getD i z96 := by simp [rd_T96]
    rw [e]
    have hz : sBlock (l.getD i z96) = sInstrS (l.getD i z96).f0 := rfl
    unfold sBlockS at hl
    refine Ev.pos (by omega) (Ev.pos (by omega) (Ev.bind (a := (l.getD i z96).f0.map iInstr) ?_ (Ev.pos (by omega) ?_)))
    · unfold laws_toBlock.f
      exact Ev.bind (toInstrS_f _ (by omega)) (Ev.now _)
    · rw [wrap64_nat (by omega)]
      exact h) (fun out _ => by
    refine Ev.succ ?_
    simp only [laws_toBlockS.l0]
    exact Ev.neg (by omega) (Ev.now _))
  simpa using h
theorem toFunc_f (n : ByteArray) (b : Int) (ps : List Int) (c : Int) (bs : List S96) (h : n.size + ps.length + sBlockS bs ≤ 1048576) : Ev (fun k => laws_toFunc.f k n b ps c bs) (n, b, ps, c, bs.map iBlock) := by
  unfold laws_toFunc.f
  exact Ev.bind (toInt64S_f _ (by omega)) (Ev.bind (toBlockS_f _ (by omega)) (Ev.now _))

/-! ### eq, of one value with itself -/
theorem eqInt64S_f (l : List Int) (hl : l.length ≤ 9223372036854775806) : Ev (fun k => laws_eqInt64S.f k l l) true := by
  unfold laws_eqInt64S.f
  refine Ev.pos rfl (all_gen l.length (fun k i => laws_eqInt64S.l0 k l l i) (fun i hi h => ?_) ?_)
  · refine Ev.succ ?_
    simp only [laws_eqInt64S.l0]
    rw [wrap64_nat (by omega)]
    exact Ev.pos (by omega) (Ev.pos (by omega) (Ev.pos (by omega) (Ev.pos trivial h)))
  · refine Ev.succ ?_
    simp only [laws_eqInt64S.l0]
    exact Ev.neg (by omega) (Ev.now _)
theorem eqUint64S_f (l : List Int) (hl : l.length ≤ 9223372036854775806) : Ev (fun k => laws_eqUint64S.f k l l) true := by
  unfold laws_eqUint64S.f
  refine Ev.pos rfl (all_gen l.length (fun k i => laws_eqUint64S.l0 k l l i) (fun i hi h => ?_) ?_)
  · refine Ev.succ ?_
    simp only [laws_eqUint64S.l0]
    rw [wrap64_nat (by omega)]
    exact Ev.pos (by omega) (Ev.pos (by omega) (Ev.pos (by omega) (Ev.pos trivial h)))
  · refine Ev.succ ?_
    simp only [laws_eqUint64S.l0]
    exact Ev.neg (by omega) (Ev.now _)
theorem eqOperandS_f (l : List S75) (hl : l.length ≤ 9223372036854775806) : Ev (fun k => laws_eqOperandS.f k l l) true := by
  unfold laws_eqOperandS.f
  refine Ev.pos rfl (all_gen l.length (fun k i => laws_eqOperandS.l0 k l l i) (fun i hi h => ?_) ?_)
  · refine Ev.succ ?_
    simp only [laws_eqOperandS.l0]
    rw [wrap64_nat (by omega)]
    exact Ev.pos (by omega) (Ev.pos (by omega) (Ev.pos (by omega) (Ev.eq_bind (a := true) (by simp [laws_eqOperand.f]) (Ev.pos rfl h))))
  · refine Ev.succ ?_
    simp only [laws_eqOperandS.l0]
    exact Ev.neg (by omega) (Ev.now _)
def bInstr (x : S66) : Prop := x.f6.length ≤ 1048576 ∧ x.f7.length ≤ 1048576 ∧ x.f8.length ≤ 1048576
def bBlock (x : S62) : Prop := x.f0.length ≤ 1048576 ∧ ∀ y ∈ x.f0, bInstr y
theorem eqInstr_f (x : S66) (h : bInstr x) : Ev (fun k => laws_eqInstr.f k x.f0 x.f1 x.f2 x.f3 x.f4 x.f5 x.f6 x.f7 x.f8 x.f0 x.f1 x.f2 x.f3 x.f4 x.f5 x.f6 x.f7 x.f8) true := by
  obtain ⟨h6, h7, h8⟩ := h
  unfold laws_eqInstr.f
  exact Ev.pos rfl (Ev.pos rfl (Ev.pos rfl (Ev.pos rfl (Ev.pos rfl (Ev.pos rfl (Ev.bind (eqOperandS_f _ (by omega)) (Ev.pos rfl (Ev.bind (eqInt64S_f _ (by omega)) (Ev.pos rfl (Ev.bind (eqUint64S_f _ (by omega)) (Ev.pos rfl (Ev.now _))))))))))))
theorem eqInstrS_f (l : List S66) (hl : l.length ≤ 1048576) (hb : ∀ y ∈ l, bInstr y) : Ev (fun k => laws_eqInstrS.f k l l) true := by
  unfold laws_eqInstrS.f
  refine Ev.pos rfl (all_gen l.length (fun k i => laws_eqInstrS.l0 k l l i) (fun i hi h => ?_) ?_)
  · refine Ev.succ ?_
    simp only [laws_eqInstrS.l0]
    rw [wrap64_nat (by omega)]
    have hm : bInstr (rd_T66 l i) := hb _ (by simp only [rd_T66, Int.toNat_natCast]; rw [getD_eq hi]; exact List.getElem_mem hi)
    exact Ev.pos (by omega) (Ev.pos (by omega) (Ev.pos (by omega) (Ev.bind (eqInstr_f _ hm) (Ev.pos rfl h))))
  · refine Ev.succ ?_
    simp only [laws_eqInstrS.l0]
    exact Ev.neg (by omega) (Ev.now _)
theorem eqBlockS_f (l : List S62) (hl : l.length ≤ 1048576) (hb : ∀ y ∈ l, bBlock y) : Ev (fun k => laws_eqBlockS.f k l l) true := by
  unfold laws_eqBlockS.f
  refine Ev.pos rfl (all_gen l.length (fun k i => laws_eqBlockS.l0 k l l i) (fun i hi h => ?_) ?_)
  · refine Ev.succ ?_
    simp only [laws_eqBlockS.l0]
    rw [wrap64_nat (by omega)]
    have hm : bBlock (rd_T62 l i) := hb _ (by simp only [rd_T62, Int.toNat_natCast]; rw [getD_eq hi]; exact List.getElem_mem hi)
    refine Ev.pos (by omega) (Ev.pos (by omega) (Ev.pos (by omega) (Ev.bind (a := true) ?_ (Ev.pos rfl h))))
    unfold laws_eqBlock.f
    exact Ev.bind (eqInstrS_f _ hm.1 hm.2) (Ev.pos rfl (Ev.now _))
  · refine Ev.succ ?_
    simp only [laws_eqBlockS.l0]
    exact Ev.neg (by omega) (Ev.now _)
theorem eqFunc_f (n : ByteArray) (b : Int) (ps : List Int) (c : Int) (bs : List S62) (hp : ps.length ≤ 1048576) (hl : bs.length ≤ 1048576) (hb : ∀ y ∈ bs, bBlock y) : Ev (fun k => laws_eqFunc.f k n b ps c bs n b ps c bs) true := by
  unfold laws_eqFunc.f
  exact Ev.pos rfl (Ev.pos rfl (Ev.bind (eqInt64S_f _ (by omega)) (Ev.pos rfl (Ev.pos rfl (Ev.bind (eqBlockS_f _ hl hb) (Ev.pos rfl (Ev.now _)))))))
theorem bBlock_of (bs : List S96) (h : sBlockS bs ≤ 1048576) : ∀ y ∈ bs.map iBlock, bBlock y := by
  intro y hy
  obtain ⟨x, hx, rfl⟩ := List.mem_map.1 hy
  obtain ⟨i, hi, rfl⟩ := List.getElem_of_mem hx
  have h1 := sum_getD_le sBlock z96 bs i hi
  rw [getD_eq hi] at h1
  have hz : sBlock bs[i] = bs[i].f0.length + (bs[i].f0.map sInstr).sum := rfl
  unfold sBlockS at h
  refine ⟨by show (bs[i].f0.map iInstr).length ≤ _; rw [List.length_map]; omega, fun z hz2 => ?_⟩
  obtain ⟨u, hu, rfl⟩ := List.mem_map.1 (show z ∈ bs[i].f0.map iInstr from hz2)
  obtain ⟨j, hj, rfl⟩ := List.getElem_of_mem hu
  have h2 := sum_getD_le sInstr z140 bs[i].f0 j hj
  rw [getD_eq hj] at h2
  have hz3 : sInstr bs[i].f0[j] = bs[i].f0[j].f6.length + bs[i].f0[j].f7.length + bs[i].f0[j].f8.length := rfl
  refine ⟨?_, ?_, ?_⟩
  · show (bs[i].f0[j].f6.map iOperand).length ≤ _; rw [List.length_map]; omega
  · show bs[i].f0[j].f7.length ≤ _; omega
  · show bs[i].f0[j].f8.length ≤ _; omega
end Go.Proofs.Ytoedcnhgobbnfaa.All


/- What reads as data has machine lengths. -/
namespace Go.Proofs.Ytoedcnhgobbnfaa.All
open Go.RowKit Go.Proofs.YtoedcnhgobbnfaaW.PrintWords Go.Proofs.YtoedcnhgobbnfaaW.PrintLast Go.Proofs.YtoedcnhgobbnfaaW.PrintMore
set_option linter.unusedVariables false
set_option linter.unusedSimpArgs false
theorem lBlockS_ok {l : List S96} (h : l.length ≤ 9223372036854775807 ∧ ∀ y ∈ l, ok96 y) : lBlockS l := by
  refine ⟨h.1, fun b hb => ?_⟩
  have h1 := h.2 b hb
  unfold ok96 at h1
  refine ⟨h1.1, fun x hx => ?_⟩
  have h2 := h1.2 x hx
  unfold ok140 at h2
  obtain ⟨_, _, _, _, _, _, h6, h7, h8⟩ := h2
  exact ⟨h6.1, h7.1, h8.1⟩
end Go.Proofs.Ytoedcnhgobbnfaa.All


/- Plain laws: a result's own cells marked, and found marked. -/
namespace Go.Proofs.Ytoedcnhgobbnfaa.All
open Go.RowKit Go.Proofs.YtoedcnhgobbnfaaW.PrintWords Go.Proofs.YtoedcnhgobbnfaaW.PrintLast Go.Proofs.YtoedcnhgobbnfaaW.PrintMore
set_option linter.unusedVariables false
set_option linter.unusedSimpArgs false
def marks (n : Nat) : List Int := (List.range n).map fun (j : Nat) => (1 : Int) + (j : Int)
theorem marks_length (n : Nat) : (marks n).length = n := by simp [marks]
theorem marks_at (n i : Nat) (h : i < n) : rd (marks n) i = 1 + i := by
  simp [rd, marks, List.getElem?_range, h]
theorem markInt64S_f (l : List Int) (hl : l.length ≤ 1000000000000) : Ev (fun k => laws_markInt64S.f k l 1) ((1 : Int) + (l.length : Nat), marks l.length) := by
  unfold laws_markInt64S.f marks
  refine mk_gen (fun (j : Nat) => (1 : Int) + (j : Int)) l (fun out => ((1 : Int) + (l.length : Nat), out)) (fun k out i => laws_markInt64S.l0 k out (1 + i) i) (fun i out r hi ho h => ?_) (fun out ho => ?_)
  · refine Ev.succ ?_
    simp only [laws_markInt64S.l0]
    refine Ev.pos (by omega) (Ev.pos (by omega) ?_)
    rw [wrap64_nat (by omega), wrap64_id (by omega) (by omega)]
    have e : (1 : Int) + ((i + 1 : Nat) : Int) = 1 + (i : Int) + 1 := by omega
    rw [e] at h
    simpa using h
  · refine Ev.succ ?_
    simp only [laws_markInt64S.l0]
    exact Ev.neg (by omega) (Ev.now _)
theorem heldInt64S_f (n : Nat) (hl : n ≤ 1000000000000) : Ev (fun k => laws_heldInt64S.f k (marks n) 1) ((1 : Int) + (n : Nat)) := by
  unfold laws_heldInt64S.f
  refine for_gen ((1 : Int) + (n : Nat)) n (fun k i => laws_heldInt64S.l0 k (marks n) (1 + i) i) (fun i hi h => ?_) ?_
  · refine Ev.succ ?_
    simp only [laws_heldInt64S.l0]
    rw [marks_at n i hi]
    refine Ev.pos (by rw [marks_length]; omega) (Ev.pos (by omega) (Ev.pos rfl ?_))
    rw [wrap64_nat (by omega), wrap64_id (by omega) (by omega)]
    have e : (1 : Int) + ((i + 1 : Nat) : Int) = 1 + (i : Int) + 1 := by omega
    rw [e] at h
    exact h
  · refine Ev.succ ?_
    simp only [laws_heldInt64S.l0]
    exact Ev.neg (by rw [marks_length]; omega) (Ev.now _)
end Go.Proofs.Ytoedcnhgobbnfaa.All


/- How many cells the laws mark. -/
namespace Go.Proofs.Ytoedcnhgobbnfaa.All
open Go.RowKit Go.Proofs.YtoedcnhgobbnfaaW.PrintWords Go.Proofs.YtoedcnhgobbnfaaW.PrintLast Go.Proofs.YtoedcnhgobbnfaaW.PrintMore
set_option linter.unusedVariables false
set_option linter.unusedSimpArgs false
def nB (bs : List S62) : Nat := (bs.map fun b => b.f0.length).sum
theorem cnt_of_s (bs : List S96) : nB (bs.map iBlock) ≤ sBlockS bs ∧ cntL_Block (bs.map iBlock) ≤ 10 * sBlockS bs := by
  have hI : ∀ xs : List S140, cntL_Instr (xs.map iInstr) ≤ 10 * sInstrS xs := by
    intro xs
    unfold cntL_Instr sInstrS
    induction xs with
    | nil => simp
    | cons x xs ih =>
      have h1 : cnt_Instr (iInstr x) = 6 + 4 * x.f6.length + x.f7.length + x.f8.length := by
        unfold cnt_Instr iInstr cntL_int64 cntL_uint64 cntL_Operand
        have h2 : ∀ l : List S158, ((l.map iOperand).map cnt_Operand).sum = 4 * l.length := by
          intro l
          induction l with
          | nil => rfl
          | cons a l ih => simp only [List.map_cons, List.sum_cons, ih, List.length_cons]; have : cnt_Operand (iOperand a) = 4 := rfl; omega
        simp only [h2]
      have h3 : sInstr x = x.f6.length + x.f7.length + x.f8.length := rfl
      simp only [List.map_cons, List.sum_cons, List.length_cons] at ih ⊢
      omega
  unfold nB cntL_Block sBlockS
  induction bs with
  | nil => simp
  | cons x xs ih =>
    have h1 := hI x.f0
    have h2 : cnt_Block (iBlock x) = cntL_Instr (x.f0.map iInstr) := rfl
    have h3 : sBlock x = sInstrS x.f0 := rfl
    have h4 : (iBlock x).f0.length = x.f0.length := by simp [iBlock]
    have h5 : x.f0.length ≤ sInstrS x.f0 := by unfold sInstrS; omega
    simp only [List.map_cons, List.sum_cons, List.length_cons] at ih ⊢
    omega
end Go.Proofs.Ytoedcnhgobbnfaa.All


namespace Go.Proofs.Ytoedcnhgobbnfaa.All
open Go.RowKit Go.Proofs.YtoedcnhgobbnfaaW.PrintWords Go.Proofs.YtoedcnhgobbnfaaW.PrintLast Go.Proofs.YtoedcnhgobbnfaaW.PrintMore
attribute [local go_sem] max2_int min2_int max_two min_two max_three min_three max_four min_four   -- for this text's walks alone
set_option linter.unusedVariables false
set_option linter.unusedSimpArgs false

/-! ### spec_PrevBlocks: function 23 -/
end Go.Proofs.Ytoedcnhgobbnfaa.All


namespace Go.Proofs.Ytoedcnhgobbnfaa.All
open Go.RowKit Go.Proofs.YtoedcnhgobbnfaaW.PrintWords Go.Proofs.YtoedcnhgobbnfaaW.PrintLast Go.Proofs.YtoedcnhgobbnfaaW.PrintMore
attribute [local go_sem] max2_int min2_int max_two min_two max_three min_three max_four min_four   -- for this text's walks alone
set_option linter.unusedVariables false
set_option linter.unusedSimpArgs false

/-! ### impl_PrevBlocks: function 24 -/
mutual
def impl_PrevBlocks.l0 : Nat → Int → List Int → Int → Int → ByteArray → Int → List Int → Int → List (S62) → Option (List Int)
 | 0, _, _, _, _, _, _, _, _, _ => none
 | k + 1, x1, x5, x11, x12, x498000, x498001, x498002, x498003, x498004 => if x12 < x11 then ((impl_NextBlocks.f x498000 x498001 x498002 x498003 x498004 x12).bind fun t498 => (impl_PrevBlocks.l1 k x1 x5 x12 x11 x12 t498 (t498.length : Int) 0 x498000 x498001 x498002 x498003 x498004)) else (some x5)
def impl_PrevBlocks.l1 : Nat → Int → List Int → Int → Int → Int → List Int → Int → Int → ByteArray → Int → List Int → Int → List (S62) → Option (List Int)
 | 0, _, _, _, _, _, _, _, _, _, _, _, _, _ => none
 | k + 1, x1, x5, x6, x11, x12, x17, x18, x19, x498000, x498001, x498002, x498003, x498004 => if x19 < x18 then (if 0 ≤ x19 then (if x19 < (x17.length : Int) then (if (rd x17 x19) = x1 then (if x5.length < 17592186044416 then (impl_PrevBlocks.l1 k x1 (x5 ++ [x6]) x6 x11 x12 x17 x18 (wrap64 (x19 + 1)) x498000 x498001 x498002 x498003 x498004) else (none)) else (impl_PrevBlocks.l1 k x1 x5 x6 x11 x12 x17 x18 (wrap64 (x19 + 1)) x498000 x498001 x498002 x498003 x498004)) else (none)) else (none)) else (impl_PrevBlocks.l0 k x1 x5 x11 (wrap64 (x12 + 1)) x498000 x498001 x498002 x498003 x498004)
end
def impl_PrevBlocks.f (k : Nat) (a0_0 : ByteArray) (a0_1 : Int) (l0_2 : List Int) (a0_3 : Int) (l0_4 : List (S62)) (a1 : Int) : Option (List Int) := impl_PrevBlocks.l0 k a1 ([] : List Int) (l0_4.length : Int) 0 a0_0 a0_1 l0_2 a0_3 l0_4
set_option maxHeartbeats 8000000 in
set_option maxRecDepth 100000 in
theorem impl_PrevBlocks.calls (k : Nat) (a0_0 : ByteArray) (a0_1 : Int) (A0_2 : Option Addr) (c0_2 : Nat) (l0_2 : List Int) (a0_3 : Int) (A0_4 : Option Addr) (c0_4 : Nat) (l0_4 : List (S62)) (a1 : Int) (r : List Int) (w : World) (hr0_2 : Kd.C (Kd.int .i64) w A0_2 l0_2.length l0_2) (hc0_2 : l0_2.length ≤ c0_2) (hr0_4 : Kd.C k62 w A0_4 l0_4.length l0_4) (hc0_4 : l0_4.length ≤ c0_4) (h : impl_PrevBlocks.f k a0_0 a0_1 l0_2 a0_3 l0_4 a1 = some r) :
 Calls Try.prog 24 #[.agg #[.string a0_0, .int .i64 a0_1, .slice A0_2 l0_2.length c0_2, .int .i64 a0_3, .slice A0_4 l0_4.length c0_4], .int .i64 a1] w fun e w' => ∃ v0_ : Value, e = .returned (v0_) ∧ Kd.R (Kd.int .i64) 2 w' w.heap.size (fun _ => True) v0_ r ∧ Below w.heap.size w w' := by
 have hu30 := Try.underlying30
 have HR0_2 := Aside0.mk hr0_2
 have HC0_2 := Aside0.mk hc0_2
 clear hr0_2 hc0_2
 have HR0_4 := Aside0.mk hr0_4
 have HC0_4 := Aside0.mk hc0_4
 clear hr0_4 hc0_4
 have HB := Aside0.mk (Below.refl w.heap.size w)
 have H : (impl_PrevBlocks.l0 k a1 ([] : List Int) (l0_4.length : Int) 0 a0_0 a0_1 l0_2 a0_3 l0_4) = some r := h
 clear h
 have H' := Aside0.mk H
 clear H
 go_enter Try.func24, Try.ntmps24
 go_wp2_with (first | ((with_reducible refine gate_dst (N := 2) rfl ?_); refine box_event ?hg (N := 2) ?hd (cs := #[.string a0_0, .int .i64 a0_1, .slice A0_2 l0_2.length c0_2, .int .i64 a0_3, .slice A0_4 l0_4.length c0_4]) (t := 30) ?hr ?_; (case hd => rfl); (case hg => rfl); (case hr => first | (go_simp; done) | (go_simp; rfl)); intro gb497 hg w3 hbox hb; have n0_ := Aside0.mk (below_step (by repeat (first | (with_reducible first | exact HB.out | apply below_alloc | apply pw_below_drewN | apply below_drew1) | exact HB.out)) hb); have n1_ := Aside0.mk (hbox); have n2_ := Aside0.mk ((by rw [hg]; exact (below_size (by repeat (first | (with_reducible first | exact HB.out | apply below_alloc | apply pw_below_drewN | apply below_drew1) | exact HB.out))) : w.heap.size ≤ gb497)); have n3_ := Aside0.mk ((by rw [hg]; exact (below_size (by repeat (first | (with_reducible first | exact HB.out | apply below_alloc | apply pw_below_drewN | apply below_drew1) | exact HB.out))) : w.heap.size ≤ gb497)); clear HB; have HB := n0_; have BK497 := n1_; have GW497 := n2_; have GE497 := n3_; clear n0_ n1_ n2_ n3_; clear hb hbox hg; have hcz4_0 : w3.cell? ⟨gb497, 0, none⟩ = some (.string a0_0) := (blk_cell BK497.out 0).trans rfl; have hcz4_1 : w3.cell? ⟨gb497, 1, none⟩ = some (.int .i64 a0_1) := (blk_cell BK497.out 1).trans rfl; have hcz4_2 : w3.cell? ⟨gb497, 2, none⟩ = some (.slice A0_2 l0_2.length c0_2) := (blk_cell BK497.out 2).trans rfl; have hcz4_3 : w3.cell? ⟨gb497, 3, none⟩ = some (.int .i64 a0_3) := (blk_cell BK497.out 3).trans rfl; have hcz4_4 : w3.cell? ⟨gb497, 4, none⟩ = some (.slice A0_4 l0_4.length c0_4) := (blk_cell BK497.out 4).trans rfl; have hfz4_0 := blk_frozen BK497.out 0; have hfz4_1 := blk_frozen BK497.out 1; have hfz4_2 := blk_frozen BK497.out 2; have hfz4_3 := blk_frozen BK497.out 3; have hfz4_4 := blk_frozen BK497.out 4))
 go_loopg [5, 12] k (fun kq v5 v12 w' => ∃ (x5_1 : List Int) (x12_1 : Int), v12 = .int .i64 x12_1 ∧ Aside0 (impl_PrevBlocks.l0 kq a1 x5_1 (l0_4.length : Int) x12_1 a0_0 a0_1 l0_2 a0_3 l0_4 = some r) ∧ Aside0 (kq ≤ k) ∧ Aside0 (Kd.R (Kd.int .i64) 2 w' w.heap.size (fun _ => True) v5 x5_1) ∧ Aside0 (w'.heap[gb497]? = some (.cells #[.string a0_0, .int .i64 a0_1, (.slice A0_2 l0_2.length c0_2), .int .i64 a0_3, (.slice A0_4 l0_4.length c0_4)] 30 (0, 0))) ∧ Aside0 (Below w.heap.size w w'))
 case atStart => exact ⟨(([] : List Int)), (0), (by first | rfl | (simp; done) | (simp [*]; done)), H', ⟨Nat.le_refl _⟩, ⟨by first | exact Kd.R_nil _ _ _ _ _ | exact Kd.N_nil _ _ _ _ _ | exact Kd.V_nil _ _ _ _ _ | exact Kd.Q_nil _ _ _ _ _ | exact Kd.S_nil _ _ _ _ _⟩, ⟨by (with_reducible repeat (first | refine blk_drewN ?_ _ | refine blk_drew ?_ | refine blk_alloc ?_ _)); exact BK497.out⟩, ⟨by repeat (first | (with_reducible first | exact HB.out | apply below_alloc | apply pw_below_drewN | apply below_drew1 | refine below_set ?_ GE497.out) | exact HB.out)⟩⟩
 case round =>
  clear H'
  try clear c2
  try clear p2
  try clear hcz4_0
  try clear hcz4_1
  try clear hcz4_2
  try clear hcz4_3
  try clear hcz4_4
  try clear hfz4_0
  try clear hfz4_1
  try clear hfz4_2
  try clear hfz4_3
  try clear hfz4_4
  obtain ⟨x5_1, x12_1, rfl, HA, HK1, HO_5, BK497, HB⟩ := hrel
  cases gk with
  | zero => exact absurd HA.out (by simp [impl_PrevBlocks.l0])
  | succ k1 =>
   have H := HA.out
   clear HA
   simp only [impl_PrevBlocks.l0] at H
   by_cases c5 : x12_1 < (l0_4.length : Int)
   · rw [if_pos c5] at H
     have c5b0 : decide (x12_1 < (l0_4.length : Int)) = true := decide_eq_true c5
     clear c5
     replace H := Option.bind_eq_some_iff.mp H
     obtain ⟨t498, A60, H⟩ := H
     replace H : (impl_PrevBlocks.l1 k1 a1 x5_1 x12_1 (l0_4.length : Int) x12_1 t498 (t498.length : Int) 0 a0_0 a0_1 l0_2 a0_3 l0_4) = some r := H
     have A6 := Aside0.mk A60
     clear A60
     have H' := Aside0.mk H
     clear H
     have hcz7_0 : wr.cell? ⟨gb497, 0, none⟩ = some (.string a0_0) := (blk_cell BK497.out 0).trans rfl
     have hcz7_1 : wr.cell? ⟨gb497, 1, none⟩ = some (.int .i64 a0_1) := (blk_cell BK497.out 1).trans rfl
     have hcz7_2 : wr.cell? ⟨gb497, 2, none⟩ = some (.slice A0_2 l0_2.length c0_2) := (blk_cell BK497.out 2).trans rfl
     have hcz7_3 : wr.cell? ⟨gb497, 3, none⟩ = some (.int .i64 a0_3) := (blk_cell BK497.out 3).trans rfl
     have hcz7_4 : wr.cell? ⟨gb497, 4, none⟩ = some (.slice A0_4 l0_4.length c0_4) := (blk_cell BK497.out 4).trans rfl
     have hfz7_0 := blk_frozen BK497.out 0
     have hfz7_1 := blk_frozen BK497.out 1
     have hfz7_2 := blk_frozen BK497.out 2
     have hfz7_3 := blk_frozen BK497.out 3
     have hfz7_4 := blk_frozen BK497.out 4
     go_wp2_with (first | ((with_reducible refine gate_callee (f := 18) rfl ?_); refine goesL_ (some 17) rfl rfl Try.func18 (by kernel_rfl) rfl #[.agg #[.string a0_0, .int .i64 a0_1, .slice A0_2 l0_2.length c0_2, .int .i64 a0_3, .slice A0_4 l0_4.length c0_4], .int .i64 x12_1] rfl (by (try simp only [List.map_toArray, List.map_cons, List.map_nil]); first | done | rfl | (simp only [List.length_drop, List.length_take]; rfl)) ?_; (with_reducible refine (impl_NextBlocks.calls a0_0 a0_1 _ _ l0_2 a0_3 _ _ l0_4 x12_1 t498 _ ?side1 ?side2 ?side3 ?side4 A6.out).mono ?_); (case side1 => repeat (first | exact (Kd.C_below HR0_2.out HB.out) | (with_reducible refine Kd.C_alloc ?_ _) | (with_reducible refine Kd.C_drewN ?_ _) | (with_reducible refine Kd.C_drew ?_))); (case side2 => exact HC0_2.out); (case side3 => repeat (first | exact (Kd.C_below HR0_4.out HB.out) | (with_reducible refine Kd.C_alloc ?_ _) | (with_reducible refine Kd.C_drewN ?_ _) | (with_reducible refine Kd.C_drew ?_))); (case side4 => exact HC0_4.out); rintro e w8 ⟨v499, rfl, ho0, hb⟩; refine ⟨_, rfl, ?_⟩; have n0_ := Aside0.mk (Kd.R_elder' (by (with_reducible repeat (first | apply Kd.R_alloc | apply Kd.R_drewN | apply Kd.R_drew)); exact HO_5.out) (Kd.R_base ho0) hb); have n1_ := Aside0.mk (Kd.R_lower (Kd.R_new' ho0 (Kd.R_lt (by (with_reducible repeat (first | apply Kd.R_alloc | apply Kd.R_drewN | apply Kd.R_drew)); exact HO_5.out))) (below_size (by repeat (first | (with_reducible first | exact HB.out | apply below_alloc | apply pw_below_drewN | apply below_drew1 | refine below_set ?_ GE497.out) | exact HB.out)))); have n2_ := Aside0.mk (blk_below (g := gb497) (o := .cells #[.string a0_0, .int .i64 a0_1, .slice A0_2 l0_2.length c0_2, .int .i64 a0_3, .slice A0_4 l0_4.length c0_4] 30 (0, 0)) (by (with_reducible repeat (first | refine blk_drewN ?_ _ | refine blk_drew ?_ | refine blk_alloc ?_ _)); exact BK497.out) hb); have n3_ := Aside0.mk (below_step (by repeat (first | (with_reducible first | exact HB.out | apply below_alloc | apply pw_below_drewN | apply below_drew1 | refine below_set ?_ GE497.out) | exact HB.out)) hb); clear HO_5; clear BK497; clear HB; have HO_5 := n0_; have HO500 := n1_; have BK497 := n2_; have HB := n3_; clear n0_ n1_ n2_ n3_; (try clear hb); (try clear hb2); (try clear hk); (try clear hi); (try clear ho0); obtain ⟨Ao9, co9, eo9⟩ := Kd.R_slice HO500.out; subst eo9))
     go_loopg [5, 19] k1 (fun kq v5 v19 w' => ∃ (x5_2 : List Int) (x19_2 : Int), v19 = .int .i64 x19_2 ∧ Aside0 (impl_PrevBlocks.l1 kq a1 x5_2 x12_1 (l0_4.length : Int) x12_1 t498 (t498.length : Int) x19_2 a0_0 a0_1 l0_2 a0_3 l0_4 = some r) ∧ Aside0 (kq ≤ k1) ∧ Aside0 (Kd.R (Kd.int .i64) 2 w' w.heap.size (fun k_ => some k_ ≠ ((.slice Ao9 t498.length co9) : Value).ownBlock) v5 x5_2) ∧ Aside0 (Kd.R (Kd.int .i64) 2 w' w.heap.size (fun k_ => some k_ ≠ (v5 : Value).ownBlock) (.slice Ao9 t498.length co9) t498) ∧ Aside0 (w'.heap[gb497]? = some (.cells #[.string a0_0, .int .i64 a0_1, (.slice A0_2 l0_2.length c0_2), .int .i64 a0_3, (.slice A0_4 l0_4.length c0_4)] 30 (0, 0))) ∧ Aside0 (Below w.heap.size w w'))
     case atStart => exact ⟨(x5_1), (0), (by first | rfl | (simp; done) | (simp [*]; done)), H', ⟨Nat.le_refl _⟩, ⟨by (with_reducible repeat (first | apply Kd.R_alloc | apply Kd.R_drewN | apply Kd.R_drew)); exact Kd.R_mono HO_5.out (fun _ hk => hk.2)⟩, ⟨by (with_reducible repeat (first | apply Kd.R_alloc | apply Kd.R_drewN | apply Kd.R_drew)); exact Kd.R_mono HO500.out (fun _ hk => hk.2)⟩, ⟨by (with_reducible repeat (first | refine blk_drewN ?_ _ | refine blk_drew ?_ | refine blk_alloc ?_ _)); exact BK497.out⟩, ⟨by repeat (first | (with_reducible first | exact HB.out | apply below_alloc | apply pw_below_drewN | apply below_drew1 | refine below_set ?_ GE497.out) | exact HB.out)⟩⟩
     case round =>
      clear H'
      try clear c1
      try clear c2
      try clear p2
      try clear c5
      try clear c5b0
      try clear hcz4_0
      try clear hcz4_1
      try clear hcz4_2
      try clear hcz4_3
      try clear hcz4_4
      try clear hcz7_0
      try clear hcz7_1
      try clear hcz7_2
      try clear hcz7_3
      try clear hcz7_4
      try clear hfz4_0
      try clear hfz4_1
      try clear hfz4_2
      try clear hfz4_3
      try clear hfz4_4
      try clear hfz7_0
      try clear hfz7_1
      try clear hfz7_2
      try clear hfz7_3
      try clear hfz7_4
      try clear p2
      obtain ⟨x5_2, x19_2, rfl, HA, HK2, HO_5, HO_17, BK497, HB⟩ := hrel
      cases gk with
      | zero => exact absurd HA.out (by simp [impl_PrevBlocks.l1])
      | succ k2 =>
       have H := HA.out
       clear HA
       simp only [impl_PrevBlocks.l1] at H
       by_cases c10 : x19_2 < (t498.length : Int)
       · rw [if_pos c10] at H
         have c10b0 : decide (x19_2 < (t498.length : Int)) = true := decide_eq_true c10
         clear c10
         by_cases c11 : 0 ≤ x19_2
         · rw [if_pos c11] at H
           have c11b0 : decide (0 ≤ x19_2) = true := decide_eq_true c11
           clear c11
           by_cases c12 : x19_2 < (t498.length : Int)
           · rw [if_pos c12] at H
             have c12b0 : decide (x19_2 < (t498.length : Int)) = true := decide_eq_true c12
             clear c12
             by_cases c13 : (rd t498 x19_2) = a1
             · rw [if_pos c13] at H
               have c13b0 : ((rd t498 x19_2) == a1) = true := beq_iff_eq.mpr c13
               have c13b1 : ((rd t498 x19_2) != a1) = false := bne_eq_false_iff_eq.mpr c13
               clear c13
               by_cases c14 : x5_2.length < 17592186044416
               · rw [if_pos c14] at H
                 have LMc14 := Aside0.mk c14
                 clear c14
                 obtain ⟨y502, hy502⟩ : ∃ y_ : List Int, y_ = (x5_2 ++ [x12_1]) := ⟨_, rfl⟩
                 replace H : (impl_PrevBlocks.l1 k2 a1 y502 x12_1 (l0_4.length : Int) x12_1 t498 (t498.length : Int) (wrap64 (x19_2 + 1)) a0_0 a0_1 l0_2 a0_3 l0_4) = some r := by first | (rw [hy502]; with_reducible exact H) | (have H2_ := (Option.bind_some _ _).symm.trans H; rw [hy502]; with_reducible exact H2_) | (have H2_ := (Option.bind_some _ _).symm.trans H; with_reducible exact H2_) | with_reducible exact H | (rw [hy502]; exact H) | exact H
                 have Ny502 := Aside0.mk hy502
                 clear hy502
                 have H' := Aside0.mk H
                 clear H
                 have p501 : 0 ≤ (x19_2 : Int) := of_decide_eq_true (by first | (with_reducible assumption) | assumption)
                 have q501 : x19_2 < (t498.length : Int) := of_decide_eq_true (by first | (with_reducible assumption) | assumption)
                 obtain ⟨ad501, e501, hx501_0⟩ := Kd.at_int (Kd.R_reads' HO_17.out).2.2 x19_2 p501 q501
                 cases e501
                 replace p501 := eq_true p501
                 replace q501 := eq_true q501
                 go_wp2_with (first | ((with_reducible refine gate_builtin (b := .append) (xs := #[.tmp 26, .tmp 28]) rfl ?_); at_builtin; refine Kd.R_append (Kd.int .i64) (w0 := w) w.heap.size rfl (.tmp 26) (.tmp 28) 22 2 (.int .i64 0) 8 rfl Try.underlying22 info2 rfl (by decide) (by omega) u5 x5_2 x12_1 [.int .i64 x12_1] (fun k_ => some k_ ≠ (.slice (some ad501) t498.length co9 : Value).ownBlock) (fun _ => False) rfl rfl ?aP (fun _ hk => hk.elim) ?aF ?aO ?aB ?aS ?aL ?_; (case aP => exact rfl); (case aB => exact (by repeat (first | (with_reducible first | exact HB.out | apply below_alloc | apply pw_below_drewN | apply below_drew1 | refine below_set ?_ GE497.out) | exact HB.out))); (case aF => exact (fun k_ hk => Kd.fresh' (Kd.R_lt (by (with_reducible repeat (first | apply Kd.R_alloc | apply Kd.R_drewN | apply Kd.R_drew)); exact HO_17.out)) k_ hk)); (case aO => exact (by (with_reducible repeat (first | apply Kd.R_alloc | apply Kd.R_drewN | apply Kd.R_drew)); exact HO_5.out)); (case aS => exact (below_size (by repeat (first | (with_reducible first | exact HB.out | apply below_alloc | apply pw_below_drewN | apply below_drew1 | refine below_set ?_ GE497.out) | exact HB.out)))); (case aL => have := LMc14.out; omega); intro v503 w15 ho hb hg hat; rw [← Ny502.out] at ho; have n0_ := Aside0.mk (Kd.R_after (ok := (fun _ => True)) (by (with_reducible repeat (first | apply Kd.R_alloc | apply Kd.R_drewN | apply Kd.R_drew)); exact Kd.R_mono HO_17.out (fun _ hk => ⟨trivial, hk⟩)) hg hat); have n1_ := Aside0.mk (blk_grown (g := gb497) (o := .cells #[.string a0_0, .int .i64 a0_1, .slice A0_2 l0_2.length c0_2, .int .i64 a0_3, .slice A0_4 l0_4.length c0_4] 30 (0, 0)) (by (with_reducible repeat (first | refine blk_drewN ?_ _ | refine blk_drew ?_ | refine blk_alloc ?_ _)); exact BK497.out) hg (Kd.R_ne HO_5.out BK497.out (by decide))); have n2_ := Aside0.mk (hb); have n3_ := Aside0.mk (ho); clear HO_17; clear BK497; clear HB; clear HO_5; have HO_17 := n0_; have BK497 := n1_; have HB := n2_; have HO504 := n3_; clear n0_ n1_ n2_ n3_; clear ho hb hg hat))
                 go_roundg k2
                 case measure => have := HK1.out; have := HK2.out; omega
                 case rel => exact ⟨(y502), (wrap64 (x19_2 + 1)), (by first | rfl | (simp; done) | (simp [*]; done)), H', ⟨by have := HK1.out; have := HK2.out; omega⟩, ⟨by (with_reducible repeat (first | apply Kd.R_alloc | apply Kd.R_drewN | apply Kd.R_drew)); exact HO504.out⟩, ⟨by (with_reducible repeat (first | apply Kd.R_alloc | apply Kd.R_drewN | apply Kd.R_drew)); exact Kd.R_mono HO_17.out (fun _ hk => hk.2)⟩, ⟨by (with_reducible repeat (first | refine blk_drewN ?_ _ | refine blk_drew ?_ | refine blk_alloc ?_ _)); exact BK497.out⟩, ⟨by repeat (first | (with_reducible first | exact HB.out | apply below_alloc | apply pw_below_drewN | apply below_drew1 | refine below_set ?_ GE497.out) | exact HB.out)⟩⟩
               · rw [if_neg c14] at H
                 exact absurd H (by simp)
             · rw [if_neg c13] at H
               have c13b0 : ((rd t498 x19_2) == a1) = false := beq_eq_false_iff_ne.mpr c13
               have c13b1 : ((rd t498 x19_2) != a1) = true := bne_iff_ne.mpr c13
               have H' := Aside0.mk H
               clear H
               have p501 : 0 ≤ (x19_2 : Int) := of_decide_eq_true (by first | (with_reducible assumption) | assumption)
               have q501 : x19_2 < (t498.length : Int) := of_decide_eq_true (by first | (with_reducible assumption) | assumption)
               obtain ⟨ad501, e501, hx501_0⟩ := Kd.at_int (Kd.R_reads' HO_17.out).2.2 x19_2 p501 q501
               cases e501
               replace p501 := eq_true p501
               replace q501 := eq_true q501
               go_wp2
               go_roundg k2
               case measure => have := HK1.out; have := HK2.out; omega
               case rel => exact ⟨(x5_2), (wrap64 (x19_2 + 1)), (by first | rfl | (simp; done) | (simp [*]; done)), H', ⟨by have := HK1.out; have := HK2.out; omega⟩, ⟨by (with_reducible repeat (first | apply Kd.R_alloc | apply Kd.R_drewN | apply Kd.R_drew)); exact HO_5.out⟩, ⟨by (with_reducible repeat (first | apply Kd.R_alloc | apply Kd.R_drewN | apply Kd.R_drew)); exact HO_17.out⟩, ⟨by (with_reducible repeat (first | refine blk_drewN ?_ _ | refine blk_drew ?_ | refine blk_alloc ?_ _)); exact BK497.out⟩, ⟨by repeat (first | (with_reducible first | exact HB.out | apply below_alloc | apply pw_below_drewN | apply below_drew1 | refine below_set ?_ GE497.out) | exact HB.out)⟩⟩
           · rw [if_neg c12] at H
             exact absurd H (by simp)
         · rw [if_neg c11] at H
           exact absurd H (by simp)
       · rw [if_neg c10] at H
         have c10b0 : decide (x19_2 < (t498.length : Int)) = false := decide_eq_false c10
         clear c10
         have H' := Aside0.mk H
         clear H
         go_wp2
         go_roundg k2
         case measure => have := HK1.out; have := HK2.out; omega
         case rel => exact ⟨(x5_2), (wrap64 (x12_1 + 1)), (by first | rfl | (simp; done) | (simp [*]; done)), H', ⟨by have := HK1.out; have := HK2.out; omega⟩, ⟨by (with_reducible repeat (first | apply Kd.R_alloc | apply Kd.R_drewN | apply Kd.R_drew)); exact Kd.R_mono HO_5.out (fun _ hk => trivial)⟩, ⟨by (with_reducible repeat (first | refine blk_drewN ?_ _ | refine blk_drew ?_ | refine blk_alloc ?_ _)); exact BK497.out⟩, ⟨by repeat (first | (with_reducible first | exact HB.out | apply below_alloc | apply pw_below_drewN | apply below_drew1 | refine below_set ?_ GE497.out) | exact HB.out)⟩⟩
   · rw [if_neg c5] at H
     have c5b0 : decide (x12_1 < (l0_4.length : Int)) = false := decide_eq_false c5
     clear c5
     obtain rfl := Option.some.inj H
     go_wp2
     go_ret
     exact ⟨_, by first | rfl | (simp [errW_none, errW_some] <;> rfl) | (simp [*, errW_none, errW_some] <;> rfl), by (with_reducible repeat (first | apply Kd.R_alloc | apply Kd.R_drewN | apply Kd.R_drew)); exact HO_5.out, by repeat (first | (with_reducible first | exact HB.out | apply below_alloc | apply pw_below_drewN | apply below_drew1 | refine below_set ?_ GE497.out) | exact HB.out)⟩

end Go.Proofs.Ytoedcnhgobbnfaa.All


/- Next and previous blocks: the reference's and the program's lists are one. -/
namespace Go.Proofs.Ytoedcnhgobbnfaa.All
open Go.RowKit Go.Proofs.YtoedcnhgobbnfaaW.PrintWords Go.Proofs.YtoedcnhgobbnfaaW.PrintLast Go.Proofs.YtoedcnhgobbnfaaW.PrintMore
set_option linter.unusedVariables false
set_option linter.unusedSimpArgs false
def gOk (bs : List S62) : Prop := bs.length ≤ 1048576 ∧ ∀ b ∈ bs, bBlock b
def nextOf (bs : List S62) (a : Int) : List Int :=
  if a < 0 then [] else if (bs.length : Int) ≤ a then [] else if (rd_T62 bs a).f0.length = 0 then [] else nextL bs.length (rd_T66 (rd_T62 bs a).f0 (((rd_T62 bs a).f0.length : Int) - 1)).f7
theorem getD_mem {α : Type} {xs : List α} {i : Nat} (h : i < xs.length) (z : α) : xs.getD i z ∈ xs := by rw [getD_eq h]; exact List.getElem_mem h
theorem gOk_at {bs : List S62} (h : gOk bs) {a : Int} (h0 : 0 ≤ a) (h1 : a < (bs.length : Int)) : bBlock (rd_T62 bs a) := h.2 _ (getD_mem (by omega) _)
theorem gOk_last {bs : List S62} (h : gOk bs) {a : Int} (h0 : 0 ≤ a) (h1 : a < (bs.length : Int)) (h2 : (rd_T62 bs a).f0.length ≠ 0) : bInstr (rd_T66 (rd_T62 bs a).f0 (((rd_T62 bs a).f0.length : Int) - 1)) := (gOk_at h h0 h1).2 _ (getD_mem (by omega) _)
theorem nextOf_len {bs : List S62} (h : gOk bs) (a : Int) : (nextOf bs a).length ≤ 1048576 := by
  unfold nextOf
  split
  · simp
  · split
    · simp
    · split
      · simp
      · have h1 := gOk_last h (a := a) (by omega) (by omega) (by assumption)
        have h2 := nextL_len bs.length (rd_T66 (rd_T62 bs a).f0 (((rd_T62 bs a).f0.length : Int) - 1)).f7
        have := h1.2.1
        omega
theorem nextOf_range (bs : List S62) (a : Int) : ∀ x ∈ nextOf bs a, 0 ≤ x ∧ x < (bs.length : Int) := by
  unfold nextOf
  split
  · simp
  · split
    · simp
    · split
      · simp
      · exact nextL_range _ _
theorem implNext_f (n : ByteArray) (y : Int) (ps : List Int) (c : Int) (bs : List S62) (a : Int) (h : gOk bs) : impl_NextBlocks.f n y ps c bs a = some (nextOf bs a) := by
  unfold impl_NextBlocks.f nextOf
  by_cases h1 : a < 0
  · rw [if_pos h1, if_pos h1]
  rw [if_neg h1, if_neg h1]
  by_cases h2 : (bs.length : Int) ≤ a
  · rw [if_pos h2, if_pos h2]
  rw [if_neg h2, if_neg h2]
  by_cases h3 : (rd_T62 bs a).f0.length = 0
  · rw [if_pos h3, if_pos h3]
  rw [if_neg h3, if_neg h3]
  have h4 := gOk_last h (a := a) (by omega) (by omega) h3
  have h5 := gOk_at h (a := a) (by omega) (by omega)
  have := h.1
  have := h5.1
  have := h4.2.1
  rw [if_pos ⟨by omega, by omega, by omega⟩]
theorem l4Has_f (l : List Int) (v : Int) (hl : l.length ≤ 9223372036854775806) : Ev (fun k => spec_l4Has.f k l v) (l.contains v) := by
  unfold spec_l4Has.f
  have key : ∀ d i : Nat, i + d = l.length → Ev (fun k => spec_l4Has.l0 k l v (i : Int)) ((l.drop i).contains v) := by
    intro d
    induction d with
    | zero =>
      intro i hi
      obtain rfl : i = l.length := by omega
      refine Ev.succ ?_
      simp only [spec_l4Has.l0]
      rw [List.drop_length]
      exact Ev.neg (by omega) (Ev.some (by simp))
    | succ d ih =>
      intro i hi
      have hlt : i < l.length := by omega
      refine Ev.succ ?_
      simp only [spec_l4Has.l0]
      have e : rd l i = l[i] := by simp [rd, List.getElem?_eq_getElem hlt]
      rw [e, wrap64_nat (by omega), List.drop_eq_getElem_cons hlt, List.contains_cons]
      refine Ev.pos (by omega) (Ev.pos (by omega) ?_)
      by_cases c : l[i] = v
      · exact Ev.pos c (Ev.some (by simp [c]))
      · refine Ev.neg c ?_
        rw [beq_eq_false_iff_ne.2 (Ne.symm c), Bool.false_or]
        exact ih (i + 1) (by omega)
  exact key l.length 0 (by omega)
theorem specNext_f (n : ByteArray) (y : Int) (ps : List Int) (c : Int) (bs : List S62) (a : Int) (h : gOk bs) : Ev (fun k => spec_NextBlocks.f k n y ps c bs a) (nextOf bs a) := by
  unfold spec_NextBlocks.f nextOf
  refine Ev.some_bind ?_
  have done : Ev (fun k => spec_NextBlocks.j0 k a [] true n y ps c bs) [] := by
    refine Ev.succ ?_
    simp only [spec_NextBlocks.j0]
    exact Ev.pos trivial (Ev.now _)
  by_cases h1 : a < 0
  · rw [if_pos h1]
    exact Ev.pos h1 done
  rw [if_neg h1]
  refine Ev.neg h1 ?_
  by_cases h2 : (bs.length : Int) ≤ a
  · rw [if_pos h2]
    exact Ev.pos h2 done
  rw [if_neg h2]
  refine Ev.neg (by omega) (Ev.pos (by omega) (Ev.pos (by omega) ?_))
  by_cases h3 : (rd_T62 bs a).f0.length = 0
  · rw [if_pos h3]
    have e : (((rd_T62 bs a).f0.length : Int) == 0) = true := by rw [h3]; rfl
    rw [e]
    exact done
  rw [if_neg h3]
  have e : (((rd_T62 bs a).f0.length : Int) == 0) = false := by rw [beq_eq_false_iff_ne]; omega
  rw [e]
  have h4 := gOk_last h (a := a) (by omega) (by omega) h3
  have h5 := gOk_at h (a := a) (by omega) (by omega)
  have h6 := h5.1
  have h7 := h4.2.1
  have hb := h.1
  refine Ev.succ ?_
  simp only [spec_NextBlocks.j0]
  rw [wrap64_id (x := ((rd_T62 bs a).f0.length : Int) - 1) (by omega) (by omega)]
  refine Ev.neg (by simp) (Ev.pos (by omega) (Ev.pos (by omega) (Ev.pos (by omega) (Ev.pos (by omega) ?_))))
  generalize rd_T66 (rd_T62 bs a).f0 (((rd_T62 bs a).f0.length : Int) - 1) = x at h4 h7
  have key : ∀ d i : Nat, i + d = x.f7.length → Ev (fun k => spec_NextBlocks.l0 k (nextL bs.length (x.f7.take i)) (i : Int) n y ps c bs x.f0 x.f1 x.f2 x.f3 x.f4 x.f5 x.f6 x.f7 x.f8) (nextL bs.length x.f7) := by
    intro d
    induction d with
    | zero =>
      intro i hi
      obtain rfl : i = x.f7.length := by omega
      refine Ev.succ ?_
      simp only [spec_NextBlocks.l0]
      rw [List.take_length]
      exact Ev.neg (by omega) (Ev.now _)
    | succ d ih =>
      intro i hi
      have hlt : i < x.f7.length := by omega
      have h8 := ih (i + 1) (by omega)
      rw [nextL_take bs.length x.f7 i hlt] at h8
      refine Ev.succ ?_
      simp only [spec_NextBlocks.l0]
      have e1 : rd x.f7 i = x.f7[i] := by simp [rd, List.getElem?_eq_getElem hlt]
      have hlen := nextL_len bs.length (x.f7.take i)
      rw [List.length_take] at hlen
      rw [e1, wrap64_nat (by omega)]
      refine Ev.pos (by omega) (Ev.pos (by omega) ?_)
      unfold stepN at h8
      by_cases c0 : 0 ≤ x.f7[i]
      · by_cases c1 : x.f7[i] < (bs.length : Int)
        · refine Ev.pos c0 (Ev.pos c1 (Ev.bind (l4Has_f _ _ (by omega)) ?_))
          by_cases c2 : (nextL bs.length (x.f7.take i)).contains x.f7[i] = true
          · rw [if_neg (by rw [c2]; simp)] at h8
            exact Ev.pos c2 h8
          · rw [if_pos ⟨c0, c1, by simpa using c2⟩] at h8
            exact Ev.neg c2 (Ev.pos (by omega) h8)
        · rw [if_neg (fun h => c1 h.2.1)] at h8
          exact Ev.pos c0 (Ev.neg c1 h8)
      · rw [if_neg (fun h => c0 h.1)] at h8
        exact Ev.neg c0 h8
  exact key x.f7.length 0 (by omega)
end Go.Proofs.Ytoedcnhgobbnfaa.All


/- Which blocks can be come to: the reference's walk and the program's are one. -/
namespace Go.Proofs.Ytoedcnhgobbnfaa.All
open Go.RowKit Go.Proofs.YtoedcnhgobbnfaaW.PrintWords Go.Proofs.YtoedcnhgobbnfaaW.PrintLast Go.Proofs.YtoedcnhgobbnfaaW.PrintMore
set_option linter.unusedVariables false
set_option linter.unusedSimpArgs false
def rsOf (bs : List S62) : List (List Int) := (List.range bs.length).map fun (b : Nat) => nextOf bs (b : Int)
theorem rsOf_len (bs : List S62) : (rsOf bs).length = bs.length := by simp [rsOf]
theorem rsOf_getD (bs : List S62) (i : Nat) (h : i < bs.length) : (rsOf bs).getD i [] = nextOf bs (i : Int) := by
  unfold rsOf
  rw [List.getD_eq_getElem?_getD, List.getElem?_map, List.getElem?_eq_getElem (by simpa using h)]
  simp
theorem rsOf_ok {bs : List S62} (h : gOk bs) : okRows bs.length (rsOf bs) = true := by
  unfold okRows rsOf
  rw [List.all_eq_true]
  intro r hr
  obtain ⟨b, _, rfl⟩ := List.mem_map.1 hr
  rw [Bool.and_eq_true, decide_eq_true_eq, List.all_eq_true]
  have := nextOf_len h (b : Int)
  exact ⟨by omega, fun t ht => by simpa using nextOf_range bs (b : Int) t ht⟩
theorem l4Build_f (n : ByteArray) (y : Int) (ps : List Int) (c : Int) (bs : List S62) (h : gOk bs) : Ev (fun k => spec_l4Build.f k n y ps c bs) (rsOf bs, prevUp (rsOf bs) bs.length) := by
  unfold spec_l4Build.f
  have hb := h.1
  refine Ev.pos (by omega) ?_
  have key : ∀ m : Nat, Ev (fun k => rowsOf (fun b => spec_NextBlocks.f k n y ps c bs b) m) ((List.range m).map fun (b : Nat) => nextOf bs (b : Int)) := by
    intro m
    induction m with
    | zero => exact Ev.now _
    | succ m ih =>
      simp only [rowsOf]
      refine Ev.bind ih (Ev.bind (specNext_f n y ps c bs (m : Int) h) ?_)
      rw [List.range_succ, List.map_append]
      exact Ev.now _
  exact Ev.bind (key bs.length) (Ev.pos (rsOf_ok h) (Ev.now _))
/-- How many are not come to yet. -/
def fc : List Bool → Nat
  | [] => 0
  | b :: bs => (if b = true then 0 else 1) + fc bs
theorem fc_set : ∀ (s : List Bool) (i : Nat), i < s.length → s.getD i false = false → fc (s.set i true) + 1 = fc s
  | [], i, h, _ => absurd h (by simp)
  | b :: s, 0, _, h => by
    have hb : b = false := by simpa using h
    subst hb
    simp only [List.set_cons_zero, fc]
    simp
    omega
  | b :: s, i + 1, h, h2 => by
    have := fc_set s i (by simpa using h) (by simpa using h2)
    simp only [List.set_cons_succ, fc]
    omega
def reIn (wo : Int) : List Int → List Bool → List Int → List Bool × List Int
  | [], s, t => (s, t)
  | x :: xs, s, t => if x = wo ∨ s.getD x.toNat false = true then reIn wo xs s t else reIn wo xs (s.set x.toNat true) (t ++ [x])
theorem reIn_inv (wo : Int) (n : Nat) : ∀ (l : List Int) (s : List Bool) (t : List Int), s.length = n → (∀ x ∈ l, 0 ≤ x ∧ x < (n : Int)) → (∀ x ∈ t, 0 ≤ x ∧ x < (n : Int)) →
    (reIn wo l s t).1.length = n ∧ (∀ x ∈ (reIn wo l s t).2, 0 ≤ x ∧ x < (n : Int)) ∧ fc (reIn wo l s t).1 + (reIn wo l s t).2.length = fc s + t.length
  | [], s, t, hs, _, ht => ⟨hs, ht, rfl⟩
  | x :: xs, s, t, hs, hl, ht => by
    have hx := hl x (List.mem_cons_self ..)
    simp only [reIn]
    by_cases c : x = wo ∨ s.getD x.toNat false = true
    · rw [if_pos c]
      exact reIn_inv wo n xs s t hs (fun z hz => hl z (List.mem_cons_of_mem _ hz)) ht
    · rw [if_neg c]
      obtain ⟨h1, h2, h3⟩ := reIn_inv wo n xs (s.set x.toNat true) (t ++ [x]) (by rw [List.length_set]; exact hs) (fun z hz => hl z (List.mem_cons_of_mem _ hz)) (by
        intro z hz
        rcases List.mem_append.1 hz with hz | hz
        · exact ht z hz
        · rw [List.mem_singleton.1 hz]; exact hx)
      have h4 := fc_set s x.toNat (by omega) (by
        cases hg : s.getD x.toNat false with
        | false => rfl
        | true => exact absurd (Or.inr hg) c)
      refine ⟨h1, h2, ?_⟩
      rw [h3, List.length_append, List.length_singleton]
      omega
def reOut (N : Int → List Int) (wo : Int) : Nat → List Bool → List Int → List Bool
  | 0, s, _ => s
  | f + 1, s, t => match t.getLast? with
    | none => s
    | some b => reOut N wo f (reIn wo (N b) s t.dropLast).1 (reIn wo (N b) s t.dropLast).2
theorem reOut_len (bs : List S62) (wo : Int) : ∀ (f : Nat) (s : List Bool) (t : List Int), s.length = bs.length → (∀ x ∈ t, 0 ≤ x ∧ x < (bs.length : Int)) → (reOut (nextOf bs) wo f s t).length = bs.length
  | 0, s, t, hs, _ => hs
  | f + 1, s, t, hs, ht => by
    rcases List.eq_nil_or_concat t with rfl | ⟨i, b, rfl⟩
    · simpa [reOut] using hs
    · simp only [List.concat_eq_append] at ht ⊢
      simp only [reOut, List.getLast?_append, List.getLast?_singleton, Option.some_or, List.dropLast_concat]
      have h := reIn_inv wo bs.length (nextOf bs b) s i hs (nextOf_range bs b) (fun x hx => ht x (List.mem_append_left _ hx))
      exact reOut_len bs wo f _ _ h.1 h.2.1
def reachOf (bs : List S62) (wo : Int) : List Bool :=
  if bs.length = 0 ∨ wo = 0 then List.replicate bs.length false else reOut (nextOf bs) wo (bs.length + 1) ((List.replicate bs.length false).set 0 true) [0]
theorem reachOf_len (bs : List S62) (wo : Int) : (reachOf bs wo).length = bs.length := by
  unfold reachOf
  split
  · simp
  · exact reOut_len bs wo _ _ _ (by simp) (by intro x hx; rw [List.mem_singleton.1 hx]; omega)
theorem rdOf_eq (s : List Bool) (x : Int) : rdOf false s x = s.getD x.toNat false := rfl
theorem specRe_f (ps : List (List Int)) (wo : Int) (bs : List S62) (h : gOk bs) : ∀ (f : Nat) (s : List Bool) (t : List Int), fc s + t.length ≤ f → f ≤ 4194304 → s.length = bs.length → (∀ x ∈ t, 0 ≤ x ∧ x < (bs.length : Int)) → Ev (fun k => spec_l4Reach.l0 k wo s t (rsOf bs) ps) (reOut (nextOf bs) wo f s t) := by
  have hb := h.1
  have inner : ∀ (b : Int), 0 ≤ b → b < (bs.length : Int) → ∀ (r : List Bool) (d j : Nat) (s : List Bool) (t : List Int), j + d = (nextOf bs b).length → s.length = bs.length → fc s + t.length ≤ 4194304 →
      Ev (fun k => spec_l4Reach.l0 k wo (reIn wo ((nextOf bs b).drop j) s t).1 (reIn wo ((nextOf bs b).drop j) s t).2 (rsOf bs) ps) r → Ev (fun k => spec_l4Reach.l1 k wo s t b (j : Int) (rsOf bs) ps) r := by
    intro b h0 h1 r d
    have hrow : rd_L4 (rsOf bs) b = nextOf bs b := by
      have := rsOf_getD bs b.toNat (by omega)
      rw [Int.toNat_of_nonneg h0] at this
      exact this
    have hlen := nextOf_len h b
    have hrg := nextOf_range bs b
    induction d with
    | zero =>
      intro j s t hj hs hf h8
      obtain rfl : j = (nextOf bs b).length := by omega
      rw [List.drop_length] at h8
      refine Ev.succ ?_
      simp only [spec_l4Reach.l1]
      rw [hrow, rsOf_len]
      exact Ev.pos h0 (Ev.pos h1 (Ev.neg (by omega) h8))
    | succ d ih =>
      intro j s t hj hs hf h8
      have hlt : j < (nextOf bs b).length := by omega
      have e1 : rd (nextOf bs b) j = (nextOf bs b)[j] := by simp [rd, List.getElem?_eq_getElem hlt]
      have hx := hrg _ (List.getElem_mem hlt)
      rw [List.drop_eq_getElem_cons hlt] at h8
      generalize (nextOf bs b)[j] = x at e1 hx h8
      simp only [reIn] at h8
      refine Ev.succ ?_
      simp only [spec_l4Reach.l1]
      rw [hrow, rsOf_len, e1, wrap64_nat (by omega), hs, rdOf_eq]
      refine Ev.pos h0 (Ev.pos h1 (Ev.pos (by omega) (Ev.pos (by omega) ?_)))
      by_cases c1 : x = wo
      · rw [if_pos (Or.inl c1)] at h8
        exact Ev.pos c1 (ih (j + 1) s t (by omega) hs hf h8)
      · refine Ev.neg c1 (Ev.pos hx.1 (Ev.pos hx.2 ?_))
        by_cases c2 : s.getD x.toNat false = true
        · rw [if_pos (Or.inr c2)] at h8
          exact Ev.pos c2 (ih (j + 1) s t (by omega) hs hf h8)
        · rw [if_neg (fun hh => hh.elim c1 c2)] at h8
          have h4 := fc_set s x.toNat (by omega) (by simpa using c2)
          exact Ev.neg c2 (Ev.pos (by omega) (ih (j + 1) _ _ (by omega) (by rw [List.length_set]; exact hs) (by rw [List.length_append, List.length_singleton]; omega) h8))
  intro f
  induction f with
  | zero =>
    intro s t hm hf hs ht
    have : t = [] := List.length_eq_zero_iff.1 (by omega)
    subst this
    refine Ev.succ ?_
    simp only [spec_l4Reach.l0]
    exact Ev.neg (by simp) (Ev.now _)
  | succ f ih =>
    intro s t hm hf hs ht
    rcases List.eq_nil_or_concat t with rfl | ⟨i, b, rfl⟩
    · refine Ev.succ ?_
      simp only [spec_l4Reach.l0, reOut, List.getLast?_nil]
      exact Ev.neg (by simp) (Ev.now _)
    · simp only [List.concat_eq_append] at hm ht ⊢
      have hbb := ht b (by simp)
      have hinv := reIn_inv wo bs.length (nextOf bs b) s i hs (nextOf_range bs b) (fun x hx => ht x (List.mem_append_left _ hx))
      rw [List.length_append, List.length_singleton] at hm
      refine Ev.succ ?_
      simp only [spec_l4Reach.l0, reOut, List.getLast?_append, List.getLast?_singleton, Option.some_or, List.dropLast_concat, List.length_append, List.length_singleton]
      rw [wrap64_id (x := ((i.length + 1 : Nat) : Int) - 1) (by omega) (by omega)]
      have e2 : (((i.length + 1 : Nat) : Int) - 1) = (i.length : Int) := by omega
      rw [e2]
      have e3 : rd (i ++ [b]) (i.length : Int) = b := by simp [rd]
      rw [e3, Int.toNat_natCast, List.take_left]
      refine Ev.pos (by omega) (Ev.pos (by omega) (Ev.pos (by omega) (Ev.pos (by omega) ?_)))
      refine inner b hbb.1 hbb.2 _ (nextOf bs b).length 0 s i (by omega) hs (by omega) ?_
      rw [List.drop_zero]
      exact ih _ _ (by omega) (by omega) hinv.1 hinv.2.1
theorem fc_rep (n : Nat) : fc (List.replicate n false) = n := by
  induction n with
  | zero => rfl
  | succ n ih => rw [List.replicate_succ, fc, ih]; simp; omega
theorem specReach_f (ps : List (List Int)) (wo : Int) (bs : List S62) (h : gOk bs) : Ev (fun k => spec_l4Reach.f k (rsOf bs) ps 0 wo) (reachOf bs wo) := by
  have hb := h.1
  unfold spec_l4Reach.f reachOf
  rw [rsOf_len, Int.toNat_natCast]
  refine Ev.pos (by omega) (Ev.pos (by omega) (Ev.some_bind ?_))
  have done : Ev (fun k => spec_l4Reach.j0 k 0 wo (List.replicate bs.length false) true (rsOf bs) ps) (List.replicate bs.length false) := by
    refine Ev.succ ?_
    simp only [spec_l4Reach.j0]
    exact Ev.pos trivial (Ev.now _)
  by_cases c1 : 0 = wo
  · rw [if_pos (Or.inr c1.symm)]
    exact Ev.pos c1 done
  refine Ev.neg c1 (Ev.neg (by omega) ?_)
  by_cases c2 : bs.length = 0
  · rw [if_pos (Or.inl c2), decide_eq_true (by omega)]
    exact done
  rw [if_neg (fun hh => hh.elim c2 (fun e => c1 e.symm)), decide_eq_false (by omega)]
  refine Ev.succ ?_
  simp only [spec_l4Reach.j0, List.length_replicate]
  refine Ev.neg (by simp) (Ev.pos (by omega) (Ev.pos (by omega) ?_))
  have h4 := fc_set (List.replicate bs.length false) 0 (by simp; omega) (by rw [List.getD_eq_getElem?_getD, List.getElem?_replicate, if_pos (by omega)]; rfl)
  rw [fc_rep] at h4
  refine specRe_f ps wo bs h (bs.length + 1) _ _ (by simp; omega) (by omega) (by simp) (by intro x hx; rw [List.mem_singleton.1 hx]; omega)
theorem implRe_f (n : ByteArray) (y : Int) (ps : List Int) (c : Int) (wo : Int) (bs : List S62) (h : gOk bs) : ∀ (f : Nat) (s : List Bool) (t : List Int), fc s + t.length ≤ f → f ≤ 4194304 → s.length = bs.length → (∀ x ∈ t, 0 ≤ x ∧ x < (bs.length : Int)) → Ev (fun k => impl_reached.l0 k wo s t n y ps c bs) (reOut (nextOf bs) wo f s t) := by
  have hb := h.1
  have inner : ∀ (b : Int), 0 ≤ b → b < (bs.length : Int) → ∀ (r : List Bool) (d j : Nat) (s : List Bool) (t : List Int), j + d = (nextOf bs b).length → s.length = bs.length → fc s + t.length ≤ 4194304 →
      Ev (fun k => impl_reached.l0 k wo (reIn wo ((nextOf bs b).drop j) s t).1 (reIn wo ((nextOf bs b).drop j) s t).2 n y ps c bs) r → Ev (fun k => impl_reached.l1 k wo s t (nextOf bs b) ((nextOf bs b).length : Int) (j : Int) n y ps c bs) r := by
    intro b h0 h1 r d
    have hlen := nextOf_len h b
    have hrg := nextOf_range bs b
    induction d with
    | zero =>
      intro j s t hj hs hf h8
      obtain rfl : j = (nextOf bs b).length := by omega
      rw [List.drop_length] at h8
      refine Ev.succ ?_
      simp only [impl_reached.l1]
      exact Ev.neg (by omega) h8
    | succ d ih =>
      intro j s t hj hs hf h8
      have hlt : j < (nextOf bs b).length := by omega
      have e1 : rd (nextOf bs b) j = (nextOf bs b)[j] := by simp [rd, List.getElem?_eq_getElem hlt]
      have hx := hrg _ (List.getElem_mem hlt)
      rw [List.drop_eq_getElem_cons hlt] at h8
      generalize (nextOf bs b)[j] = x at e1 hx h8
      simp only [reIn] at h8
      refine Ev.succ ?_
      simp only [impl_reached.l1]
      rw [e1, wrap64_nat (by omega), hs, rdOf_eq]
      refine Ev.pos (by omega) (Ev.pos (by omega) (Ev.pos (by omega) (Ev.pos hx.1 (Ev.pos hx.2 ?_))))
      by_cases c2 : s.getD x.toNat false = true
      · rw [if_pos (Or.inr c2)] at h8
        exact Ev.pos c2 (ih (j + 1) s t (by omega) hs hf h8)
      · refine Ev.neg c2 ?_
        by_cases c1 : x = wo
        · rw [if_pos (Or.inl c1)] at h8
          exact Ev.pos c1 (ih (j + 1) s t (by omega) hs hf h8)
        · rw [if_neg (fun hh => hh.elim c1 c2)] at h8
          have h4 := fc_set s x.toNat (by omega) (by simpa using c2)
          exact Ev.neg c1 (Ev.pos (by omega) (ih (j + 1) _ _ (by omega) (by rw [List.length_set]; exact hs) (by rw [List.length_append, List.length_singleton]; omega) h8))
  intro f
  induction f with
  | zero =>
    intro s t hm hf hs ht
    have : t = [] := List.length_eq_zero_iff.1 (by omega)
    subst this
    refine Ev.succ ?_
    simp only [impl_reached.l0]
    exact Ev.neg (by simp) (Ev.now _)
  | succ f ih =>
    intro s t hm hf hs ht
    rcases List.eq_nil_or_concat t with rfl | ⟨i, b, rfl⟩
    · refine Ev.succ ?_
      simp only [impl_reached.l0, reOut, List.getLast?_nil]
      exact Ev.neg (by simp) (Ev.now _)
    · simp only [List.concat_eq_append] at hm ht ⊢
      have hbb := ht b (by simp)
      have hinv := reIn_inv wo bs.length (nextOf bs b) s i hs (nextOf_range bs b) (fun x hx => ht x (List.mem_append_left _ hx))
      rw [List.length_append, List.length_singleton] at hm
      refine Ev.succ ?_
      simp only [impl_reached.l0, reOut, List.getLast?_append, List.getLast?_singleton, Option.some_or, List.dropLast_concat, List.length_append, List.length_singleton]
      rw [wrap64_id (x := ((i.length + 1 : Nat) : Int) - 1) (by omega) (by omega)]
      have e2 : (((i.length + 1 : Nat) : Int) - 1) = (i.length : Int) := by omega
      rw [e2]
      have e3 : rd (i ++ [b]) (i.length : Int) = b := by simp [rd]
      rw [e3, Int.toNat_natCast, List.take_left]
      refine Ev.pos (by omega) (Ev.pos (by omega) (Ev.pos (by omega) (Ev.pos (by omega) (Ev.eq_bind (implNext_f n y ps c bs b h) ?_))))
      refine inner b hbb.1 hbb.2 _ (nextOf bs b).length 0 s i (by omega) hs (by omega) ?_
      rw [List.drop_zero]
      exact ih _ _ (by omega) (by omega) hinv.1 hinv.2.1
theorem implReach_f (n : ByteArray) (y : Int) (ps : List Int) (c : Int) (wo : Int) (bs : List S62) (h : gOk bs) : Ev (fun k => impl_reached.f k n y ps c bs wo) (reachOf bs wo) := by
  have hb := h.1
  unfold impl_reached.f reachOf
  rw [Int.toNat_natCast]
  refine Ev.pos (by omega) (Ev.pos (by omega) (Ev.some_bind ?_))
  have done : Ev (fun k => impl_reached.j0 k wo (List.replicate bs.length false) true n y ps c bs) (List.replicate bs.length false) := by
    refine Ev.succ ?_
    simp only [impl_reached.j0]
    exact Ev.pos trivial (Ev.now _)
  by_cases c2 : bs.length = 0
  · rw [if_pos (Or.inl c2)]
    exact Ev.pos (by omega) done
  refine Ev.neg (by omega) ?_
  by_cases c1 : wo = 0
  · rw [if_pos (Or.inr c1), show (wo == 0) = true from by rw [c1]; rfl]
    exact done
  rw [if_neg (fun hh => hh.elim c2 c1), show (wo == 0) = false from by rw [beq_eq_false_iff_ne]; exact c1]
  refine Ev.succ ?_
  simp only [impl_reached.j0, List.length_replicate]
  refine Ev.neg (by simp) (Ev.pos (by omega) ?_)
  have h4 := fc_set (List.replicate bs.length false) 0 (by simp; omega) (by rw [List.getD_eq_getElem?_getD, List.getElem?_replicate, if_pos (by omega)]; rfl)
  rw [fc_rep] at h4
  refine implRe_f n y ps c wo bs h (bs.length + 1) _ _ (by simp; omega) (by omega) (by simp) (by intro x hx; rw [List.mem_singleton.1 hx]; omega)
end Go.Proofs.Ytoedcnhgobbnfaa.All


/- Who dominates whom, as a table; the nearest one of each. -/
namespace Go.Proofs.Ytoedcnhgobbnfaa.All
open Go.RowKit Go.Proofs.YtoedcnhgobbnfaaW.PrintWords Go.Proofs.YtoedcnhgobbnfaaW.PrintLast Go.Proofs.YtoedcnhgobbnfaaW.PrintMore
set_option linter.unusedVariables false
set_option linter.unusedSimpArgs false
theorem fill_gen {β ρ : Type} (f : Nat → β) (xs : List β) (r : ρ) (g : Nat → List β → Int → Option ρ)
    (hstep : ∀ (i : Nat) (out : List β), i < xs.length → out.length = xs.length → Ev (fun k => g k (out.set i (f i)) ((i + 1 : Nat) : Int)) r → Ev (fun k => g k out (i : Int)) r)
    (hend : Ev (fun k => g k ((List.range xs.length).map f) (xs.length : Int)) r) : Ev (fun k => g k xs 0) r := by
  have key : ∀ d i : Nat, i + d = xs.length → Ev (fun k => g k ((List.range i).map f ++ xs.drop i) (i : Int)) r := by
    intro d
    induction d with
    | zero =>
      intro i hi
      obtain rfl : i = xs.length := by omega
      rw [List.drop_length, List.append_nil]
      exact hend
    | succ d ih =>
      intro i hi
      have h1 := ih (i + 1) (by omega)
      refine hstep i _ (by omega) (by simp; omega) ?_
      have e : ((List.range i).map f ++ xs.drop i).set i (f i) = (List.range (i + 1)).map f ++ xs.drop (i + 1) := by
        have hl : ((List.range i).map f).length = i := by simp
        rw [List.set_append_right _ _ (by omega), hl, Nat.sub_self, List.drop_eq_getElem_cons (show i < xs.length by omega), List.set_cons_zero, List.range_succ, List.map_append, List.append_assoc]
        rfl
      rw [e]
      exact h1
  have h0 := key xs.length 0 (by omega)
  simpa using h0
/-! What is seen stays seen; what is never come to hinders nobody. -/
theorem reIn_seen (wo : Int) (i : Nat) : ∀ (l : List Int) (s : List Bool) (t : List Int), s.getD i false = true → (reIn wo l s t).1.getD i false = true
  | [], _, _, h => h
  | x :: xs, s, t, h => by
    simp only [reIn]
    split
    · exact reIn_seen wo i xs s t h
    · refine reIn_seen wo i xs _ _ ?_
      rw [List.getD_eq_getElem?_getD, List.getElem?_set]
      rw [List.getD_eq_getElem?_getD] at h
      split
      · split
        · rfl
        · rename_i e1 e2
          rw [List.getElem?_eq_none (by omega)] at h
          exact h
      · exact h
theorem reOut_seen (N : Int → List Int) (wo : Int) (i : Nat) : ∀ (f : Nat) (s : List Bool) (t : List Int), s.getD i false = true → (reOut N wo f s t).getD i false = true
  | 0, _, _, h => h
  | f + 1, s, t, h => by
    simp only [reOut]
    split
    · exact h
    · exact reOut_seen N wo i f _ _ (reIn_seen wo i _ _ _ h)
theorem reIn_skip (a n : Nat) (han : a < n) : ∀ (l : List Int) (s : List Bool) (t : List Int), s.length = n → (∀ x ∈ l, 0 ≤ x ∧ x < (n : Int)) → (reIn (-1) l s t).1.getD a false = false → reIn (a : Int) l s t = reIn (-1) l s t
  | [], _, _, _, _, _ => rfl
  | x :: xs, s, t, hs, hl, h => by
    have hx := hl x (List.mem_cons_self ..)
    have hxs : ∀ z ∈ xs, 0 ≤ z ∧ z < (n : Int) := fun z hz => hl z (List.mem_cons_of_mem _ hz)
    simp only [reIn] at h ⊢
    have hm : ¬ x = -1 := by omega
    have hxa : ¬ x = (a : Int) := by
      intro e
      subst e
      rw [Int.toNat_natCast] at h
      by_cases c : s.getD a false = true
      · rw [if_pos (Or.inr c)] at h
        rw [reIn_seen (-1) a xs s t c] at h
        cases h
      · rw [if_neg (fun hh => hh.elim hm c)] at h
        rw [reIn_seen (-1) a xs _ _ (by rw [List.getD_eq_getElem?_getD, List.getElem?_set_self (by omega)]; rfl)] at h
        cases h
    by_cases c : s.getD x.toNat false = true
    · rw [if_pos (Or.inr c)] at h ⊢
      rw [if_pos (Or.inr c)]
      exact reIn_skip a n han xs s t hs hxs h
    · rw [if_neg (fun hh => hh.elim hm c)] at h
      rw [if_neg (fun hh => hh.elim hxa c), if_neg (fun hh => hh.elim hm c)]
      exact reIn_skip a n han xs _ _ (by rw [List.length_set]; exact hs) hxs h
theorem reOut_skip (bs : List S62) (a : Nat) (han : a < bs.length) : ∀ (f : Nat) (s : List Bool) (t : List Int), s.length = bs.length → (∀ x ∈ t, 0 ≤ x ∧ x < (bs.length : Int)) → (reOut (nextOf bs) (-1) f s t).getD a false = false → reOut (nextOf bs) (a : Int) f s t = reOut (nextOf bs) (-1) f s t
  | 0, _, _, _, _, _ => rfl
  | f + 1, s, t, hs, ht, h => by
    rcases List.eq_nil_or_concat t with rfl | ⟨i, b, rfl⟩
    · simp [reOut]
    · simp only [List.concat_eq_append] at ht h ⊢
      simp only [reOut, List.getLast?_append, List.getLast?_singleton, Option.some_or, List.dropLast_concat] at h ⊢
      have hinv := reIn_inv (-1) bs.length (nextOf bs b) s i hs (nextOf_range bs b) (fun x hx => ht x (List.mem_append_left _ hx))
      have h1 : (reIn (-1) (nextOf bs b) s i).1.getD a false = false := by
        cases hc : (reIn (-1) (nextOf bs b) s i).1.getD a false with
        | false => rfl
        | true => rw [reOut_seen _ _ _ _ _ _ hc] at h; cases h
      rw [reIn_skip a bs.length han (nextOf bs b) s i hs (nextOf_range bs b) h1]
      exact reOut_skip bs a han f _ _ hinv.1 hinv.2.1 h
theorem reachOf_skip (bs : List S62) (a : Nat) (han : a < bs.length) (h : (reachOf bs (-1)).getD a false = false) : reachOf bs (a : Int) = reachOf bs (-1) := by
  unfold reachOf at h ⊢
  rw [if_neg (by omega)] at h
  rw [if_neg (show ¬ (bs.length = 0 ∨ (-1 : Int) = 0) by omega)]
  by_cases c : (a : Int) = 0
  · obtain rfl : a = 0 := by omega
    rw [reOut_seen _ _ _ _ _ _ (by rw [List.getD_eq_getElem?_getD, List.getElem?_set_self (by simpa using han)]; rfl)] at h
    cases h
  · rw [if_neg (by omega)]
    exact reOut_skip bs a han _ _ _ (by simp) (by intro x hx; rw [List.mem_singleton.1 hx]; omega) h
def domB (bs : List S62) (a b : Nat) : Bool := (reachOf bs (-1)).getD b false && !(reachOf bs (a : Int)).getD b false
def domRow (bs : List S62) (a : Nat) : List Bool := (List.range bs.length).map (domB bs a)
def domsTo (bs : List S62) (i : Nat) : List (List Bool) := (List.range i).map (domRow bs)
theorem domsTo_succ (bs : List S62) (i : Nat) : domsTo bs (i + 1) = domsTo bs i ++ [domRow bs i] := by unfold domsTo; rw [List.range_succ, List.map_append]; rfl
theorem domsTo_len (bs : List S62) (i : Nat) : (domsTo bs i).length = i := by simp [domsTo]
theorem domRow_len (bs : List S62) (i : Nat) : (domRow bs i).length = bs.length := by simp [domRow]
theorem domRow_at (bs : List S62) (a b : Nat) (h : b < bs.length) : (domRow bs a).getD b false = domB bs a b := by
  unfold domRow
  rw [List.getD_eq_getElem?_getD, List.getElem?_map, List.getElem?_range h]
  rfl
theorem domRow_none (bs : List S62) (a : Nat) (han : a < bs.length) (h : (reachOf bs (-1)).getD a false = false) : List.replicate bs.length false = domRow bs a := by
  apply List.ext_getElem
  · rw [domRow_len]; simp
  · intro i h1 h2
    simp only [domRow, List.getElem_replicate, List.getElem_map, List.getElem_range, domB]
    rw [reachOf_skip bs a han h]
    simp
theorem specDoms_f (ps : List (List Int)) (bs : List S62) (h : gOk bs) : Ev (fun k => spec_l4Doms.f k (rsOf bs) ps) (domsTo bs bs.length) := by
  unfold spec_l4Doms.f
  have hb := h.1
  refine Ev.bind (specReach_f ps (-1) bs h) ?_
  rw [rsOf_len]
  have l1 := reachOf_len bs (-1)
  have key : ∀ d i : Nat, i + d = bs.length → Ev (fun k => spec_l4Doms.l0 k (bs.length : Int) (reachOf bs (-1)) (domsTo bs i) (i : Int) (rsOf bs) ps) (domsTo bs bs.length) := by
    intro d
    induction d with
    | zero =>
      intro i hi
      obtain rfl : i = bs.length := by omega
      refine Ev.succ ?_
      simp only [spec_l4Doms.l0]
      exact Ev.neg (by omega) (Ev.now _)
    | succ d ih =>
      intro i hi
      have h8 := ih (i + 1) (by omega)
      have l2 := reachOf_len bs (i : Int)
      have l3 := domsTo_len bs i
      rw [domsTo_succ] at h8
      refine Ev.succ ?_
      simp only [spec_l4Doms.l0]
      refine Ev.pos (by omega) (Ev.bind (specReach_f ps (i : Int) bs h) (Ev.pos (by omega) (Ev.pos (by omega) ?_)))
      rw [Int.toNat_natCast]
      refine fill_gen (domB bs i) (List.replicate bs.length false) _ (fun k out j => spec_l4Doms.l1 k (bs.length : Int) (reachOf bs (-1)) (domsTo bs i) (i : Int) (reachOf bs (i : Int)) out j (rsOf bs) ps) ?_ ?_
      · intro j out hj ho h9
        rw [List.length_replicate] at hj ho
        refine Ev.succ ?_
        simp only [spec_l4Doms.l1]
        rw [wrap64_nat (by omega), rdOf_eq, rdOf_eq, Int.toNat_natCast]
        refine Ev.pos (by omega) (Ev.pos (by omega) (Ev.pos (by omega) ?_))
        unfold domB at h9
        by_cases c : (reachOf bs (-1)).getD j false = true
        · rw [c, Bool.true_and] at h9
          exact Ev.pos c (Ev.pos (by omega) (Ev.pos (by omega) h9))
        · rw [Bool.eq_false_iff.2 c, Bool.false_and] at h9
          exact Ev.neg c (Ev.pos (by omega) h9)
      · rw [List.length_replicate]
        refine Ev.succ ?_
        simp only [spec_l4Doms.l1]
        rw [wrap64_nat (i := i) (by omega)]
        exact Ev.neg (by omega) (Ev.pos (by omega) h8)
  exact key bs.length 0 (by omega)
theorem implDoms_f (n : ByteArray) (y : Int) (ps : List Int) (c : Int) (bs : List S62) (h : gOk bs) : Ev (fun k => impl_dominance.f k n y ps c bs) (domsTo bs bs.length) := by
  unfold impl_dominance.f
  have hb := h.1
  refine Ev.bind (implReach_f n y ps c (-1) bs h) ?_
  have l1 := reachOf_len bs (-1)
  have key : ∀ d i : Nat, i + d = bs.length → Ev (fun k => impl_dominance.l0 k (reachOf bs (-1)) (domsTo bs i) (bs.length : Int) (i : Int) n y ps c bs) (domsTo bs bs.length) := by
    intro d
    induction d with
    | zero =>
      intro i hi
      obtain rfl : i = bs.length := by omega
      refine Ev.succ ?_
      simp only [impl_dominance.l0]
      exact Ev.neg (by omega) (Ev.now _)
    | succ d ih =>
      intro i hi
      have h8 := ih (i + 1) (by omega)
      have l2 := reachOf_len bs (i : Int)
      have l3 := domsTo_len bs i
      rw [domsTo_succ] at h8
      refine Ev.succ ?_
      simp only [impl_dominance.l0]
      rw [Int.toNat_natCast, wrap64_nat (by omega), rdOf_eq, Int.toNat_natCast]
      refine Ev.pos (by omega) (Ev.pos (by omega) (Ev.pos (by omega) (Ev.some_bind (Ev.pos (by omega) (Ev.pos (by omega) ?_)))))
      by_cases ca : (reachOf bs (-1)).getD i false = true
      · refine Ev.pos ca (Ev.bind (implReach_f n y ps c (i : Int) bs h) ?_)
        refine fill_gen (domB bs i) (List.replicate bs.length false) _ (fun k out j => impl_dominance.l1 k (reachOf bs (-1)) (domsTo bs i) out (reachOf bs (i : Int)) (bs.length : Int) (i : Int) (bs.length : Int) j n y ps c bs) ?_ ?_
        · intro j out hj ho h9
          rw [List.length_replicate] at hj ho
          refine Ev.succ ?_
          simp only [impl_dominance.l1]
          rw [wrap64_nat (by omega), rdOf_eq, rdOf_eq, Int.toNat_natCast]
          refine Ev.pos (by omega) (Ev.pos (by omega) (Ev.pos (by omega) ?_))
          unfold domB at h9
          by_cases c : (reachOf bs (-1)).getD j false = true
          · rw [c, Bool.true_and] at h9
            exact Ev.pos c (Ev.pos (by omega) (Ev.pos (by omega) h9))
          · rw [Bool.eq_false_iff.2 c, Bool.false_and] at h9
            exact Ev.neg c (Ev.pos (by omega) h9)
        · rw [List.length_replicate]
          refine Ev.succ ?_
          simp only [impl_dominance.l1]
          rw [wrap64_nat (i := i) (by omega)]
          exact Ev.neg (by omega) (Ev.pos (by omega) h8)
      · refine Ev.neg ca (Ev.pos (by omega) ?_)
        rw [domRow_none bs i (by omega) (Bool.eq_false_iff.2 ca)]
        exact h8
  exact key bs.length 0 (by omega)
theorem rdRow (bs : List S62) (a : Nat) (h : a < bs.length) : rd_L18 (domsTo bs bs.length) (a : Int) = domRow bs a := by
  show (domsTo bs bs.length).getD (a : Int).toNat [] = _
  rw [Int.toNat_natCast]
  unfold domsTo
  rw [List.getD_eq_getElem?_getD, List.getElem?_map, List.getElem?_range h]
  rfl
theorem rdRow2 (bs : List S62) (a b : Nat) (h : b < bs.length) : rdOf false (domRow bs a) (b : Int) = domB bs a b := by rw [rdOf_eq, Int.toNat_natCast]; exact domRow_at bs a b h
/-- The nearest one of b among the first i. -/
def idTo (bs : List S62) (b : Nat) : Nat → Int
  | 0 => -1
  | i + 1 => if ¬ i = b ∧ domB bs i b = true ∧ (idTo bs b i < 0 ∨ domB bs (idTo bs b i).toNat i = true) then (i : Int) else idTo bs b i
theorem idTo_range (bs : List S62) (b : Nat) : ∀ i, -1 ≤ idTo bs b i ∧ idTo bs b i < (i : Int)
  | 0 => by simp [idTo]
  | i + 1 => by
    have := idTo_range bs b i
    simp only [idTo]
    split <;> omega
def idomsTo (bs : List S62) (i : Nat) : List Int := (List.range i).map fun b => idTo bs b bs.length
theorem idomsTo_succ (bs : List S62) (i : Nat) : idomsTo bs (i + 1) = idomsTo bs i ++ [idTo bs i bs.length] := by unfold idomsTo; rw [List.range_succ, List.map_append]; rfl
theorem idomsTo_len (bs : List S62) (i : Nat) : (idomsTo bs i).length = i := by simp [idomsTo]
theorem specIdoms_f (bs : List S62) (h : gOk bs) : Ev (fun k => spec_l4Idoms.f k (domsTo bs bs.length)) (idomsTo bs bs.length) := by
  unfold spec_l4Idoms.f
  have hb := h.1
  have l0 := domsTo_len bs bs.length
  rw [l0]
  have key : ∀ d i : Nat, i + d = bs.length → Ev (fun k => spec_l4Idoms.l0 k (domsTo bs bs.length) (idomsTo bs i) (bs.length : Int) (i : Int)) (idomsTo bs bs.length) := by
    intro d
    induction d with
    | zero =>
      intro i hi
      obtain rfl : i = bs.length := by omega
      refine Ev.succ ?_
      simp only [spec_l4Idoms.l0]
      exact Ev.neg (by omega) (Ev.now _)
    | succ d ih =>
      intro i hi
      have h8 := ih (i + 1) (by omega)
      have l3 := idomsTo_len bs i
      rw [idomsTo_succ] at h8
      refine Ev.succ ?_
      simp only [spec_l4Idoms.l0]
      refine Ev.pos (by omega) ?_
      have inner : ∀ e j : Nat, j + e = bs.length → Ev (fun k => spec_l4Idoms.l1 k (domsTo bs bs.length) (idomsTo bs i) (bs.length : Int) (i : Int) (idTo bs i j) (j : Int)) (idomsTo bs bs.length) := by
        intro e
        induction e with
        | zero =>
          intro j hj
          obtain rfl : j = bs.length := by omega
          refine Ev.succ ?_
          simp only [spec_l4Idoms.l1]
          rw [wrap64_nat (i := i) (by omega)]
          exact Ev.neg (by omega) (Ev.pos (by omega) h8)
        | succ e ih2 =>
          intro j hj
          have h9 := ih2 (j + 1) (by omega)
          have hr := idTo_range bs i j
          simp only [idTo] at h9
          refine Ev.succ ?_
          simp only [spec_l4Idoms.l1]
          rw [wrap64_nat (by omega), l0, rdRow bs j (by omega), domRow_len, rdRow2 bs j i (by omega)]
          refine Ev.pos (by omega) ?_
          by_cases c1 : j = i
          · rw [if_neg (fun hh => hh.1 c1)] at h9
            exact Ev.pos (by omega) h9
          refine Ev.neg (by omega) (Ev.pos (by omega) (Ev.pos (by omega) (Ev.pos (by omega) (Ev.pos (by omega) ?_))))
          by_cases c2 : domB bs j i = true
          · refine Ev.pos c2 ?_
            by_cases c3 : idTo bs i j < 0
            · rw [if_pos ⟨c1, c2, Or.inl c3⟩] at h9
              exact Ev.pos c3 h9
            · obtain ⟨q, hq⟩ : ∃ q : Nat, idTo bs i j = (q : Int) := ⟨(idTo bs i j).toNat, by omega⟩
              rw [hq] at h9 hr c3 ⊢
              rw [Int.toNat_natCast] at h9
              rw [rdRow bs q (by omega), domRow_len, rdRow2 bs q j (by omega)]
              refine Ev.neg c3 (Ev.pos (by omega) (Ev.pos (by omega) (Ev.pos (by omega) ?_)))
              by_cases c4 : domB bs q j = true
              · rw [if_pos ⟨c1, c2, Or.inr c4⟩] at h9
                exact Ev.pos c4 h9
              · rw [if_neg (fun hh => hh.2.2.elim c3 c4)] at h9
                exact Ev.neg c4 h9
          · rw [if_neg (fun hh => c2 hh.2.1)] at h9
            exact Ev.neg c2 h9
      exact inner bs.length 0 (by omega)
  exact key bs.length 0 (by omega)
theorem specDominators_f (n : ByteArray) (y : Int) (ps : List Int) (c : Int) (bs : List S62) (h : gOk bs) : Ev (fun k => spec_Dominators.f k n y ps c bs) (idomsTo bs bs.length) := by
  unfold spec_Dominators.f
  by_cases c0 : bs.length = 0
  · rw [c0]
    exact Ev.pos (by omega) (Ev.now _)
  · exact Ev.neg (by omega) (Ev.bind (l4Build_f n y ps c bs h) (Ev.bind (specDoms_f _ bs h) (Ev.bind (specIdoms_f bs h) (Ev.now _))))
theorem implDominators_f (n : ByteArray) (y : Int) (ps : List Int) (c : Int) (bs : List S62) (h : gOk bs) : Ev (fun k => impl_Dominators.f k n y ps c bs) (idomsTo bs bs.length) := by
  unfold impl_Dominators.f
  have hb := h.1
  have l0 := domsTo_len bs bs.length
  refine Ev.bind (implDoms_f n y ps c bs h) ?_
  have key : ∀ d i : Nat, i + d = bs.length → Ev (fun k => impl_Dominators.l0 k (domsTo bs bs.length) (idomsTo bs i) (bs.length : Int) (i : Int) n y ps c bs) (idomsTo bs bs.length) := by
    intro d
    induction d with
    | zero =>
      intro i hi
      obtain rfl : i = bs.length := by omega
      refine Ev.succ ?_
      simp only [impl_Dominators.l0]
      exact Ev.neg (by omega) (Ev.now _)
    | succ d ih =>
      intro i hi
      have h8 := ih (i + 1) (by omega)
      have l3 := idomsTo_len bs i
      rw [idomsTo_succ] at h8
      refine Ev.succ ?_
      simp only [impl_Dominators.l0]
      refine Ev.pos (by omega) ?_
      have inner : ∀ e j : Nat, j + e = bs.length → Ev (fun k => impl_Dominators.l1 k (domsTo bs bs.length) (idomsTo bs i) (i : Int) (idTo bs i j) (bs.length : Int) (i : Int) (bs.length : Int) (j : Int) n y ps c bs) (idomsTo bs bs.length) := by
        intro e
        induction e with
        | zero =>
          intro j hj
          obtain rfl : j = bs.length := by omega
          refine Ev.succ ?_
          simp only [impl_Dominators.l1]
          rw [wrap64_nat (i := i) (by omega)]
          exact Ev.neg (by omega) (Ev.pos (by omega) h8)
        | succ e ih2 =>
          intro j hj
          have h9 := ih2 (j + 1) (by omega)
          have hr := idTo_range bs i j
          simp only [idTo] at h9
          refine Ev.succ ?_
          simp only [impl_Dominators.l1]
          rw [l0, rdRow bs j (by omega), domRow_len, rdRow2 bs j i (by omega)]
          refine Ev.pos (by omega) ?_
          by_cases c1 : j = i
          · rw [if_neg (fun hh => hh.1 c1)] at h9
            refine Ev.pos (by omega) (Ev.succ ?_)
            simp only [impl_Dominators.j2]
            rw [wrap64_nat (by omega)]
            exact Ev.pos trivial h9
          refine Ev.neg (by omega) (Ev.pos (by omega) (Ev.pos (by omega) (Ev.pos (by omega) (Ev.pos (by omega) (Ev.succ ?_)))))
          simp only [impl_Dominators.j2]
          rw [wrap64_nat (by omega), l0]
          by_cases c2 : domB bs j i = true
          · rw [c2]
            refine Ev.neg (by simp) ?_
            by_cases c3 : idTo bs i j < 0
            · rw [if_pos ⟨c1, c2, Or.inl c3⟩] at h9
              exact Ev.pos c3 h9
            · obtain ⟨q, hq⟩ : ∃ q : Nat, idTo bs i j = (q : Int) := ⟨(idTo bs i j).toNat, by omega⟩
              rw [hq] at h9 hr c3 ⊢
              rw [Int.toNat_natCast] at h9
              rw [rdRow bs q (by omega), domRow_len, rdRow2 bs q j (by omega)]
              refine Ev.neg c3 (Ev.pos (by omega) (Ev.pos (by omega) (Ev.pos (by omega) (Ev.pos (by omega) ?_))))
              by_cases c4 : domB bs q j = true
              · rw [if_pos ⟨c1, c2, Or.inr c4⟩] at h9
                exact Ev.pos c4 h9
              · rw [if_neg (fun hh => hh.2.2.elim c3 c4)] at h9
                exact Ev.neg c4 h9
          · rw [if_neg (fun hh => c2 hh.2.1)] at h9
            rw [Bool.eq_false_iff.2 c2]
            exact Ev.pos rfl h9
      exact inner bs.length 0 (by omega)
  exact key bs.length 0 (by omega)
end Go.Proofs.Ytoedcnhgobbnfaa.All


/- FnExactDominators: the printed law is true of all arguments. -/
namespace Go.Proofs.Ytoedcnhgobbnfaa.Pure
open Go.Proofs.Ytoedcnhgobbnfaa.All
open Go.RowKit Go.Proofs.YtoedcnhgobbnfaaW.PrintWords Go.Proofs.YtoedcnhgobbnfaaW.PrintLast Go.Proofs.YtoedcnhgobbnfaaW.PrintMore
set_option linter.unusedVariables false
set_option linter.unusedSimpArgs false
theorem FnExactDominators (a0_0 : ByteArray) (a0_1 : Int) (l0_2 : List Int) (a0_3 : Int) (l0_4 : List S96) (h0 : a0_0.size ≤ 9223372036854775807) (_ : (Lit.int .i64 a0_1).wf = true) (h2 : l0_2.length ≤ 9223372036854775807 ∧ ∀ y ∈ l0_2, (Lit.int .i64 y).wf = true) (_ : (Lit.int .i64 a0_3).wf = true) (h4 : l0_4.length ≤ 9223372036854775807 ∧ ∀ y ∈ l0_4, ok96 y) :
    ∃ k, laws_FnExactDominators.f k a0_0 a0_1 l0_2 a0_3 l0_4 = some true := by
  refine Ev.rounds ?_
  obtain ⟨r, hr, hc⟩ := szFunc_f a0_0 a0_1 l0_2 a0_3 l0_4 h0 h2.1 (lBlockS_ok h4)
  unfold laws_FnExactDominators.f
  refine Ev.bind hr ?_
  by_cases hneg : r < 0
  · exact Ev.pos hneg (Ev.now _)
  refine Ev.neg hneg ?_
  have hs : a0_0.size + l0_2.length + sBlockS l0_4 ≤ 1048576 := by omega
  have ht := toFunc_f a0_0 a0_1 l0_2 a0_3 l0_4 hs
  have hb := bBlock_of l0_4 (by omega)
  have hc := cnt_of_s l0_4
  have hl : (l0_4.map iBlock).length ≤ 1048576 := by rw [List.length_map]; unfold sBlockS at hs; omega
  have hg : gOk (l0_4.map iBlock) := ⟨hl, hb⟩
  have hu : (idomsTo (l0_4.map iBlock) (l0_4.map iBlock).length).length ≤ 1048576 := by rw [idomsTo_len]; exact hg.1
  have hS := specDominators_f a0_0 a0_1 l0_2 a0_3 (l0_4.map iBlock) hg
  have hI := implDominators_f a0_0 a0_1 l0_2 a0_3 (l0_4.map iBlock) hg
  generalize idomsTo (l0_4.map iBlock) (l0_4.map iBlock).length = y at hS hI hu
  have hE := eqInt64S_f y (by omega)
  have hM := markInt64S_f y (by omega)
  have hH := heldInt64S_f y.length (by omega)
  have hF := eqFunc_f a0_0 a0_1 l0_2 a0_3 (l0_4.map iBlock) (by omega) hl hb
  have hK : laws_markFunc.f a0_0 a0_1 l0_2 a0_3 (l0_4.map iBlock) 1 = some ((1 : Int) + (cntL_int64 l0_2 : Nat) + (cntL_Block (l0_4.map iBlock) : Nat)) := by
    have e : cntL_int64 l0_2 = l0_2.length := rfl
    unfold laws_markFunc.f
    rw [if_pos (by omega), if_pos (by omega)]
  refine Ev.bind ht (Ev.bind hS (Ev.bind ht (Ev.bind hI (Ev.bind hE (Ev.pos rfl (Ev.bind ht (Ev.bind hF (Ev.pos rfl (Ev.eq_bind hK (Ev.neg (by omega) (Ev.bind hE ?_)))))))))))
  refine Ev.succ ?_
  simp only [laws_FnExactDominators.j0]
  refine Ev.neg (by simp) (Ev.bind hM (Ev.bind hH (Ev.neg (by omega) (Ev.pos rfl ?_))))
  refine Ev.bind ht (Ev.bind hI (Ev.bind hE (Ev.pos rfl (Ev.bind hH ?_))))
  exact Ev.neg (by omega) (Ev.pos rfl (Ev.now _))
end Go.Proofs.Ytoedcnhgobbnfaa.Pure

