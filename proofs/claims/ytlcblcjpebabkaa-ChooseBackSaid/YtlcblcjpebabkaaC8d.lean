/- Layer 8: simple selectors in tokens. -/
import Derived.Test.YtlcblcjpebabkaaC8b
import Derived.Test.YtlcblcjpebabkaaSm
import Derived.Test.YtlcblcjpebabkaaTr
namespace Go.Proofs.Ytlcblcjpebabkaa
open Go.Sx
set_option linter.unusedSimpArgs false
set_option maxHeartbeats 4000000
set_option maxRecDepth 100000

def knd (v : List Tok) (k : Nat) : Int := if k < v.length then (v.getD k .zero).kind else 0
def txt (v : List Tok) (k : Nat) : ByteArray := (v.getD k .zero).text
def dlm (v : List Tok) (k : Nat) (w : ByteArray) : Bool := decide (k < v.length ∧ (v.getD k .zero).kind = 11 ∧ (v.getD k .zero).text = w)
theorem getD_tokC (l : List Tok) (j : Nat) : (l.map Tok.enc).getD j [vi 0, vs ⟨#[]⟩, vi 0] = (l.getD j .zero).enc := by
  have : [vi 0, vs ⟨#[]⟩, vi 0] = Tok.zero.enc := rfl
  rw [this]
  simp only [List.getD_eq_getElem?_getD, List.getElem?_map]
  cases l[j]? <;> rfl
theorem kindC_ok (v : List Tok) (k : Nat) : PCall Try.prog 56 [toks v, vi k] (vi (knd v k)) := by
  refine PCall.of (Orc.nil _) c56_ok (by simp [c56]) fun w0 own0 => ?_
  by_cases h : k < v.length
  · have e1 : ((v.length : Int) ≤ (k : Int)) = False := eq_false (by omega)
    have e2 : (k : Int) < (v.length : Int) := by omega
    have e0 : (0 : Int) ≤ (k : Int) := by omega
    have hg := getD_tokC v k
    simp only [c56, knd, toks, h, e0, e1, e2, hg, Tok.enc, if_true, go_sem, wpR_gcall, reduceCtorEq, reduceIte, Nat.reduceEqDiff, Nat.reduceAdd, Nat.reduceSub, Nat.reduceMul, Nat.reduceLT, Nat.reduceLeDiff, Nat.reduceBEq, Int.reduceEq, Int.reduceLT, Int.reduceLE, Int.reduceAdd, Int.reduceSub, Int.reduceNeg, Int.reduceToNat]
  · have e1 : ((v.length : Int) ≤ (k : Int)) = True := eq_true (by omega)
    simp only [c56, knd, toks, h, e1, Tok.enc, if_false, go_sem, wpR_gcall, reduceCtorEq, reduceIte, Nat.reduceEqDiff, Nat.reduceAdd, Nat.reduceSub, Nat.reduceMul, Nat.reduceLT, Nat.reduceLeDiff, Nat.reduceBEq, Int.reduceEq, Int.reduceLT, Int.reduceLE, Int.reduceAdd, Int.reduceSub, Int.reduceNeg, Int.reduceToNat]
theorem kindI_ok (v : List Tok) (k : Int) (h : 0 ≤ k) : PCall Try.prog 56 [toks v, vi k] (vi (knd v k.toNat)) := by
  have := kindC_ok v k.toNat; rwa [Int.toNat_of_nonneg h] at this
def sumKnd : Sum Try.prog := ⟨56, fun args => args = [toks (dToks (args.getD 0 .any)), vi ((args.getD 1 .any).int)] ∧ 0 ≤ ((args.getD 1 .any).int), fun args => vi (knd (dToks (args.getD 0 .any)) (((args.getD 1 .any).int)).toNat), fun args h => by
  have := kindI_ok (dToks (args.getD 0 .any)) ((args.getD 1 .any).int) h.2; rwa [← h.1] at this, true⟩
theorem sumKnd_f : sumKnd.f = 56 := rfl
theorem sumKnd_D (args : List V) : sumKnd.D args = (args = [toks (dToks (args.getD 0 .any)), vi ((args.getD 1 .any).int)] ∧ 0 ≤ ((args.getD 1 .any).int)) := rfl
theorem sumKnd_flat : sumKnd.flat = true := rfl
theorem sumKnd_r (args : List V) : sumKnd.r args = vi (knd (dToks (args.getD 0 .any)) (((args.getD 1 .any).int)).toNat) := rfl
attribute [go_sem] sumKnd_f sumKnd_D sumKnd_flat sumKnd_r
theorem delimC_ok (v : List Tok) (k : Nat) (w : ByteArray) : PCall Try.prog 57 [toks v, vi k, vs w] (vb (dlm v k w)) := by
  refine PCall.of (Orc.nil _) c57_ok (by simp [c57]) fun w0 own0 => ?_
  by_cases h : k < v.length
  · have e2 : (k : Int) < (v.length : Int) := by omega
    have e0 : (0 : Int) ≤ (k : Int) := by omega
    have hg := getD_tokC v k
    by_cases h1 : (v.getD k .zero).kind = 11
    · by_cases h2 : (v.getD k .zero).text = w
      · have e : dlm v k w = true := decide_eq_true ⟨h, h1, h2⟩
        have h1 := eq_true h1; have h2 := eq_true h2
        simp only [c57, toks, e, e0, e2, hg, h1, h2, Tok.enc, go_sem, wpR_gcall, reduceCtorEq, reduceIte, Nat.reduceEqDiff, Nat.reduceAdd, Nat.reduceSub, Nat.reduceMul, Nat.reduceLT, Nat.reduceLeDiff, Nat.reduceBEq, Int.reduceEq, Int.reduceLT, Int.reduceLE, Int.reduceAdd, Int.reduceSub, Int.reduceNeg, Int.reduceToNat]
      · have e : dlm v k w = false := decide_eq_false fun hh => h2 hh.2.2
        have h1 := eq_true h1; have h2 := eq_false h2
        simp only [c57, toks, e, e0, e2, hg, h1, h2, Tok.enc, go_sem, wpR_gcall, reduceCtorEq, reduceIte, Nat.reduceEqDiff, Nat.reduceAdd, Nat.reduceSub, Nat.reduceMul, Nat.reduceLT, Nat.reduceLeDiff, Nat.reduceBEq, Int.reduceEq, Int.reduceLT, Int.reduceLE, Int.reduceAdd, Int.reduceSub, Int.reduceNeg, Int.reduceToNat]
    · have e : dlm v k w = false := decide_eq_false fun hh => h1 hh.2.1
      have h1 := eq_false h1
      simp only [c57, toks, e, e0, e2, hg, h1, Tok.enc, go_sem, wpR_gcall, reduceCtorEq, reduceIte, Nat.reduceEqDiff, Nat.reduceAdd, Nat.reduceSub, Nat.reduceMul, Nat.reduceLT, Nat.reduceLeDiff, Nat.reduceBEq, Int.reduceEq, Int.reduceLT, Int.reduceLE, Int.reduceAdd, Int.reduceSub, Int.reduceNeg, Int.reduceToNat]
  · have e2 : ((k : Int) < (v.length : Int)) = False := eq_false (by omega)
    have e : dlm v k w = false := decide_eq_false fun hh => h hh.1
    simp only [c57, toks, e, e2, Tok.enc, go_sem, wpR_gcall, reduceCtorEq, reduceIte, Nat.reduceEqDiff, Nat.reduceAdd, Nat.reduceSub, Nat.reduceMul, Nat.reduceLT, Nat.reduceLeDiff, Nat.reduceBEq, Int.reduceEq, Int.reduceLT, Int.reduceLE, Int.reduceAdd, Int.reduceSub, Int.reduceNeg, Int.reduceToNat]
theorem delimI_ok (v : List Tok) (k : Int) (w : ByteArray) (h : 0 ≤ k) : PCall Try.prog 57 [toks v, vi k, vs w] (vb (dlm v k.toNat w)) := by
  have := delimC_ok v k.toNat w; rwa [Int.toNat_of_nonneg h] at this
def sumDlm : Sum Try.prog := ⟨57, fun args => args = [toks (dToks (args.getD 0 .any)), vi ((args.getD 1 .any).int), vs ((args.getD 2 .any).str)] ∧ 0 ≤ ((args.getD 1 .any).int), fun args => vb (dlm (dToks (args.getD 0 .any)) (((args.getD 1 .any).int)).toNat ((args.getD 2 .any).str)), fun args h => by
  have := delimI_ok (dToks (args.getD 0 .any)) ((args.getD 1 .any).int) ((args.getD 2 .any).str) h.2; rwa [← h.1] at this, true⟩
theorem sumDlm_f : sumDlm.f = 57 := rfl
theorem sumDlm_D (args : List V) : sumDlm.D args = (args = [toks (dToks (args.getD 0 .any)), vi ((args.getD 1 .any).int), vs ((args.getD 2 .any).str)] ∧ 0 ≤ ((args.getD 1 .any).int)) := rfl
theorem sumDlm_flat : sumDlm.flat = true := rfl
theorem sumDlm_r (args : List V) : sumDlm.r args = vb (dlm (dToks (args.getD 0 .any)) (((args.getD 1 .any).int)).toNat ((args.getD 2 .any).str)) := rfl
attribute [go_sem] sumDlm_f sumDlm_D sumDlm_flat sumDlm_r
structure SR where
  s : Smp
  to : Nat
  ok : Bool
def attrO (l : List Tok) : Option Smp :=
  match l.filter fun t => decide (t.kind ≠ 1) with
  | [a] => if a.kind = 2 then some ⟨5, a.text, ⟨#[]⟩⟩ else none
  | [a, b, c] => if a.kind = 2 ∧ b.kind = 11 ∧ b.text = ⟨#[61]⟩ ∧ (c.kind = 2 ∨ c.kind = 6) then some ⟨6, a.text, c.text⟩ else none
  | _ => none
def smpR (v : List Tok) (k : Nat) : SR :=
  if dlm v k ⟨#[42]⟩ = true then ⟨⟨1, ⟨#[]⟩, ⟨#[]⟩⟩, k + 1, true⟩
  else if knd v k = 2 then ⟨⟨2, txt v k, ⟨#[]⟩⟩, k + 1, true⟩
  else if knd v k = 5 then ⟨⟨3, txt v k, ⟨#[]⟩⟩, k + 1, true⟩
  else if dlm v k ⟨#[46]⟩ = true ∧ knd v (k + 1) = 2 then ⟨⟨4, txt v (k + 1), ⟨#[]⟩⟩, k + 2, true⟩
  else if knd v k = 12 ∧ txt v k = ⟨#[91]⟩ ∧ (endsA v).getD k 0 < v.length then
    match attrO ((v.take ((endsA v).getD k 0).toNat).drop (k + 1)) with
    | some s => ⟨s, ((endsA v).getD k 0).toNat + 1, true⟩
    | none => ⟨⟨0, ⟨#[]⟩, ⟨#[]⟩⟩, ((endsA v).getD k 0).toNat + 1, false⟩
  else ⟨⟨0, ⟨#[]⟩, ⟨#[]⟩⟩, k, false⟩
def srV (r : SR) : V := .tup [.agg r.s.enc, vi r.to, vb r.ok]
theorem res11_agg8 (S : Nat → Bool) (h : Heap) (cs : List V) : res S h 11 (.agg cs) = (mapO (res S h 10) cs).map .agg := rfl
theorem knd_lt {v : List Tok} {k : Nat} {n : Int} (h : knd v k = n) (hn : n ≠ 0) : k < v.length ∧ (v.getD k .zero).kind = n := by
  unfold knd at h
  split at h
  · exact ⟨by assumption, h⟩
  · exact absurd h.symm hn
/-- A simple selector where no bracket opens. -/
theorem simpleN_ok (v : List Tok) (hl : v.length ≤ 1000000) (k : Nat) (hk : k ≤ v.length) (hn : knd v k ≠ 12) : PCall Try.prog 55 [toks v, ints (endsA v), vi k] (srV (smpR v k)) := by
  refine PCall.of (Orc.cons sumKnd (Orc.cons sumDlm (Orc.nil _))) c55_ok (by simp [c55]) fun w0 own0 => ?_
  have e0 : (0 : Int) ≤ (k : Int) := by omega
  have e0' : (0 : Int) ≤ (k : Int) + 1 := by omega
  have t1 : ((k : Int) + 1).toNat = k + 1 := by omega
  have o1 := eq_true (show (k : Int) + 1 ≤ 9223372036854775807 by omega)
  have o2 := eq_true (show -9223372036854775808 ≤ (k : Int) + 1 by omega)
  have n1 : ((k : Int) + 1) = ((k + 1 : Nat) : Int) := by omega
  by_cases h1 : dlm v k ⟨#[42]⟩ = true
  · have hr : smpR v k = ⟨⟨1, ⟨#[]⟩, ⟨#[]⟩⟩, k + 1, true⟩ := by unfold smpR; rw [if_pos h1]
    rw [hr]
    simp only [c55, srV, toks, ints, dToks_map, e0, h1, Int.toNat_natCast, Smp.enc, res11_agg8, on_gcall, off_gcall, flat_gcall, go_sem, reduceCtorEq, reduceIte, Nat.reduceEqDiff, Nat.reduceAdd, Nat.reduceSub, Nat.reduceMul, Nat.reduceLT, Nat.reduceLeDiff, Nat.reduceBEq, Int.reduceEq, Int.reduceLT, Int.reduceLE, Int.reduceAdd, Int.reduceSub, Int.reduceNeg, Int.reduceToNat]
    exact ⟨by omega, rfl⟩
  have h1 : dlm v k ⟨#[42]⟩ = false := by simpa using h1
  by_cases h2 : knd v k = 2
  · have hr : smpR v k = ⟨⟨2, txt v k, ⟨#[]⟩⟩, k + 1, true⟩ := by unfold smpR; rw [h1, if_neg (by simp), if_pos h2]
    rw [hr]
    have hkl := (knd_lt h2 (by decide)).1
    have e2 : (k : Int) < (v.length : Int) := by omega
    have hg := getD_tokC v k
    have h2 := eq_true h2
    simp only [c55, srV, toks, ints, txt, dToks_map, e0, e2, h1, h2, hg, Int.toNat_natCast, Smp.enc, Tok.enc, res11_agg8, on_gcall, off_gcall, flat_gcall, go_sem, reduceCtorEq, reduceIte, Nat.reduceEqDiff, Nat.reduceAdd, Nat.reduceSub, Nat.reduceMul, Nat.reduceLT, Nat.reduceLeDiff, Nat.reduceBEq, Int.reduceEq, Int.reduceLT, Int.reduceLE, Int.reduceAdd, Int.reduceSub, Int.reduceNeg, Int.reduceToNat]
    exact ⟨by omega, rfl⟩
  by_cases h3 : knd v k = 5
  · have hr : smpR v k = ⟨⟨3, txt v k, ⟨#[]⟩⟩, k + 1, true⟩ := by unfold smpR; rw [h1, if_neg (by simp), if_neg h2, if_pos h3]
    rw [hr]
    have hkl := (knd_lt h3 (by decide)).1
    have e2 : (k : Int) < (v.length : Int) := by omega
    have hg := getD_tokC v k
    have h2 := eq_false h2; have h3 := eq_true h3
    simp only [c55, srV, toks, ints, txt, dToks_map, e0, e2, h1, h2, h3, hg, Int.toNat_natCast, Smp.enc, Tok.enc, res11_agg8, on_gcall, off_gcall, flat_gcall, go_sem, reduceCtorEq, reduceIte, Nat.reduceEqDiff, Nat.reduceAdd, Nat.reduceSub, Nat.reduceMul, Nat.reduceLT, Nat.reduceLeDiff, Nat.reduceBEq, Int.reduceEq, Int.reduceLT, Int.reduceLE, Int.reduceAdd, Int.reduceSub, Int.reduceNeg, Int.reduceToNat]
    exact ⟨by omega, rfl⟩
  cases h4 : dlm v k ⟨#[46]⟩ with
  | true =>
    by_cases h5 : knd v (k + 1) = 2
    · have hr : smpR v k = ⟨⟨4, txt v (k + 1), ⟨#[]⟩⟩, k + 2, true⟩ := by unfold smpR; rw [h1, if_neg (by simp), if_neg h2, if_neg h3, if_pos ⟨h4, h5⟩]
      rw [hr]
      have hkl := (knd_lt h5 (by decide)).1
      have e2 : (k : Int) + 1 < (v.length : Int) := by omega
      have hg := getD_tokC v (k + 1)
      have h2 := eq_false h2; have h3 := eq_false h3; have h5 := eq_true h5
      simp only [c55, srV, toks, ints, txt, dToks_map, e0, e0', e2, t1, o1, o2, h1, h2, h3, h4, h5, hg, Int.toNat_natCast, Smp.enc, Tok.enc, res11_agg8, on_gcall, off_gcall, flat_gcall, go_sem, reduceCtorEq, reduceIte, Nat.reduceEqDiff, Nat.reduceAdd, Nat.reduceSub, Nat.reduceMul, Nat.reduceLT, Nat.reduceLeDiff, Nat.reduceBEq, Int.reduceEq, Int.reduceLT, Int.reduceLE, Int.reduceAdd, Int.reduceSub, Int.reduceNeg, Int.reduceToNat]
      exact ⟨by omega, rfl⟩
    · have hr : smpR v k = ⟨⟨0, ⟨#[]⟩, ⟨#[]⟩⟩, k, false⟩ := by unfold smpR; rw [h1, if_neg (by simp), if_neg h2, if_neg h3, if_neg (fun hh => h5 hh.2), if_neg (fun hh => hn hh.1)]
      rw [hr]
      have h2 := eq_false h2; have h3 := eq_false h3; have h5 := eq_false h5; have hn := eq_false hn
      simp only [c55, srV, toks, ints, txt, dToks_map, e0, e0', t1, o1, o2, h1, h2, h3, h4, h5, hn, Int.toNat_natCast, Smp.enc, Tok.enc, res11_agg8, on_gcall, off_gcall, flat_gcall, go_sem, reduceCtorEq, reduceIte, Nat.reduceEqDiff, Nat.reduceAdd, Nat.reduceSub, Nat.reduceMul, Nat.reduceLT, Nat.reduceLeDiff, Nat.reduceBEq, Int.reduceEq, Int.reduceLT, Int.reduceLE, Int.reduceAdd, Int.reduceSub, Int.reduceNeg, Int.reduceToNat]
  | false =>
    have hr : smpR v k = ⟨⟨0, ⟨#[]⟩, ⟨#[]⟩⟩, k, false⟩ := by unfold smpR; rw [h1, if_neg (by simp), if_neg h2, if_neg h3, if_neg (by simp [h4]), if_neg (fun hh => hn hh.1)]
    rw [hr]
    have h2 := eq_false h2; have h3 := eq_false h3; have hn := eq_false hn
    simp only [c55, srV, toks, ints, txt, dToks_map, e0, h1, h2, h3, h4, hn, Int.toNat_natCast, Smp.enc, Tok.enc, res11_agg8, on_gcall, off_gcall, flat_gcall, go_sem, reduceCtorEq, reduceIte, Nat.reduceEqDiff, Nat.reduceAdd, Nat.reduceSub, Nat.reduceMul, Nat.reduceLT, Nat.reduceLeDiff, Nat.reduceBEq, Int.reduceEq, Int.reduceLT, Int.reduceLE, Int.reduceAdd, Int.reduceSub, Int.reduceNeg, Int.reduceToNat]
end Go.Proofs.Ytlcblcjpebabkaa
