/- Layer 7: breaks, page names, running elements. -/
import Derived.Test.YtjofgafeaiiegaaV7d
import Derived.Test.YtjofgafeaiiegaaAw
import Derived.Test.YtjofgafeaiiegaaCe
namespace Go.Proofs.Ytjofgafeaiiegaa
open Go.Sx
set_option linter.unusedSimpArgs false
set_option maxHeartbeats 4000000
set_option maxRecDepth 20000

def brkKeys : List (ByteArray × Int) := [(⟨#[97, 117, 116, 111]⟩, 0), (⟨#[97, 118, 111, 105, 100]⟩, 1), (⟨#[97, 118, 111, 105, 100, 45, 112, 97, 103, 101]⟩, 1), (⟨#[112, 97, 103, 101]⟩, 2), (⟨#[97, 108, 119, 97, 121, 115]⟩, 2), (⟨#[108, 101, 102, 116]⟩, 3), (⟨#[118, 101, 114, 115, 111]⟩, 3), (⟨#[114, 105, 103, 104, 116]⟩, 4), (⟨#[114, 101, 99, 116, 111]⟩, 4)]
def brkR : Option Int → V
  | none => .tup [vi 0, vb false]
  | some n => .tup [vi n, vb true]
def brkN (l : List Tok) : Option Int := (aloneV l).bind fun p => look brkKeys (lowP p)
theorem dPa_mk0 (a n : Int) (s : ByteArray) : dPa (.agg [.c (.int .i64 a), .c (.string s), .c (.int .i64 n), .slc 3 []]) = ⟨⟨a, s, n⟩, []⟩ := rfl
theorem okP7_0 (a n : Int) (l : List Tok) : okP7 ⟨⟨a, ⟨#[]⟩, n⟩, l⟩ := by show ByteArray.size ⟨#[]⟩ ≤ 1000000; decide
theorem lowP_0 (a n : Int) (l : List Tok) : lowP ⟨⟨a, ⟨#[]⟩, n⟩, l⟩ = ⟨#[]⟩ := by unfold lowP; rfl
theorem alone_mem {l : List Tok} (h : okT l) {p : Pa} (hp : aloneV l = some p) : okP7 p ∧ okT p.al ∧ onlyP l = some p ∧ p.t.kind = 2 := by
  unfold aloneV at hp
  cases hO : onlyP l with
  | none => rw [hO] at hp; cases hp
  | some q =>
    rw [hO] at hp
    simp only at hp
    split at hp
    · rename_i hk
      cases hp
      have := pl_mem h p (by rw [(only_some hO).2]; simp)
      exact ⟨this.1, this.2, rfl, hk⟩
    · cases hp
theorem break_ok (l : List Tok) (h : okT l) : PCall Try.prog 16 [toks l] (brkR (brkN l)) := by
  refine PCall.of (Orc.cons sumAl (Orc.cons sumLwP (Orc.nil _))) c16_ok (by simp [c16]) fun w0 own0 => ?_
  unfold brkN
  cases hA : aloneV l with
  | none =>
    have hm := mget_look vi ⟨#[]⟩ brkKeys
    have e : look brkKeys ⟨#[]⟩ = none := by decide
    rw [e] at hm
    simp only [brkKeys, List.map_cons, List.map_nil, Option.map_none] at hm
    simp only [c16, toks, dToks_map, h, hA, aloneR, hm, brkR, Option.bind_none, dPa_mk0, okP7_0, lowP_0, Pa.enc, List.map_nil, sumAl_f, sumAl_D, sumAl_flat, sumAl_r, sumLwP_f, sumLwP_D, sumLwP_flat, sumLwP_r, go_sem, wpR_gcall, reduceCtorEq, reduceIte, Nat.reduceEqDiff, Nat.reduceAdd, Nat.reduceSub, Nat.reduceMul, Nat.reduceLT, Nat.reduceLeDiff, Nat.reduceBEq, Int.reduceEq, Int.reduceLT, Int.reduceLE, Int.reduceAdd, Int.reduceSub, Int.reduceNeg, Int.reduceToNat]
  | some p =>
    obtain ⟨hp, _, _, hk⟩ := alone_mem h hA
    have hm := mget_look vi (lowP p) brkKeys
    simp only [Option.bind_some]
    generalize look brkKeys (lowP p) = o at *
    simp only [brkKeys, List.map_cons, List.map_nil] at hm
    cases o with
    | none =>
      simp only [Option.map_none] at hm
      simp only [c16, toks, dToks_map, h, hA, aloneR, hm, brkR, dPa_mk, Pa.etaT, Pa.eta', hp, Pa.enc, sumAl_f, sumAl_D, sumAl_flat, sumAl_r, sumLwP_f, sumLwP_D, sumLwP_flat, sumLwP_r, go_sem, wpR_gcall, reduceCtorEq, reduceIte, Nat.reduceEqDiff, Nat.reduceAdd, Nat.reduceSub, Nat.reduceMul, Nat.reduceLT, Nat.reduceLeDiff, Nat.reduceBEq, Int.reduceEq, Int.reduceLT, Int.reduceLE, Int.reduceAdd, Int.reduceSub, Int.reduceNeg, Int.reduceToNat]
    | some n =>
      simp only [Option.map_some] at hm
      simp only [c16, toks, dToks_map, h, hA, aloneR, hm, brkR, dPa_mk, Pa.etaT, Pa.eta', hp, Pa.enc, sumAl_f, sumAl_D, sumAl_flat, sumAl_r, sumLwP_f, sumLwP_D, sumLwP_flat, sumLwP_r, go_sem, wpR_gcall, reduceCtorEq, reduceIte, Nat.reduceEqDiff, Nat.reduceAdd, Nat.reduceSub, Nat.reduceMul, Nat.reduceLT, Nat.reduceLeDiff, Nat.reduceBEq, Int.reduceEq, Int.reduceLT, Int.reduceLE, Int.reduceAdd, Int.reduceSub, Int.reduceNeg, Int.reduceToNat]
theorem breakR_ok (l : List Tok) (h : okT l) : PCall Try.prog 17 [toks l] (brkR (brkN l)) := by
  have h1 := h.1
  unfold brkN aloneV
  cases hO : onlyP l with
  | none =>
    refine PCall.of (Orc.cons sumPtsR (Orc.nil _)) c17_ok (by simp [c17]) fun w0 own0 => ?_
    cases hb : ptB l with
    | false => simp only [c17, toks, dToks_map, h1, plV, hb, brkR, Option.bind_none, sumPtsR_f, sumPtsR_D, sumPtsR_flat, sumPtsR_r, go_sem, wpR_gcall, reduceCtorEq, reduceIte, Nat.reduceEqDiff, Nat.reduceAdd, Nat.reduceSub, Nat.reduceMul, Nat.reduceLT, Nat.reduceLeDiff, Nat.reduceBEq, Int.reduceEq, Int.reduceLT, Int.reduceLE, Int.reduceAdd, Int.reduceSub, Int.reduceNeg, Int.reduceToNat]
    | true =>
      have hn := (only_none hO).resolve_left (by rw [hb]; simp)
      simp only [c17, toks, dToks_map, h1, plV, hb, hn, brkR, Option.bind_none, sumPtsR_f, sumPtsR_D, sumPtsR_flat, sumPtsR_r, go_sem, wpR_gcall, reduceCtorEq, reduceIte, Nat.reduceEqDiff, Nat.reduceAdd, Nat.reduceSub, Nat.reduceMul, Nat.reduceLT, Nat.reduceLeDiff, Nat.reduceBEq, Int.reduceEq, Int.reduceLT, Int.reduceLE, Int.reduceAdd, Int.reduceSub, Int.reduceNeg, Int.reduceToNat]
  | some p =>
    obtain ⟨hb, hp⟩ := only_some hO
    have hok := (pl_mem h p (by rw [hp]; simp)).1
    by_cases hk : p.t.kind = 2
    · simp only [hk, if_true, Option.bind_some]
      obtain ⟨S, s1, s2, s3, s4⟩ := at_any (brkKeys.map (·.1)) (lowP p) (by decide)
      refine PCall.of (Orc.cons S (Orc.cons sumPtsR (Orc.cons sumLwR (Orc.nil _)))) c17_ok (by simp [c17]) fun w0 own0 => ?_
      have h' : okP7 ⟨⟨2, p.t.text, p.t.n⟩, p.al⟩ := hok
      have hl' : lowP ⟨⟨2, p.t.text, p.t.n⟩, p.al⟩ = lowP p := rfl
      rcases look_ix (lowP p) brkKeys with ⟨a, b⟩ | ⟨m, hm, a, b⟩
      · rw [b]
        rw [a] at s4
        simp only [brkKeys, List.map_cons, List.map_nil] at s3 s4
        simp only [c17, toks, dToks_map, h1, plV, hb, hp, hk, h', hl', dPa_mk, Pa.enc, brkR, s1, s2, s3, s4, sumPtsR_f, sumPtsR_D, sumPtsR_flat, sumPtsR_r, sumLwR_f, sumLwR_D, sumLwR_flat, sumLwR_r, go_sem, wpR_gcall, reduceCtorEq, reduceIte, Nat.reduceEqDiff, Nat.reduceAdd, Nat.reduceSub, Nat.reduceMul, Nat.reduceLT, Nat.reduceLeDiff, Nat.reduceBEq, Int.reduceEq, Int.reduceLT, Int.reduceLE, Int.reduceAdd, Int.reduceSub, Int.reduceNeg, Int.reduceToNat]
      · rw [b]
        rw [a] at s4
        have hm9 : m < 9 := hm
        have hg := getD_ints (brkKeys.map (·.2)) m
        have hge : (brkKeys.map (·.2)).getD m 0 = (brkKeys.getD m default).2 := by
          rcases (show m = 0 ∨ m = 1 ∨ m = 2 ∨ m = 3 ∨ m = 4 ∨ m = 5 ∨ m = 6 ∨ m = 7 ∨ m = 8 by omega) with rfl | rfl | rfl | rfl | rfl | rfl | rfl | rfl | rfl <;> rfl
        rw [hge] at hg
        generalize (brkKeys.getD m default).2 = v at *
        simp only [brkKeys, List.map_cons, List.map_nil] at s3 s4 hg
        have e0 : ¬ (m : Int) < 0 := by omega
        have e1 : (m : Int) < 9 := by omega
        have e2 : (0 : Int) ≤ m := by omega
        simp only [c17, toks, dToks_map, h1, plV, hb, hp, hk, h', hl', dPa_mk, Pa.enc, brkR, s1, s2, s3, s4, e0, e1, e2, hm9, hg, sumPtsR_f, sumPtsR_D, sumPtsR_flat, sumPtsR_r, sumLwR_f, sumLwR_D, sumLwR_flat, sumLwR_r, go_sem, wpR_gcall, reduceCtorEq, reduceIte, Nat.reduceEqDiff, Nat.reduceAdd, Nat.reduceSub, Nat.reduceMul, Nat.reduceLT, Nat.reduceLeDiff, Nat.reduceBEq, Int.reduceEq, Int.reduceLT, Int.reduceLE, Int.reduceAdd, Int.reduceSub, Int.reduceNeg, Int.reduceToNat]
    · simp only [hk, if_false, Option.bind_none]
      refine PCall.of (Orc.cons sumPtsR (Orc.cons sumLwR (Orc.nil _))) c17_ok (by simp [c17]) fun w0 own0 => ?_
      simp only [c17, toks, dToks_map, h1, plV, hb, hp, hk, hok, dPa_mk, Pa.enc, brkR, sumPtsR_f, sumPtsR_D, sumPtsR_flat, sumPtsR_r, sumLwR_f, sumLwR_D, sumLwR_flat, sumLwR_r, go_sem, wpR_gcall, reduceCtorEq, reduceIte, Nat.reduceEqDiff, Nat.reduceAdd, Nat.reduceSub, Nat.reduceMul, Nat.reduceLT, Nat.reduceLeDiff, Nat.reduceBEq, Int.reduceEq, Int.reduceLT, Int.reduceLE, Int.reduceAdd, Int.reduceSub, Int.reduceNeg, Int.reduceToNat]
def sumBrk : Sum Try.prog := ⟨16, fun args => args = [toks (dToks (args.getD 0 .any))] ∧ okT (dToks (args.getD 0 .any)), fun args => brkR (brkN (dToks (args.getD 0 .any))), fun args h => by
  have := break_ok (dToks (args.getD 0 .any)) h.2; rwa [← h.1] at this, false⟩
theorem sumBrk_f : sumBrk.f = 16 := rfl
theorem sumBrk_D (args : List V) : sumBrk.D args = (args = [toks (dToks (args.getD 0 .any))] ∧ okT (dToks (args.getD 0 .any))) := rfl
theorem sumBrk_flat : sumBrk.flat = false := rfl
theorem sumBrk_r (args : List V) : sumBrk.r args = brkR (brkN (dToks (args.getD 0 .any))) := rfl
def sumBrkR : Sum Try.prog := ⟨17, fun args => args = [toks (dToks (args.getD 0 .any))] ∧ okT (dToks (args.getD 0 .any)), fun args => brkR (brkN (dToks (args.getD 0 .any))), fun args h => by
  have := breakR_ok (dToks (args.getD 0 .any)) h.2; rwa [← h.1] at this, false⟩
theorem sumBrkR_f : sumBrkR.f = 17 := rfl
theorem sumBrkR_D (args : List V) : sumBrkR.D args = (args = [toks (dToks (args.getD 0 .any))] ∧ okT (dToks (args.getD 0 .any))) := rfl
theorem sumBrkR_flat : sumBrkR.flat = false := rfl
theorem sumBrkR_r (args : List V) : sumBrkR.r args = brkR (brkN (dToks (args.getD 0 .any))) := rfl
end Go.Proofs.Ytjofgafeaiiegaa
