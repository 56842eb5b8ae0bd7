/- Layer 5: few tokens; the same numbers. -/
import Derived.Test.YtlcblcjpebabkaaL5a
namespace Go.Proofs.Ytlcblcjpebabkaa
open Go.Sx
set_option linter.unusedSimpArgs false
set_option maxHeartbeats 4000000

def few (l : List Tok) : Bool := decide (l.length ≤ 100 ∧ ∀ i, i < l.length → (l.getD i .zero).text.size ≤ 100)
/-- Which openings are open ahead of a token. -/
def stepO (l : List Tok) (st : List Int) (k : Nat) : List Int :=
  if ¬ closing (l.getD k .zero) = ⟨#[]⟩ then st ++ [(k : Int)]
  else if (l.getD k .zero).kind = 13 ∧ 0 < st.length ∧ closing (l.getD (st.getD (st.length - 1) 0).toNat .zero) = (l.getD k .zero).text then st.take (st.length - 1) else st
def opn (l : List Tok) : Nat → List Int
  | 0 => []
  | k + 1 => stepO l (opn l k) k
theorem opn_mem (l : List Tok) : ∀ k, ∀ x ∈ opn l k, 0 ≤ x ∧ x < k
  | 0, x, hx => by simp [opn] at hx
  | k + 1, x, hx => by
    have ih := opn_mem l k x
    simp only [opn, stepO] at hx
    split at hx
    · simp only [List.mem_append, List.mem_singleton] at hx; grind
    · split at hx
      · have := ih (List.mem_of_mem_take hx); omega
      · have := ih hx; omega
theorem opn_len (l : List Tok) : ∀ k, (opn l k).length ≤ k
  | 0 => Nat.le_refl _
  | k + 1 => by
    have ih := opn_len l k
    simp only [opn, stepO]
    split
    · simp; omega
    · split
      · simp; omega
      · omega
def sumClose : Sum Try.prog := ⟨45, fun args => args = [.agg (dTok (args.getD 0 .any)).enc], fun args => vs (closing (dTok (args.getD 0 .any))), fun args h => by
  have := close_ok (dTok (args.getD 0 .any)); rwa [← h] at this, true⟩

structure OpS where
  k : Nat
  es : List Int
  ver : Nat
  clk : Nat
theorem open_ok (l : List Tok) (n : Nat) (hn : n ≤ l.length) (hl : l.length ≤ 1000000) : PCall Try.prog 44 [toks l, vi n] (ints (opn l n)) := by
  refine PCall.of (Orc.cons sumClose (Orc.nil _)) c44_ok (by simp [c44]) fun w0 own0 => ?_
  simp only [c44, ints, toks, go_sem, wpR_gcall, reduceCtorEq, reduceIte, Nat.reduceEqDiff, Nat.reduceAdd, Nat.reduceSub, Nat.reduceMul, Nat.reduceLT, Nat.reduceLeDiff, Nat.reduceBEq, Int.reduceEq, Int.reduceLT, Int.reduceLE, Int.reduceAdd, Int.reduceSub, Int.reduceNeg, Int.reduceToNat]
  refine SemC.lp (α := OpS) (fun a => [(0, .slc 3 (l.map Tok.enc)), (1, vi n), (5, .ref 0 a.ver 0 (opn l a.k).length), (6, vi a.k)])
    (fun a => ⟨[⟨a.ver, 1, a.es.map fun n => [vi n], false, [vi 0]⟩], a.clk⟩) (fun a => a.k ≤ n ∧ a.es.take (opn l a.k).length = opn l a.k ∧ (opn l a.k).length ≤ a.es.length) (fun a => n - a.k) ⟨0, [], 0, 1⟩
    (by simp [opn]) (St.nil 5 1 [vi 0] (by simp [upd_at]) (St.mk (by simp [Agrees, upd_at, initE_at, opn]))) fun a ha => ?_
  obtain ⟨k, es, ver, clk⟩ := a
  simp only [Tok.enc, sumClose, go_sem, wpR_gcall, reduceCtorEq, reduceIte, Nat.reduceEqDiff, Nat.reduceAdd, Nat.reduceSub, Nat.reduceMul, Nat.reduceLT, Nat.reduceLeDiff, Nat.reduceBEq, Int.reduceEq, Int.reduceLT, Int.reduceLE, Int.reduceAdd, Int.reduceSub, Int.reduceNeg, Int.reduceToNat]
  simp only at ha
  obtain ⟨h1, h2, h3⟩ := ha
  have hm := opn_mem l k
  have hlen := opn_len l k
  have hnext : opn l (k + 1) = stepO l (opn l k) k := rfl
  have hN : ((((opn l k).length : Nat) : Int) - 1).toNat = (opn l k).length - 1 := by omega
  rw [hN]
  unfold stepO at hnext
  generalize hst : opn l k = st at *
  have hget : 0 < st.length → es.getD (st.length - 1) 0 = st.getD (st.length - 1) 0 := fun h => by
    have e1 : st.getD (st.length - 1) 0 = (es.take st.length).getD (st.length - 1) 0 := by rw [h2]
    rw [e1, List.getD_eq_getElem?_getD, List.getD_eq_getElem?_getD, List.getElem?_take, if_pos (by omega)]
  have hlast : 0 < st.length → 0 ≤ es.getD (st.length - 1) 0 ∧ es.getD (st.length - 1) 0 < k := fun h => by
    rw [hget h, List.getD_eq_getElem?_getD, List.getElem?_eq_getElem (by omega)]
    exact hm _ (List.getElem_mem _)
  refine ⟨fun hk => ⟨by omega, fun hc => ⟨by omega, by omega, ⟨k + 1, es.take st.length ++ [(k : Int)], clk + 1, clk + 1 + 1⟩, ?_⟩, fun hc => ⟨by omega, by omega, by omega, by omega, by grind, by omega, fun hp => ⟨by omega, by omega, by omega, ⟨k + 1, es, ver, clk⟩, ?_⟩, fun hp => ⟨by omega, ⟨k + 1, es, ver, clk⟩, ?_⟩⟩⟩, fun hk => ?_⟩
  · have e : opn l (k + 1) = st ++ [(k : Int)] := by rw [hnext, if_pos hc]
    have e2 : List.take (st.length + 1) (st ++ [(k : Int)]) = st ++ [(k : Int)] := List.take_of_length_le (by simp)
    simp only [e, h2]
    simp [e2]
    omega
  · have e : opn l (k + 1) = st.take (st.length - 1) := by
      rw [hnext, if_neg (by simpa using hc), if_pos]
      have h0 : 0 < st.length := by have := hp.1.2; omega
      exact ⟨hp.1.1, h0, by rw [← hget h0]; exact hp.2⟩
    simp only [e]
    have : List.take (st.length - 1) es = List.take (st.length - 1) st := by
      have e3 : (es.take st.length).take (st.length - 1) = es.take (st.length - 1) := by rw [List.take_take]; congr 1; omega
      rw [← e3, h2]
    simp [this]
    omega
  · have e : opn l (k + 1) = st := by
      rw [hnext, if_neg (by simpa using hc), if_neg]
      rintro ⟨q1, q2, q3⟩
      rcases hp with (hp | hp) | hp
      · exact hp q1
      · omega
      · rw [hget q2] at hp; exact hp q3
    simp only [e]
    simp [h2, h3]
    omega
  · have : n = k := by omega
    subst this
    rw [if_pos h3, h2, hst]
end Go.Proofs.Ytlcblcjpebabkaa
