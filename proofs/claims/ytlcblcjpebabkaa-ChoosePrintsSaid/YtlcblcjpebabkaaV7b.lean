/- Layer 7: the parts of a value, by the document. -/
import Derived.Test.YtlcblcjpebabkaaV7a
namespace Go.Proofs.Ytlcblcjpebabkaa
open Go.Sx
set_option linter.unusedSimpArgs false
set_option maxHeartbeats 4000000
set_option maxRecDepth 20000

structure PlS where
  k : Nat
  f : Nat
  out : List Int
  ver : Nat
  clk : Nat
theorem places_ok (l : List Tok) (hd : deep l = false) (hl : l.length ≤ 1000000) : PCall Try.prog 46 [ints (endsA l), vi 0, vi l.length] (ints (plR (endsA l) l.length (l.length + 1) 0)) := by
  refine PCall.of (Orc.cons sumRefSkip (Orc.nil _)) c46_ok (by simp [c46]) fun w0 own0 => ?_
  have hlen : (endsA l).length = l.length := by unfold endsA; rw [hd]; simp [endsTo_len]
  generalize hR : plR (endsA l) l.length (l.length + 1) 0 = R
  simp only [c46, ints, sumRefSkip_f, sumRefSkip_D, sumRefSkip_flat, sumRefSkip_r, go_sem, wpR_gcall, reduceCtorEq, reduceIte, Nat.reduceEqDiff, Nat.reduceAdd, Nat.reduceSub, Nat.reduceMul, Nat.reduceLT, Nat.reduceLeDiff, Nat.reduceBEq, Int.reduceEq, Int.reduceLT, Int.reduceLE, Int.reduceAdd, Int.reduceSub, Int.reduceNeg, Int.reduceToNat]
  refine SemC.lp (α := PlS) (fun a => [(0, .slc 1 ((endsA l).map fun n => [vi n])), (2, vi l.length), (7, .ref 0 a.ver 0 a.out.length), (8, vi a.k)])
    (fun a => ⟨[⟨a.ver, 1, a.out.map fun n => [vi n], false, [vi 0]⟩], a.clk⟩) (fun a => a.k ≤ l.length ∧ a.out.length ≤ a.k ∧ l.length + 1 ≤ a.k + a.f ∧ a.out ++ plR (endsA l) l.length a.f a.k = R) (fun a => l.length - a.k) ⟨0, l.length + 1, [], 0, 1⟩
    ⟨Nat.zero_le _, Nat.zero_le _, by dsimp only; omega, by dsimp only; rw [show ((0 : Nat) : Int) = 0 from rfl, hR]; rfl⟩ (St.nil 7 1 [vi 0] (by simp [upd_at]) (St.cut ?_ ?_ ?_)) fun a ha => ?_
  · simp [Agrees, upd_at, initE_at]
  · simp [Heap.alloc]
  · rfl
  obtain ⟨k, f, out, ver, clk⟩ := a
  obtain ⟨h1, h2, h3, h4⟩ := ha
  simp only at h1 h2 h3 h4
  obtain ⟨f', rfl⟩ : ∃ f', f = f' + 1 := ⟨f - 1, by omega⟩
  by_cases hk : k = l.length
  · subst hk
    simp only [plR, Int.lt_irrefl, if_false, List.append_nil] at h4
    subst h4
    simp only [Int.lt_irrefl, List.take_length, take_mapl, Nat.le_refl, sumRefSkip_f, sumRefSkip_D, sumRefSkip_flat, sumRefSkip_r, go_sem, wpR_gcall, reduceCtorEq, reduceIte, Nat.reduceEqDiff, Nat.reduceAdd, Nat.reduceSub, Nat.reduceMul, Nat.reduceLT, Nat.reduceLeDiff, Nat.reduceBEq, Int.reduceEq, Int.reduceLT, Int.reduceLE, Int.reduceAdd, Int.reduceSub, Int.reduceNeg, Int.reduceToNat]
  · have e1 : (k : Int) < (l.length : Int) := by omega
    have hlt : k < l.length := by omega
    obtain ⟨n, hn1, hn2, hn3⟩ := skip_nat hd k hlt
    have hle := endsA_le l k
    have hsk : skipD (endsA l) k := ⟨by omega, by omega, by rw [Int.toNat_natCast]; omega⟩
    have hot : out.take out.length = out := List.take_length
    simp only [plR, e1, if_true, hn1] at h4
    simp only [e1, hsk, hn1, hot, dInts_map, ints, sumRefSkip_f, sumRefSkip_D, sumRefSkip_flat, sumRefSkip_r, go_sem, wpR_gcall, reduceCtorEq, reduceIte, Nat.reduceEqDiff, Nat.reduceAdd, Nat.reduceSub, Nat.reduceMul, Nat.reduceLT, Nat.reduceLeDiff, Nat.reduceBEq, Int.reduceEq, Int.reduceLT, Int.reduceLE, Int.reduceAdd, Int.reduceSub, Int.reduceNeg, Int.reduceToNat]
    exact ⟨⟨by omega, by omega, by omega⟩, ⟨n, f', out ++ [(k : Int)], clk + 1, clk + 2⟩, ⟨by dsimp only; omega, by simp; omega, by dsimp only; omega, by rw [← h4]; simp⟩, by dsimp only; omega, ⟨⟨rfl, by simp⟩, rfl⟩, ⟨rfl, by simp⟩, rfl⟩
theorem plR_mem {l : List Tok} (hd : deep l = false) : ∀ (f : Nat) (k : Nat), ∀ x ∈ plR (endsA l) l.length f k, 0 ≤ x ∧ x < l.length
  | 0, k, x, hx => by simp [plR] at hx
  | f + 1, k, x, hx => by
    unfold plR at hx
    by_cases hk : (k : Int) < l.length
    · rw [if_pos hk] at hx
      obtain ⟨n, hn1, hn2, hn3⟩ := skip_nat hd k (by omega)
      rcases List.mem_cons.1 hx with rfl | hx
      · omega
      · rw [hn1] at hx; exact plR_mem hd f n x hx
    · rw [if_neg hk] at hx; cases hx
theorem plR_len {l : List Tok} (hd : deep l = false) : ∀ (f : Nat) (k : Nat), k ≤ l.length → (plR (endsA l) l.length f k).length + k ≤ l.length
  | 0, k, h => by simp [plR]; exact h
  | f + 1, k, h => by
    unfold plR
    by_cases hk : (k : Int) < l.length
    · rw [if_pos hk]
      obtain ⟨n, hn1, hn2, hn3⟩ := skip_nat hd k (by omega)
      rw [hn1]
      have := plR_len hd f n hn3
      simp only [List.length_cons]; omega
    · rw [if_neg hk]; simp; exact h
/-- The places of a list, whatever the caller holds. -/
theorem places_any (l : List Tok) (hd : deep l = false) (hl : l.length ≤ 1000000) : ∃ S : Sum Try.prog, S.f = 46 ∧ S.flat = false ∧ S.D [.slc 1 ((endsA l).map fun n => [vi n]), .c (.int .i64 0), .c (.int .i64 l.length)] ∧ S.r [.slc 1 ((endsA l).map fun n => [vi n]), .c (.int .i64 0), .c (.int .i64 l.length)] = ints (plR (endsA l) l.length (l.length + 1) 0) :=
  ⟨⟨46, fun args => args = [ints (endsA l), vi 0, vi l.length], fun _ => ints (plR (endsA l) l.length (l.length + 1) 0), fun args h => by rw [h]; exact places_ok l hd hl, false⟩, rfl, rfl, rfl, rfl⟩
structure PrS where
  i : Nat
  out : List Part
  ver : Nat
  clk : Nat
theorem drop_consI (l : List Int) (n : Nat) (h : n < l.length) : l.drop n = l.getD n 0 :: l.drop (n + 1) := by
  rw [List.drop_eq_getElem_cons h, List.getD_eq_getElem?_getD, List.getElem?_eq_getElem h]; rfl
/-- Parts, a missing list of arguments told as an empty one. -/
structure Pa where
  t : Tok
  al : List Tok
instance : Inhabited Pa := ⟨⟨.zero, []⟩⟩
def Pa.enc (p : Pa) : List V := [vi p.t.kind, vs p.t.text, vi p.t.n, .slc 3 (p.al.map Tok.enc)]
end Go.Proofs.Ytlcblcjpebabkaa
