/- The parts between commas, by the document. -/
import Derived.Test.YtlcblcjpebabkaaSm
namespace Go.Proofs.Ytlcblcjpebabkaa
open Go.Sx
set_option linter.unusedSimpArgs false
set_option maxHeartbeats 4000000
set_option maxRecDepth 20000

theorem plR_ge {l : List Tok} (hd : deep l = false) : ∀ (f : Nat) (k : Nat), ∀ x ∈ plR (endsA l) l.length f k, (k : Int) ≤ x
  | 0, k, x, hx => by simp [plR] at hx
  | f + 1, k, x, hx => by
    simp only [plR] at hx
    split at hx
    · rename_i h
      rcases List.mem_cons.1 hx with rfl | hx
      · exact Int.le_refl _
      · obtain ⟨n, hn1, hn2, _⟩ := skip_nat hd k (by omega)
        rw [hn1] at hx
        have := plR_ge hd f n x hx
        omega
    · cases hx
theorem plR_pw {l : List Tok} (hd : deep l = false) : ∀ (f : Nat) (k : Nat), (plR (endsA l) l.length f k).Pairwise (· < ·)
  | 0, k => by simp [plR]
  | f + 1, k => by
    simp only [plR]
    split
    · rename_i h
      obtain ⟨n, hn1, hn2, _⟩ := skip_nat hd k (by omega)
      rw [hn1]
      refine List.pairwise_cons.2 ⟨fun x hx => ?_, plR_pw hd f n⟩
      have := plR_ge hd f n x hx
      omega
    · exact List.Pairwise.nil
structure SnS where
  k : Nat
  b : Int
  out : List (Int × Int)
  ver : Nat
  clk : Nat
theorem getD_ofI (l : List Int) (k : Nat) (h : k < l.length) : l.drop k = l.getD k 0 :: l.drop (k + 1) := drop_consI l k h
theorem splitR_ok (l : List Tok) (hd : deep l = false) (hl : l.length ≤ 1000000) : PCall Try.prog 34 [toks l, ints (endsA l), vi 0, vi l.length, vi 16] (prs (splL l)) := by
  obtain ⟨S, s1, s2, s3, s4⟩ := places_any l hd hl
  refine PCall.of (Orc.cons S (Orc.nil _)) c34_ok (by simp [c34]) fun w0 own0 => ?_
  have hmem := plR_mem hd (l.length + 1) 0
  have hpw := plR_pw hd (l.length + 1) 0
  have hln := plR_len hd (l.length + 1) 0 (Nat.zero_le _)
  rw [splL_eq hd]
  rw [show ((0 : Nat) : Int) = 0 from rfl] at hmem hpw hln
  generalize plR (endsA l) l.length (l.length + 1) 0 = ps at *
  generalize hR : rsK l 16 l.length 0 ps = R
  simp only [c34, toks, ints, s1, s2, s3, s4, go_sem, wpR_gcall, reduceCtorEq, reduceIte, Nat.reduceEqDiff, Nat.reduceAdd, Nat.reduceSub, Nat.reduceMul, Nat.reduceLT, Nat.reduceLeDiff, Nat.reduceBEq, Int.reduceEq, Int.reduceLT, Int.reduceLE, Int.reduceAdd, Int.reduceSub, Int.reduceNeg, Int.reduceToNat]
  refine SemC.lp (α := SnS) (fun a => [(0, .slc 3 (l.map Tok.enc)), (3, vi l.length), (4, vi 16), (11, .ref 0 a.ver 0 a.out.length), (12, vi a.b), (13, .slc 1 (ps.map fun n => [vi n])), (14, vi a.k)])
    (fun a => ⟨[⟨a.ver, 2, a.out.map fun p => [vi p.1, vi p.2], false, [vi 0, vi 0]⟩], a.clk⟩) (fun a => a.k ≤ ps.length ∧ a.out.length ≤ a.k ∧ a.out ++ rsK l 16 l.length a.b (ps.drop a.k) = R ∧ ∀ p ∈ ps.drop a.k, a.b ≤ p) (fun a => ps.length - a.k) ⟨0, 0, [], 0, 1⟩
    ⟨Nat.zero_le _, Nat.zero_le _, hR, fun p hp => (hmem p hp).1⟩ (St.nil 11 2 [vi 0, vi 0] (by simp [upd_at]) (St.cut ?_ ?_ ?_)) fun a ha => ?_
  · simp [Agrees, upd_at, initE_at]
  · simp [Heap.alloc]
  · rfl
  obtain ⟨k, b, out, ver, clk⟩ := a
  obtain ⟨h1, h2, h3, h4⟩ := ha
  simp only at h1 h2 h3 h4
  have hot : out.take out.length = out := List.take_length
  by_cases hk : k = ps.length
  · subst hk
    rw [List.drop_length] at h3
    simp only [rsK] at h3
    have hap : (out.map fun p => [vi p.1, vi p.2]) ++ [[vi b, vi l.length]] = R.map fun p => [vi p.1, vi p.2] := by rw [← h3]; simp
    have hlr : R.length = out.length + 1 := by rw [← h3]; simp
    have hmr : mapO (mapO (res (fun _ => true) ⟨[], 0⟩ 11)) (R.map fun p => [vi p.1, vi p.2]) = some (R.map fun p => [vi p.1, vi p.2]) := mapO_prs11 _ _ R
    have htk : List.take (out.length + 1) R = R := List.take_of_length_le (by omega)
    simp only [Int.lt_irrefl, hot, hap, hlr, htk, mapO_prs11, Nat.le_refl, prs, go_sem, wpR_gcall, reduceCtorEq, reduceIte, Nat.reduceEqDiff, Nat.reduceAdd, Nat.reduceSub, Nat.reduceMul, Nat.reduceLT, Nat.reduceLeDiff, Nat.reduceBEq, Int.reduceEq, Int.reduceLT, Int.reduceLE, Int.reduceAdd, Int.reduceSub, Int.reduceNeg, Int.reduceToNat]
    omega
  · have e1 : (k : Int) < (ps.length : Int) := by omega
    have e0 : (0 : Int) ≤ (k : Int) := by omega
    have hlt : k < ps.length := by omega
    rw [getD_ofI ps k hlt] at h3 h4
    have hpm : ps.getD k 0 ∈ ps := by rw [List.getD_eq_getElem?_getD, List.getElem?_eq_getElem hlt]; exact List.getElem_mem _
    have hpr := hmem _ hpm
    have hpd : ∀ q ∈ ps.drop (k + 1), ps.getD k 0 < q := by
      have h5 : (ps.drop k).Pairwise (· < ·) := hpw.drop
      rw [getD_ofI ps k hlt] at h5
      exact (List.pairwise_cons.1 h5).1
    have hg := getD_ints ps k
    generalize ps.getD k 0 = p at *
    obtain ⟨m, rfl⟩ : ∃ m : Nat, p = m := ⟨p.toNat, by omega⟩
    have hbm := h4 (m : Int) (by simp)
    simp only [rsK, Int.toNat_natCast] at h3
    by_cases hc : (l.getD m .zero).kind = 16
    · have hct := eq_true hc
      rw [if_pos hc] at h3
      simp only [e0, e1, hg, hpr.1, hpr.2, hct, hbm, hot, Tok.enc, ints, go_sem, wpR_gcall, reduceCtorEq, reduceIte, Nat.reduceEqDiff, Nat.reduceAdd, Nat.reduceSub, Nat.reduceMul, Nat.reduceLT, Nat.reduceLeDiff, Nat.reduceBEq, Int.reduceEq, Int.reduceLT, Int.reduceLE, Int.reduceAdd, Int.reduceSub, Int.reduceNeg, Int.reduceToNat]
      refine ⟨⟨by omega, by omega, by omega⟩, by omega, by omega, ⟨k + 1, m + 1, out ++ [(b, (m : Int))], _, _⟩, ⟨by dsimp only; omega, by simp; omega, by rw [← h3]; simp, fun q hq => by have := hpd q hq; dsimp only; omega⟩, by dsimp only; omega, ⟨⟨rfl, by simp⟩, rfl, by dsimp only; omega⟩, ⟨rfl, by simp⟩, rfl⟩
    · have hct := eq_false hc
      rw [if_neg hc] at h3
      simp only [e0, e1, hg, hpr.1, hpr.2, hct, hot, Tok.enc, ints, go_sem, wpR_gcall, reduceCtorEq, reduceIte, Nat.reduceEqDiff, Nat.reduceAdd, Nat.reduceSub, Nat.reduceMul, Nat.reduceLT, Nat.reduceLeDiff, Nat.reduceBEq, Int.reduceEq, Int.reduceLT, Int.reduceLE, Int.reduceAdd, Int.reduceSub, Int.reduceNeg, Int.reduceToNat]
      exact ⟨by omega, ⟨k + 1, b, out, ver, clk⟩, ⟨by dsimp only; omega, by dsimp only; omega, h3, fun q hq => h4 q (by simp [hq])⟩, by dsimp only; omega, ⟨⟨rfl, rfl⟩, rfl, by dsimp only; omega⟩, ⟨rfl, rfl⟩, rfl⟩
end Go.Proofs.Ytlcblcjpebabkaa
