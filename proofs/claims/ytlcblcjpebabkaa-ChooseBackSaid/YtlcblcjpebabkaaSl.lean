/- The parts between tokens of a kind. -/
import Derived.Test.YtlcblcjpebabkaaNe
namespace Go.Proofs.Ytlcblcjpebabkaa
open Go.Sx
set_option linter.unusedSimpArgs false
set_option maxHeartbeats 4000000
set_option maxRecDepth 20000

def sumWithin : Sum Try.prog := ⟨38, fun args => args = [vi (args.getD 0 .any).int, vi (args.getD 1 .any).int, vi (args.getD 2 .any).int], fun args => vb (decide (0 ≤ (args.getD 1 .any).int ∧ (args.getD 1 .any).int ≤ (args.getD 2 .any).int ∧ (args.getD 2 .any).int ≤ (args.getD 0 .any).int)), fun args h => by
  have := within_ok (args.getD 0 .any).int (args.getD 1 .any).int (args.getD 2 .any).int; rwa [← h] at this, true⟩
theorem sumWithin_f : sumWithin.f = 38 := rfl
theorem sumWithin_D (args : List V) : sumWithin.D args = (args = [vi (args.getD 0 .any).int, vi (args.getD 1 .any).int, vi (args.getD 2 .any).int]) := rfl
theorem sumWithin_flat : sumWithin.flat = true := rfl
theorem sumWithin_r (args : List V) : sumWithin.r args = vb (decide (0 ≤ (args.getD 1 .any).int ∧ (args.getD 1 .any).int ≤ (args.getD 2 .any).int ∧ (args.getD 2 .any).int ≤ (args.getD 0 .any).int)) := rfl
def sumIsKind : Sum Try.prog := ⟨39, fun args => args = [.agg (dTok (args.getD 0 .any)).enc, .pp [vi ((args.getD 1 .any).cs.getD 0 .any).int]], fun args => vb (decide ((dTok (args.getD 0 .any)).kind = ((args.getD 1 .any).cs.getD 0 .any).int)), fun args h => by
  have := isKind_ok (dTok (args.getD 0 .any)) ((args.getD 1 .any).cs.getD 0 .any).int; rwa [← h] at this, true⟩
theorem sumIsKind_f : sumIsKind.f = 39 := rfl
theorem sumIsKind_D (args : List V) : sumIsKind.D args = (args = [.agg (dTok (args.getD 0 .any)).enc, .pp [vi ((args.getD 1 .any).cs.getD 0 .any).int]]) := rfl
theorem sumIsKind_flat : sumIsKind.flat = true := rfl
theorem sumIsKind_r (args : List V) : sumIsKind.r args = vb (decide ((dTok (args.getD 0 .any)).kind = ((args.getD 1 .any).cs.getD 0 .any).int)) := rfl

def findF (l : List Tok) (ends : List Int) (to kind : Int) : Nat → Int → Int
  | 0, _ => -1
  | f + 1, k => if k < to then (if (l.getD k.toNat .zero).kind = kind then k else findF l ends to kind f (skip ends k)) else -1
def bad (l : List Tok) (ends : List Int) (a b : Int) : Prop := ¬ ends.length = l.length ∨ ¬ (0 ≤ a ∧ a ≤ b ∧ b ≤ l.length)
instance (l : List Tok) (ends : List Int) (a b : Int) : Decidable (bad l ends a b) := by unfold bad; infer_instance
def nfind (l : List Tok) (ends : List Int) (a b kind : Int) : Int := if bad l ends a b then -1 else findF l ends b kind (b - a).toNat a
structure FiS where
  k : Int
  f : Nat
theorem find_ok (l : List Tok) (ends : List Int) (a b kind : Int) (hl : l.length ≤ 1000000) (hE : ∀ i, ends.getD i 0 ≤ 1000000) : PCall Try.prog 40 [toks l, ints ends, vi a, vi b, .fn 39 [.pp [vi kind]]] (vi (nfind l ends a b kind)) := by
  refine PCall.of (Orc.cons sumSkip (Orc.cons sumWithin (Orc.cons sumIsKind (Orc.nil _)))) c40_ok (by simp [c40]) fun w0 own0 => ?_
  simp only [c40, ints, toks, Tok.enc, sumSkip_f, sumSkip_D, sumSkip_flat, sumSkip_r, sumWithin_f, sumWithin_D, sumWithin_flat, sumWithin_r, go_sem, wpR_gcall, reduceCtorEq, reduceIte, Nat.reduceEqDiff, Nat.reduceAdd, Nat.reduceSub, Nat.reduceMul, Nat.reduceLT, Nat.reduceLeDiff, Nat.reduceBEq, Int.reduceEq, Int.reduceLT, Int.reduceLE, Int.reduceAdd, Int.reduceSub, Int.reduceNeg, Int.reduceToNat]
  refine ⟨by omega, by omega, fun h => ?_, fun h => ?_⟩
  · have : bad l ends a b := by unfold bad; omega
    simp only [nfind, if_pos this]
  · have hb : ¬ bad l ends a b := by unfold bad; omega
    simp only [nfind, if_neg hb]
    generalize hR : findF l ends b kind (b - a).toNat a = R
    refine SemC.lp (α := FiS) (fun x => [(0, .slc 3 (l.map Tok.enc)), (1, .slc 1 (ends.map fun n => [vi n])), (3, vi b), (4, .fn 39 [.pp [vi kind]]), (11, vi x.k)]) (fun _ => ⟨[], 0⟩)
      (fun x => 0 ≤ x.k ∧ x.k ≤ 1000001 ∧ (b - x.k).toNat ≤ x.f ∧ findF l ends b kind x.f x.k = R) (fun x => (b - x.k).toNat) ⟨a, (b - a).toNat⟩ ⟨by dsimp only; omega, by dsimp only; omega, Nat.le_refl _, hR⟩ (St.mk ?_) fun x hx => ?_
    · simp only [go_sem, wpR_gcall, reduceCtorEq, reduceIte, Nat.reduceEqDiff, Nat.reduceAdd, Nat.reduceSub, Nat.reduceMul, Nat.reduceLT, Nat.reduceLeDiff, Nat.reduceBEq, Int.reduceEq, Int.reduceLT, Int.reduceLE, Int.reduceAdd, Int.reduceSub, Int.reduceNeg, Int.reduceToNat]
    · obtain ⟨k, f⟩ := x
      simp only at hx
      obtain ⟨h1, h2, h3, h4⟩ := hx
      simp only [Tok.enc, toks, ints, sumSkip_f, sumSkip_D, sumSkip_flat, sumSkip_r, sumWithin_f, sumWithin_D, sumWithin_flat, sumWithin_r, sumIsKind_f, sumIsKind_D, sumIsKind_flat, sumIsKind_r, go_sem, wpR_gcall, reduceCtorEq, reduceIte, Nat.reduceEqDiff, Nat.reduceAdd, Nat.reduceSub, Nat.reduceMul, Nat.reduceLT, Nat.reduceLeDiff, Nat.reduceBEq, Int.reduceEq, Int.reduceLT, Int.reduceLE, Int.reduceAdd, Int.reduceSub, Int.reduceNeg, Int.reduceToNat]
      refine ⟨fun hk => ?_, fun hk => ?_⟩
      · obtain ⟨f', rfl⟩ : ∃ f', f = f' + 1 := ⟨f - 1, by omega⟩
        simp only [findF, if_pos hk] at h4
        have hg := skip_gt ends k (by omega)
        have hle := skip_le ends k (by omega)
        have := hE k.toNat
        refine ⟨by omega, fun hq => ?_, fun hq => ⟨⟨by omega, by omega, by omega⟩, ⟨skip ends k, f'⟩, ⟨by dsimp only; omega, by dsimp only; omega, by dsimp only; omega, ?_⟩, by dsimp only; omega, rfl⟩⟩
        · rw [if_pos hq] at h4; exact h4
        · rw [if_neg hq] at h4; exact h4
      · cases f with
        | zero => simpa [findF] using h4
        | succ f => simpa only [findF, if_neg hk] using h4
def findD (l : List Tok) (ends : List Int) : Prop := l.length ≤ 1000000 ∧ ∀ i, ends.getD i 0 ≤ 1000000
def sumFind : Sum Try.prog := ⟨40, fun args => args = [toks (dToks (args.getD 0 .any)), ints (dInts (args.getD 1 .any)), vi (args.getD 2 .any).int, vi (args.getD 3 .any).int, .fn 39 [.pp [vi ((((args.getD 4 .any).caps).getD 0 .any).cs.getD 0 .any).int]]] ∧ findD (dToks (args.getD 0 .any)) (dInts (args.getD 1 .any)),
  fun args => vi (nfind (dToks (args.getD 0 .any)) (dInts (args.getD 1 .any)) (args.getD 2 .any).int (args.getD 3 .any).int ((((args.getD 4 .any).caps).getD 0 .any).cs.getD 0 .any).int), fun args h => by
  have := find_ok (dToks (args.getD 0 .any)) (dInts (args.getD 1 .any)) (args.getD 2 .any).int (args.getD 3 .any).int ((((args.getD 4 .any).caps).getD 0 .any).cs.getD 0 .any).int h.2.1 h.2.2; rwa [← h.1] at this, true⟩
theorem sumFind_f : sumFind.f = 40 := rfl
theorem sumFind_D (args : List V) : sumFind.D args = (args = [toks (dToks (args.getD 0 .any)), ints (dInts (args.getD 1 .any)), vi (args.getD 2 .any).int, vi (args.getD 3 .any).int, .fn 39 [.pp [vi ((((args.getD 4 .any).caps).getD 0 .any).cs.getD 0 .any).int]]] ∧ findD (dToks (args.getD 0 .any)) (dInts (args.getD 1 .any))) := rfl
theorem sumFind_flat : sumFind.flat = true := rfl
theorem sumFind_r (args : List V) : sumFind.r args = vi (nfind (dToks (args.getD 0 .any)) (dInts (args.getD 1 .any)) (args.getD 2 .any).int (args.getD 3 .any).int ((((args.getD 4 .any).caps).getD 0 .any).cs.getD 0 .any).int) := rfl

def prs (l : List (Int × Int)) : V := .slc 2 (l.map fun p => [vi p.1, vi p.2])
theorem mapO_prs11 (S : Nat → Bool) (h : Heap) (l : List (Int × Int)) : mapO (mapO (res S h 11)) (l.map fun p => [vi p.1, vi p.2]) = some (l.map fun p => [vi p.1, vi p.2]) := mapO_flat S h 10 _ (fun _ => rfl) l
theorem nfind_rng (l : List Tok) (ends : List Int) (a b kind : Int) : nfind l ends a b kind = -1 ∨ (a ≤ nfind l ends a b kind ∧ nfind l ends a b kind < b ∧ b ≤ l.length) := by
  unfold nfind
  split
  · exact .inl rfl
  · rename_i hb
    have hb' : ends.length = l.length ∧ 0 ≤ a ∧ a ≤ b ∧ b ≤ l.length := by unfold bad at hb; omega
    have key : ∀ (f : Nat) (k : Int), a ≤ k → findF l ends b kind f k = -1 ∨ (a ≤ findF l ends b kind f k ∧ findF l ends b kind f k < b) := by
      intro f
      induction f with
      | zero => intro k _; exact .inl rfl
      | succ f ih =>
        intro k hk
        simp only [findF]
        split
        · rename_i hkb
          split
          · exact .inr ⟨hk, hkb⟩
          · exact ih _ (by have := skip_gt ends k (by omega); omega)
        · exact .inl rfl
    rcases key (b - a).toNat a (Int.le_refl _) with h | h
    · exact .inl h
    · exact .inr ⟨h.1, h.2, hb'.2.2.2⟩
def splitF (l : List Tok) (ends : List Int) (b kind : Int) : Nat → Int → List (Int × Int)
  | 0, a => [(a, b)]
  | f + 1, a => if 0 ≤ nfind l ends a b kind then (a, nfind l ends a b kind) :: splitF l ends b kind f (nfind l ends a b kind + 1) else [(a, b)]
def nsplit (l : List Tok) (ends : List Int) (a b kind : Int) : V := bif decide (bad l ends a b) then vnil else prs (splitF l ends b kind ((b - a).toNat + 1) a)
structure SlS where
  a : Int
  f : Nat
  out : List (Int × Int)
  ver : Nat
  clk : Nat
theorem split_ok (l : List Tok) (ends : List Int) (a b kind : Int) (hl : l.length ≤ 1000000) (hE : ∀ i, ends.getD i 0 ≤ 1000000) : PCall Try.prog 29 [toks l, ints ends, vi a, vi b, vi kind] (nsplit l ends a b kind) := by
  refine PCall.of (Orc.cons sumWithin (Orc.cons sumFind (Orc.nil _))) c29_ok (by simp [c29]) fun w0 own0 => ?_
  simp only [c29, ints, toks, Tok.enc, go_sem, wpR_gcall, reduceCtorEq, reduceIte, Nat.reduceEqDiff, Nat.reduceAdd, Nat.reduceSub, Nat.reduceMul, Nat.reduceLT, Nat.reduceLeDiff, Nat.reduceBEq, Int.reduceEq, Int.reduceLT, Int.reduceLE, Int.reduceAdd, Int.reduceSub, Int.reduceNeg, Int.reduceToNat]
  by_cases hb : bad l ends a b
  · have hR : nsplit l ends a b kind = vnil := by simp only [nsplit, hb, decide_true, cond_true]
    rw [hR]
    refine SemC.lab (α := Unit) 0 (fun _ => []) (fun _ => ⟨[], 0⟩) (fun _ => False) (fun _ => 0) rfl ?_ fun x hx => hx.elim
    simp only [sumWithin_f, sumWithin_D, sumWithin_flat, sumWithin_r, go_sem, wpR_gcall, reduceCtorEq, reduceIte, Nat.reduceEqDiff, Nat.reduceAdd, Nat.reduceSub, Nat.reduceMul, Nat.reduceLT, Nat.reduceLeDiff, Nat.reduceBEq, Int.reduceEq, Int.reduceLT, Int.reduceLE, Int.reduceAdd, Int.reduceSub, Int.reduceNeg, Int.reduceToNat]
    unfold bad at hb
    refine ⟨by omega, fun h => ?_⟩
    exfalso; omega
  have hb' : ends.length = l.length ∧ 0 ≤ a ∧ a ≤ b ∧ b ≤ l.length := by unfold bad at hb; omega
  have hR : nsplit l ends a b kind = prs (splitF l ends b kind ((b - a).toNat + 1) a) := by simp only [nsplit, hb, decide_false, cond_false]
  rw [hR]
  generalize hR : splitF l ends b kind ((b - a).toNat + 1) a = R
  refine SemC.lab (α := SlS) 0 (fun x => [(0, .slc 3 (l.map Tok.enc)), (1, .slc 1 (ends.map fun n => [vi n])), (2, vi x.a), (3, vi b), (11, .ref 1 x.ver 0 x.out.length), (12, .fn 39 [.ptr 0 0 0 0])])
    (fun x => ⟨[⟨0, 1, [[vi kind]], false, []⟩, ⟨x.ver, 2, x.out.map fun p => [vi p.1, vi p.2], false, [vi 0, vi 0]⟩], x.clk⟩)
    (fun x => 0 ≤ x.a ∧ x.a ≤ b ∧ (b - x.a).toNat + 1 ≤ x.f ∧ x.out ++ splitF l ends b kind x.f x.a = R ∧ (x.out.length : Int) ≤ x.a) (fun x => (b - x.a).toNat) rfl ?_ fun x hx => ?_
  · simp only [sumWithin_f, sumWithin_D, sumWithin_flat, sumWithin_r, go_sem, wpR_gcall, reduceCtorEq, reduceIte, Nat.reduceEqDiff, Nat.reduceAdd, Nat.reduceSub, Nat.reduceMul, Nat.reduceLT, Nat.reduceLeDiff, Nat.reduceBEq, Int.reduceEq, Int.reduceLT, Int.reduceLE, Int.reduceAdd, Int.reduceSub, Int.reduceNeg, Int.reduceToNat]
    refine ⟨by omega, fun h => ?_, fun h => ⟨⟨a, (b - a).toNat + 1, [], 1, 2⟩, ⟨hb'.2.1, hb'.2.2.1, Nat.le_refl _, hR, hb'.2.1⟩, St.nil 11 2 [vi 0, vi 0] (by simp [upd_at]) (St.cut ?_ ?_ ?_)⟩⟩
    · exfalso; omega
    · simp [Agrees, upd_at, initE_at]
    · simp [Heap.alloc]
    · rfl
  · obtain ⟨a', f, out, ver, clk⟩ := x
    simp only at hx
    obtain ⟨h1, h2, h3, h4, h5⟩ := hx
    simp only [Tok.enc, toks, ints, prs, mapO_prs11, sumFind_f, sumFind_D, sumFind_flat, sumFind_r, sumWithin_f, sumWithin_D, sumWithin_flat, sumWithin_r, go_sem, wpR_gcall, reduceCtorEq, reduceIte, Nat.reduceEqDiff, Nat.reduceAdd, Nat.reduceSub, Nat.reduceMul, Nat.reduceLT, Nat.reduceLeDiff, Nat.reduceBEq, Int.reduceEq, Int.reduceLT, Int.reduceLE, Int.reduceAdd, Int.reduceSub, Int.reduceNeg, Int.reduceToNat]
    have hf := nfind_rng l ends a' b kind
    obtain ⟨f', rfl⟩ : ∃ f', f = f' + 1 := ⟨f - 1, by omega⟩
    simp only [splitF] at h4
    refine ⟨⟨hl, hE⟩, fun hn => ?_, fun hn => ?_⟩
    · rw [if_pos hn] at h4
      refine ⟨by omega, by omega, ⟨nfind l ends a' b kind + 1, f', out ++ [(a', nfind l ends a' b kind)], clk + 1, clk + 1 + 1⟩, ⟨by dsimp only; omega, by dsimp only; omega, by dsimp only; omega, ?_, by simp; omega⟩, by dsimp only; omega, ⟨rfl, rfl, by simp⟩, ⟨rfl, ?_⟩, rfl⟩
      · simpa using h4
      · simp
    · rw [if_neg hn] at h4
      refine ⟨by omega, ?_⟩
      have e : List.map (fun p : Int × Int => [vi p.1, vi p.2]) (List.take out.length out) ++ [[V.c (Value.int IntKind.i64 a'), V.c (Value.int IntKind.i64 b)]] = R.map fun p => [vi p.1, vi p.2] := by
        rw [← h4]; simp
      have e2 : R.length = out.length + 1 := by rw [← h4]; simp
      rw [e, if_pos (by simp [e2]), List.take_of_length_le (by simp [e2]), mapO_prs11]
      rfl
def sumSplit : Sum Try.prog := ⟨29, fun args => args = [toks (dToks (args.getD 0 .any)), ints (dInts (args.getD 1 .any)), vi (args.getD 2 .any).int, vi (args.getD 3 .any).int, vi (args.getD 4 .any).int] ∧ findD (dToks (args.getD 0 .any)) (dInts (args.getD 1 .any)),
  fun args => nsplit (dToks (args.getD 0 .any)) (dInts (args.getD 1 .any)) (args.getD 2 .any).int (args.getD 3 .any).int (args.getD 4 .any).int, fun args h => by
  have := split_ok (dToks (args.getD 0 .any)) (dInts (args.getD 1 .any)) (args.getD 2 .any).int (args.getD 3 .any).int (args.getD 4 .any).int h.2.1 h.2.2; rwa [← h.1] at this, false⟩
theorem sumSplit_f : sumSplit.f = 29 := rfl
theorem sumSplit_D (args : List V) : sumSplit.D args = (args = [toks (dToks (args.getD 0 .any)), ints (dInts (args.getD 1 .any)), vi (args.getD 2 .any).int, vi (args.getD 3 .any).int, vi (args.getD 4 .any).int] ∧ findD (dToks (args.getD 0 .any)) (dInts (args.getD 1 .any))) := rfl
theorem sumSplit_flat : sumSplit.flat = false := rfl
theorem sumSplit_r (args : List V) : sumSplit.r args = nsplit (dToks (args.getD 0 .any)) (dInts (args.getD 1 .any)) (args.getD 2 .any).int (args.getD 3 .any).int (args.getD 4 .any).int := rfl

end Go.Proofs.Ytlcblcjpebabkaa
