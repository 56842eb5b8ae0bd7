/- Layer 7: numbers; arguments between commas. -/
import Derived.Test.YtjofgafeaiiegaaV7i
namespace Go.Proofs.Ytjofgafeaiiegaa
open Go.Sx
set_option linter.unusedSimpArgs false
set_option maxHeartbeats 4000000
set_option maxRecDepth 20000

def cntO (t : Tok) : Option Int := if t.kind = 8 ∧ t.n.tmod 1000 = 0 then some (min (max (t.n.tdiv 1000) (-2147483648)) 2147483647) else none
def cntR : Option Int → V
  | none => .tup [vi 0, vb false]
  | some n => .tup [vi n, vb true]
def okI (n : Int) : Prop := -9223372036854775808 ≤ n ∧ n ≤ 9223372036854775807
theorem tdiv_rng {n : Int} (h : okI n) : -9223372036854775808 ≤ n.tdiv 1000 ∧ n.tdiv 1000 ≤ 9223372036854775807 := by
  unfold okI at h
  rcases Int.lt_or_le n 0 with h0 | h0
  · have : n.tdiv 1000 = -((-n).tdiv 1000) := by rw [Int.neg_tdiv]; omega
    rw [this, Int.tdiv_eq_ediv_of_nonneg (by omega)]; omega
  · rw [Int.tdiv_eq_ediv_of_nonneg h0]; omega
theorem count_ok (p : Pa) (hn : okI p.t.n) : PCall Try.prog 49 [.agg p.enc] (cntR (cntO p.t)) := by
  refine PCall.of (Orc.nil _) c49_ok (by simp [c49]) fun w0 own0 => ?_
  unfold cntO
  have hr := tdiv_rng hn
  by_cases h1 : p.t.kind = 8
  · by_cases h2 : p.t.n.tmod 1000 = 0
    · rw [if_pos ⟨h1, h2⟩]
      simp only [c49, Pa.enc, h1, h2, cntR, go_sem, wpR_gcall, reduceCtorEq, reduceIte, Nat.reduceEqDiff, Nat.reduceAdd, Nat.reduceSub, Nat.reduceMul, Nat.reduceLT, Nat.reduceLeDiff, Nat.reduceBEq, Int.reduceEq, Int.reduceLT, Int.reduceLE, Int.reduceAdd, Int.reduceSub, Int.reduceNeg, Int.reduceToNat]
      exact ⟨by omega, hr, by omega⟩
    · rw [if_neg (fun h => h2 h.2)]
      simp only [c49, Pa.enc, h1, h2, cntR, go_sem, wpR_gcall, reduceCtorEq, reduceIte, Nat.reduceEqDiff, Nat.reduceAdd, Nat.reduceSub, Nat.reduceMul, Nat.reduceLT, Nat.reduceLeDiff, Nat.reduceBEq, Int.reduceEq, Int.reduceLT, Int.reduceLE, Int.reduceAdd, Int.reduceSub, Int.reduceNeg, Int.reduceToNat]
      omega
  · rw [if_neg (fun h => h1 h.1)]
    simp only [c49, Pa.enc, h1, cntR, go_sem, wpR_gcall, reduceCtorEq, reduceIte, Nat.reduceEqDiff, Nat.reduceAdd, Nat.reduceSub, Nat.reduceMul, Nat.reduceLT, Nat.reduceLeDiff, Nat.reduceBEq, Int.reduceEq, Int.reduceLT, Int.reduceLE, Int.reduceAdd, Int.reduceSub, Int.reduceNeg, Int.reduceToNat]
def sumCnt : Sum Try.prog := ⟨49, fun args => args = [.agg (Pa.enc (dPa (args.getD 0 .any)))] ∧ okI ((dPa (args.getD 0 .any))).t.n, fun args => cntR (cntO ((dPa (args.getD 0 .any))).t), fun args h => by
  have := count_ok (dPa (args.getD 0 .any)) h.2; rwa [← h.1] at this, false⟩
theorem sumCnt_f : sumCnt.f = 49 := rfl
theorem sumCnt_D (args : List V) : sumCnt.D args = (args = [.agg (Pa.enc (dPa (args.getD 0 .any)))] ∧ okI ((dPa (args.getD 0 .any))).t.n) := rfl
theorem sumCnt_flat : sumCnt.flat = false := rfl
theorem sumCnt_r (args : List V) : sumCnt.r args = cntR (cntO ((dPa (args.getD 0 .any))).t) := rfl
attribute [go_sem] sumCnt_f sumCnt_D sumCnt_flat sumCnt_r
theorem vnil_pas (b : Bool) (F : Nat → Prop) (w : World) (v : Value) (h : PRep F w v (.tup [vnil, vb b])) : PRep F w v (.tup [pas [], vb b]) := by
  cases h with
  | tup cs _ hl hx =>
    refine .tup cs _ hl fun i hi => ?_
    have := hx i hi
    match i, hi with
    | 0, _ => exact PRep.nilS 4 this
    | 1, _ => exact this
theorem par_drop (l : List Pa) (k : Nat) (h : k < l.length) : l.drop k = l.getD k default :: l.drop (k + 1) := by
  rw [List.getD_eq_getElem?_getD, List.getElem?_eq_getElem h, Option.getD_some, List.drop_eq_getElem_cons h]
theorem plR_len2 (ends : List Int) (to : Int) : ∀ (f : Nat) (k : Int), (plR ends to f k).length ≤ f
  | 0, _ => Nat.le_refl _
  | f + 1, k => by
    simp only [plR]
    split
    · have := plR_len2 ends to f (skip ends k); simp; omega
    · simp
theorem partsL_len (l : List Tok) : ∀ (ks : List Int) (ps : List Part), partsL l ks = some ps → ps.length ≤ ks.length
  | [], ps, h => by simp [partsL] at h; subst h; simp
  | k :: ks, ps, h => by
    simp only [partsL] at h
    split at h
    · cases h
    · simp only [Option.map_eq_some_iff] at h
      obtain ⟨qs, hq, rfl⟩ := h
      have := partsL_len l ks qs hq
      split <;> simp <;> omega
theorem pl_len (l : List Tok) : (pl l).length ≤ l.length + 1 := by
  unfold pl ptL
  cases hO : ptO l with
  | none => simp
  | some ps =>
    unfold ptO at hO
    split at hO
    · cases hO
    · have h1 := partsL_len l _ _ hO
      have h2 := plR_len2 (endsA l) l.length (l.length + 1) 0
      simp; omega
theorem evn_len : ∀ (l : List Pa) (i : Nat), (evn i l).length ≤ l.length
  | [], i => by simp [evn]
  | p :: l, i => by
    have := evn_len l (i + 1)
    simp only [evn]
    split <;> simp <;> omega
def arR (L : List Pa) (b : Bool) : V := bif altB 0 L then .tup [pas (evn 0 L), vb b] else .tup [vnil, vb false]
def argsV (p : Pa) : V := .tup [pas (if altB 0 (pl p.al) = true then evn 0 (pl p.al) else []), vb (argsB p)]
structure ArS where
  k : Nat
  out : List Pa
  ver : Nat
  clk : Nat
theorem tmod2 (k : Nat) : (k : Int).tmod 2 = ((k % 2 : Nat) : Int) := by
  rw [Int.tmod_eq_emod_of_nonneg (by omega)]; omega
theorem argsR1 (p : Pa) (h : okT p.al) : PCall Try.prog 65 [.agg p.enc] (arR (pl p.al) (argsB p)) := by
  refine PCall.of (Orc.cons sumPts (Orc.nil _)) c65_ok (by simp [c65]) fun w0 own0 => ?_
  have h1 := h.1
  have hB : argsB p = (ptB p.al && decide ((pl p.al).length % 2 = 1) && altB 0 (pl p.al)) := rfl
  generalize hb : argsB p = b at *
  simp only [c65, Pa.enc, dToks_map, toks, h1, plV, go_sem, wpR_gcall, reduceCtorEq, reduceIte, Nat.reduceEqDiff, Nat.reduceAdd, Nat.reduceSub, Nat.reduceMul, Nat.reduceLT, Nat.reduceLeDiff, Nat.reduceBEq, Int.reduceEq, Int.reduceLT, Int.reduceLE, Int.reduceAdd, Int.reduceSub, Int.reduceNeg, Int.reduceToNat]
  have hLl := pl_len p.al
  generalize hL : pl p.al = L at *
  have hLn : L.length ≤ 1000001 := by omega
  refine SemC.lp (α := ArS) (fun a => [(4, .slc 4 (L.map Pa.enc)), (5, vb (ptB p.al)), (6, .ref 1 a.ver 0 a.out.length), (15, .slc 4 (L.map Pa.enc)), (16, vi L.length), (17, vi a.k)])
    (fun a => ⟨[⟨0, 4, [p.enc], false, []⟩, ⟨a.ver, 4, a.out.map Pa.enc, false, [vi 0, vs ⟨#[]⟩, vi 0, vnil]⟩], a.clk⟩) (fun a => a.k ≤ L.length ∧ a.out.length ≤ a.k ∧ altB 0 L = altB a.k (L.drop a.k) ∧ a.out ++ evn a.k (L.drop a.k) = evn 0 L) (fun a => L.length - a.k) ⟨0, [], 1, 2⟩
    ⟨Nat.zero_le _, Nat.zero_le _, rfl, rfl⟩ (St.nil 6 4 [vi 0, vs ⟨#[]⟩, vi 0, vnil] (by simp [upd_at]) (St.cut ?_ ?_ ?_)) fun a ha => ?_
  · simp [Agrees, upd_at, initE_at]
  · simp [Heap.alloc, Pa.enc]
  · rfl
  obtain ⟨k, out, ver, clk⟩ := a
  obtain ⟨h1, h2, h3, h4⟩ := ha
  simp only at h1 h2 h3 h4
  by_cases hk : k = L.length
  · subst hk
    rw [List.drop_length] at h3 h4
    simp only [altB, evn, List.append_nil] at h3 h4
    simp only [arR, h3, Int.lt_irrefl, List.take_length, mapO_pas11, mapO_pas10, take_mapl, Nat.le_refl, tmod2, h4, pas, hB, go_sem, wpR_gcall, reduceCtorEq, reduceIte, Nat.reduceEqDiff, Nat.reduceAdd, Nat.reduceSub, Nat.reduceMul, Nat.reduceLT, Nat.reduceLeDiff, Nat.reduceBEq, Int.reduceEq, Int.reduceLT, Int.reduceLE, Int.reduceAdd, Int.reduceSub, Int.reduceNeg, Int.reduceToNat]
    refine ⟨fun hh => ⟨hh, by omega⟩, ?_⟩
    have : decide (((L.length % 2 : Nat) : Int) = 1) = decide (L.length % 2 = 1) := decide_eq_decide.2 (by omega)
    rw [this]
  · have e1 : (k : Int) < (L.length : Int) := by omega
    have e0 : (0 : Int) ≤ (k : Int) := by omega
    have hlt : k < L.length := by omega
    rw [par_drop L k hlt] at h3 h4
    have hg := getD_pas L k [vi 0, vs ⟨#[]⟩, vi 0, vnil] hlt
    generalize L.getD k default = x at *
    simp only [altB, evn] at h3 h4
    have hot : out.take out.length = out := List.take_length
    simp only [e0, e1, hg, tmod2, hot, Pa.enc, pas, go_sem, wpR_gcall, reduceCtorEq, reduceIte, Nat.reduceEqDiff, Nat.reduceAdd, Nat.reduceSub, Nat.reduceMul, Nat.reduceLT, Nat.reduceLeDiff, Nat.reduceBEq, Int.reduceEq, Int.reduceLT, Int.reduceLE, Int.reduceAdd, Int.reduceSub, Int.reduceNeg, Int.reduceToNat]
    have hd1 : decide (((k % 2 : Nat) : Int) = 1) = decide (k % 2 = 1) := decide_eq_decide.2 (by omega)
    rw [hd1]
    refine ⟨by omega, fun hc => ?_, fun hc => ⟨by omega, fun hz => ⟨⟨by omega, by omega, by omega⟩, by omega, ⟨k + 1, out ++ [x], clk + 2, clk + 3⟩, ⟨by dsimp only; omega, by simp; omega, ?_, ?_⟩, by dsimp only; omega, ⟨⟨rfl, by simp⟩, by dsimp only; omega⟩, ⟨rfl, by simp [Pa.enc]⟩, rfl⟩, fun hz => ⟨by omega, ⟨k + 1, out, ver, clk + 1⟩, ⟨by dsimp only; omega, by dsimp only; omega, ?_, ?_⟩, by dsimp only; omega, ⟨⟨rfl, rfl⟩, by dsimp only; omega⟩, ⟨rfl, rfl⟩, rfl⟩⟩⟩
    · rw [hc, Bool.false_and] at h3
      simp only [arR, h3, cond_false]
    · rw [h3, hc, Bool.true_and]
    · rw [← h4, if_pos (by omega)]; simp
    · rw [h3, hc, Bool.true_and]
    · rw [← h4, if_neg (by omega)]
theorem args_ok (p : Pa) (h : okT p.al) : PCall Try.prog 65 [.agg p.enc] (argsV p) := by
  have := argsR1 p h
  unfold arR at this
  unfold argsV
  cases hA : altB 0 (pl p.al) with
  | true => simpa [hA] using this
  | false =>
    have hB : argsB p = false := by unfold argsB; rw [hA, Bool.and_false]
    rw [hA, cond_false] at this
    rw [hB, if_neg (by simp)]
    exact PCall.rsub this (vnil_pas false)
def sumArgs : Sum Try.prog := ⟨65, fun args => args = [.agg (Pa.enc (dPa (args.getD 0 .any)))] ∧ okT ((dPa (args.getD 0 .any))).al, fun args => argsV (dPa (args.getD 0 .any)), fun args h => by
  have := args_ok (dPa (args.getD 0 .any)) h.2; rwa [← h.1] at this, false⟩
theorem sumArgs_f : sumArgs.f = 65 := rfl
theorem sumArgs_D (args : List V) : sumArgs.D args = (args = [.agg (Pa.enc (dPa (args.getD 0 .any)))] ∧ okT ((dPa (args.getD 0 .any))).al) := rfl
theorem sumArgs_flat : sumArgs.flat = false := rfl
theorem sumArgs_r (args : List V) : sumArgs.r args = argsV (dPa (args.getD 0 .any)) := rfl
attribute [go_sem] sumArgs_f sumArgs_D sumArgs_flat sumArgs_r
def arW (L : List Pa) (b : Bool) : V := bif b then .tup [pas (evn 0 L), vb true] else .tup [vnil, vb false]
def argsW (p : Pa) : V := .tup [pas (if argsB p = true then evn 0 (pl p.al) else []), vb (argsB p)]
theorem argsR2 (p : Pa) (h : okT p.al) : PCall Try.prog 71 [.agg p.enc] (arW (pl p.al) (argsB p)) := by
  refine PCall.of (Orc.cons sumPtsR (Orc.nil _)) c71_ok (by simp [c71]) fun w0 own0 => ?_
  have h1 := h.1
  have hB : argsB p = (ptB p.al && decide ((pl p.al).length % 2 = 1) && altB 0 (pl p.al)) := rfl
  generalize hb : argsB p = b at *
  have hLl := pl_len p.al
  cases hp : ptB p.al with
  | false =>
    rw [hp, Bool.false_and, Bool.false_and] at hB
    subst hB
    simp only [c71, Pa.enc, dToks_map, toks, h1, plV, hp, arW, go_sem, wpR_gcall, reduceCtorEq, reduceIte, Nat.reduceEqDiff, Nat.reduceAdd, Nat.reduceSub, Nat.reduceMul, Nat.reduceLT, Nat.reduceLeDiff, Nat.reduceBEq, Int.reduceEq, Int.reduceLT, Int.reduceLE, Int.reduceAdd, Int.reduceSub, Int.reduceNeg, Int.reduceToNat]
  | true =>
  rw [hp, Bool.true_and] at hB
  generalize hL : pl p.al = L at *
  have hLn : L.length ≤ 1000001 := by omega
  by_cases hod : L.length % 2 = 1
  · have hod' : ¬ (((L.length % 2 : Nat) : Int) = 0) := by omega
    rw [decide_eq_true hod, Bool.true_and] at hB
    simp only [c71, Pa.enc, dToks_map, toks, h1, plV, hp, hL, tmod2, hod', go_sem, wpR_gcall, reduceCtorEq, reduceIte, Nat.reduceEqDiff, Nat.reduceAdd, Nat.reduceSub, Nat.reduceMul, Nat.reduceLT, Nat.reduceLeDiff, Nat.reduceBEq, Int.reduceEq, Int.reduceLT, Int.reduceLE, Int.reduceAdd, Int.reduceSub, Int.reduceNeg, Int.reduceToNat]
    refine ⟨by omega, ?_⟩
    refine SemC.lp (α := ArS) (fun a => [(4, .slc 4 (L.map Pa.enc)), (6, .ref 1 a.ver 0 a.out.length), (7, vi a.k)])
      (fun a => ⟨[⟨0, 4, [p.enc], false, []⟩, ⟨a.ver, 4, a.out.map Pa.enc, false, [vi 0, vs ⟨#[]⟩, vi 0, vnil]⟩], a.clk⟩) (fun a => a.k ≤ L.length ∧ a.out.length ≤ a.k ∧ altB 0 L = altB a.k (L.drop a.k) ∧ a.out ++ evn a.k (L.drop a.k) = evn 0 L) (fun a => L.length - a.k) ⟨0, [], 1, 2⟩
      ⟨Nat.zero_le _, Nat.zero_le _, rfl, rfl⟩ (St.nil 6 4 [vi 0, vs ⟨#[]⟩, vi 0, vnil] (by simp [upd_at]) (St.cut ?_ ?_ ?_)) fun a ha => ?_
    · simp [Agrees, upd_at, initE_at]
    · simp [Heap.alloc, Pa.enc]
    · rfl
    obtain ⟨k, out, ver, clk⟩ := a
    obtain ⟨h1, h2, h3, h4⟩ := ha
    simp only at h1 h2 h3 h4
    by_cases hk : k = L.length
    · subst hk
      rw [List.drop_length] at h3 h4
      simp only [altB, evn, List.append_nil] at h3 h4
      rw [h3] at hB
      subst hB
      simp only [arW, Int.lt_irrefl, List.take_length, mapO_pas11, mapO_pas10, take_mapl, Nat.le_refl, tmod2, h4, pas, go_sem, wpR_gcall, reduceCtorEq, reduceIte, Nat.reduceEqDiff, Nat.reduceAdd, Nat.reduceSub, Nat.reduceMul, Nat.reduceLT, Nat.reduceLeDiff, Nat.reduceBEq, Int.reduceEq, Int.reduceLT, Int.reduceLE, Int.reduceAdd, Int.reduceSub, Int.reduceNeg, Int.reduceToNat]
    · have e1 : (k : Int) < (L.length : Int) := by omega
      have e0 : (0 : Int) ≤ (k : Int) := by omega
      have hlt : k < L.length := by omega
      rw [par_drop L k hlt] at h3 h4
      have hg := getD_pas L k [vi 0, vs ⟨#[]⟩, vi 0, vnil] hlt
      generalize L.getD k default = x at *
      simp only [altB, evn] at h3 h4
      have hot : out.take out.length = out := List.take_length
      have hd1 : decide (((k % 2 : Nat) : Int) = 1) = decide (k % 2 = 1) := decide_eq_decide.2 (by omega)
      simp only [e0, e1, hg, tmod2, hot, Pa.enc, pas, go_sem, wpR_gcall, reduceCtorEq, reduceIte, Nat.reduceEqDiff, Nat.reduceAdd, Nat.reduceSub, Nat.reduceMul, Nat.reduceLT, Nat.reduceLeDiff, Nat.reduceBEq, Int.reduceEq, Int.reduceLT, Int.reduceLE, Int.reduceAdd, Int.reduceSub, Int.reduceNeg, Int.reduceToNat]
      rw [hd1]
      have hsw : ∀ a b : Bool, (a == b) = (b == a) := by decide
      rw [hsw]
      refine ⟨by omega, fun hc => ?_, fun hc => ⟨by omega, fun hz => ⟨⟨by omega, by omega, by omega⟩, by omega, ⟨k + 1, out ++ [x], clk + 1, clk + 2⟩, ⟨by dsimp only; omega, by simp; omega, ?_, ?_⟩, by dsimp only; omega, ⟨⟨rfl, by simp⟩, by dsimp only; omega⟩, ⟨rfl, by simp [Pa.enc]⟩, rfl⟩, fun hz => ⟨by omega, ⟨k + 1, out, ver, clk⟩, ⟨by dsimp only; omega, by dsimp only; omega, ?_, ?_⟩, by dsimp only; omega, ⟨⟨rfl, rfl⟩, by dsimp only; omega⟩, ⟨rfl, rfl⟩, rfl⟩⟩⟩
      · rw [hc, Bool.false_and] at h3
        rw [h3] at hB
        subst hB
        simp only [arW, cond_false]
      · rw [h3, hc, Bool.true_and]
      · rw [← h4, if_pos (by omega)]; simp
      · rw [h3, hc, Bool.true_and]
      · rw [← h4, if_neg (by omega)]
  · have hod' : (((L.length % 2 : Nat) : Int) = 0) := by omega
    rw [decide_eq_false hod, Bool.false_and] at hB
    subst hB
    simp only [c71, Pa.enc, dToks_map, toks, h1, plV, hp, hL, tmod2, hod', arW, go_sem, wpR_gcall, reduceCtorEq, reduceIte, Nat.reduceEqDiff, Nat.reduceAdd, Nat.reduceSub, Nat.reduceMul, Nat.reduceLT, Nat.reduceLeDiff, Nat.reduceBEq, Int.reduceEq, Int.reduceLT, Int.reduceLE, Int.reduceAdd, Int.reduceSub, Int.reduceNeg, Int.reduceToNat]
    omega
theorem argsX_ok (p : Pa) (h : okT p.al) : PCall Try.prog 71 [.agg p.enc] (argsW p) := by
  have := argsR2 p h
  unfold arW at this
  unfold argsW
  cases hA : argsB p with
  | true => simpa [hA] using this
  | false =>
    rw [hA, cond_false] at this
    rw [if_neg (by simp)]
    exact PCall.rsub this (vnil_pas false)
def sumArgsR : Sum Try.prog := ⟨71, fun args => args = [.agg (Pa.enc (dPa (args.getD 0 .any)))] ∧ okT ((dPa (args.getD 0 .any))).al, fun args => argsW (dPa (args.getD 0 .any)), fun args h => by
  have := argsX_ok (dPa (args.getD 0 .any)) h.2; rwa [← h.1] at this, false⟩
theorem sumArgsR_f : sumArgsR.f = 71 := rfl
theorem sumArgsR_D (args : List V) : sumArgsR.D args = (args = [.agg (Pa.enc (dPa (args.getD 0 .any)))] ∧ okT ((dPa (args.getD 0 .any))).al) := rfl
theorem sumArgsR_flat : sumArgsR.flat = false := rfl
theorem sumArgsR_r (args : List V) : sumArgsR.r args = argsW (dPa (args.getD 0 .any)) := rfl
attribute [go_sem] sumArgsR_f sumArgsR_D sumArgsR_flat sumArgsR_r
end Go.Proofs.Ytjofgafeaiiegaa
