/- Layer 7: the parts of a value, by the document. -/
import Derived.Test.YtjofgafeaiiegaaV7a
namespace Go.Proofs.Ytjofgafeaiiegaa
open Go.Sx
set_option linter.unusedSimpArgs false
set_option maxHeartbeats 4000000
set_option maxRecDepth 20000

structure PlS where
  k : Nat
  f : Nat
  out : List Int
  ver : Nat
  clk : Nat
theorem places_ok (l : List Tok) (hd : deep l = false) (hl : l.length ≤ 1000000) : PCall Try.prog 58 [ints (endsA l), vi 0, vi l.length] (ints (plR (endsA l) l.length (l.length + 1) 0)) := by
  refine PCall.of (Orc.cons sumRefSkip (Orc.nil _)) c58_ok (by simp [c58]) fun w0 own0 => ?_
  have hlen : (endsA l).length = l.length := by unfold endsA; rw [hd]; simp [endsTo_len]
  generalize hR : plR (endsA l) l.length (l.length + 1) 0 = R
  simp only [c58, ints, sumRefSkip_f, sumRefSkip_D, sumRefSkip_flat, sumRefSkip_r, go_sem, wpR_gcall, reduceCtorEq, reduceIte, Nat.reduceEqDiff, Nat.reduceAdd, Nat.reduceSub, Nat.reduceMul, Nat.reduceLT, Nat.reduceLeDiff, Nat.reduceBEq, Int.reduceEq, Int.reduceLT, Int.reduceLE, Int.reduceAdd, Int.reduceSub, Int.reduceNeg, Int.reduceToNat]
  refine SemC.lp (α := PlS) (fun a => [(0, .slc 1 ((endsA l).map fun n => [vi n])), (2, vi l.length), (7, .ref 0 a.ver 0 a.out.length), (8, vi a.k)])
    (fun a => ⟨[⟨a.ver, 1, a.out.map fun n => [vi n], false, [vi 0]⟩], a.clk⟩) (fun a => a.k ≤ l.length ∧ a.out.length ≤ a.k ∧ l.length + 1 ≤ a.k + a.f ∧ a.out ++ plR (endsA l) l.length a.f a.k = R) (fun a => l.length - a.k) ⟨0, l.length + 1, [], 0, 1⟩
    ⟨Nat.zero_le _, Nat.zero_le _, by dsimp only; omega, by dsimp only; rw [show ((0 : Nat) : Int) = 0 from rfl, hR]; rfl⟩ (St.nil 7 1 [vi 0] (by simp [upd_at]) (St.cut ?_ ?_ ?_)) fun a ha => ?_
  · simp [Agrees, upd_at, initE_at]
  · simp [Heap.alloc]
  · rfl
  obtain ⟨k, f, out, ver, clk⟩ := a
  obtain ⟨h1, h2, h3, h4⟩ := ha
  simp only at h1 h2 h3 h4
  obtain ⟨f', rfl⟩ : ∃ f', f = f' + 1 := ⟨f - 1, by omega⟩
  by_cases hk : k = l.length
  · subst hk
    simp only [plR, Int.lt_irrefl, if_false, List.append_nil] at h4
    subst h4
    simp only [Int.lt_irrefl, List.take_length, take_mapl, Nat.le_refl, sumRefSkip_f, sumRefSkip_D, sumRefSkip_flat, sumRefSkip_r, go_sem, wpR_gcall, reduceCtorEq, reduceIte, Nat.reduceEqDiff, Nat.reduceAdd, Nat.reduceSub, Nat.reduceMul, Nat.reduceLT, Nat.reduceLeDiff, Nat.reduceBEq, Int.reduceEq, Int.reduceLT, Int.reduceLE, Int.reduceAdd, Int.reduceSub, Int.reduceNeg, Int.reduceToNat]
  · have e1 : (k : Int) < (l.length : Int) := by omega
    have hlt : k < l.length := by omega
    obtain ⟨n, hn1, hn2, hn3⟩ := skip_nat hd k hlt
    have hle := endsA_le l k
    have hsk : skipD (endsA l) k := ⟨by omega, by omega, by rw [Int.toNat_natCast]; omega⟩
    have hot : out.take out.length = out := List.take_length
    simp only [plR, e1, if_true, hn1] at h4
    simp only [e1, hsk, hn1, hot, dInts_map, ints, sumRefSkip_f, sumRefSkip_D, sumRefSkip_flat, sumRefSkip_r, go_sem, wpR_gcall, reduceCtorEq, reduceIte, Nat.reduceEqDiff, Nat.reduceAdd, Nat.reduceSub, Nat.reduceMul, Nat.reduceLT, Nat.reduceLeDiff, Nat.reduceBEq, Int.reduceEq, Int.reduceLT, Int.reduceLE, Int.reduceAdd, Int.reduceSub, Int.reduceNeg, Int.reduceToNat]
    exact ⟨⟨by omega, by omega, by omega⟩, ⟨n, f', out ++ [(k : Int)], clk + 1, clk + 2⟩, ⟨by dsimp only; omega, by simp; omega, by dsimp only; omega, by rw [← h4]; simp⟩, by dsimp only; omega, ⟨⟨rfl, by simp⟩, rfl⟩, ⟨rfl, by simp⟩, rfl⟩
theorem plR_mem {l : List Tok} (hd : deep l = false) : ∀ (f : Nat) (k : Nat), ∀ x ∈ plR (endsA l) l.length f k, 0 ≤ x ∧ x < l.length
  | 0, k, x, hx => by simp [plR] at hx
  | f + 1, k, x, hx => by
    unfold plR at hx
    by_cases hk : (k : Int) < l.length
    · rw [if_pos hk] at hx
      obtain ⟨n, hn1, hn2, hn3⟩ := skip_nat hd k (by omega)
      rcases List.mem_cons.1 hx with rfl | hx
      · omega
      · rw [hn1] at hx; exact plR_mem hd f n x hx
    · rw [if_neg hk] at hx; cases hx
theorem plR_len {l : List Tok} (hd : deep l = false) : ∀ (f : Nat) (k : Nat), k ≤ l.length → (plR (endsA l) l.length f k).length + k ≤ l.length
  | 0, k, h => by simp [plR]; exact h
  | f + 1, k, h => by
    unfold plR
    by_cases hk : (k : Int) < l.length
    · rw [if_pos hk]
      obtain ⟨n, hn1, hn2, hn3⟩ := skip_nat hd k (by omega)
      rw [hn1]
      have := plR_len hd f n hn3
      simp only [List.length_cons]; omega
    · rw [if_neg hk]; simp; exact h
/-- The places of a list, whatever the caller holds. -/
theorem places_any (l : List Tok) (hd : deep l = false) (hl : l.length ≤ 1000000) : ∃ S : Sum Try.prog, S.f = 58 ∧ S.flat = false ∧ S.D [.slc 1 ((endsA l).map fun n => [vi n]), .c (.int .i64 0), .c (.int .i64 l.length)] ∧ S.r [.slc 1 ((endsA l).map fun n => [vi n]), .c (.int .i64 0), .c (.int .i64 l.length)] = ints (plR (endsA l) l.length (l.length + 1) 0) :=
  ⟨⟨58, fun args => args = [ints (endsA l), vi 0, vi l.length], fun _ => ints (plR (endsA l) l.length (l.length + 1) 0), fun args h => by rw [h]; exact places_ok l hd hl, false⟩, rfl, rfl, rfl, rfl⟩
structure PrS where
  i : Nat
  out : List Part
  ver : Nat
  clk : Nat
theorem drop_consI (l : List Int) (n : Nat) (h : n < l.length) : l.drop n = l.getD n 0 :: l.drop (n + 1) := by
  rw [List.drop_eq_getElem_cons h, List.getD_eq_getElem?_getD, List.getElem?_eq_getElem h]; rfl
theorem partsR_ok (l : List Tok) (hl : l.length ≤ 1000000) : PCall Try.prog 37 [toks l] (ptV l) := by
  by_cases hd : deep l = true
  · have hO : ptO l = none := by unfold ptO; rw [if_pos hd]
    rw [pt_eq hO]
    refine PCall.rsub ?_ vnil_parts
    refine PCall.of (Orc.cons sumE2 (Orc.nil _)) c37_ok (by simp [c37]) fun w0 own0 => ?_
    have he : errn l = 3 := by unfold errn; rw [if_pos hd]
    simp only [c37, toks, endsD, endsV, dToks_map, hl, he, ints, sumE2_f, sumE2_D, sumE2_flat, sumE2_r, go_sem, wpR_gcall, reduceCtorEq, reduceIte, Nat.reduceEqDiff, Nat.reduceAdd, Nat.reduceSub, Nat.reduceMul, Nat.reduceLT, Nat.reduceLeDiff, Nat.reduceBEq, Int.reduceEq, Int.reduceLT, Int.reduceLE, Int.reduceAdd, Int.reduceSub, Int.reduceNeg, Int.reduceToNat]
  have hd : deep l = false := by simpa using hd
  have he : errn l = 0 := by unfold errn; rw [hd]; rfl
  have hlen : (endsA l).length = l.length := by unfold endsA; rw [hd]; simp [endsTo_len]
  obtain ⟨S, s1, s2, s3, s4⟩ := places_any l hd hl
  have hmem := plR_mem hd (l.length + 1) 0
  have hpl := plR_len hd (l.length + 1) 0 (Nat.zero_le _)
  generalize hO : ptO l = R
  rw [pt_eq hO]
  have hO' : partsL l (plR (endsA l) l.length (l.length + 1) 0) = R := by rw [← hO]; unfold ptO; rw [hd]; rfl
  rw [show ((0 : Nat) : Int) = 0 from rfl] at hmem hpl
  generalize plR (endsA l) l.length (l.length + 1) 0 = ps at *
  refine ptRes_ok R ?_
  refine PCall.of (Orc.cons S (Orc.cons sumE2 (Orc.nil _))) c37_ok (by simp [c37]) fun w0 own0 => ?_
  simp only [c37, toks, endsD, endsV, dToks_map, hl, he, ints, s1, s2, s3, s4, sumE2_f, sumE2_D, sumE2_flat, sumE2_r, go_sem, wpR_gcall, reduceCtorEq, reduceIte, Nat.reduceEqDiff, Nat.reduceAdd, Nat.reduceSub, Nat.reduceMul, Nat.reduceLT, Nat.reduceLeDiff, Nat.reduceBEq, Int.reduceEq, Int.reduceLT, Int.reduceLE, Int.reduceAdd, Int.reduceSub, Int.reduceNeg, Int.reduceToNat]
  refine SemC.lp (α := PrS) (fun a => [(0, .slc 3 (l.map Tok.enc)), (4, .slc 1 ((endsA l).map fun n => [vi n])), (6, .ref 0 a.ver 0 a.out.length), (7, .slc 1 (ps.map fun n => [vi n])), (8, vi a.i)])
    (fun a => ⟨[⟨a.ver, 4, a.out.map Part.enc, false, [vi 0, vs ⟨#[]⟩, vi 0, vnil]⟩], a.clk⟩) (fun a => a.i ≤ ps.length ∧ a.out.length ≤ a.i ∧ (partsL l (ps.drop a.i)).map (a.out ++ ·) = R) (fun a => ps.length - a.i) ⟨0, [], 0, 1⟩
    ⟨Nat.zero_le _, Nat.zero_le _, by dsimp only; rw [List.drop_zero, hO']; simp⟩ (St.nil 6 4 [vi 0, vs ⟨#[]⟩, vi 0, vnil] (by simp [upd_at]) (St.cut ?_ ?_ ?_)) fun a ha => ?_
  · simp [Agrees, upd_at, initE_at]
  · simp [Heap.alloc]
  · rfl
  obtain ⟨i, out, ver, clk⟩ := a
  obtain ⟨h1, h2, h4⟩ := ha
  simp only at h1 h2 h4
  by_cases hk : i = ps.length
  · subst hk
    rw [List.drop_length] at h4
    simp only [partsL, Option.map_some, List.append_nil] at h4
    subst h4
    simp only [Int.lt_irrefl, List.take_length, mapO_parts10, take_mapl, Nat.le_refl, ptRes, parts, s1, s2, s3, s4, sumE2_f, sumE2_D, sumE2_flat, sumE2_r, go_sem, wpR_gcall, reduceCtorEq, reduceIte, Nat.reduceEqDiff, Nat.reduceAdd, Nat.reduceSub, Nat.reduceMul, Nat.reduceLT, Nat.reduceLeDiff, Nat.reduceBEq, Int.reduceEq, Int.reduceLT, Int.reduceLE, Int.reduceAdd, Int.reduceSub, Int.reduceNeg, Int.reduceToNat]
  · have e1 : (i : Int) < (ps.length : Int) := by omega
    have e0 : (0 : Int) ≤ (i : Int) := by omega
    have hlt : i < ps.length := by omega
    rw [drop_consI ps i hlt] at h4
    have hkm := hmem (ps.getD i 0) (by rw [List.getD_eq_getElem?_getD, List.getElem?_eq_getElem hlt]; exact List.getElem_mem _)
    obtain ⟨k, hk⟩ : ∃ k : Nat, ps.getD i 0 = k := ⟨(ps.getD i 0).toNat, by omega⟩
    rw [hk] at h4 hkm
    have g1 : (k : Int) < (l.length : Int) := by omega
    have g0 : (0 : Int) ≤ (k : Int) := by omega
    have hkl : k < l.length := by omega
    have hle := endsA_le l k
    have hrg := end1_rng l k hkl
    rw [← endsA_get l hd k hkl] at hrg
    simp only [partsL, Int.toNat_natCast] at h4
    have hp : pAt l k = ⟨l.getD k .zero, if 0 ≤ (endsA l).getD k 0 then some ((l.take ((endsA l).getD k 0).toNat).drop (k + 1)) else none⟩ := rfl
    obtain ⟨en, hen⟩ : ∃ en, (endsA l).getD k 0 = en := ⟨_, rfl⟩
    rw [hen] at hle hrg h4 hp
    obtain ⟨x, hx⟩ : ∃ x, l.getD k .zero = x := ⟨_, rfl⟩
    rw [hx] at h4 hp
    have hot : out.take out.length = out := List.take_length
    by_cases c1 : en = l.length
    · rw [if_pos c1] at h4
      simp only [Option.map_none] at h4
      subst h4
      simp only [e0, e1, g0, g1, hk, hlen, hx, hen, c1, Tok.enc, ints, ptRes, s1, s2, s3, s4, sumE2_f, sumE2_D, sumE2_flat, sumE2_r, go_sem, wpR_gcall, reduceCtorEq, reduceIte, Nat.reduceEqDiff, Nat.reduceAdd, Nat.reduceSub, Nat.reduceMul, Nat.reduceLT, Nat.reduceLeDiff, Nat.reduceBEq, Int.reduceEq, Int.reduceLT, Int.reduceLE, Int.reduceAdd, Int.reduceSub, Int.reduceNeg, Int.reduceToNat]
      first | done | exact ⟨hlt, by omega⟩ | exact ⟨hlt, hkl⟩ | omega
    · rw [if_neg c1] at h4
      by_cases c2 : 0 ≤ en
      · rw [if_pos c2] at hp
        have hek : (k : Int) + 1 ≤ en := by omega
        have hk1 : ((k : Int) + 1).toNat = k + 1 := by omega
        have hk0 : (0 : Int) ≤ (k : Int) + 1 := by omega
        have hcut : List.take (en.toNat - (k + 1)) (List.drop (k + 1) (List.map Tok.enc l)) = ((l.take en.toNat).drop (k + 1)).map Tok.enc := by
          rw [← List.map_drop, ← List.map_take, List.drop_take]
        by_cases c3 : x.kind = 1
        · simp only [c3, if_true] at h4
          have h4 : (partsL l (ps.drop (i + 1))).map (out ++ ·) = R := by rw [← h4]; cases partsL l (ps.drop (i + 1)) <;> rfl
          simp only [e0, e1, g0, g1, hk, hlen, hx, hen, c1, c2, c3, hle, hek, hk0, hk1, dInts_map, Tok.enc, ints, s1, s2, s3, s4, sumE2_f, sumE2_D, sumE2_flat, sumE2_r, go_sem, wpR_gcall, reduceCtorEq, reduceIte, Nat.reduceEqDiff, Nat.reduceAdd, Nat.reduceSub, Nat.reduceMul, Nat.reduceLT, Nat.reduceLeDiff, Nat.reduceBEq, Int.reduceEq, Int.reduceLT, Int.reduceLE, Int.reduceAdd, Int.reduceSub, Int.reduceNeg, Int.reduceToNat]
          exact ⟨by omega, by omega, ⟨i + 1, out, ver, clk + 1⟩, ⟨by dsimp only; omega, by dsimp only; omega, h4⟩, by dsimp only; omega, ⟨⟨rfl, rfl⟩, by dsimp only; omega⟩, ⟨rfl, rfl⟩, rfl⟩
        · simp only [c3, if_false] at h4
          simp only [e0, e1, g0, g1, hk, hlen, hx, hen, c1, c2, c3, hle, hek, hk0, hk1, hcut, hot, dInts_map, Tok.enc, ints, s1, s2, s3, s4, sumE2_f, sumE2_D, sumE2_flat, sumE2_r, go_sem, wpR_gcall, reduceCtorEq, reduceIte, Nat.reduceEqDiff, Nat.reduceAdd, Nat.reduceSub, Nat.reduceMul, Nat.reduceLT, Nat.reduceLeDiff, Nat.reduceBEq, Int.reduceEq, Int.reduceLT, Int.reduceLE, Int.reduceAdd, Int.reduceSub, Int.reduceNeg, Int.reduceToNat]
          refine ⟨by omega, ⟨by omega, by omega, by omega⟩, by omega, ⟨i + 1, out ++ [pAt l k], clk + 2, clk + 3⟩, ⟨by dsimp only; omega, by simp; omega, ?_⟩, by dsimp only; omega, ⟨⟨rfl, by simp⟩, by dsimp only; omega⟩, ⟨rfl, ?_⟩, rfl⟩
          · rw [← h4]; cases partsL l (ps.drop (i + 1)) <;> simp
          · rw [hp]; simp [Part.enc, avO, toks]
      · rw [if_neg c2] at hp
        by_cases c3 : x.kind = 1
        · simp only [c3, if_true] at h4
          have h4 : (partsL l (ps.drop (i + 1))).map (out ++ ·) = R := by rw [← h4]; cases partsL l (ps.drop (i + 1)) <;> rfl
          simp only [e0, e1, g0, g1, hk, hlen, hx, hen, c1, c2, c3, dInts_map, Tok.enc, ints, s1, s2, s3, s4, sumE2_f, sumE2_D, sumE2_flat, sumE2_r, go_sem, wpR_gcall, reduceCtorEq, reduceIte, Nat.reduceEqDiff, Nat.reduceAdd, Nat.reduceSub, Nat.reduceMul, Nat.reduceLT, Nat.reduceLeDiff, Nat.reduceBEq, Int.reduceEq, Int.reduceLT, Int.reduceLE, Int.reduceAdd, Int.reduceSub, Int.reduceNeg, Int.reduceToNat]
          exact ⟨by omega, ⟨i + 1, out, ver, clk + 1⟩, ⟨by dsimp only; omega, by dsimp only; omega, h4⟩, by dsimp only; omega, ⟨⟨rfl, rfl⟩, by dsimp only; omega⟩, ⟨rfl, rfl⟩, rfl⟩
        · simp only [c3, if_false] at h4
          simp only [e0, e1, g0, g1, hk, hlen, hx, hen, c1, c2, c3, hot, dInts_map, Tok.enc, ints, s1, s2, s3, s4, sumE2_f, sumE2_D, sumE2_flat, sumE2_r, go_sem, wpR_gcall, reduceCtorEq, reduceIte, Nat.reduceEqDiff, Nat.reduceAdd, Nat.reduceSub, Nat.reduceMul, Nat.reduceLT, Nat.reduceLeDiff, Nat.reduceBEq, Int.reduceEq, Int.reduceLT, Int.reduceLE, Int.reduceAdd, Int.reduceSub, Int.reduceNeg, Int.reduceToNat]
          refine ⟨⟨by omega, by omega, by omega⟩, by omega, ⟨i + 1, out ++ [pAt l k], clk + 2, clk + 3⟩, ⟨by dsimp only; omega, by simp; omega, ?_⟩, by dsimp only; omega, ⟨⟨rfl, by simp⟩, by dsimp only; omega⟩, ⟨rfl, ?_⟩, rfl⟩
          · rw [← h4]; cases partsL l (ps.drop (i + 1)) <;> simp
          · rw [hp]; simp [Part.enc, avO]
/-- Parts, a missing list of arguments told as an empty one. -/
structure Pa where
  t : Tok
  al : List Tok
instance : Inhabited Pa := ⟨⟨.zero, []⟩⟩
def Pa.enc (p : Pa) : List V := [vi p.t.kind, vs p.t.text, vi p.t.n, .slc 3 (p.al.map Tok.enc)]
def pas (l : List Pa) : V := .slc 4 (l.map Pa.enc)
def dPaL (e : List V) : Pa := ⟨dTokL e, dToks (e.getD 3 .any)⟩
def dPa (v : V) : Pa := dPaL v.cs
def dPas (v : V) : List Pa := v.es.map dPaL
theorem dPa_mk (a n : Int) (s : ByteArray) (l : List Tok) : dPa (.agg [.c (.int .i64 a), .c (.string s), .c (.int .i64 n), .slc 3 (l.map Tok.enc)]) = ⟨⟨a, s, n⟩, l⟩ := by
  show (⟨_, dToks (.slc 3 (l.map Tok.enc))⟩ : Pa) = _
  rw [dToks_map]; rfl
theorem Pa.eta' (p : Pa) : (⟨⟨p.t.kind, p.t.text, p.t.n⟩, p.al⟩ : Pa) = p := rfl
theorem Pa.etaT (p : Pa) : (⟨p.t.kind, p.t.text, p.t.n⟩ : Tok) = p.t := rfl
theorem dPas_map (sz : Nat) (l : List Pa) : dPas (.slc sz (l.map Pa.enc)) = l := by
  simp only [dPas, V.es, List.map_map]
  conv => rhs; rw [← List.map_id l]
  apply List.map_congr_left
  intro p _
  exact dPa_mk _ _ _ _
theorem getD_pas (l : List Pa) (i : Nat) (d : List V) (h : i < l.length) : (l.map Pa.enc).getD i d = (l.getD i default).enc := by
  simp [List.getD_eq_getElem?_getD, h]
theorem mapO_pas10 (S : Nat → Bool) (h : Heap) : ∀ l : List Pa, mapO (mapO (res S h 10)) (l.map Pa.enc) = some (l.map Pa.enc)
  | [] => rfl
  | p :: l => by
    have e : mapO (res S h 10) p.enc = some p.enc := rfl
    simp only [List.map_cons, mapO, mapO_pas10 S h l, e]
theorem mapO_pas11 (S : Nat → Bool) (h : Heap) : ∀ l : List Pa, mapO (mapO (res S h 11)) (l.map Pa.enc) = some (l.map Pa.enc)
  | [] => rfl
  | p :: l => by
    have e : mapO (res S h 11) p.enc = some p.enc := rfl
    simp only [List.map_cons, mapO, mapO_pas11 S h l, e]
def toPa (p : Part) : Pa := ⟨p.t, p.ar.getD []⟩
def pl (l : List Tok) : List Pa := (ptL l).map toPa
def plV (l : List Tok) : V := .tup [.slc 4 ((pl l).map Pa.enc), vb (ptB l)]
theorem sub_parts : ∀ ps : List Part, F2 (F2 (Sub 1)) (ps.map Part.enc) ((ps.map toPa).map Pa.enc)
  | [] => trivial
  | p :: ps => by
    refine ⟨⟨Sub.rfl 1 _, Sub.rfl 1 _, Sub.rfl 1 _, ?_, trivial⟩, sub_parts ps⟩
    cases h : p.ar with
    | none => simp [Sub, avO, toPa, h]
    | some l => simp only [avO, toPa, h, toks]; exact Sub.rfl 1 _
theorem ptV_sub (l : List Tok) (F : Nat → Prop) (w : World) (v : Value) (h : PRep F w v (ptV l)) : PRep F w v (plV l) := by
  cases h with
  | tup cs _ hl hx =>
    refine .tup cs _ hl fun i hi => ?_
    have := hx i hi
    match i, hi with
    | 0, _ => exact Sub.prep 2 (parts (ptL l)) (.slc 4 ((pl l).map Pa.enc)) _ (show Sub 2 (.slc 4 ((ptL l).map Part.enc)) (.slc 4 (((ptL l).map toPa).map Pa.enc)) from Or.inr ⟨rfl, sub_parts (ptL l)⟩) this
    | 1, _ => exact this
def sumPts : Sum Try.prog := ⟨34, fun args => args = [toks (dToks (args.getD 0 .any))] ∧ ((dToks (args.getD 0 .any))).length ≤ 1000000, fun args => plV (dToks (args.getD 0 .any)), fun args h => by
  have := PCall.rsub (parts_ok (dToks (args.getD 0 .any)) h.2) (ptV_sub (dToks (args.getD 0 .any))); rwa [← h.1] at this, false⟩
theorem sumPts_f : sumPts.f = 34 := rfl
theorem sumPts_D (args : List V) : sumPts.D args = (args = [toks (dToks (args.getD 0 .any))] ∧ ((dToks (args.getD 0 .any))).length ≤ 1000000) := rfl
theorem sumPts_flat : sumPts.flat = false := rfl
theorem sumPts_r (args : List V) : sumPts.r args = plV (dToks (args.getD 0 .any)) := rfl
attribute [go_sem] sumPts_f sumPts_D sumPts_flat sumPts_r
def sumPtsR : Sum Try.prog := ⟨37, fun args => args = [toks (dToks (args.getD 0 .any))] ∧ ((dToks (args.getD 0 .any))).length ≤ 1000000, fun args => plV (dToks (args.getD 0 .any)), fun args h => by
  have := PCall.rsub (partsR_ok (dToks (args.getD 0 .any)) h.2) (ptV_sub (dToks (args.getD 0 .any))); rwa [← h.1] at this, false⟩
theorem sumPtsR_f : sumPtsR.f = 37 := rfl
theorem sumPtsR_D (args : List V) : sumPtsR.D args = (args = [toks (dToks (args.getD 0 .any))] ∧ ((dToks (args.getD 0 .any))).length ≤ 1000000) := rfl
theorem sumPtsR_flat : sumPtsR.flat = false := rfl
theorem sumPtsR_r (args : List V) : sumPtsR.r args = plV (dToks (args.getD 0 .any)) := rfl
attribute [go_sem] sumPtsR_f sumPtsR_D sumPtsR_flat sumPtsR_r
end Go.Proofs.Ytjofgafeaiiegaa
