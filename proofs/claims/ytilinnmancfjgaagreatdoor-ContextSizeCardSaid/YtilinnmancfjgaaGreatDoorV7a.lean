/- Layer 7: the parts of a value. -/
import Derived.Test.YtilinnmancfjgaaGreatDoorNe
import Derived.Test.YtilinnmancfjgaaGreatDoorLo
namespace Go.Proofs.YtilinnmancfjgaaGreatDoor
open Go.Sx
set_option linter.unusedSimpArgs false
set_option maxHeartbeats 4000000
set_option maxRecDepth 20000

structure Part where
  t : Tok
  ar : Option (List Tok)
instance : Inhabited Part := ⟨⟨.zero, none⟩⟩
def avO (o : Option (List Tok)) : V := match o with | none => vnil | some l => toks l
def Part.enc (p : Part) : List V := [vi p.t.kind, vs p.t.text, vi p.t.n, avO p.ar]
def parts (l : List Part) : V := .slc 4 (l.map Part.enc)
theorem res10_av (S : Nat → Bool) (h : Heap) (o : Option (List Tok)) : res S h 10 (avO o) = some (avO o) := by cases o <;> rfl
theorem mapO_parts10 (S : Nat → Bool) (h : Heap) : ∀ l : List Part, mapO (mapO (res S h 10)) (l.map Part.enc) = some (l.map Part.enc)
  | [] => rfl
  | p :: l => by
    have e : mapO (res S h 10) p.enc = some p.enc := by simp only [Part.enc, mapO, res10_c, res10_av]
    simp only [List.map_cons, mapO, mapO_parts10 S h l, e]
/-- The places from one on, ahead of another one. -/
def plR (ends : List Int) (to : Int) : Nat → Int → List Int
  | 0, _ => []
  | f + 1, a => if a < to then a :: plR ends to f (skip ends a) else []
def pAt (l : List Tok) (k : Nat) : Part := ⟨l.getD k .zero, if 0 ≤ (endsA l).getD k 0 then some ((l.take ((endsA l).getD k 0).toNat).drop (k + 1)) else none⟩
def partsL (l : List Tok) : List Int → Option (List Part)
  | [] => some []
  | k :: r => if (endsA l).getD k.toNat 0 = l.length then none else (partsL l r).map fun ps => if (l.getD k.toNat .zero).kind = 1 then ps else pAt l k.toNat :: ps
def ptO (l : List Tok) : Option (List Part) := if deep l = true then none else partsL l (plR (endsA l) l.length (l.length + 1) 0)
def ptL (l : List Tok) : List Part := (ptO l).getD []
def ptB (l : List Tok) : Bool := (ptO l).isSome
def ptV (l : List Tok) : V := .tup [parts (ptL l), vb (ptB l)]
theorem vnil_parts (F : Nat → Prop) (w : World) (v : Value) (h : PRep F w v (.tup [vnil, vb false])) : PRep F w v (.tup [parts [], vb false]) := by
  cases h with
  | tup cs _ hl hx =>
    refine .tup cs _ hl fun i hi => ?_
    have := hx i hi
    match i, hi with
    | 0, _ => exact PRep.nilS 4 this
    | 1, _ => exact this
def ptRes : Option (List Part) → V
  | none => .tup [vnil, vb false]
  | some ps => .tup [parts ps, vb true]
structure PtS where
  k : Nat
  f : Nat
  out : List Part
  ver : Nat
  clk : Nat
theorem skip_nat {l : List Tok} (hd : deep l = false) (k : Nat) (hk : k < l.length) : ∃ n : Nat, skip (endsA l) k = n ∧ k < n ∧ n ≤ l.length := by
  have hlen : (endsA l).length = l.length := by unfold endsA; rw [hd]; simp [endsTo_len]
  have h1 := skip_gt (endsA l) k (by rw [hlen]; omega)
  have h2 := skip_le (endsA l) k (by rw [hlen]; omega)
  exact ⟨(skip (endsA l) k).toNat, by omega, by omega, by omega⟩
theorem pt_eq {l : List Tok} {x : Option (List Part)} (h : ptO l = x) : ptV l = .tup [parts (x.getD []), vb x.isSome] := by unfold ptV ptL ptB; rw [h]
theorem ptRes_ok {f : FuncId} {args : List V} (R : Option (List Part)) (h : PCall Tryz.prog f args (ptRes R)) : PCall Tryz.prog f args (.tup [parts (R.getD []), vb R.isSome]) := by
  cases R with
  | none => exact PCall.rsub h vnil_parts
  | some ps => exact h
theorem parts_ok (l : List Tok) (hl : l.length ≤ 1000000) : PCall Tryz.prog 33 [toks l] (ptV l) := by
  by_cases hd : deep l = true
  · have hO : ptO l = none := by unfold ptO; rw [if_pos hd]
    rw [pt_eq hO]
    refine PCall.rsub ?_ vnil_parts
    refine PCall.of (Orc.cons sumE1 (Orc.cons sumSkip (Orc.nil _))) c33_ok (by simp [c33]) fun w0 own0 => ?_
    have he : errn l = 3 := by unfold errn; rw [if_pos hd]
    simp only [c33, toks, endsD, endsV, dToks_map, hl, he, ints, sumE1_f, sumE1_D, sumE1_flat, sumE1_r, sumSkip_f, sumSkip_D, sumSkip_flat, sumSkip_r, go_sem, wpR_gcall, reduceCtorEq, reduceIte, Nat.reduceEqDiff, Nat.reduceAdd, Nat.reduceSub, Nat.reduceMul, Nat.reduceLT, Nat.reduceLeDiff, Nat.reduceBEq, Int.reduceEq, Int.reduceLT, Int.reduceLE, Int.reduceAdd, Int.reduceSub, Int.reduceNeg, Int.reduceToNat]
  have hd : deep l = false := by simpa using hd
  have he : errn l = 0 := by unfold errn; rw [hd]; rfl
  have hlen : (endsA l).length = l.length := by unfold endsA; rw [hd]; simp [endsTo_len]
  generalize hO : ptO l = R
  rw [pt_eq hO]
  have hO' : partsL l (plR (endsA l) l.length (l.length + 1) 0) = R := by rw [← hO]; unfold ptO; rw [hd]; rfl
  refine ptRes_ok R ?_
  refine PCall.of (Orc.cons sumE1 (Orc.cons sumSkip (Orc.nil _))) c33_ok (by simp [c33]) fun w0 own0 => ?_
  simp only [c33, toks, endsD, endsV, dToks_map, hl, he, ints, sumE1_f, sumE1_D, sumE1_flat, sumE1_r, sumSkip_f, sumSkip_D, sumSkip_flat, sumSkip_r, go_sem, wpR_gcall, reduceCtorEq, reduceIte, Nat.reduceEqDiff, Nat.reduceAdd, Nat.reduceSub, Nat.reduceMul, Nat.reduceLT, Nat.reduceLeDiff, Nat.reduceBEq, Int.reduceEq, Int.reduceLT, Int.reduceLE, Int.reduceAdd, Int.reduceSub, Int.reduceNeg, Int.reduceToNat]
  refine SemC.lp (α := PtS) (fun a => [(0, .slc 3 (l.map Tok.enc)), (4, .slc 1 ((endsA l).map fun n => [vi n])), (6, .ref 0 a.ver 0 a.out.length), (7, vi a.k)])
    (fun a => ⟨[⟨a.ver, 4, a.out.map Part.enc, false, [vi 0, vs ⟨#[]⟩, vi 0, vnil]⟩], a.clk⟩) (fun a => a.k ≤ l.length ∧ a.out.length ≤ a.k ∧ l.length + 1 ≤ a.k + a.f ∧ (partsL l (plR (endsA l) l.length a.f a.k)).map (a.out ++ ·) = R) (fun a => l.length - a.k) ⟨0, l.length + 1, [], 0, 1⟩
    ⟨Nat.zero_le _, Nat.zero_le _, by dsimp only; omega, by dsimp only; rw [show ((0 : Nat) : Int) = 0 from rfl, hO']; simp⟩ (St.nil 6 4 [vi 0, vs ⟨#[]⟩, vi 0, vnil] (by simp [upd_at]) (St.cut ?_ ?_ ?_)) fun a ha => ?_
  · simp [Agrees, upd_at, initE_at]
  · simp [Heap.alloc]
  · rfl
  obtain ⟨k, f, out, ver, clk⟩ := a
  obtain ⟨h1, h2, h3, h4⟩ := ha
  simp only at h1 h2 h3 h4
  obtain ⟨f', rfl⟩ : ∃ f', f = f' + 1 := ⟨f - 1, by omega⟩
  by_cases hk : k = l.length
  · subst hk
    simp only [plR, Int.lt_irrefl, if_false, partsL, Option.map_some, List.append_nil] at h4
    subst h4
    simp only [Int.lt_irrefl, List.take_length, mapO_parts10, take_mapl, Nat.le_refl, ptRes, parts, sumE1_f, sumE1_D, sumE1_flat, sumE1_r, sumSkip_f, sumSkip_D, sumSkip_flat, sumSkip_r, go_sem, wpR_gcall, reduceCtorEq, reduceIte, Nat.reduceEqDiff, Nat.reduceAdd, Nat.reduceSub, Nat.reduceMul, Nat.reduceLT, Nat.reduceLeDiff, Nat.reduceBEq, Int.reduceEq, Int.reduceLT, Int.reduceLE, Int.reduceAdd, Int.reduceSub, Int.reduceNeg, Int.reduceToNat]
  · have e1 : (k : Int) < (l.length : Int) := by omega
    have e0 : (0 : Int) ≤ (k : Int) := by omega
    have hlt : k < l.length := by omega
    have hle := endsA_le l k
    have hrg := end1_rng l k hlt
    rw [← endsA_get l hd k hlt] at hrg
    obtain ⟨n, hn1, hn2, hn3⟩ := skip_nat hd k hlt
    have hsk : skipD (endsA l) k := ⟨by omega, by omega, by rw [Int.toNat_natCast]; omega⟩
    simp only [plR, e1, if_true, partsL, Int.toNat_natCast, hn1] at h4
    have hp : pAt l k = ⟨l.getD k .zero, if 0 ≤ (endsA l).getD k 0 then some ((l.take ((endsA l).getD k 0).toNat).drop (k + 1)) else none⟩ := rfl
    obtain ⟨en, hen⟩ : ∃ en, (endsA l).getD k 0 = en := ⟨_, rfl⟩
    rw [hen] at hle hrg h4 hp
    obtain ⟨x, hx⟩ : ∃ x, l.getD k .zero = x := ⟨_, rfl⟩
    rw [hx] at h4 hp
    have hot : out.take out.length = out := List.take_length
    by_cases c1 : en = l.length
    · rw [if_pos c1] at h4
      simp only [Option.map_none] at h4
      subst h4
      simp only [e0, e1, hlen, hx, hen, c1, Tok.enc, ints, ptRes, sumE1_f, sumE1_D, sumE1_flat, sumE1_r, sumSkip_f, sumSkip_D, sumSkip_flat, sumSkip_r, go_sem, wpR_gcall, reduceCtorEq, reduceIte, Nat.reduceEqDiff, Nat.reduceAdd, Nat.reduceSub, Nat.reduceMul, Nat.reduceLT, Nat.reduceLeDiff, Nat.reduceBEq, Int.reduceEq, Int.reduceLT, Int.reduceLE, Int.reduceAdd, Int.reduceSub, Int.reduceNeg, Int.reduceToNat]
    · rw [if_neg c1] at h4
      by_cases c2 : 0 ≤ en
      · rw [if_pos c2] at hp
        have hek : (k : Int) + 1 ≤ en := by omega
        have hk1 : ((k : Int) + 1).toNat = k + 1 := by omega
        have hk0 : (0 : Int) ≤ (k : Int) + 1 := by omega
        have hcut : List.take (en.toNat - (k + 1)) (List.drop (k + 1) (List.map Tok.enc l)) = ((l.take en.toNat).drop (k + 1)).map Tok.enc := by
          rw [← List.map_drop, ← List.map_take, List.drop_take]
        by_cases c3 : x.kind = 1
        · simp only [c3, if_true] at h4
          have h4 : (partsL l (plR (endsA l) l.length f' n)).map (out ++ ·) = R := by rw [← h4]; cases partsL l (plR (endsA l) l.length f' n) <;> rfl
          simp only [e0, e1, hlen, hx, hen, c1, c2, c3, hsk, hn1, hle, hek, hk0, hk1, dInts_map, Tok.enc, ints, sumE1_f, sumE1_D, sumE1_flat, sumE1_r, sumSkip_f, sumSkip_D, sumSkip_flat, sumSkip_r, go_sem, wpR_gcall, reduceCtorEq, reduceIte, Nat.reduceEqDiff, Nat.reduceAdd, Nat.reduceSub, Nat.reduceMul, Nat.reduceLT, Nat.reduceLeDiff, Nat.reduceBEq, Int.reduceEq, Int.reduceLT, Int.reduceLE, Int.reduceAdd, Int.reduceSub, Int.reduceNeg, Int.reduceToNat]
          exact ⟨by omega, ⟨n, f', out, ver, clk + 1⟩, ⟨by dsimp only; omega, by dsimp only; omega, by dsimp only; omega, h4⟩, by dsimp only; omega, ⟨⟨rfl, rfl⟩, rfl⟩, ⟨rfl, rfl⟩, rfl⟩
        · simp only [c3, if_false] at h4
          simp only [e0, e1, hlen, hx, hen, c1, c2, c3, hsk, hn1, hle, hek, hk0, hk1, hcut, hot, dInts_map, Tok.enc, ints, sumE1_f, sumE1_D, sumE1_flat, sumE1_r, sumSkip_f, sumSkip_D, sumSkip_flat, sumSkip_r, go_sem, wpR_gcall, reduceCtorEq, reduceIte, Nat.reduceEqDiff, Nat.reduceAdd, Nat.reduceSub, Nat.reduceMul, Nat.reduceLT, Nat.reduceLeDiff, Nat.reduceBEq, Int.reduceEq, Int.reduceLT, Int.reduceLE, Int.reduceAdd, Int.reduceSub, Int.reduceNeg, Int.reduceToNat]
          refine ⟨by omega, ⟨by omega, by omega, by omega⟩, ⟨n, f', out ++ [pAt l k], clk + 2, clk + 3⟩, ⟨by dsimp only; omega, by simp; omega, by dsimp only; omega, ?_⟩, by dsimp only; omega, ⟨⟨rfl, by simp⟩, rfl⟩, ⟨rfl, ?_⟩, rfl⟩
          · rw [← h4]; cases partsL l (plR (endsA l) l.length f' n) <;> simp
          · rw [hp]; simp [Part.enc, avO, toks]
      · rw [if_neg c2] at hp
        by_cases c3 : x.kind = 1
        · simp only [c3, if_true] at h4
          have h4 : (partsL l (plR (endsA l) l.length f' n)).map (out ++ ·) = R := by rw [← h4]; cases partsL l (plR (endsA l) l.length f' n) <;> rfl
          simp only [e0, e1, hlen, hx, hen, c1, c2, c3, hsk, hn1, dInts_map, Tok.enc, ints, sumE1_f, sumE1_D, sumE1_flat, sumE1_r, sumSkip_f, sumSkip_D, sumSkip_flat, sumSkip_r, go_sem, wpR_gcall, reduceCtorEq, reduceIte, Nat.reduceEqDiff, Nat.reduceAdd, Nat.reduceSub, Nat.reduceMul, Nat.reduceLT, Nat.reduceLeDiff, Nat.reduceBEq, Int.reduceEq, Int.reduceLT, Int.reduceLE, Int.reduceAdd, Int.reduceSub, Int.reduceNeg, Int.reduceToNat]
          exact ⟨⟨n, f', out, ver, clk + 1⟩, ⟨by dsimp only; omega, by dsimp only; omega, by dsimp only; omega, h4⟩, by dsimp only; omega, ⟨⟨rfl, rfl⟩, rfl⟩, ⟨rfl, rfl⟩, rfl⟩
        · simp only [c3, if_false] at h4
          simp only [e0, e1, hlen, hx, hen, c1, c2, c3, hsk, hn1, hot, dInts_map, Tok.enc, ints, sumE1_f, sumE1_D, sumE1_flat, sumE1_r, sumSkip_f, sumSkip_D, sumSkip_flat, sumSkip_r, go_sem, wpR_gcall, reduceCtorEq, reduceIte, Nat.reduceEqDiff, Nat.reduceAdd, Nat.reduceSub, Nat.reduceMul, Nat.reduceLT, Nat.reduceLeDiff, Nat.reduceBEq, Int.reduceEq, Int.reduceLT, Int.reduceLE, Int.reduceAdd, Int.reduceSub, Int.reduceNeg, Int.reduceToNat]
          refine ⟨⟨by omega, by omega, by omega⟩, ⟨n, f', out ++ [pAt l k], clk + 2, clk + 3⟩, ⟨by dsimp only; omega, by simp; omega, by dsimp only; omega, ?_⟩, by dsimp only; omega, ⟨⟨rfl, by simp⟩, rfl⟩, ⟨rfl, ?_⟩, rfl⟩
          · rw [← h4]; cases partsL l (plR (endsA l) l.length f' n) <;> simp
          · rw [hp]; simp [Part.enc, avO]
end Go.Proofs.YtilinnmancfjgaaGreatDoor
