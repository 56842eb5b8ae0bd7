/- Layer 7: items, both ways told. -/
import Derived.Test.YtjofgafeaiiegaaV7mb
namespace Go.Proofs.Ytjofgafeaiiegaa
open Go.Sx
set_option linter.unusedSimpArgs false
set_option maxHeartbeats 4000000
set_option maxRecDepth 20000

theorem wh_eq (s : ByteArray) : (0 < whN s ↔ 0 < whR s) ∧ (0 < whN s → whN s = whR s) := by
  unfold whN whR
  have h5 : ∀ u : ByteArray, (0 < ixS (⟨#[]⟩ :: whs) u ↔ 0 < ixS whs u + 1) ∧ (0 < ixS (⟨#[]⟩ :: whs) u → ixS (⟨#[]⟩ :: whs) u = ixS whs u + 1) := fun u => by
    by_cases c0 : u = ⟨#[]⟩
    · subst c0; decide
    by_cases c1 : u = ⟨#[102, 105, 114, 115, 116]⟩
    · subst c1; decide
    by_cases c2 : u = ⟨#[115, 116, 97, 114, 116]⟩
    · subst c2; decide
    by_cases c3 : u = ⟨#[108, 97, 115, 116]⟩
    · subst c3; decide
    by_cases c4 : u = ⟨#[102, 105, 114, 115, 116, 45, 101, 120, 99, 101, 112, 116]⟩
    · subst c4; decide
    have e1 : ixS (⟨#[]⟩ :: whs) u = -1 := by simp [ixS, fst, whs, c0, c1, c2, c3, c4]
    have e2 : ixS whs u = -1 := by simp [ixS, fst, whs, c1, c2, c3, c4]
    rw [e1, e2]; omega
  exact h5 _
def sameI (a b : Itm × Bool) : Prop := a.2 = b.2 ∧ (a.2 = true → a.1 = b.1)
theorem sameI_rfl (a : Itm × Bool) : sameI a a := ⟨rfl, fun _ => rfl⟩
theorem sameI_f {a b : Itm × Bool} (h1 : a.2 = false) (h2 : b.2 = false) : sameI a b := ⟨by rw [h1, h2], fun h => by rw [h1] at h; cases h⟩
theorem st_same (x : Itm) (hx : x.style = 0) : ∀ l : List Pa, sameI (stV x l) (stW x l)
  | [] => by simp [sameI, stV, stW, hx]
  | [q] => by
    by_cases h : q.t.kind = 2
    · simp [sameI, stV, stW, h]
    · exact sameI_f (by simp [stV, h]) (by simp [stW, h])
  | q :: b :: r => sameI_f (by simp [stV]) rfl
theorem ch_same (x : Itm) : ∀ l : List Pa, sameI (chV x l) (chW x l)
  | [] => by simp [sameI, chV, chW]
  | [q] => by
    by_cases h : q.t.kind = 2
    · obtain ⟨h1, h2⟩ := wh_eq q.t.text
      simp only [sameI, chV, chW, h, if_true, decide_true, Bool.true_and, decide_eq_true_eq, Itm.mk.injEq, true_and]
      exact ⟨decide_eq_decide.2 h1, h2⟩
    · exact sameI_f (by simp [chV, h]) (by simp [chW, h])
  | q :: b :: r => sameI_f (by simp [chV]) rfl
theorem item_same (p : Pa) : sameI (itemV p) (itemW p) := by
  unfold itemV itemW
  by_cases k6 : p.t.kind = 6
  · rw [if_pos k6, if_pos k6]; exact sameI_rfl _
  rw [if_neg k6, if_neg k6]
  by_cases k3 : p.t.kind = 3 ∧ argsB p = true
  · rw [if_pos k3, if_pos k3]
    cases argsA p with
    | nil => exact sameI_rfl _
    | cons a l =>
      dsimp only
      by_cases hn : namedB a = true
      · rw [if_pos hn, if_pos hn]
        by_cases c1 : lowP p = wordCounter
        · rw [c1, if_pos rfl, if_neg (by decide), if_neg (by decide), if_pos rfl]; exact st_same _ rfl l
        by_cases c2 : lowP p = wordCounters
        · rw [c2, if_neg (by decide), if_pos rfl, if_neg (by decide), if_pos rfl]
          cases l with
          | nil => exact sameI_rfl _
          | cons q r =>
            dsimp only
            by_cases h6 : q.t.kind = 6
            · rw [if_pos h6, if_pos h6]; exact st_same _ rfl r
            · rw [if_neg h6, if_neg h6]; exact sameI_rfl _
        by_cases c3 : lowP p = wordString
        · rw [c3, if_neg (by decide), if_neg (by decide), if_pos rfl, if_neg (by decide), if_neg (by decide), if_neg (by decide), if_pos rfl]; exact ch_same _ l
        by_cases c4 : lowP p = wordElement
        · rw [c4, if_neg (by decide), if_neg (by decide), if_neg (by decide), if_pos rfl, if_neg (by decide), if_neg (by decide), if_neg (by decide), if_neg (by decide), if_pos rfl]; exact ch_same _ l
        by_cases c5 : lowP p = wordAttr
        · rw [c5, if_neg (by decide), if_neg (by decide), if_neg (by decide), if_neg (by decide), if_pos rfl, if_pos rfl]
          by_cases hl : l = []
          · rw [if_pos hl, decide_eq_true hl]; exact sameI_rfl _
          · rw [if_neg hl, decide_eq_false hl]; exact sameI_f rfl rfl
        rw [if_neg c1, if_neg c2, if_neg c3, if_neg c4, if_neg c5, if_neg c5, if_neg c2, if_neg c1, if_neg c3, if_neg c4]; exact sameI_rfl _
      · rw [if_neg hn, if_neg hn]; exact sameI_rfl _
  · rw [if_neg k3, if_neg k3]; exact sameI_rfl _
def ownB (own : Bool) (p : Pa) : Bool := own && decide (p.t.kind = 3) && decide (lowP p = wordContent) && decide ((pl p.al).length = 0)
def cntI : Itm := ⟨6, ⟨#[]⟩, ⟨#[]⟩, 0, 0⟩
def itX (f : Pa → Itm × Bool) (own : Bool) (p : Pa) : Itm × Bool := if ownB own p = true then (cntI, true) else f p
def toO (x : Itm × Bool) : Option Itm := if x.2 = true then some x.1 else none
def itO (own : Bool) (p : Pa) : Option Itm := toO (itX itemV own p)
theorem itO_V (own : Bool) (p : Pa) : itO own p = toO (itX itemV own p) := rfl
theorem itO_W (own : Bool) (p : Pa) : itO own p = toO (itX itemW own p) := by
  unfold itO itX
  by_cases h : ownB own p = true
  · rw [if_pos h, if_pos h]
  · rw [if_neg h, if_neg h]
    obtain ⟨h1, h2⟩ := item_same p
    unfold toO
    rw [← h1]
    by_cases hb : (itemV p).2 = true
    · rw [if_pos hb, if_pos hb, h2 hb]
    · rw [if_neg hb, if_neg hb]
def itL (own : Bool) : List Pa → Option (List Itm)
  | [] => some []
  | p :: l => match itO own p with | none => none | some x => (itL own l).map (x :: ·)
def itsR : Option (List Itm) → V
  | none => .tup [vnil, vb false]
  | some l => .tup [itms l, vb (decide (0 < (l.length : Int)))]
def itsV (o : Option (List Itm)) : V := .tup [itms (o.getD []), vb (decide (0 < ((o.getD []).length : Int)))]
theorem itsR_sub (o : Option (List Itm)) {f : FuncId} {args : List V} (h : PCall Try.prog f args (itsR o)) : PCall Try.prog f args (itsV o) := by
  cases o with
  | some l => exact h
  | none =>
    refine PCall.rsub h fun F w v hp => ?_
    cases hp with
    | tup cs _ hl hx =>
      refine .tup cs _ hl fun i hi => ?_
      have := hx i hi
      match i, hi with
      | 0, _ => exact PRep.nilS 5 this
      | 1, _ => exact this
def sumItem : Sum Try.prog := ⟨56, fun args => args = [.agg (Pa.enc (dPa (args.getD 0 .any)))] ∧ okP7 (dPa (args.getD 0 .any)) ∧ okT ((dPa (args.getD 0 .any))).al, fun args => itR (itemV (dPa (args.getD 0 .any))), fun args h => by
  have := item_ok (dPa (args.getD 0 .any)) h.2.1 h.2.2; rwa [← h.1] at this, false⟩
theorem sumItem_f : sumItem.f = 56 := rfl
theorem sumItem_D (args : List V) : sumItem.D args = (args = [.agg (Pa.enc (dPa (args.getD 0 .any)))] ∧ okP7 (dPa (args.getD 0 .any)) ∧ okT ((dPa (args.getD 0 .any))).al) := rfl
theorem sumItem_flat : sumItem.flat = false := rfl
theorem sumItem_r (args : List V) : sumItem.r args = itR (itemV (dPa (args.getD 0 .any))) := rfl
attribute [go_sem] sumItem_f sumItem_D sumItem_flat sumItem_r
def sumItemR : Sum Try.prog := ⟨59, fun args => args = [.agg (Pa.enc (dPa (args.getD 0 .any)))] ∧ okP7 (dPa (args.getD 0 .any)) ∧ okT ((dPa (args.getD 0 .any))).al, fun args => itR (itemW (dPa (args.getD 0 .any))), fun args h => by
  have := itemR_ok (dPa (args.getD 0 .any)) h.2.1 h.2.2; rwa [← h.1] at this, false⟩
theorem sumItemR_f : sumItemR.f = 59 := rfl
theorem sumItemR_D (args : List V) : sumItemR.D args = (args = [.agg (Pa.enc (dPa (args.getD 0 .any)))] ∧ okP7 (dPa (args.getD 0 .any)) ∧ okT ((dPa (args.getD 0 .any))).al) := rfl
theorem sumItemR_flat : sumItemR.flat = false := rfl
theorem sumItemR_r (args : List V) : sumItemR.r args = itR (itemW (dPa (args.getD 0 .any))) := rfl
attribute [go_sem] sumItemR_f sumItemR_D sumItemR_flat sumItemR_r
def okPs (l : List Pa) : Prop := l.length ≤ 1000001 ∧ ∀ p ∈ l, okP7 p ∧ okT p.al
structure ItS where
  k : Nat
  out : List Itm
  ver : Nat
  clk : Nat
theorem itL_drop (own : Bool) (L : List Pa) (k : Nat) (h : k < L.length) : itL own (L.drop k) = match itO own (L.getD k default) with | none => none | some x => (itL own (L.drop (k + 1))).map (x :: ·) := by
  rw [par_drop L k h]; rfl
theorem items_ok (L : List Pa) (own : Bool) (h : okPs L) : PCall Try.prog 36 [pas L, vb own] (itsR (itL own L)) := by
  refine PCall.of (Orc.cons sumItem (Orc.cons sumPts (Orc.cons sumLwP (Orc.nil _)))) c36_ok (by simp [c36]) fun w0 own0 => ?_
  obtain ⟨hl, hm⟩ := h
  generalize hR : itL own L = R
  simp only [c36, pas, go_sem, wpR_gcall, reduceCtorEq, reduceIte, Nat.reduceEqDiff, Nat.reduceAdd, Nat.reduceSub, Nat.reduceMul, Nat.reduceLT, Nat.reduceLeDiff, Nat.reduceBEq, Int.reduceEq, Int.reduceLT, Int.reduceLE, Int.reduceAdd, Int.reduceSub, Int.reduceNeg, Int.reduceToNat]
  refine SemC.lp (α := ItS) (fun a => [(1, vb own), (6, .ref 0 a.ver 0 a.out.length), (13, .slc 4 (L.map Pa.enc)), (14, vi L.length), (15, vi a.k)])
    (fun a => ⟨[⟨a.ver, 5, a.out.map Itm.enc, false, [vi 0, vs ⟨#[]⟩, vs ⟨#[]⟩, vi 0, vi 0]⟩], a.clk⟩) (fun a => a.k ≤ L.length ∧ a.out.length = a.k ∧ (itL own (L.drop a.k)).map (a.out ++ ·) = R) (fun a => L.length - a.k) ⟨0, [], 0, 1⟩
    ⟨Nat.zero_le _, rfl, by rw [← hR]; simp only [List.drop_zero, List.nil_append]; cases itL own L <;> rfl⟩ (St.nil 6 5 [vi 0, vs ⟨#[]⟩, vs ⟨#[]⟩, vi 0, vi 0] (by simp [upd_at]) (St.cut ?_ ?_ ?_)) fun a ha => ?_
  · simp [Agrees, upd_at, initE_at]
  · simp [Heap.alloc]
  · rfl
  obtain ⟨k, out, ver, clk⟩ := a
  obtain ⟨h2, h3, h4⟩ := ha
  simp only at h2 h3 h4
  by_cases hk : k = L.length
  · subst hk
    rw [List.drop_length] at h4
    simp only [itL, Option.map_some, List.append_nil] at h4
    subst h4
    simp only [Int.lt_irrefl, itsR, itms, List.take_length, take_mapl, mapO_itms11, mapO_itms10, Nat.le_refl, go_sem, wpR_gcall, reduceCtorEq, reduceIte, Nat.reduceEqDiff, Nat.reduceAdd, Nat.reduceSub, Nat.reduceMul, Nat.reduceLT, Nat.reduceLeDiff, Nat.reduceBEq, Int.reduceEq, Int.reduceLT, Int.reduceLE, Int.reduceAdd, Int.reduceSub, Int.reduceNeg, Int.reduceToNat]
  · have e1 : (k : Int) < (L.length : Int) := by omega
    have e0 : (0 : Int) ≤ (k : Int) := by omega
    have hlt : k < L.length := by omega
    rw [itL_drop own L k hlt, itO_V] at h4
    have hg := getD_pas L k [vi 0, vs ⟨#[]⟩, vi 0, vnil] hlt
    obtain ⟨hx, hxa⟩ := hm (L.getD k default) (by rw [List.getD_eq_getElem?_getD, List.getElem?_eq_getElem hlt]; exact List.getElem_mem _)
    generalize L.getD k default = x at *
    have hxl := hxa.1
    have hot : out.take out.length = out := List.take_length
    unfold itX at h4
    generalize hy : itemV x = y at h4
    obtain ⟨⟨yk, yt, yn, ys, yw⟩, yb⟩ := y
    have fin : ∀ z : Itm, toO (z, true) = some z := fun z => rfl
    have finN : ∀ z : Itm, toO (z, false) = none := fun z => rfl
    cases own with
    | false =>
      rw [if_neg (by simp [ownB])] at h4
      cases yb with
      | false =>
        simp only [finN] at h4
        subst h4
        simp only [itsR, e0, e1, hg, Pa.enc, Itm.enc, dPa_mk, Pa.eta', hx, hxa, hxl, hy, hot, plV, toks, dToks_map, itR, res11_agg, on_gcall, off_gcall, flat_gcall, go_sem, reduceCtorEq, reduceIte, Nat.reduceEqDiff, Nat.reduceAdd, Nat.reduceSub, Nat.reduceMul, Nat.reduceLT, Nat.reduceLeDiff, Nat.reduceBEq, Int.reduceEq, Int.reduceLT, Int.reduceLE, Int.reduceAdd, Int.reduceSub, Int.reduceNeg, Int.reduceToNat]
      | true =>
        simp only [fin] at h4
        simp only [e0, e1, hg, Pa.enc, Itm.enc, dPa_mk, Pa.eta', hx, hxa, hxl, hy, hot, plV, toks, dToks_map, itR, res11_agg, on_gcall, off_gcall, flat_gcall, go_sem, reduceCtorEq, reduceIte, Nat.reduceEqDiff, Nat.reduceAdd, Nat.reduceSub, Nat.reduceMul, Nat.reduceLT, Nat.reduceLeDiff, Nat.reduceBEq, Int.reduceEq, Int.reduceLT, Int.reduceLE, Int.reduceAdd, Int.reduceSub, Int.reduceNeg, Int.reduceToNat]
        refine ⟨⟨by omega, by omega, by omega⟩, by omega, ⟨k + 1, out ++ [⟨yk, yt, yn, ys, yw⟩], _, _⟩, ⟨by dsimp only; omega, by simp; omega, ?_⟩, by dsimp only; omega, ⟨⟨rfl, by simp⟩, by dsimp only; omega⟩, ⟨rfl, by simp [Itm.enc]⟩, rfl⟩
        rw [← h4]; cases itL false (L.drop (k + 1)) <;> simp
    | true =>
      by_cases k3 : x.t.kind = 3
      · have k3t := eq_true k3
        by_cases kc : lowP x = wordContent
        · have kct := eq_true kc
          unfold wordContent at kct
          by_cases kl : (pl x.al).length = 0
          · rw [if_pos (by simp [ownB, k3, kc, kl])] at h4
            have klt : (((pl x.al).length : Int) = 0) = True := eq_true (by omega)
            simp only [fin] at h4
            simp only [k3t, kct, klt, e0, e1, hg, Pa.enc, Itm.enc, dPa_mk, Pa.eta', hx, hxa, hxl, hy, hot, plV, toks, dToks_map, itR, res11_agg, on_gcall, off_gcall, flat_gcall, go_sem, reduceCtorEq, reduceIte, Nat.reduceEqDiff, Nat.reduceAdd, Nat.reduceSub, Nat.reduceMul, Nat.reduceLT, Nat.reduceLeDiff, Nat.reduceBEq, Int.reduceEq, Int.reduceLT, Int.reduceLE, Int.reduceAdd, Int.reduceSub, Int.reduceNeg, Int.reduceToNat]
            refine ⟨⟨by omega, by omega, by omega⟩, by omega, ⟨k + 1, out ++ [cntI], _, _⟩, ⟨by dsimp only; omega, by simp; omega, ?_⟩, by dsimp only; omega, ⟨⟨rfl, by simp⟩, by dsimp only; omega⟩, ⟨rfl, by simp [cntI, Itm.enc]⟩, rfl⟩
            rw [← h4]; cases itL true (L.drop (k + 1)) <;> simp
          · rw [if_neg (by simp [ownB, kl])] at h4
            have klt : (((pl x.al).length : Int) = 0) = False := eq_false (by omega)
            cases yb with
            | false =>
              simp only [finN] at h4
              subst h4
              simp only [itsR, k3t, kct, klt, e0, e1, hg, Pa.enc, Itm.enc, dPa_mk, Pa.eta', hx, hxa, hxl, hy, hot, plV, toks, dToks_map, itR, res11_agg, on_gcall, off_gcall, flat_gcall, go_sem, reduceCtorEq, reduceIte, Nat.reduceEqDiff, Nat.reduceAdd, Nat.reduceSub, Nat.reduceMul, Nat.reduceLT, Nat.reduceLeDiff, Nat.reduceBEq, Int.reduceEq, Int.reduceLT, Int.reduceLE, Int.reduceAdd, Int.reduceSub, Int.reduceNeg, Int.reduceToNat]
            | true =>
              simp only [fin] at h4
              simp only [k3t, kct, klt, e0, e1, hg, Pa.enc, Itm.enc, dPa_mk, Pa.eta', hx, hxa, hxl, hy, hot, plV, toks, dToks_map, itR, res11_agg, on_gcall, off_gcall, flat_gcall, go_sem, reduceCtorEq, reduceIte, Nat.reduceEqDiff, Nat.reduceAdd, Nat.reduceSub, Nat.reduceMul, Nat.reduceLT, Nat.reduceLeDiff, Nat.reduceBEq, Int.reduceEq, Int.reduceLT, Int.reduceLE, Int.reduceAdd, Int.reduceSub, Int.reduceNeg, Int.reduceToNat]
              refine ⟨⟨by omega, by omega, by omega⟩, by omega, ⟨k + 1, out ++ [⟨yk, yt, yn, ys, yw⟩], _, _⟩, ⟨by dsimp only; omega, by simp; omega, ?_⟩, by dsimp only; omega, ⟨⟨rfl, by simp⟩, by dsimp only; omega⟩, ⟨rfl, by simp [Itm.enc]⟩, rfl⟩
              rw [← h4]; cases itL true (L.drop (k + 1)) <;> simp
        · rw [if_neg (by simp [ownB, kc])] at h4
          have kct := eq_false kc
          unfold wordContent at kct
          cases yb with
          | false =>
            simp only [finN] at h4
            subst h4
            simp only [itsR, k3t, kct, e0, e1, hg, Pa.enc, Itm.enc, dPa_mk, Pa.eta', hx, hxa, hxl, hy, hot, plV, toks, dToks_map, itR, res11_agg, on_gcall, off_gcall, flat_gcall, go_sem, reduceCtorEq, reduceIte, Nat.reduceEqDiff, Nat.reduceAdd, Nat.reduceSub, Nat.reduceMul, Nat.reduceLT, Nat.reduceLeDiff, Nat.reduceBEq, Int.reduceEq, Int.reduceLT, Int.reduceLE, Int.reduceAdd, Int.reduceSub, Int.reduceNeg, Int.reduceToNat]
          | true =>
            simp only [fin] at h4
            simp only [k3t, kct, e0, e1, hg, Pa.enc, Itm.enc, dPa_mk, Pa.eta', hx, hxa, hxl, hy, hot, plV, toks, dToks_map, itR, res11_agg, on_gcall, off_gcall, flat_gcall, go_sem, reduceCtorEq, reduceIte, Nat.reduceEqDiff, Nat.reduceAdd, Nat.reduceSub, Nat.reduceMul, Nat.reduceLT, Nat.reduceLeDiff, Nat.reduceBEq, Int.reduceEq, Int.reduceLT, Int.reduceLE, Int.reduceAdd, Int.reduceSub, Int.reduceNeg, Int.reduceToNat]
            refine ⟨⟨by omega, by omega, by omega⟩, by omega, ⟨k + 1, out ++ [⟨yk, yt, yn, ys, yw⟩], _, _⟩, ⟨by dsimp only; omega, by simp; omega, ?_⟩, by dsimp only; omega, ⟨⟨rfl, by simp⟩, by dsimp only; omega⟩, ⟨rfl, by simp [Itm.enc]⟩, rfl⟩
            rw [← h4]; cases itL true (L.drop (k + 1)) <;> simp
      · rw [if_neg (by simp [ownB, k3])] at h4
        have k3t := eq_false k3
        cases yb with
        | false =>
          simp only [finN] at h4
          subst h4
          simp only [itsR, k3t, e0, e1, hg, Pa.enc, Itm.enc, dPa_mk, Pa.eta', hx, hxa, hxl, hy, hot, plV, toks, dToks_map, itR, res11_agg, on_gcall, off_gcall, flat_gcall, go_sem, reduceCtorEq, reduceIte, Nat.reduceEqDiff, Nat.reduceAdd, Nat.reduceSub, Nat.reduceMul, Nat.reduceLT, Nat.reduceLeDiff, Nat.reduceBEq, Int.reduceEq, Int.reduceLT, Int.reduceLE, Int.reduceAdd, Int.reduceSub, Int.reduceNeg, Int.reduceToNat]
        | true =>
          simp only [fin] at h4
          simp only [k3t, e0, e1, hg, Pa.enc, Itm.enc, dPa_mk, Pa.eta', hx, hxa, hxl, hy, hot, plV, toks, dToks_map, itR, res11_agg, on_gcall, off_gcall, flat_gcall, go_sem, reduceCtorEq, reduceIte, Nat.reduceEqDiff, Nat.reduceAdd, Nat.reduceSub, Nat.reduceMul, Nat.reduceLT, Nat.reduceLeDiff, Nat.reduceBEq, Int.reduceEq, Int.reduceLT, Int.reduceLE, Int.reduceAdd, Int.reduceSub, Int.reduceNeg, Int.reduceToNat]
          refine ⟨⟨by omega, by omega, by omega⟩, by omega, ⟨k + 1, out ++ [⟨yk, yt, yn, ys, yw⟩], _, _⟩, ⟨by dsimp only; omega, by simp; omega, ?_⟩, by dsimp only; omega, ⟨⟨rfl, by simp⟩, by dsimp only; omega⟩, ⟨rfl, by simp [Itm.enc]⟩, rfl⟩
          rw [← h4]; cases itL true (L.drop (k + 1)) <;> simp
def sumIts : Sum Try.prog := ⟨36, fun args => args = [pas (dPas (args.getD 0 .any)), vb (V.boo (args.getD 1 .any))] ∧ okPs (dPas (args.getD 0 .any)), fun args => itsV (itL (V.boo (args.getD 1 .any)) (dPas (args.getD 0 .any))), fun args h => by
  have := itsR_sub _ (items_ok (dPas (args.getD 0 .any)) (V.boo (args.getD 1 .any)) h.2); rwa [← h.1] at this, false⟩
theorem sumIts_f : sumIts.f = 36 := rfl
theorem sumIts_D (args : List V) : sumIts.D args = (args = [pas (dPas (args.getD 0 .any)), vb (V.boo (args.getD 1 .any))] ∧ okPs (dPas (args.getD 0 .any))) := rfl
theorem sumIts_flat : sumIts.flat = false := rfl
theorem sumIts_r (args : List V) : sumIts.r args = itsV (itL (V.boo (args.getD 1 .any)) (dPas (args.getD 0 .any))) := rfl
attribute [go_sem] sumIts_f sumIts_D sumIts_flat sumIts_r
end Go.Proofs.Ytjofgafeaiiegaa
