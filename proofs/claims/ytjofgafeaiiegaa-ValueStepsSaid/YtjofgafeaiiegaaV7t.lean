/- Layer 7: items, by the document. -/
import Derived.Test.YtjofgafeaiiegaaV7s
namespace Go.Proofs.Ytjofgafeaiiegaa
open Go.Sx
set_option linter.unusedSimpArgs false
set_option maxHeartbeats 4000000
set_option maxRecDepth 20000

theorem itemsR_ok (L : List Pa) (own : Bool) (h : okPs L) : PCall Try.prog 39 [pas L, vb own] (itsR (itL own L)) := by
  refine PCall.of (Orc.cons sumItemR (Orc.cons sumPtsR (Orc.cons sumLwR (Orc.nil _)))) c39_ok (by simp [c39]) fun w0 own0 => ?_
  obtain ⟨hl, hm⟩ := h
  generalize hR : itL own L = R
  simp only [c39, pas, go_sem, wpR_gcall, reduceCtorEq, reduceIte, Nat.reduceEqDiff, Nat.reduceAdd, Nat.reduceSub, Nat.reduceMul, Nat.reduceLT, Nat.reduceLeDiff, Nat.reduceBEq, Int.reduceEq, Int.reduceLT, Int.reduceLE, Int.reduceAdd, Int.reduceSub, Int.reduceNeg, Int.reduceToNat]
  refine SemC.lp (α := ItS) (fun a => [(0, .slc 4 (L.map Pa.enc)), (1, vb own), (6, .ref 0 a.ver 0 a.out.length), (7, vi a.k)])
    (fun a => ⟨[⟨a.ver, 5, a.out.map Itm.enc, false, [vi 0, vs ⟨#[]⟩, vs ⟨#[]⟩, vi 0, vi 0]⟩], a.clk⟩) (fun a => a.k ≤ L.length ∧ a.out.length = a.k ∧ (itL own (L.drop a.k)).map (a.out ++ ·) = R) (fun a => L.length - a.k) ⟨0, [], 0, 1⟩
    ⟨Nat.zero_le _, rfl, by rw [← hR]; simp only [List.drop_zero, List.nil_append]; cases itL own L <;> rfl⟩ (St.nil 6 5 [vi 0, vs ⟨#[]⟩, vs ⟨#[]⟩, vi 0, vi 0] (by simp [upd_at]) (St.cut ?_ ?_ ?_)) fun a ha => ?_
  · simp [Agrees, upd_at, initE_at]
  · simp [Heap.alloc]
  · rfl
  obtain ⟨k, out, ver, clk⟩ := a
  obtain ⟨h2, h3, h4⟩ := ha
  simp only at h2 h3 h4
  by_cases hk : k = L.length
  · subst hk
    rw [List.drop_length] at h4
    simp only [itL, Option.map_some, List.append_nil] at h4
    subst h4
    simp only [Int.lt_irrefl, itsR, itms, List.take_length, take_mapl, mapO_itms11, mapO_itms10, Nat.le_refl, go_sem, wpR_gcall, reduceCtorEq, reduceIte, Nat.reduceEqDiff, Nat.reduceAdd, Nat.reduceSub, Nat.reduceMul, Nat.reduceLT, Nat.reduceLeDiff, Nat.reduceBEq, Int.reduceEq, Int.reduceLT, Int.reduceLE, Int.reduceAdd, Int.reduceSub, Int.reduceNeg, Int.reduceToNat]
  · have e1 : (k : Int) < (L.length : Int) := by omega
    have e0 : (0 : Int) ≤ (k : Int) := by omega
    have hlt : k < L.length := by omega
    rw [itL_drop own L k hlt, itO_W] at h4
    have hg := getD_pas L k [vi 0, vs ⟨#[]⟩, vi 0, vnil] hlt
    obtain ⟨hx, hxa⟩ := hm (L.getD k default) (by rw [List.getD_eq_getElem?_getD, List.getElem?_eq_getElem hlt]; exact List.getElem_mem _)
    generalize L.getD k default = x at *
    have hxl := hxa.1
    have hot : out.take out.length = out := List.take_length
    unfold itX at h4
    generalize hy : itemW x = y at h4
    obtain ⟨⟨yk, yt, yn, ys, yw⟩, yb⟩ := y
    have fin : ∀ z : Itm, toO (z, true) = some z := fun z => rfl
    have finN : ∀ z : Itm, toO (z, false) = none := fun z => rfl
    cases own with
    | false =>
      rw [if_neg (by simp [ownB])] at h4
      cases yb with
      | false =>
        simp only [finN] at h4
        subst h4
        simp only [itsR, e0, e1, hg, Pa.enc, Itm.enc, dPa_mk, Pa.eta', hx, hxa, hxl, hy, hot, plV, toks, dToks_map, itR, res11_agg, on_gcall, off_gcall, flat_gcall, go_sem, reduceCtorEq, reduceIte, Nat.reduceEqDiff, Nat.reduceAdd, Nat.reduceSub, Nat.reduceMul, Nat.reduceLT, Nat.reduceLeDiff, Nat.reduceBEq, Int.reduceEq, Int.reduceLT, Int.reduceLE, Int.reduceAdd, Int.reduceSub, Int.reduceNeg, Int.reduceToNat]
      | true =>
        simp only [fin] at h4
        simp only [e0, e1, hg, Pa.enc, Itm.enc, dPa_mk, Pa.eta', hx, hxa, hxl, hy, hot, plV, toks, dToks_map, itR, res11_agg, on_gcall, off_gcall, flat_gcall, go_sem, reduceCtorEq, reduceIte, Nat.reduceEqDiff, Nat.reduceAdd, Nat.reduceSub, Nat.reduceMul, Nat.reduceLT, Nat.reduceLeDiff, Nat.reduceBEq, Int.reduceEq, Int.reduceLT, Int.reduceLE, Int.reduceAdd, Int.reduceSub, Int.reduceNeg, Int.reduceToNat]
        refine ⟨⟨by omega, by omega, by omega⟩, by omega, ⟨k + 1, out ++ [⟨yk, yt, yn, ys, yw⟩], _, _⟩, ⟨by dsimp only; omega, by simp; omega, ?_⟩, by dsimp only; omega, ⟨⟨rfl, by simp⟩, by dsimp only; omega⟩, ⟨rfl, by simp [Itm.enc]⟩, rfl⟩
        rw [← h4]; cases itL false (L.drop (k + 1)) <;> simp
    | true =>
      by_cases k3 : x.t.kind = 3
      · have k3t := eq_true k3
        by_cases kc : lowP x = wordContent
        · have kct := eq_true kc
          unfold wordContent at kct
          by_cases kl : (pl x.al).length = 0
          · rw [if_pos (by simp [ownB, k3, kc, kl])] at h4
            have klt : (((pl x.al).length : Int) = 0) = True := eq_true (by omega)
            simp only [fin] at h4
            simp only [k3t, kct, klt, e0, e1, hg, Pa.enc, Itm.enc, dPa_mk, Pa.eta', hx, hxa, hxl, hy, hot, plV, toks, dToks_map, itR, res11_agg, on_gcall, off_gcall, flat_gcall, go_sem, reduceCtorEq, reduceIte, Nat.reduceEqDiff, Nat.reduceAdd, Nat.reduceSub, Nat.reduceMul, Nat.reduceLT, Nat.reduceLeDiff, Nat.reduceBEq, Int.reduceEq, Int.reduceLT, Int.reduceLE, Int.reduceAdd, Int.reduceSub, Int.reduceNeg, Int.reduceToNat]
            refine ⟨⟨by omega, by omega, by omega⟩, by omega, ⟨k + 1, out ++ [cntI], _, _⟩, ⟨by dsimp only; omega, by simp; omega, ?_⟩, by dsimp only; omega, ⟨⟨rfl, by simp⟩, by dsimp only; omega⟩, ⟨rfl, by simp [cntI, Itm.enc]⟩, rfl⟩
            rw [← h4]; cases itL true (L.drop (k + 1)) <;> simp
          · rw [if_neg (by simp [ownB, kl])] at h4
            have klt : (((pl x.al).length : Int) = 0) = False := eq_false (by omega)
            cases yb with
            | false =>
              simp only [finN] at h4
              subst h4
              simp only [itsR, k3t, kct, klt, e0, e1, hg, Pa.enc, Itm.enc, dPa_mk, Pa.eta', hx, hxa, hxl, hy, hot, plV, toks, dToks_map, itR, res11_agg, on_gcall, off_gcall, flat_gcall, go_sem, reduceCtorEq, reduceIte, Nat.reduceEqDiff, Nat.reduceAdd, Nat.reduceSub, Nat.reduceMul, Nat.reduceLT, Nat.reduceLeDiff, Nat.reduceBEq, Int.reduceEq, Int.reduceLT, Int.reduceLE, Int.reduceAdd, Int.reduceSub, Int.reduceNeg, Int.reduceToNat]
            | true =>
              simp only [fin] at h4
              simp only [k3t, kct, klt, e0, e1, hg, Pa.enc, Itm.enc, dPa_mk, Pa.eta', hx, hxa, hxl, hy, hot, plV, toks, dToks_map, itR, res11_agg, on_gcall, off_gcall, flat_gcall, go_sem, reduceCtorEq, reduceIte, Nat.reduceEqDiff, Nat.reduceAdd, Nat.reduceSub, Nat.reduceMul, Nat.reduceLT, Nat.reduceLeDiff, Nat.reduceBEq, Int.reduceEq, Int.reduceLT, Int.reduceLE, Int.reduceAdd, Int.reduceSub, Int.reduceNeg, Int.reduceToNat]
              refine ⟨⟨by omega, by omega, by omega⟩, by omega, ⟨k + 1, out ++ [⟨yk, yt, yn, ys, yw⟩], _, _⟩, ⟨by dsimp only; omega, by simp; omega, ?_⟩, by dsimp only; omega, ⟨⟨rfl, by simp⟩, by dsimp only; omega⟩, ⟨rfl, by simp [Itm.enc]⟩, rfl⟩
              rw [← h4]; cases itL true (L.drop (k + 1)) <;> simp
        · rw [if_neg (by simp [ownB, kc])] at h4
          have kct := eq_false kc
          unfold wordContent at kct
          cases yb with
          | false =>
            simp only [finN] at h4
            subst h4
            simp only [itsR, k3t, kct, e0, e1, hg, Pa.enc, Itm.enc, dPa_mk, Pa.eta', hx, hxa, hxl, hy, hot, plV, toks, dToks_map, itR, res11_agg, on_gcall, off_gcall, flat_gcall, go_sem, reduceCtorEq, reduceIte, Nat.reduceEqDiff, Nat.reduceAdd, Nat.reduceSub, Nat.reduceMul, Nat.reduceLT, Nat.reduceLeDiff, Nat.reduceBEq, Int.reduceEq, Int.reduceLT, Int.reduceLE, Int.reduceAdd, Int.reduceSub, Int.reduceNeg, Int.reduceToNat]
          | true =>
            simp only [fin] at h4
            simp only [k3t, kct, e0, e1, hg, Pa.enc, Itm.enc, dPa_mk, Pa.eta', hx, hxa, hxl, hy, hot, plV, toks, dToks_map, itR, res11_agg, on_gcall, off_gcall, flat_gcall, go_sem, reduceCtorEq, reduceIte, Nat.reduceEqDiff, Nat.reduceAdd, Nat.reduceSub, Nat.reduceMul, Nat.reduceLT, Nat.reduceLeDiff, Nat.reduceBEq, Int.reduceEq, Int.reduceLT, Int.reduceLE, Int.reduceAdd, Int.reduceSub, Int.reduceNeg, Int.reduceToNat]
            refine ⟨⟨by omega, by omega, by omega⟩, by omega, ⟨k + 1, out ++ [⟨yk, yt, yn, ys, yw⟩], _, _⟩, ⟨by dsimp only; omega, by simp; omega, ?_⟩, by dsimp only; omega, ⟨⟨rfl, by simp⟩, by dsimp only; omega⟩, ⟨rfl, by simp [Itm.enc]⟩, rfl⟩
            rw [← h4]; cases itL true (L.drop (k + 1)) <;> simp
      · rw [if_neg (by simp [ownB, k3])] at h4
        have k3t := eq_false k3
        cases yb with
        | false =>
          simp only [finN] at h4
          subst h4
          simp only [itsR, k3t, e0, e1, hg, Pa.enc, Itm.enc, dPa_mk, Pa.eta', hx, hxa, hxl, hy, hot, plV, toks, dToks_map, itR, res11_agg, on_gcall, off_gcall, flat_gcall, go_sem, reduceCtorEq, reduceIte, Nat.reduceEqDiff, Nat.reduceAdd, Nat.reduceSub, Nat.reduceMul, Nat.reduceLT, Nat.reduceLeDiff, Nat.reduceBEq, Int.reduceEq, Int.reduceLT, Int.reduceLE, Int.reduceAdd, Int.reduceSub, Int.reduceNeg, Int.reduceToNat]
        | true =>
          simp only [fin] at h4
          simp only [k3t, e0, e1, hg, Pa.enc, Itm.enc, dPa_mk, Pa.eta', hx, hxa, hxl, hy, hot, plV, toks, dToks_map, itR, res11_agg, on_gcall, off_gcall, flat_gcall, go_sem, reduceCtorEq, reduceIte, Nat.reduceEqDiff, Nat.reduceAdd, Nat.reduceSub, Nat.reduceMul, Nat.reduceLT, Nat.reduceLeDiff, Nat.reduceBEq, Int.reduceEq, Int.reduceLT, Int.reduceLE, Int.reduceAdd, Int.reduceSub, Int.reduceNeg, Int.reduceToNat]
          refine ⟨⟨by omega, by omega, by omega⟩, by omega, ⟨k + 1, out ++ [⟨yk, yt, yn, ys, yw⟩], _, _⟩, ⟨by dsimp only; omega, by simp; omega, ?_⟩, by dsimp only; omega, ⟨⟨rfl, by simp⟩, by dsimp only; omega⟩, ⟨rfl, by simp [Itm.enc]⟩, rfl⟩
          rw [← h4]; cases itL true (L.drop (k + 1)) <;> simp
def sumItsR : Sum Try.prog := ⟨39, fun args => args = [pas (dPas (args.getD 0 .any)), vb (V.boo (args.getD 1 .any))] ∧ okPs (dPas (args.getD 0 .any)), fun args => itsV (itL (V.boo (args.getD 1 .any)) (dPas (args.getD 0 .any))), fun args h => by
  have := itsR_sub _ (itemsR_ok (dPas (args.getD 0 .any)) (V.boo (args.getD 1 .any)) h.2); rwa [← h.1] at this, false⟩
theorem sumItsR_f : sumItsR.f = 39 := rfl
theorem sumItsR_D (args : List V) : sumItsR.D args = (args = [pas (dPas (args.getD 0 .any)), vb (V.boo (args.getD 1 .any))] ∧ okPs (dPas (args.getD 0 .any))) := rfl
theorem sumItsR_flat : sumItsR.flat = false := rfl
theorem sumItsR_r (args : List V) : sumItsR.r args = itsV (itL (V.boo (args.getD 1 .any)) (dPas (args.getD 0 .any))) := rfl
attribute [go_sem] sumItsR_f sumItsR_D sumItsR_flat sumItsR_r
end Go.Proofs.Ytjofgafeaiiegaa
