/- Layer 19: the steps of one name. -/
import Derived.Test.YteifbbinfipdlaaK19o
namespace Go.Proofs.Yteifbbinfipdlaa
open Go.Sx
set_option linter.unusedSimpArgs false
set_option maxHeartbeats 8000000
set_option maxRecDepth 100000

theorem mapO_vst {S : Nat → Bool} {h : Heap} (s : VSt) (hs : okX s.x) : mapO (res S h 11) s.enc = some s.enc := by
  obtain ⟨nm, n, x⟩ := s
  rcases hs with h | ⟨m, es, h⟩ <;> (simp only at h; subst h; rfl)
theorem mapO_vsts {S : Nat → Bool} {h : Heap} : ∀ ss : List VSt, okS ss → mapO (mapO (res S h 11)) (ss.map VSt.enc) = some (ss.map VSt.enc)
  | [], _ => rfl
  | s :: ss, hs => by simp only [List.map_cons, mapO, mapO_vst s (hs s (by simp)), mapO_vsts ss (fun x hx => hs x (by simp [hx]))]
theorem mapO_prp {S : Nat → Bool} {h : Heap} (p : Prp) (hs : okX p.st) : mapO (res S h 11) p.enc = some p.enc := by
  obtain ⟨b, a, pg, r, i, s, x, run⟩ := p
  rcases hs with h | ⟨m, es, h⟩ <;> (simp only at h; subst h; rfl)
theorem mapO_prps {S : Nat → Bool} {h : Heap} : ∀ ps : List Prp, (∀ p ∈ ps, okX p.st) → mapO (mapO (res S h 11)) (ps.map Prp.enc) = some (ps.map Prp.enc)
  | [], _ => rfl
  | s :: ss, hs => by simp only [List.map_cons, mapO, mapO_prp s (hs s (by simp)), mapO_prps ss (fun x hx => hs x (by simp [hx]))]
theorem ofS_okS {nm : ByteArray} {ss : List VSt} (h : okS ss) : okS (ofS nm ss) := fun s hs => h s (List.mem_filter.1 hs).1
theorem ofS_len (nm : ByteArray) (ss : List VSt) : (ofS nm ss).length ≤ ss.length := List.length_filter_le _ _
theorem ofS_take {nm : ByteArray} {ss : List VSt} {k : Nat} (h : k < ss.length) : ofS nm (ss.take (k + 1)) = if (ss.getD k .zero).name = nm then ofS nm (ss.take k) ++ [ss.getD k .zero] else ofS nm (ss.take k) := by
  have ht : ss.take (k + 1) = ss.take k ++ [ss.getD k .zero] := by
    rw [List.take_add_one, List.getD_eq_getElem?_getD, List.getElem?_eq_getElem h]; rfl
  rw [ht]
  have e : ofS nm (ss.take k ++ [ss.getD k .zero]) = ofS nm (ss.take k) ++ ofS nm [ss.getD k .zero] := List.filter_append ..
  rw [e, ofS_cons]
  split
  · rfl
  · simp [ofS]
theorem some_ok (ss : List VSt) (nm : ByteArray) (hss : okS ss) (hl : ss.length ≤ 1000000) : PCall Try.prog 20 [vsts ss, .pp [vs nm]] (vsts (ofS nm ss)) := by
  refine PCall.of (Orc.nil _) c20_ok (by simp [c20]) fun w0 own0 => ?_
  simp only [c20, vsts, go_sem, wpR_gcall, reduceCtorEq, reduceIte, Nat.reduceEqDiff, Nat.reduceAdd, Nat.reduceSub, Nat.reduceMul, Nat.reduceLT, Nat.reduceLeDiff, Nat.reduceBEq, Int.reduceEq, Int.reduceLT, Int.reduceLE, Int.reduceAdd, Int.reduceSub, Int.reduceNeg, Int.reduceToNat]
  refine SemC.lp (α := VlS) (fun a => [(0, .slc 3 (ss.map VSt.enc)), (1, .pp [vs nm]), (4, .ref 0 a.ver 0 (ofS nm (ss.take a.k)).length), (7, .slc 3 (ss.map VSt.enc)), (8, vi ss.length), (9, vi a.k)])
    (fun a => ⟨[⟨a.ver, 3, (ofS nm (ss.take a.k)).map VSt.enc, false, [vs ⟨#[]⟩, vi 0, vnil]⟩], a.clk⟩) (fun a => a.k ≤ ss.length) (fun a => ss.length - a.k) ⟨0, 0, 1⟩ (Nat.zero_le _) (St.nil 4 3 [vs ⟨#[]⟩, vi 0, vnil] (by simp [upd_at]) (St.cut ?_ ?_ ?_)) fun a ha => ?_
  · simp [Agrees, upd_at, initE_at, ofS]
  · simp [Heap.alloc, ofS]
  · rfl
  obtain ⟨k, ver, clk⟩ := a
  simp only at ha
  by_cases hk : k = ss.length
  · subst hk
    have hm := fun S h => mapO_vsts (S := S) (h := h) (ofS nm ss) (ofS_okS hss)
    simp only [Int.lt_irrefl, List.take_length, Nat.le_refl, List.length_map, hm, go_sem, wpR_gcall, reduceCtorEq, reduceIte, Nat.reduceEqDiff, Nat.reduceAdd, Nat.reduceSub, Nat.reduceMul, Nat.reduceLT, Nat.reduceLeDiff, Nat.reduceBEq, Int.reduceEq, Int.reduceLT, Int.reduceLE, Int.reduceAdd, Int.reduceSub, Int.reduceNeg, Int.reduceToNat]
  · have e1 : (k : Int) < (ss.length : Int) := by omega
    have e0 : (0 : Int) ≤ (k : Int) := by omega
    have hg := fun z => getD_vsts ss k z (by omega)
    have hs := ofS_take (nm := nm) (ss := ss) (k := k) (by omega)
    have hxs : okX (ss.getD k .zero).x := hss _ (by rw [List.getD_eq_getElem?_getD, List.getElem?_eq_getElem (by omega)]; exact List.getElem_mem _)
    have hll := ofS_len nm (ss.take k)
    have hlt : (ss.take k).length ≤ k := by rw [List.length_take]; omega
    have htt : (ofS nm (ss.take k)).take (ofS nm (ss.take k)).length = ofS nm (ss.take k) := List.take_length
    generalize ss.getD k .zero = s at *
    obtain ⟨sn, sv, x⟩ := s
    simp only at hs hxs
    have hxx : (∃ m es, x = .slc m es) ∨ x = vnil := by rcases hxs with h | h; exact .inr h; exact .inl h
    by_cases hn : sn = nm
    · rw [if_pos hn] at hs
      subst hn
      generalize ofS sn (ss.take k) = o at *
      rcases hxx with ⟨m, es, rfl⟩ | rfl
      · simp only [e0, e1, hg, htt, VSt.enc, List.length_map, Nat.le_refl, List.take_length, go_sem, wpR_gcall, reduceCtorEq, reduceIte, Nat.reduceEqDiff, Nat.reduceAdd, Nat.reduceSub, Nat.reduceMul, Nat.reduceLT, Nat.reduceLeDiff, Nat.reduceBEq, Int.reduceEq, Int.reduceLT, Int.reduceLE, Int.reduceAdd, Int.reduceSub, Int.reduceNeg, Int.reduceToNat]
        exact ⟨by omega, by omega, ⟨k + 1, _, _⟩, by dsimp only; omega, by dsimp only; omega, ⟨⟨rfl, by dsimp only; rw [hs]; simp⟩, by dsimp only; omega⟩, ⟨rfl, by dsimp only; rw [hs]; simp [VSt.enc]⟩, rfl⟩
      · simp only [e0, e1, hg, htt, VSt.enc, List.length_map, Nat.le_refl, List.take_length, go_sem, wpR_gcall, reduceCtorEq, reduceIte, Nat.reduceEqDiff, Nat.reduceAdd, Nat.reduceSub, Nat.reduceMul, Nat.reduceLT, Nat.reduceLeDiff, Nat.reduceBEq, Int.reduceEq, Int.reduceLT, Int.reduceLE, Int.reduceAdd, Int.reduceSub, Int.reduceNeg, Int.reduceToNat]
        exact ⟨by omega, by omega, ⟨k + 1, _, _⟩, by dsimp only; omega, by dsimp only; omega, ⟨⟨rfl, by dsimp only; rw [hs]; simp⟩, by dsimp only; omega⟩, ⟨rfl, by dsimp only; rw [hs]; simp [VSt.enc]⟩, rfl⟩
    · rw [if_neg hn] at hs
      have hn := eq_false hn
      rcases hxx with ⟨m, es, rfl⟩ | rfl
      · simp only [e0, e1, hg, hn, VSt.enc, go_sem, wpR_gcall, reduceCtorEq, reduceIte, Nat.reduceEqDiff, Nat.reduceAdd, Nat.reduceSub, Nat.reduceMul, Nat.reduceLT, Nat.reduceLeDiff, Nat.reduceBEq, Int.reduceEq, Int.reduceLT, Int.reduceLE, Int.reduceAdd, Int.reduceSub, Int.reduceNeg, Int.reduceToNat]
        exact ⟨by omega, ⟨k + 1, _, _⟩, by dsimp only; omega, by dsimp only; omega, ⟨⟨rfl, by dsimp only; rw [hs]⟩, by dsimp only; omega⟩, ⟨rfl, by dsimp only; rw [hs]⟩, rfl⟩
      · simp only [e0, e1, hg, hn, VSt.enc, go_sem, wpR_gcall, reduceCtorEq, reduceIte, Nat.reduceEqDiff, Nat.reduceAdd, Nat.reduceSub, Nat.reduceMul, Nat.reduceLT, Nat.reduceLeDiff, Nat.reduceBEq, Int.reduceEq, Int.reduceLT, Int.reduceLE, Int.reduceAdd, Int.reduceSub, Int.reduceNeg, Int.reduceToNat]
        exact ⟨by omega, ⟨k + 1, _, _⟩, by dsimp only; omega, by dsimp only; omega, ⟨⟨rfl, by dsimp only; rw [hs]⟩, by dsimp only; omega⟩, ⟨rfl, by dsimp only; rw [hs]⟩, rfl⟩
def sumSome : Sum Try.prog := ⟨20, fun args => args = [vsts (dVSts (args.getD 0 .any)), .pp [vs ((((args.getD 1 .any).cs).getD 0 .any).str)]] ∧ okS (dVSts (args.getD 0 .any)) ∧ ((dVSts (args.getD 0 .any))).length ≤ 1000000, fun args => vsts (ofS ((((args.getD 1 .any).cs).getD 0 .any).str) (dVSts (args.getD 0 .any))), fun args h => by
  have := some_ok (dVSts (args.getD 0 .any)) ((((args.getD 1 .any).cs).getD 0 .any).str) h.2.1 h.2.2; rwa [← h.1] at this, false⟩
theorem sumSome_f : sumSome.f = 20 := rfl
theorem sumSome_D (args : List V) : sumSome.D args = (args = [vsts (dVSts (args.getD 0 .any)), .pp [vs ((((args.getD 1 .any).cs).getD 0 .any).str)]] ∧ okS (dVSts (args.getD 0 .any)) ∧ ((dVSts (args.getD 0 .any))).length ≤ 1000000) := rfl
theorem sumSome_flat : sumSome.flat = false := rfl
theorem sumSome_r (args : List V) : sumSome.r args = vsts (ofS ((((args.getD 1 .any).cs).getD 0 .any).str) (dVSts (args.getD 0 .any))) := rfl
attribute [go_sem] sumSome_f sumSome_D sumSome_flat sumSome_r
theorem lessP_okPs {nm : ByteArray} {ps : List Prp} (h : okPs ps) : okPs (ps.map (lessP nm)) := fun q hq => by
  obtain ⟨p, hp, rfl⟩ := List.mem_map.1 hq
  obtain ⟨⟨h1, h2, h3, h4⟩, g1, g2, g3⟩ := h p hp
  have l1 := ofS_len nm p.r
  have l2 := ofS_len nm p.i
  have l3 := ofS_len nm p.s
  exact ⟨⟨⟨ofS_okS h1.1, by dsimp only [lessP]; omega⟩, ⟨ofS_okS h2.1, by dsimp only [lessP]; omega⟩, ⟨ofS_okS h3.1, by dsimp only [lessP]; omega⟩, .inl rfl⟩, by dsimp only [lessP]; omega, by dsimp only [lessP]; omega, by dsimp only [lessP]; omega⟩
theorem vals_of {l l' : List Cnt} {nm : ByteArray} (h : ofN nm l = ofN nm l') : valsC l nm = valsC l' nm := by
  have e : ∀ l : List Cnt, valsT l nm l.length = (ofN nm l).map (·.n) := fun l => by unfold valsT ofN; rw [List.take_length]
  unfold valsC
  rw [e, e, h]
end Go.Proofs.Yteifbbinfipdlaa
