/- Children in flow: the calls that give and turn the caller's memory. -/
import Derived.Test.YtdcdhnohbadenaaN13e
namespace Go.Proofs.Ytdcdhnohbadenaa
open Go.Sx
set_option linter.unusedSimpArgs false
set_option maxHeartbeats 4000000
set_option maxRecDepth 20000

/-- The children, as new memory behind what the caller has. -/
def chM (l : List Node) (k : Nat) : Nat := (kidsTo l k true l.length).length
theorem children_call (B0 : Blk) (l : List Node) (k : Nat) (hl : l.length ≤ 1000) (hd : isDoc l) (hk : k < l.length) :
    CallOK Try.prog 82 [nodes l, vi k, .fn 83 []] ⟨[B0], 1⟩ (.ref 1 (2 * chM l k + 1) 0 (chM l k)) ⟨[B0, ⟨2 * chM l k + 1, 1, (kidsTo l k true l.length).map fun n => [vi n], false, [vi 0]⟩], 2 * chM l k + 2⟩ := by
  refine CallOK.walk (Orc.cons sumIs (Orc.cons sumEndT (Orc.cons sumAll1 (Orc.nil _)))) c82_ok (by simp [c82]) fun w0 own0 => ?_
  have hi : isB l k = true := (isB_iff l k).2 ⟨hd, by omega, by omega⟩
  simp only [c82, nodes, dNodes_map, hi, sumIs_f, sumIs_D, sumIs_flat, sumIs_r, go_sem, wpR_gcall, reduceCtorEq, reduceIte, Nat.reduceEqDiff, Nat.reduceAdd, Nat.reduceSub, Nat.reduceMul, Nat.reduceLT, Nat.reduceLeDiff, Nat.reduceBEq, Int.reduceEq, Int.reduceLT, Int.reduceLE, Int.reduceAdd, Int.reduceSub, Int.reduceNeg, Int.reduceToNat]
  have hs := endN_spec l k hk
  have hd' := hd.2
  refine ⟨hl, by omega, ?_⟩
  refine SemC.lp (α := Nat) (fun a => [(0, .slc 6 (l.map Node.enc)), (1, vi k), (2, .fn 83 []), (7, .ref 1 (2 * (kidsTo l k true a).length + 1) 0 (kidsTo l k true a).length), (8, vi a)])
    (fun a => ⟨[B0, ⟨2 * (kidsTo l k true a).length + 1, 1, (kidsTo l k true a).map fun n => [vi n], false, [vi 0]⟩], 2 * (kidsTo l k true a).length + 2⟩)
    (fun a => k < a ∧ a ≤ endN l k ∧ (a < endN l k → par l a = k)) (fun a => l.length - a) (k + 1) ⟨by omega, by omega, fun h => first_child l hd' k hk h⟩
    (St.nil 7 1 [vi 0] (by simp [upd_at]) (St.cut ?_ ?_ ?_)) fun n ha => ?_
  · simp [Agrees, upd_at, initE_at, kids_first l hd' k hk true]
  · simp [Heap.alloc, kids_first l hd' k hk true]
  · simp [kids_first l hd' k hk true, Heap.alloc]
  obtain ⟨h1, h2, h3⟩ := ha
  have hlen := kids_len l k true n
  by_cases hne : n = endN l k
  · subst hne
    have hkl := kids_last l hd' k hk true
    simp only [hs.1, Int.lt_irrefl, nodes, dNodes_map, chM, hkl, List.take_length, Nat.le_refl, sumIs_f, sumIs_D, sumIs_flat, sumIs_r, sumEndT_f, sumEndT_D, sumEndT_flat, sumEndT_r, sumAll1_f, sumAll1_D, sumAll1_flat, sumAll1_r, go_sem, wpR_gcall, reduceCtorEq, reduceIte, Nat.reduceEqDiff, Nat.reduceAdd, Nat.reduceSub, Nat.reduceMul, Nat.reduceLT, Nat.reduceLeDiff, Nat.reduceBEq, Int.reduceEq, Int.reduceLT, Int.reduceLE, Int.reduceAdd, Int.reduceSub, Int.reduceNeg, Int.reduceToNat]
    exact ⟨by omega, by omega, by omega⟩
  · have hn : n < l.length := by omega
    have hsn := endN_spec l n hn
    have hw := end_within l k n hn h1 (by omega)
    have e1 : (n : Int) < (endN l k : Int) := by omega
    have hpn := h3 (by omega)
    have hg := getD_nodes l n [.c (.int .i64 0), .c (.string ⟨#[]⟩), .c (.string ⟨#[]⟩), .c (.slice none 0 0), .c (.slice none 0 0), .c (.string ⟨#[]⟩)] hn
    have hkn := kids_next l k n hn h1 true
    have hnx : endN l n < endN l k → par l (endN l n) = k := next_child l hd' k n hn h1 hpn
    have hED : endD l k := ⟨by omega, by omega, by omega⟩
    have hEDn : endD l n := ⟨by omega, by omega, by omega⟩
    have e2 : kidsTo l k true (endN l n) = kidsTo l k true n ++ [(n : Int)] := by
      rw [hkn, kidsTo, if_pos (by simp [kidB, hpn])]
    simp only [hs.1, hsn.1, e1, hg, hED, hEDn, Node.enc, dNode_mk, nodes, dNodes_map, List.take_length, Nat.le_refl, sumIs_f, sumIs_D, sumIs_flat, sumIs_r, sumEndT_f, sumEndT_D, sumEndT_flat, sumEndT_r, sumAll1_f, sumAll1_D, sumAll1_flat, sumAll1_r, go_sem, wpR_gcall, reduceCtorEq, reduceIte, Nat.reduceEqDiff, Nat.reduceAdd, Nat.reduceSub, Nat.reduceMul, Nat.reduceLT, Nat.reduceLeDiff, Nat.reduceBEq, Int.reduceEq, Int.reduceLT, Int.reduceLE, Int.reduceAdd, Int.reduceSub, Int.reduceNeg, Int.reduceToNat]
    exact ⟨by omega, by omega, endN l n, ⟨by omega, by omega, hnx⟩, by omega, ⟨⟨by rw [e2]; simp; omega, by rw [e2]; simp⟩, rfl⟩, ⟨by rw [e2]; simp; omega, by rw [e2]; simp⟩, by rw [e2]; simp; omega⟩
/-- The heap that a flow's children are gathered in. -/
def chP (args : List V) (h : Heap) (xs : List V) : Prop := ∃ (B0 : Blk) (l : List Node) (k : Nat), args = nodes l :: vi k :: xs ∧ h = ⟨[B0], 1⟩ ∧ l.length ≤ 1000 ∧ isDoc l ∧ k < l.length
def chV (args : List V) : V := .ref 1 (2 * chM (dNodes (args.getD 0 .any)) ((args.getD 1 .any).int).toNat + 1) 0 (chM (dNodes (args.getD 0 .any)) ((args.getD 1 .any).int).toNat)
def chH (args : List V) (h : Heap) : Heap := ⟨h.bs ++ [⟨2 * chM (dNodes (args.getD 0 .any)) ((args.getD 1 .any).int).toNat + 1, 1, (kidsTo (dNodes (args.getD 0 .any)) ((args.getD 1 .any).int).toNat true (dNodes (args.getD 0 .any)).length).map fun n => [vi n], false, [vi 0]⟩], 2 * chM (dNodes (args.getD 0 .any)) ((args.getD 1 .any).int).toNat + 2⟩
theorem chV_at (l : List Node) (k : Nat) (xs : List V) : chV (nodes l :: vi k :: xs) = .ref 1 (2 * chM l k + 1) 0 (chM l k) := by
  simp [chV, dNodes_nodes, V.int]
theorem chH_at (l : List Node) (k : Nat) (xs : List V) (B0 : Blk) (c : Nat) : chH (nodes l :: vi k :: xs) ⟨[B0], c⟩ = ⟨[B0, ⟨2 * chM l k + 1, 1, (kidsTo l k true l.length).map fun n => [vi n], false, [vi 0]⟩], 2 * chM l k + 2⟩ := by
  simp [chH, dNodes_nodes, V.int]
theorem chV_at' (l : List Node) (k : Nat) (xs : List V) : chV (.slc 6 (l.map Node.enc) :: .c (.int .i64 k) :: xs) = .ref 1 (2 * chM l k + 1) 0 (chM l k) := chV_at l k xs
theorem chH_at' (l : List Node) (k : Nat) (xs : List V) (B0 : Blk) (c : Nat) : chH (.slc 6 (l.map Node.enc) :: .c (.int .i64 k) :: xs) ⟨[B0], c⟩ = ⟨[B0, ⟨2 * chM l k + 1, 1, (kidsTo l k true l.length).map fun n => [vi n], false, [vi 0]⟩], 2 * chM l k + 2⟩ := chH_at l k xs B0 c
def sumChE : ESum Try.prog := ⟨82, fun args h => chP args h [.fn 83 []], fun args _ => chV args, chH, fun args h hp => by
  obtain ⟨B0, l, k, rfl, rfl, h1, h2, h3⟩ := hp
  rw [chV_at, chH_at]; exact children_call B0 l k h1 h2 h3⟩
theorem Children_call (B0 : Blk) (l : List Node) (k : Nat) (hl : l.length ≤ 1000) (hd : isDoc l) (hk : k < l.length) :
    CallOK Try.prog 73 [nodes l, vi k] ⟨[B0], 1⟩ (.ref 1 (2 * chM l k + 1) 0 (chM l k)) ⟨[B0, ⟨2 * chM l k + 1, 1, (kidsTo l k true l.length).map fun n => [vi n], false, [vi 0]⟩], 2 * chM l k + 2⟩ := by
  refine CallOK.walk (Orc.econs sumChE (Orc.nil _)) c73_ok (by simp [c73]) fun w0 own0 => ?_
  have hp : chP [.slc 6 (l.map Node.enc), .c (.int .i64 k), .fn 83 []] ⟨[B0], 1⟩ [.fn 83 []] := ⟨B0, l, k, rfl, rfl, hl, hd, hk⟩
  have e1 : sumChE.f = 82 := rfl
  have e2 : ∀ args h, sumChE.pre args h = chP args h [.fn 83 []] := fun _ _ => rfl
  have e3 : ∀ args h, sumChE.v args h = chV args := fun _ _ => rfl
  have e4 : ∀ args h, sumChE.hp args h = chH args h := fun _ _ => rfl
  simp only [c73, nodes, Orc.flat_econs, Orc.pre_econs, Orc.v_econs, Orc.hp_econs, Orc.qpre_econs, Orc.qv_econs, e1, e2, e3, e4, hp, chV_at', chH_at', go_sem, wpR_gcall, reduceCtorEq, reduceIte, Nat.reduceEqDiff, Nat.reduceAdd, Nat.reduceSub, Nat.reduceMul, Nat.reduceLT, Nat.reduceLeDiff, Nat.reduceBEq, Int.reduceEq, Int.reduceLT, Int.reduceLE, Int.reduceAdd, Int.reduceSub, Int.reduceNeg, Int.reduceToNat]
def sumChildrenE : ESum Try.prog := ⟨73, fun args h => chP args h [], fun args _ => chV args, chH, fun args h hp => by
  obtain ⟨B0, l, k, rfl, rfl, h1, h2, h3⟩ := hp
  rw [chV_at, chH_at]; exact Children_call B0 l k h1 h2 h3⟩
end Go.Proofs.Ytdcdhnohbadenaa
