/- Texts in small letters. -/
import Derived.Test.YtilinnmancfjgaaGreatDoorCd
import Derived.Test.YtilinnmancfjgaaGreatDoorE4
import Derived.Test.YtilinnmancfjgaaGreatDoorE4
namespace Go.Proofs.YtilinnmancfjgaaGreatDoor
open Go.Sx
set_option linter.unusedSimpArgs false
set_option maxHeartbeats 4000000
set_option maxRecDepth 20000

def lowC (b : UInt8) : UInt8 := if 65 ≤ b.toNat ∧ b.toNat ≤ 90 then UInt8.ofNat (b.toNat + 32) else b
def lowB (s : ByteArray) : ByteArray := ⟨⟨s.data.toList.map lowC⟩⟩
def u8c (b : UInt8) : List V := [.c (.int .u8 b.toNat)]
theorem u8_back (l : List UInt8) : (l.map u8c).map (fun e => (Go.Sx.byteOf e).getD 0) = l := by
  rw [List.map_map]
  conv => rhs; rw [← List.map_id l]
  apply List.map_congr_left
  intro b _
  simp [u8c, Go.Sx.byteOf]
theorem u8_all (l : List UInt8) : (l.map u8c).all (fun e => (Go.Sx.byteOf e).isSome) = true := by
  simp [List.all_eq_true, u8c, Go.Sx.byteOf]
theorem u8_getD (l : List UInt8) (k : Nat) (h : k < l.length) : (l.map u8c).getD k [.c (.int .u8 0)] = u8c (l.getD k 0) := by
  simp [List.getD_eq_getElem?_getD, h]
def lowAt (s : ByteArray) (k : Nat) : List UInt8 := (s.data.toList.take k).map lowC ++ s.data.toList.drop k
theorem lowAt_len (s : ByteArray) (k : Nat) : (lowAt s k).length = s.size := by
  simp only [lowAt, List.length_append, List.length_map, List.length_take, List.length_drop]
  have : s.data.toList.length = s.size := dsize s
  omega
theorem lowAt_get (s : ByteArray) (k : Nat) (h : k < s.size) : (lowAt s k).getD k 0 = s.data.toList.getD k 0 := by
  have : s.data.toList.length = s.size := dsize s
  simp only [lowAt, List.getD_eq_getElem?_getD]
  rw [List.getElem?_append_right (by simp; omega)]
  simp only [List.length_map, List.length_take, List.getElem?_drop]
  congr 2; omega
theorem lowAt_succ (s : ByteArray) (k : Nat) (h : k < s.size) : lowAt s (k + 1) = (lowAt s k).set k (lowC (s.data.toList.getD k 0)) := by
  have hl : s.data.toList.length = s.size := dsize s
  apply List.ext_getElem?
  intro i
  by_cases hi : i = k
  · subst hi
    rw [List.getElem?_set_self (by rw [lowAt_len]; exact h)]
    simp only [lowAt]
    rw [List.getElem?_append_left (by simp; omega)]
    have h' : i < s.data.size := h
    simp only [List.getElem?_map, List.getElem?_take, List.getD_eq_getElem?_getD, if_pos (Nat.lt_succ_self i), List.getElem?_eq_getElem (show i < s.data.toList.length by omega), Option.map_some, Option.getD_some]
  · rw [List.getElem?_set_ne (Ne.symm hi)]
    simp only [lowAt]
    rcases Nat.lt_or_ge i k with hlt | hge
    · rw [List.getElem?_append_left (by simp; omega), List.getElem?_append_left (by simp; omega)]
      simp only [List.getElem?_map, List.getElem?_take, if_pos hlt, if_pos (show i < k + 1 by omega)]
    · rw [List.getElem?_append_right (by simp; omega), List.getElem?_append_right (by simp; omega)]
      simp only [List.length_map, List.length_take, List.getElem?_drop]
      congr 1; omega
theorem lowAt_zero (s : ByteArray) : lowAt s 0 = s.data.toList := by simp [lowAt]
theorem lowAt_all (s : ByteArray) : (⟨⟨lowAt s s.size⟩⟩ : ByteArray) = lowB s := by
  have hl : s.data.toList.length = s.size := dsize s
  unfold lowAt lowB
  rw [List.take_of_length_le (by omega), List.drop_eq_nil_of_le (by omega), List.append_nil]
theorem wrap8 (n : Int) (h0 : 0 ≤ n) (h1 : n < 256) : IntKind.u8.wrap n = n := by
  simp [IntKind.wrap, IntKind.bits, IntKind.signed]; omega
theorem u8_map (l : List UInt8) : (l.map fun b => [V.c (.int .u8 b.toNat)]) = l.map u8c := rfl
theorem lower_ok (s : ByteArray) (hs : s.size ≤ 1000000) : PCall Tryz.prog 32 [vs s] (vs (lowB s)) := by
  refine PCall.of (Orc.nil _) c32_ok (by simp [c32]) fun w0 own0 => ?_
  have hl : s.data.toList.length = s.size := dsize s
  simp only [c32, hl, u8_map, go_sem, wpR_gcall, reduceCtorEq, reduceIte, Nat.reduceEqDiff, Nat.reduceAdd, Nat.reduceSub, Nat.reduceMul, Nat.reduceLT, Nat.reduceLeDiff, Nat.reduceBEq, Int.reduceEq, Int.reduceLT, Int.reduceLE, Int.reduceAdd, Int.reduceSub, Int.reduceNeg, Int.reduceToNat]
  refine ⟨by omega, ?_⟩
  refine SemC.lp (α := Nat) (fun k => [(3, .ref 0 0 0 s.size), (8, .ref 0 0 0 s.size), (9, vi s.size), (10, vi k)]) (fun k => ⟨[⟨0, 1, (lowAt s k).map u8c, false, [.c (.int .u8 0)]⟩], 1⟩) (fun k => k ≤ s.size) (fun k => s.size - k) 0 (Nat.zero_le _) (St.mk (by simp [Agrees, upd_at, initE_at, lowAt_zero])) fun k hk => ?_
  by_cases he : k = s.size
  · subst he
    have ht : ((lowAt s s.size).map u8c).take s.size = (lowAt s s.size).map u8c := List.take_of_length_le (by simp [lowAt_len])
    simp only [Int.lt_irrefl, ht, u8_back, u8_all, lowAt_all, lowAt_len, Nat.le_refl, go_sem, wpR_gcall, reduceCtorEq, reduceIte, Nat.reduceEqDiff, Nat.reduceAdd, Nat.reduceSub, Nat.reduceMul, Nat.reduceLT, Nat.reduceLeDiff, Nat.reduceBEq, Int.reduceEq, Int.reduceLT, Int.reduceLE, Int.reduceAdd, Int.reduceSub, Int.reduceNeg, Int.reduceToNat]
  · have e1 : (k : Int) < (s.size : Int) := by omega
    have e0 : (0 : Int) ≤ (k : Int) := by omega
    have hlt : k < s.size := by omega
    have hg := u8_getD (lowAt s k) k (by rw [lowAt_len]; exact hlt)
    rw [lowAt_get s k hlt] at hg
    have hsu := lowAt_succ s k hlt
    generalize hb : s.data.toList.getD k 0 = b at *
    have hb256 : b.toNat < 256 := b.toNat_lt
    simp only [e0, e1, hg, u8c, lowAt_len, go_sem, wpR_gcall, reduceCtorEq, reduceIte, Nat.reduceEqDiff, Nat.reduceAdd, Nat.reduceSub, Nat.reduceMul, Nat.reduceLT, Nat.reduceLeDiff, Nat.reduceBEq, Int.reduceEq, Int.reduceLT, Int.reduceLE, Int.reduceAdd, Int.reduceSub, Int.reduceNeg, Int.reduceToNat]
    have hlow : (65 ≤ (b.toNat : Int) ∧ (b.toNat : Int) ≤ 90) ↔ (65 ≤ b.toNat ∧ b.toNat ≤ 90) := by omega
    refine ⟨hlt, fun hc => ⟨hlt, by omega, k + 1, by omega, by omega, by omega, ?_⟩, fun hc => ⟨by omega, k + 1, by omega, by omega, by omega, ?_⟩⟩
    · rw [hsu, List.map_set, lowC, if_pos (hlow.1 hc)]
      have h1 : IntKind.u8.wrap ((b.toNat : Int) + 32) = (b.toNat : Int) + 32 := wrap8 _ (by omega) (by omega)
      have h2 : (UInt8.ofNat (b.toNat + 32)).toNat = b.toNat + 32 := by simp; omega
      have h3 : u8c (UInt8.ofNat (b.toNat + 32)) = [V.c (Value.int IntKind.u8 (IntKind.u8.wrap ((b.toNat : Int) + 32)))] := by
        unfold u8c; rw [h1, h2, Int.natCast_add]; rfl
      rw [h3]
    · rw [hsu, lowC, if_neg (by omega), ← hb, ← lowAt_get s k hlt]
      congr 1
      apply List.ext_getElem?
      intro i
      by_cases hi : i = k
      · subst hi
        rw [List.getElem?_set_self (by rw [lowAt_len]; exact hlt), List.getD_eq_getElem?_getD, List.getElem?_eq_getElem (by rw [lowAt_len]; exact hlt)]; rfl
      · rw [List.getElem?_set_ne (Ne.symm hi)]
def sumLow : Sum Tryz.prog := ⟨32, fun args => args = [vs ((args.getD 0 .any).str)] ∧ (((args.getD 0 .any).str)).size ≤ 1000000, fun args => vs (lowB ((args.getD 0 .any).str)), fun args h => by
  have := lower_ok ((args.getD 0 .any).str) h.2; rwa [← h.1] at this, true⟩
theorem sumLow_f : sumLow.f = 32 := rfl
theorem sumLow_D (args : List V) : sumLow.D args = (args = [vs ((args.getD 0 .any).str)] ∧ (((args.getD 0 .any).str)).size ≤ 1000000) := rfl
theorem sumLow_flat : sumLow.flat = true := rfl
theorem sumLow_r (args : List V) : sumLow.r args = vs (lowB ((args.getD 0 .any).str)) := rfl
attribute [go_sem] sumLow_f sumLow_D sumLow_flat sumLow_r
structure LoS where
  k : Nat
  ver : Nat
  clk : Nat
theorem lowTo_succ (s : ByteArray) (k : Nat) (h : k < s.size) : (s.data.toList.take (k + 1)).map lowC = (s.data.toList.take k).map lowC ++ [lowC (s.data.toList.getD k 0)] := by
  have hl : s.data.toList.length = s.size := dsize s
  rw [List.take_add_one, List.map_append, List.getD_eq_getElem?_getD, List.getElem?_eq_getElem (by omega)]; rfl
theorem lowerR_ok (s : ByteArray) (hs : s.size ≤ 1000000) : PCall Tryz.prog 17 [vs s] (vs (lowB s)) := by
  refine PCall.of (Orc.nil _) c17_ok (by simp [c17]) fun w0 own0 => ?_
  have hl : s.data.toList.length = s.size := dsize s
  simp only [c17, go_sem, wpR_gcall, reduceCtorEq, reduceIte, Nat.reduceEqDiff, Nat.reduceAdd, Nat.reduceSub, Nat.reduceMul, Nat.reduceLT, Nat.reduceLeDiff, Nat.reduceBEq, Int.reduceEq, Int.reduceLT, Int.reduceLE, Int.reduceAdd, Int.reduceSub, Int.reduceNeg, Int.reduceToNat]
  refine SemC.lp (α := LoS) (fun a => [(0, vs s), (3, .ref 0 a.ver 0 a.k), (4, vi a.k)]) (fun a => ⟨[⟨a.ver, 1, ((s.data.toList.take a.k).map lowC).map u8c, false, [.c (.int .u8 0)]⟩], a.clk⟩) (fun a => a.k ≤ s.size) (fun a => s.size - a.k) ⟨0, 0, 1⟩ (Nat.zero_le _)
    (St.nil 3 1 [.c (.int .u8 0)] (by simp [upd_at]) (St.mk (by simp [Agrees, upd_at, initE_at]))) fun a hk => ?_
  obtain ⟨k, ver, clk⟩ := a
  simp only at hk
  have htl : ((s.data.toList.take k).map lowC).length = k := by rw [List.length_map, List.length_take]; omega
  have htk : ∀ l : List (List V), l.length = k → l.take k = l := fun l hh => List.take_of_length_le (by omega)
  by_cases he : k = s.size
  · subst he
    have ht := htk (((s.data.toList.take s.size).map lowC).map u8c) (by simp)
    simp only [Int.lt_irrefl, ht, u8_back, u8_all, htl, Nat.le_refl, go_sem, wpR_gcall, reduceCtorEq, reduceIte, Nat.reduceEqDiff, Nat.reduceAdd, Nat.reduceSub, Nat.reduceMul, Nat.reduceLT, Nat.reduceLeDiff, Nat.reduceBEq, Int.reduceEq, Int.reduceLT, Int.reduceLE, Int.reduceAdd, Int.reduceSub, Int.reduceNeg, Int.reduceToNat]
    rw [List.take_of_length_le (by omega)]; rfl
  · have e1 : (k : Int) < (s.size : Int) := by omega
    have e0 : (0 : Int) ≤ (k : Int) := by omega
    have hlt : k < s.size := by omega
    have hsu := lowTo_succ s k hlt
    simp only [e0, e1, htl, go_sem, wpR_gcall, reduceCtorEq, reduceIte, Nat.reduceEqDiff, Nat.reduceAdd, Nat.reduceSub, Nat.reduceMul, Nat.reduceLT, Nat.reduceLeDiff, Nat.reduceBEq, Int.reduceEq, Int.reduceLT, Int.reduceLE, Int.reduceAdd, Int.reduceSub, Int.reduceNeg, Int.reduceToNat]
    generalize hb : s.data.toList.getD k 0 = b at *
    have hb256 : b.toNat < 256 := b.toNat_lt
    have hm : (s.data.toList.take k).take k = s.data.toList.take k := List.take_of_length_le (by rw [List.length_take]; omega)
    refine ⟨fun hc => ⟨⟨by omega, by omega, by omega⟩, by omega, ⟨k + 1, clk + 1, clk + 2⟩, by dsimp only; omega, by dsimp only; omega, ⟨⟨rfl, rfl⟩, by dsimp only; omega⟩, ⟨rfl, ?_⟩, rfl⟩, fun hc => ⟨⟨by omega, by omega, by omega⟩, by omega, ⟨k + 1, clk + 1, clk + 2⟩, by dsimp only; omega, by dsimp only; omega, ⟨⟨rfl, rfl⟩, by dsimp only; omega⟩, ⟨rfl, ?_⟩, rfl⟩⟩
    · dsimp only
      rw [hsu, hm, List.map_append, lowC, if_pos (by omega)]
      have h1 : IntKind.u8.wrap ((b.toNat : Int) + 32) = (b.toNat : Int) + 32 := wrap8 _ (by omega) (by omega)
      have h2 : (UInt8.ofNat (b.toNat + 32)).toNat = b.toNat + 32 := by simp; omega
      simp only [u8c, h1, h2, Int.natCast_add, List.map_cons, List.map_nil]
      rfl
    · dsimp only
      rw [hsu, hm, List.map_append, lowC, if_neg (by omega)]
      rfl
def sumLowR : Sum Tryz.prog := ⟨17, fun args => args = [vs ((args.getD 0 .any).str)] ∧ (((args.getD 0 .any).str)).size ≤ 1000000, fun args => vs (lowB ((args.getD 0 .any).str)), fun args h => by
  have := lowerR_ok ((args.getD 0 .any).str) h.2; rwa [← h.1] at this, true⟩
theorem sumLowR_f : sumLowR.f = 17 := rfl
theorem sumLowR_D (args : List V) : sumLowR.D args = (args = [vs ((args.getD 0 .any).str)] ∧ (((args.getD 0 .any).str)).size ≤ 1000000) := rfl
theorem sumLowR_flat : sumLowR.flat = true := rfl
theorem sumLowR_r (args : List V) : sumLowR.r args = vs (lowB ((args.getD 0 .any).str)) := rfl
attribute [go_sem] sumLowR_f sumLowR_D sumLowR_flat sumLowR_r
end Go.Proofs.YtilinnmancfjgaaGreatDoor
