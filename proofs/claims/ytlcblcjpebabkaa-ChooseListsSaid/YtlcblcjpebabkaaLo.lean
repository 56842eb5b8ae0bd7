/- Texts in small letters. -/
import Derived.Test.YtlcblcjpebabkaaCd
import Derived.Test.YtlcblcjpebabkaaE4
import Derived.Test.YtlcblcjpebabkaaE4
namespace Go.Proofs.Ytlcblcjpebabkaa
open Go.Sx
set_option linter.unusedSimpArgs false
set_option maxHeartbeats 4000000
set_option maxRecDepth 20000

def lowC (b : UInt8) : UInt8 := if 65 ≤ b.toNat ∧ b.toNat ≤ 90 then UInt8.ofNat (b.toNat + 32) else b
def lowB (s : ByteArray) : ByteArray := ⟨⟨s.data.toList.map lowC⟩⟩
def u8c (b : UInt8) : List V := [.c (.int .u8 b.toNat)]
theorem u8_back (l : List UInt8) : (l.map u8c).map (fun e => (Go.Sx.byteOf e).getD 0) = l := by
  rw [List.map_map]
  conv => rhs; rw [← List.map_id l]
  apply List.map_congr_left
  intro b _
  simp [u8c, Go.Sx.byteOf]
theorem u8_all (l : List UInt8) : (l.map u8c).all (fun e => (Go.Sx.byteOf e).isSome) = true := by
  simp [List.all_eq_true, u8c, Go.Sx.byteOf]
theorem u8_getD (l : List UInt8) (k : Nat) (h : k < l.length) : (l.map u8c).getD k [.c (.int .u8 0)] = u8c (l.getD k 0) := by
  simp [List.getD_eq_getElem?_getD, h]
def lowAt (s : ByteArray) (k : Nat) : List UInt8 := (s.data.toList.take k).map lowC ++ s.data.toList.drop k
theorem lowAt_len (s : ByteArray) (k : Nat) : (lowAt s k).length = s.size := by
  simp only [lowAt, List.length_append, List.length_map, List.length_take, List.length_drop]
  have : s.data.toList.length = s.size := dsize s
  omega
theorem lowAt_get (s : ByteArray) (k : Nat) (h : k < s.size) : (lowAt s k).getD k 0 = s.data.toList.getD k 0 := by
  have : s.data.toList.length = s.size := dsize s
  simp only [lowAt, List.getD_eq_getElem?_getD]
  rw [List.getElem?_append_right (by simp; omega)]
  simp only [List.length_map, List.length_take, List.getElem?_drop]
  congr 2; omega
theorem lowAt_succ (s : ByteArray) (k : Nat) (h : k < s.size) : lowAt s (k + 1) = (lowAt s k).set k (lowC (s.data.toList.getD k 0)) := by
  have hl : s.data.toList.length = s.size := dsize s
  apply List.ext_getElem?
  intro i
  by_cases hi : i = k
  · subst hi
    rw [List.getElem?_set_self (by rw [lowAt_len]; exact h)]
    simp only [lowAt]
    rw [List.getElem?_append_left (by simp; omega)]
    have h' : i < s.data.size := h
    simp only [List.getElem?_map, List.getElem?_take, List.getD_eq_getElem?_getD, if_pos (Nat.lt_succ_self i), List.getElem?_eq_getElem (show i < s.data.toList.length by omega), Option.map_some, Option.getD_some]
  · rw [List.getElem?_set_ne (Ne.symm hi)]
    simp only [lowAt]
    rcases Nat.lt_or_ge i k with hlt | hge
    · rw [List.getElem?_append_left (by simp; omega), List.getElem?_append_left (by simp; omega)]
      simp only [List.getElem?_map, List.getElem?_take, if_pos hlt, if_pos (show i < k + 1 by omega)]
    · rw [List.getElem?_append_right (by simp; omega), List.getElem?_append_right (by simp; omega)]
      simp only [List.length_map, List.length_take, List.getElem?_drop]
      congr 1; omega
theorem lowAt_zero (s : ByteArray) : lowAt s 0 = s.data.toList := by simp [lowAt]
theorem lowAt_all (s : ByteArray) : (⟨⟨lowAt s s.size⟩⟩ : ByteArray) = lowB s := by
  have hl : s.data.toList.length = s.size := dsize s
  unfold lowAt lowB
  rw [List.take_of_length_le (by omega), List.drop_eq_nil_of_le (by omega), List.append_nil]
theorem wrap8 (n : Int) (h0 : 0 ≤ n) (h1 : n < 256) : IntKind.u8.wrap n = n := by
  simp [IntKind.wrap, IntKind.bits, IntKind.signed]; omega
theorem u8_map (l : List UInt8) : (l.map fun b => [V.c (.int .u8 b.toNat)]) = l.map u8c := rfl
structure LoS where
  k : Nat
  ver : Nat
  clk : Nat
theorem lowTo_succ (s : ByteArray) (k : Nat) (h : k < s.size) : (s.data.toList.take (k + 1)).map lowC = (s.data.toList.take k).map lowC ++ [lowC (s.data.toList.getD k 0)] := by
  have hl : s.data.toList.length = s.size := dsize s
  rw [List.take_add_one, List.map_append, List.getD_eq_getElem?_getD, List.getElem?_eq_getElem (by omega)]; rfl
end Go.Proofs.Ytlcblcjpebabkaa
