/- Names: what the laws share (a smaller text for a claim that would be too long). -/
import Derived.Test.YtdeleamdjakooaaN13m
namespace Go.Proofs.Ytdeleamdjakooaa
open Go.Sx
set_option linter.unusedSimpArgs false
set_option maxHeartbeats 4000000

theorem inV_at {d : Doc} {i : Nat} (hi : i < (inV d).length) : rightB d = true ∧ ∃ m : Nat, (inV d).getD i 0 = m ∧ m < d.l.length ∧ isN d m = true := by
  unfold inV at hi ⊢
  by_cases hr : rightB d = true
  · rw [if_pos hr] at hi ⊢
    have hm : (inL d)[i] ∈ inL d := List.getElem_mem _
    obtain ⟨m, a, b, c⟩ := selTo_mem.1 hm
    exact ⟨hr, m, by rw [List.getD_eq_getElem?_getD, List.getElem?_eq_getElem hi]; exact a, b, c⟩
  · rw [if_neg hr] at hi; simp at hi
theorem kdV_at {d : Doc} (hr : rightB d = true) {m : Nat} (hm : m < d.l.length) (hi : isN d m = true) : kdV d m = kids d m := by
  unfold kdV; rw [thV_at hr hm, if_pos hi, Int.toNat_natCast]
theorem usedV_at {d : Doc} (hr : rightB d = true) {m : Nat} (hm : m < d.l.length) (hi : isN d m = true) : usedV d m = usedN d m := by
  unfold usedV; rw [thV_at hr hm, if_pos hi, Int.toNat_natCast]
theorem nmF_at {d : Doc} (hr : rightB d = true) {m : Nat} (hm : m < d.l.length) (hi : isN d m = true) : nmF d m = usedN d (dwN d wF m) := by
  unfold nmF; rw [thV_at hr hm, if_pos hi, Int.toNat_natCast]
theorem nmL_at {d : Doc} (hr : rightB d = true) {m : Nat} (hm : m < d.l.length) (hi : isN d m = true) : nmL d m = usedN d (dwN d wL m) := by
  unfold nmL; rw [thV_at hr hm, if_pos hi, Int.toNat_natCast]
theorem mapO_strs10 (S : Nat → Bool) (h : Heap) (l : List ByteArray) : mapO (mapO (res S h 10)) (l.map fun n => [vs n]) = some (l.map fun n => [vs n]) := mapO_flat S h 9 _ (fun _ => rfl) l
theorem setS (l : List ByteArray) (k : Nat) (s : ByteArray) : (l.map fun s => [vs s]).set k [V.c (.string s)] = (l.set k s).map fun s => [vs s] := by rw [List.map_set]
end Go.Proofs.Ytdeleamdjakooaa
