/- Layer 19: counters of other names: the plain law, and the steps of a name. -/
import Derived.Test.YteifbbinfipdlaaK19k
namespace Go.Proofs.Yteifbbinfipdlaa
open Go.Sx
set_option linter.unusedSimpArgs false
set_option linter.unusedVariables false
set_option maxHeartbeats 4000000
set_option maxRecDepth 20000

theorem set_mid (a : List Cnt) (c x : Cnt) (b : List Cnt) : (a ++ c :: b).set a.length x = a ++ x :: b := by
  rw [List.set_append_right _ _ (Nat.le_refl _), Nat.sub_self]; rfl
theorem getD_mid (a : List Cnt) (c : Cnt) (b : List Cnt) : (a ++ c :: b).getD a.length .zero = c := by
  rw [List.getD_eq_getElem?_getD, List.getElem?_append_right (Nat.le_refl _), Nat.sub_self]; rfl
theorem rst_no {d : Doc} {k : Int} {l : List Cnt} {nm : ByteArray} (h : lastC l nm = -1) (n : Int) : rstC d k l nm n = l ++ [⟨nm, stopI n, k⟩] := (rstC_neg d k l nm n (by omega)).2
theorem chg_at {F : Int → Int → Int} {d : Doc} {k : Int} {a b : List Cnt} {c : Cnt} {s : VSt} (h : lastC (a ++ c :: b) s.name = (a.length : Int)) :
    chg1 F d k (a ++ c :: b) s = a ++ ⟨c.name, F c.n s.n, c.maker⟩ :: b := by
  have e : chgL d k (a ++ c :: b) s.name = a ++ c :: b := by unfold chgL; rw [if_neg (by omega)]
  unfold chg1
  rw [e, h, Int.toNat_natCast, getD_mid, set_mid]
theorem chg_no {F : Int → Int → Int} {d : Doc} {k : Int} {l : List Cnt} {s : VSt} (h : lastC l s.name = -1) :
    chg1 F d k l s = l ++ [⟨s.name, F (stopI 0) s.n, k⟩] := by
  have e : chgL d k l s.name = l ++ [⟨s.name, stopI 0, k⟩] := by unfold chgL; rw [if_pos (by omega), rst_no h]
  unfold chg1
  rw [e, lastC_app l ⟨s.name, stopI 0, k⟩, Int.toNat_natCast, getD_mid l _ [], set_mid l _ _ []]
end Go.Proofs.Yteifbbinfipdlaa
