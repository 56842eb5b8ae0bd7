/- Layer 10: which weight is above which. -/
import Derived.Test.YtlcblcjpebabkaaM10e
namespace Go.Proofs.Ytlcblcjpebabkaa
open Go.Sx
set_option linter.unusedSimpArgs false
set_option maxHeartbeats 4000000
set_option maxRecDepth 20000

def cmpI (a b : Int) : Int := if a < b then -1 else if b < a then 1 else 0
def cmpL : List Int → List Int → Int
  | [], [] => 0
  | [], _ :: _ => -1
  | _ :: _, [] => 1
  | x :: a, y :: b => if cmpI x y = 0 then cmpL a b else cmpI x y
theorem cmpL_cons (x y : Int) (a b : List Int) : cmpL (x :: a) (y :: b) = if cmpI x y = 0 then cmpL a b else cmpI x y := rfl
theorem drop_cons10 (l : List Int) (n : Nat) (h : n < l.length) : l.drop n = l.getD n 0 :: l.drop (n + 1) := by
  rw [List.drop_eq_getElem_cons h, List.getD_eq_getElem?_getD, List.getElem?_eq_getElem h]; rfl
structure W3 where
  a : Int
  b : Int
  c : Int
def W3.enc (w : W3) : List V := [vi w.a, vi w.b, vi w.c]
def abv (x y : W3) : Bool := decide (0 < cmpL [x.a, x.b, x.c] [y.a, y.b, y.c])
theorem dInts3 (a b c : Int) : dInts (.slc 1 [[.c (.int .i64 a)], [.c (.int .i64 b)], [.c (.int .i64 c)]]) = [a, b, c] := dInts_map 1 [a, b, c]
def dW3 (v : V) : W3 := ⟨(v.cs.getD 0 .any).int, (v.cs.getD 1 .any).int, (v.cs.getD 2 .any).int⟩
theorem dW3_mk (a b c : Int) : dW3 (.agg [.c (.int .i64 a), .c (.int .i64 b), .c (.int .i64 c)]) = ⟨a, b, c⟩ := rfl
theorem abv_iff (x y : W3) : abv x y = true ↔ (y.a < x.a ∨ (x.a = y.a ∧ (y.b < x.b ∨ (x.b = y.b ∧ y.c < x.c)))) := by
  unfold abv
  rw [decide_eq_true_eq, cmpL_cons, cmpL_cons, cmpL_cons]
  show 0 < (if cmpI x.a y.a = 0 then if cmpI x.b y.b = 0 then if cmpI x.c y.c = 0 then 0 else cmpI x.c y.c else cmpI x.b y.b else cmpI x.a y.a) ↔ _
  unfold cmpI
  split <;> split <;> (try split) <;> (try split) <;> (try split) <;> (try split) <;> (try split) <;> (try split) <;> (try split) <;> omega
end Go.Proofs.Ytlcblcjpebabkaa
