/- Layer 19: the numbers of the counters of a name; the law. -/
import Derived.Test.YteifbbinfipdlaaK19b
import Derived.Test.YteifbbinfipdlaaAw
import Derived.Test.YteifbbinfipdlaaGc
namespace Go.Proofs.Yteifbbinfipdlaa
open Go.Sx
set_option linter.unusedSimpArgs false
set_option maxHeartbeats 4000000
set_option maxRecDepth 20000

def sumAw19 : Sum Try.prog := ⟨9, fun args => args = [], fun args => vb true, fun args h => by
  have := awake_ok; rwa [← h] at this, true⟩
theorem sumAw19_f : sumAw19.f = 9 := rfl
theorem sumAw19_D (args : List V) : sumAw19.D args = (args = []) := rfl
theorem sumAw19_flat : sumAw19.flat = true := rfl
theorem sumAw19_r (args : List V) : sumAw19.r args = vb true := rfl
attribute [go_sem] sumAw19_f sumAw19_D sumAw19_flat sumAw19_r
structure VlS where
  k : Nat
  ver : Nat
  clk : Nat
theorem take_cnt (l : List Cnt) (n : Nat) (h : n < l.length) : l.take (n + 1) = l.take n ++ [l.getD n .zero] := by
  rw [List.take_add_one, List.getD_eq_getElem?_getD, List.getElem?_eq_getElem h]; rfl
end Go.Proofs.Yteifbbinfipdlaa
