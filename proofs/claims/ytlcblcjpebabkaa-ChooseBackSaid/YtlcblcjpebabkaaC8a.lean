/- The law of layer 8: what selectors weigh. -/
import Derived.Test.YtlcblcjpebabkaaM10o
import Derived.Test.YtlcblcjpebabkaaAw
import Derived.Test.YtlcblcjpebabkaaCe
namespace Go.Proofs.Ytlcblcjpebabkaa
open Go.Sx
set_option linter.unusedSimpArgs false
set_option maxHeartbeats 4000000
set_option maxRecDepth 20000

theorem getD_mem {α : Type} {l : List α} {i : Nat} {d : α} (h : i < l.length) : l.getD i d ∈ l := by
  rw [List.getD_eq_getElem?_getD, List.getElem?_eq_getElem h]; exact List.getElem_mem _
def sumAwake8 : Sum Try.prog := ⟨9, fun args => args = [], fun args => vb true, fun args h => by
  have := awake_ok; rwa [← h] at this, true⟩
theorem sumAwake8_f : sumAwake8.f = 9 := rfl
theorem sumAwake8_D (args : List V) : sumAwake8.D args = (args = []) := rfl
theorem sumAwake8_flat : sumAwake8.flat = true := rfl
theorem sumAwake8_r (args : List V) : sumAwake8.r args = vb true := rfl
attribute [go_sem] sumAwake8_f sumAwake8_D sumAwake8_flat sumAwake8_r
def W3.v (w : W3) : Value := .agg #[.int .i64 w.a, .int .i64 w.b, .int .i64 w.c]
def W3.add (u v : W3) : W3 := ⟨u.a + v.a, u.b + v.b, u.c + v.c⟩
end Go.Proofs.Ytlcblcjpebabkaa
