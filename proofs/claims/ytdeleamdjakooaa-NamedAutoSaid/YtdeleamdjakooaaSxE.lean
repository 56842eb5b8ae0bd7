/- A slice that is appended to. -/
import Derived.Test.YtdeleamdjakooaaSxD
set_option maxHeartbeats 1000000
namespace Go.Sx
section
variable {P : Program} {g : Gh} {w w0 w1 : World} {own0 : Own} {h : Heap}

/-- The cells that are laid behind, in a row. -/
def rowOf (m sz : Nat) (xs : Nat → Nat → Value) : List Value := (List.range (m * sz)).map fun q => xs (q / sz) (q % sz)
theorem rowOf_len (m sz : Nat) (xs : Nat → Nat → Value) : (rowOf m sz xs).length = m * sz := by simp [rowOf]
theorem rowOf_get {m sz : Nat} {xs : Nat → Nat → Value} {i k : Nat} (hi : i < m) (hk : k < sz) : (rowOf m sz xs).getD (i * sz + k) undef = xs i k := by
  have hidx : i * sz + k < m * sz := idx_lt hi hk
  have h1 : (i * sz + k) / sz = i := by rw [Nat.mul_comm, Nat.mul_add_div (by omega), Nat.div_eq_of_lt hk]; rfl
  have h2 : (i * sz + k) % sz = k := by rw [Nat.mul_comm, Nat.mul_add_mod]; exact Nat.mod_eq_of_lt hk
  simp [rowOf, List.getD_eq_getElem?_getD, hidx, h1, h2]
theorem rowOf_cells {m sz b o : Nat} {xs : Nat → Nat → Value} (h0 : 0 < sz) (hx : ∀ i k, i < m → k < sz → w.cell? ⟨b, o + (i * sz + k), none⟩ = some (xs i k) ∧ (xs i k).oneCell' = true) :
    (∀ j u, (rowOf m sz xs)[j]? = some u → w.cell? ((⟨b, o, none⟩ : Addr).add j) = some u) ∧ ∀ u ∈ rowOf m sz xs, u.oneCell' = true := by
  have key : ∀ j, j < m * sz → w.cell? ⟨b, o + j, none⟩ = some (xs (j / sz) (j % sz)) ∧ (xs (j / sz) (j % sz)).oneCell' = true := by
    intro j hj
    have := hx (j / sz) (j % sz) (Nat.div_lt_of_lt_mul (by rwa [Nat.mul_comm])) (Nat.mod_lt _ h0)
    rwa [Nat.mul_comm, Nat.div_add_mod] at this
  constructor
  · intro j u hu
    simp only [rowOf, List.getElem?_map, Option.map_eq_some_iff] at hu
    obtain ⟨q, hq, rfl⟩ := hu
    have hj : j < m * sz := by
      rcases Nat.lt_or_ge j (m * sz) with h | h
      · exact h
      · simp [h] at hq
    have : q = j := by simpa [hj] using hq.symm
    subst this
    rw [Addr.add_lit]
    exact (key q hj).1
  · intro u hu
    obtain ⟨q, hq, rfl⟩ := List.mem_map.1 hu
    exact (key q (List.mem_range.1 hq)).2

theorem run_append_zero {t u e : TypeId} {sz : Nat} (hu : P.underlying t = some (.slice e)) (hv : P.underlying u = some (.slice e)) (hs : szOf P e = some sz) (a : Option Addr) (len cap : Nat) (hl : len ≤ cap) (b : Option Addr) (c : Nat) (ty : TypeId) :
    (Builtin.append_ #[t, u] ty #[.slice a len cap, .slice b 0 c]).run P w = .ok (.slice a len cap) w := by
  have hf : (Builtin.firstCells sz 0 (.slice b 0 c)).run P w = .ok #[] w := by
    cases b <;> simp [Builtin.firstCells, loadCells, loadCellsFrom]
  cases a with
  | none => simp [Builtin.append_, run_underlying hu, run_underlying hv, run_sizeOf hs, Builtin.lenOf, hl, hf]
  | some a => simp [Builtin.append_, run_underlying hu, run_underlying hv, run_sizeOf hs, Builtin.lenOf, hl, hf, storeCells]

/-- The cells of the array that has grown. -/
theorem grown_getD {olds news : List Value} {z : Array Value} {i : Nat} : (olds.toArray ++ news.toArray ++ z).getD i undef =
    if i < olds.length then olds.getD i undef else if i < olds.length + news.length then news.getD (i - olds.length) undef else z.getD (i - (olds.length + news.length)) undef := by
  simp only [Array.getD_eq_getD_getElem?, List.getD_eq_getElem?_getD, Array.getElem?_append, Array.size_append, List.size_toArray, List.getElem?_toArray]
  by_cases h1 : i < olds.length
  · rw [if_pos (by omega), if_pos h1, if_pos h1]
  · by_cases h2 : i < olds.length + news.length
    · rw [if_pos h2, if_neg h1, if_neg h1, if_pos h2]
    · rw [if_neg h2, if_neg h1, if_neg h2]
end
end Go.Sx
