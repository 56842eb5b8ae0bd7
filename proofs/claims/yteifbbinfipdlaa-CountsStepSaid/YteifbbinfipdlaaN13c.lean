/- Flows, without the program: what is in flow, children, siblings, names. -/
import Derived.Test.YteifbbinfipdlaaN13a
namespace Go.Proofs.Yteifbbinfipdlaa
open Go.Sx
set_option linter.unusedSimpArgs false
set_option maxHeartbeats 1000000

structure okD (d : Doc) : Prop where
  doc : isDoc d.l
  len : lens d
  r0 : runB d 0 = false
theorem rightB_ok {d : Doc} (h : rightB d = true) : okD d := by
  unfold rightB at h
  rw [Bool.and_eq_true, docB_iff, decide_eq_true_eq] at h
  exact ⟨h.1, h.2.1, h.2.2.1⟩
def up (d : Doc) (k : Nat) : Nat := (par d.l k).toNat
theorem okD.pos {d : Doc} (h : okD d) : 0 < d.l.length := Nat.pos_of_ne_zero h.doc.1
theorem okD.par0 {d : Doc} (h : okD d) : par d.l 0 = -1 := (standR_zero.1 (h.doc.2 0 h.pos)).1
theorem okD.up {d : Doc} (h : okD d) {k : Nat} (h0 : 0 < k) (hk : k < d.l.length) : par d.l k = up d k ∧ up d k < k := by
  have h1 := stood_par h.doc.2 k hk
  have h2 := stood_ge h.doc.2 k h0 hk
  unfold Go.Proofs.Yteifbbinfipdlaa.up; omega
def isF (d : Doc) : Nat → Nat → Bool
  | 0, _ => false
  | f + 1, k => !runB d k && (decide (k = 0) || isF d f (up d k))
def isN (d : Doc) (k : Nat) : Bool := isF d (k + 1) k
theorem isF_fuel {d : Doc} (h : okD d) : ∀ (k f : Nat), k < d.l.length → k < f → isF d f k = isN d k := by
  intro k
  induction k using Nat.strongRecOn with
  | ind k ih =>
    intro f hk hf
    obtain ⟨f, rfl⟩ : ∃ g, f = g + 1 := ⟨f - 1, by omega⟩
    unfold isN
    simp only [isF]
    by_cases h0 : k = 0
    · simp [h0]
    · have hu := h.up (by omega : 0 < k) hk
      rw [ih (up d k) hu.2 f (by omega) (by omega), ih (up d k) hu.2 k (by omega) hu.2]
theorem isN_step {d : Doc} (h : okD d) {k : Nat} (hk : k < d.l.length) : isN d k = (!runB d k && (decide (k = 0) || isN d (up d k))) := by
  conv => lhs; unfold isN isF
  by_cases h0 : k = 0
  · simp [h0]
  · have hu := h.up (by omega : 0 < k) hk
    rw [isF_fuel h (up d k) k (by omega) hu.2]
theorem isN_parent {d : Doc} (h : okD d) {k : Nat} (h0 : 0 < k) (hk : k < d.l.length) (hi : isN d k = true) : isN d (up d k) = true := by
  rw [isN_step h hk] at hi; simp at hi
  rcases hi.2 with h1 | h1
  · omega
  · exact h1
/-- Ancestors of what is in flow are. -/
theorem isN_anc {d : Doc} (h : okD d) : ∀ (k : Nat), k < d.l.length → isN d k = true → ∀ a : Nat, inN d.l k a = true → isN d a = true := by
  intro k
  induction k using Nat.strongRecOn with
  | ind k ih =>
    intro hk hi a ha
    by_cases e : a = k
    · subst e; exact hi
    · have hle := inN_le _ _ _ ha
      have hu := h.up (by omega : 0 < k) hk
      rw [inN_step _ _ _ (by omega) (by omega) (stood_par h.doc.2 k hk), hu.1] at ha
      exact ih (up d k) hu.2 (by omega) (isN_parent h (by omega) hk hi) a ha
def selTo (p : Nat → Bool) : Nat → List Int
  | 0 => []
  | n + 1 => if p n = true then selTo p n ++ [(n : Int)] else selTo p n
theorem selTo_skip {p : Nat → Bool} {a : Nat} : ∀ {b : Nat}, a ≤ b → (∀ m, a ≤ m → m < b → p m = false) → selTo p b = selTo p a
  | 0, h, _ => by rw [show a = 0 by omega]
  | b + 1, h, hn => by
    by_cases e : a = b + 1
    · rw [e]
    · simp only [selTo]
      rw [hn b (by omega) (by omega), if_neg (by simp)]
      exact selTo_skip (by omega) fun m h1 h2 => hn m h1 (by omega)
theorem selTo_mem {p : Nat → Bool} {x : Int} : ∀ {n : Nat}, x ∈ selTo p n ↔ ∃ m : Nat, x = m ∧ m < n ∧ p m = true
  | 0 => by simp [selTo]
  | n + 1 => by
    simp only [selTo]
    have ih := selTo_mem (p := p) (x := x) (n := n)
    split
    · rename_i hp
      rw [List.mem_append, ih, List.mem_singleton]
      constructor
      · rintro (⟨m, a, b, c⟩ | e)
        · exact ⟨m, a, by omega, c⟩
        · exact ⟨n, e, by omega, hp⟩
      · rintro ⟨m, a, b, c⟩
        by_cases e : m = n
        · exact .inr (by rw [a, e])
        · exact .inl ⟨m, a, by omega, c⟩
    · rename_i hp
      rw [ih]
      constructor
      · rintro ⟨m, a, b, c⟩; exact ⟨m, a, by omega, c⟩
      · rintro ⟨m, a, b, c⟩
        refine ⟨m, a, ?_, c⟩
        by_cases e : m = n
        · subst e; exact absurd c hp
        · omega
theorem selTo_len (p : Nat → Bool) : ∀ n, (selTo p n).length ≤ n
  | 0 => Nat.le_refl _
  | n + 1 => by
    have := selTo_len p n
    simp only [selTo]
    split
    · simp; omega
    · omega
/-- All that is in flow. -/
def inL (d : Doc) : List Int := selTo (isN d) d.l.length
def thB (d : Doc) (k : Int) : Bool := decide (k ∈ inL d)
theorem thB_iff {d : Doc} {k : Int} : thB d k = true ↔ ∃ m : Nat, k = m ∧ m < d.l.length ∧ isN d m = true := by
  unfold thB inL; rw [decide_eq_true_eq, selTo_mem]
theorem in_go {d : Doc} (h : okD d) {k : Nat} (hk : k < d.l.length) (hr : runB d k = false) (hp : k = 0 ∨ isN d (up d k) = true) : isN d k = true ∧ (k + 1 < d.l.length → isN d (up d (k + 1)) = true) := by
  have hi : isN d k = true := by rw [isN_step h hk, hr]; simpa using hp
  refine ⟨hi, fun h1 => ?_⟩
  have hst := (standR_pos (by omega)).1 (h.doc.2 (k + 1) h1)
  have hu := h.up (by omega : 0 < k + 1) h1
  refine isN_anc h k hk hi _ ?_
  have h2 := hst.2.2.2.1
  rw [hu.1] at h2
  rw [← h2]; congr 1; omega
theorem in_over {d : Doc} (h : okD d) {k : Nat} (hk : k < d.l.length) (hr : runB d k = true) (hp : k = 0 ∨ isN d (up d k) = true) :
    selTo (isN d) (endN d.l k) = selTo (isN d) k ∧ (endN d.l k < d.l.length → isN d (up d (endN d.l k)) = true) := by
  have hk0 : k ≠ 0 := fun e => by subst e; rw [h.r0] at hr; cases hr
  have hp : isN d (up d k) = true := hp.resolve_left hk0
  have hs := endN_spec d.l k hk
  have hni : isN d k = false := by rw [isN_step h hk, hr]; rfl
  refine ⟨selTo_skip (by omega) fun m h1 h2 => ?_, fun h1 => ?_⟩
  · cases hm : isN d m with
    | false => rfl
    | true =>
      have := isN_anc h m (by omega) hm k (in_sub d.l h.doc.2 k hk m h1 h2)
      rw [hni] at this; cases this
  · have hst := (standR_pos (by omega)).1 (h.doc.2 (endN d.l k) h1)
    have hu := h.up (by omega : 0 < endN d.l k) h1
    have huk := h.up (by omega : 0 < k) hk
    have h5 := hs.2.2.2.2 h1
    have e1 : ((endN d.l k : Int) - 1) = ((endN d.l k - 1 : Nat) : Int) := by omega
    have h2 := hst.2.2.2.1
    rw [e1, hu.1] at h2
    have hin := in_sub d.l h.doc.2 k hk (endN d.l k - 1) (by omega) (by omega)
    have ht := inN_trans d.l d.l.length (stood_par h.doc.2) (endN d.l k - 1) (by omega) k (up d (endN d.l k)) (by omega) (by omega) hin
    rw [h2] at ht
    have ht := ht.symm
    rw [inN_step d.l k _ (by omega) (by omega) (stood_par h.doc.2 k hk), huk.1] at ht
    exact isN_anc h (up d k) (by omega) hp _ ht
end Go.Proofs.Yteifbbinfipdlaa
