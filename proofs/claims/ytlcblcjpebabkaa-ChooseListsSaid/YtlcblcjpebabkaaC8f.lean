/- Layer 8: selectors, and lists of them, of tokens without brackets: what they are. -/
import Derived.Test.YtlcblcjpebabkaaC8e
import Derived.Test.YtlcblcjpebabkaaNk
namespace Go.Proofs.Ytlcblcjpebabkaa
open Go.Sx
set_option linter.unusedSimpArgs false
set_option maxHeartbeats 4000000
set_option maxRecDepth 100000

def SmpB (v : List Tok) : Prop := ∀ k, k ≤ v.length → (smpR v k).ok = true → k < (smpR v k).to ∧ (smpR v k).to ≤ v.length
theorem dlm_lt {v : List Tok} {k : Nat} {w : ByteArray} (h : dlm v k w = true) : k < v.length := (of_decide_eq_true h).1
theorem knd_nk {v : List Tok} (h : noK v) (k : Nat) : knd v k ≠ 12 := by
  unfold knd
  split
  · rename_i hk; exact (h k hk).2
  · decide
theorem smpB_nk {v : List Tok} (h : noK v) : SmpB v := fun k hk => by
  unfold smpR
  split
  · rename_i h1; intro _; have := dlm_lt h1; dsimp only; omega
  split
  · rename_i h1; intro _; have := (knd_lt h1 (by decide)).1; dsimp only; omega
  split
  · rename_i h1; intro _; have := (knd_lt h1 (by decide)).1; dsimp only; omega
  split
  · rename_i h1; intro _; have := (knd_lt h1.2 (by decide)).1; dsimp only; omega
  split
  · rename_i h1; exact absurd h1.1 (knd_nk h k)
  · intro hh; cases hh
theorem smpD_nk {v : List Tok} (h : noK v) (hl : v.length ≤ 1000000) : SmpD v := ⟨hl, fun k hk => ⟨simpleN_ok v hl k hk (knd_nk h k), smpB_nk h k hk⟩⟩
theorem SmpD.b {v : List Tok} (h : SmpD v) : SmpB v := fun k hk => (h.2 k hk).2
theorem cmpF_rng {v : List Tok} (hS : SmpB v) : ∀ (f k : Nat) (L : List Smp), k ≤ v.length → k ≤ (cmpF v f k L).2 ∧ (cmpF v f k L).2 ≤ v.length ∧ L.length ≤ (cmpF v f k L).1.length ∧ (cmpF v f k L).1.length + k ≤ L.length + (cmpF v f k L).2
  | 0, k, L, hk => by simp only [cmpF]; omega
  | f + 1, k, L, hk => by
    simp only [cmpF]
    split
    · simp only; omega
    · rename_i hc
      have hok : (smpR v k).ok = true := by
        cases h : (smpR v k).ok with
        | true => rfl
        | false => exact absurd (.inl h) hc
      have h1 := hS k hk hok
      have h2 := cmpF_rng hS f (smpR v k).to (L ++ [(smpR v k).s]) h1.2
      simp only [List.length_append, List.length_cons, List.length_nil] at h2
      omega
theorem cmpR_rng {v : List Tok} (hS : SmpB v) (k : Nat) (hk : k ≤ v.length) : k ≤ (cmpR v k).2 ∧ (cmpR v k).2 ≤ v.length ∧ (cmpR v k).1.length + k ≤ (cmpR v k).2 := by
  have := cmpF_rng hS (v.length + 1) k [] hk
  simp only [List.length_nil] at this
  unfold cmpR; omega
theorem lnkF_rng {v : List Tok} : ∀ (f k : Nat) (n : Int), k ≤ v.length → k ≤ (lnkF v f k n).2 ∧ (lnkF v f k n).2 ≤ v.length
  | 0, k, n, hk => by simp only [lnkF]; omega
  | f + 1, k, n, hk => by
    simp only [lnkF]
    split
    · rename_i hc
      have hlt : k < v.length := by
        rcases hc with h | h
        · exact (knd_lt h (by decide)).1
        · exact dlm_lt h.2
      have := lnkF_rng (v := v) f (k + 1) (if knd v k = 11 then 2 else if n < 1 then 1 else n) (by omega)
      omega
    · simp only; omega
theorem lnkR_rng {v : List Tok} (k : Nat) (hk : k ≤ v.length) : (lnkR v k).2 ≤ v.length ∧ ((lnkR v k).1 ≠ 0 → k < (lnkR v k).2) := by
  unfold lnkR
  refine ⟨(lnkF_rng _ k 0 hk).2, fun hn => ?_⟩
  simp only [lnkF] at hn ⊢
  split at hn
  · rename_i hc
    rw [if_pos hc]
    have hlt : k < v.length := by
      rcases hc with h | h
      · exact (knd_lt h (by decide)).1
      · exact dlm_lt h.2
    have := lnkF_rng (v := v) v.length (k + 1) (if knd v k = 11 then 2 else if (0 : Int) < 1 then 1 else 0) (by omega)
    omega
  · exact absurd rfl hn
def oneF (w : List Tok) : Nat → Nat → Int → List Cmp → Option (List Cmp)
  | 0, _, _, _ => none
  | f + 1, k, n, L =>
    if (cmpR w k).1.length = 0 ∨ L.length = 64 then none
    else if (cmpR w k).2 = w.length then some (L ++ [⟨n, (cmpR w k).1⟩])
    else if (lnkR w (cmpR w k).2).1 = 0 then none
    else oneF w f (lnkR w (cmpR w k).2).2 (lnkR w (cmpR w k).2).1 (L ++ [⟨n, (cmpR w k).1⟩])
def oneT8 (w : List Tok) : Option Sel := if deep w = true then none else oneF w (w.length + 1) 0 0 []
def oneS (v : List Tok) : Option Sel := oneT8 (trim v)
theorem oneF_small {w : List Tok} (hS : SmpB w) (hl : w.length ≤ 1000000) : ∀ (f k : Nat) (n : Int) (L : List Cmp) (s : Sel), k ≤ w.length → L.length ≤ 64 → (∀ c ∈ L, c.l.length ≤ 1000000) → oneF w f k n L = some s → s.length ≤ 64 ∧ ∀ c ∈ s, c.l.length ≤ 1000000
  | 0, _, _, _, _, _, _, _, h => by cases h
  | f + 1, k, n, L, s, hk, hL, hc, h => by
    have h1 := cmpR_rng hS k hk
    simp only [oneF] at h
    split at h
    · cases h
    rename_i hn
    have hc' : ∀ c ∈ L ++ [⟨n, (cmpR w k).1⟩], c.l.length ≤ 1000000 := fun c hcm => by
      rcases List.mem_append.1 hcm with hcm | hcm
      · exact hc c hcm
      · obtain rfl := List.mem_singleton.1 hcm; dsimp only; omega
    have hL' : (L ++ [(⟨n, (cmpR w k).1⟩ : Cmp)]).length ≤ 64 := by simp; omega
    split at h
    · obtain rfl := Option.some.inj h; exact ⟨hL', hc'⟩
    split at h
    · cases h
    · exact oneF_small hS hl f _ _ _ s (lnkR_rng _ h1.2.1).1 hL' hc' h
theorem okC_of {s : Sel} (h : s.length ≤ 64 ∧ ∀ c ∈ s, c.l.length ≤ 1000000) : okC s := ⟨by omega, fun i hi => h.2 _ (by rw [List.getD_eq_getElem?_getD, List.getElem?_eq_getElem hi]; exact List.getElem_mem _)⟩
theorem oneS_small {v : List Tok} (h : freeK v) (hl : v.length ≤ 1000000) {s : Sel} (hs : oneS v = some s) : okC s := by
  have hn := free_nk (trim_free h)
  have hl2 := trim_len v
  unfold oneS oneT8 at hs
  rw [deep_nk hn, if_neg (by simp)] at hs
  exact okC_of (oneF_small (smpB_nk hn) (by omega) _ 0 0 [] s (Nat.zero_le _) (by simp) (by simp) hs)
theorem oneS_pad (v : List Tok) : oneS (pad v) = oneS v := by unfold oneS; rw [trim_pad]
def prsC (l : List Tok) : List (Int × Int) → Option (List Sel)
  | [] => some []
  | p :: ps => match oneS ((l.take p.2.toNat).drop p.1.toNat) with | none => none | some s => (prsC l ps).map (s :: ·)
def psC (l : List Tok) : Option (List Sel) := if deep l = true then none else prsC l (splL l)
theorem psC_free {l : List Tok} (h : freeK l) : psC l = (oneS l).map ([·]) := by
  unfold psC
  rw [deep_nk (free_nk h), if_neg (by simp), splL_no (free_nk h) (free_16 h)]
  simp only [prsC, Int.toNat_natCast, List.take_length]
  show (match oneS (l.drop 0) with | none => none | some s => _) = _
  rw [List.drop_zero]
  cases oneS l <;> rfl
theorem psC_join {a b : List Tok} (ha : freeK a) (hb : freeK b) : psC (joinT a b) = match oneS a, oneS b with | some s, some t => some [s, t] | _, _ => none := by
  unfold psC
  rw [deep_nk (join_nk ha hb), if_neg (by simp), splL_join ha hb]
  obtain ⟨e1, e2⟩ := join_parts a b
  simp only [prsC, Int.toNat_natCast, e2]
  rw [show ((0 : Int).toNat) = 0 from rfl, e1]
  cases oneS a with
  | none => rfl
  | some s => cases oneS b <;> rfl
end Go.Proofs.Ytlcblcjpebabkaa
