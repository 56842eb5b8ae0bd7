/- Flows, without the program: other breaks asked for. -/
import Derived.Test.YtihkcnibffddgaaF12b
import Derived.Test.YtihkcnibffddgaaDc
namespace Go.Proofs.Ytihkcnibffddgaa
open Go.Sx
set_option linter.unusedSimpArgs false
set_option maxHeartbeats 4000000
set_option maxRecDepth 20000

def Doc.ask (d : Doc) (b a : List Int) : Doc := ⟨d.l, d.run, b, a, d.page⟩
section
variable (d : Doc) (b a : List Int)
theorem isF_ask : ∀ f k, isF (d.ask b a) f k = isF d f k
  | 0, _ => rfl
  | f + 1, k => by
    have := isF_ask f (up d k)
    show (!runB d k && (decide (k = 0) || isF (d.ask b a) f (up d k))) = (!runB d k && (decide (k = 0) || isF d f (up d k)))
    rw [this]
theorem isN_ask : isN (d.ask b a) = isN d := by funext k; exact isF_ask d b a _ k
theorem kids_ask (k : Nat) : kids (d.ask b a) k = kids d k := rfl
theorem oldN_ask (k : Nat) : oldN (d.ask b a) k = oldN d k := rfl
theorem pthF_ask (w : List Int → Int) : ∀ f k, pthF (d.ask b a) w f k = pthF d w f k
  | 0, _ => rfl
  | f + 1, k => by
    have := pthF_ask w f (w (kids d k)).toNat
    show (if kids d k = [] then [(k : Int)] else (k : Int) :: pthF (d.ask b a) w f (w (kids d k)).toNat) = (if kids d k = [] then [(k : Int)] else (k : Int) :: pthF d w f (w (kids d k)).toNat)
    rw [this]
theorem pth_ask (w : List Int → Int) (k : Nat) : pth (d.ask b a) w k = pth d w k := pthF_ask d b a w _ k
theorem inL_ask : inL (d.ask b a) = inL d := by
  show selTo (isN (d.ask b a)) d.l.length = selTo (isN d) d.l.length
  rw [isN_ask]
theorem thB_ask (k : Int) : thB (d.ask b a) k = thB d k := by unfold thB; rw [inL_ask]
theorem right_ask (hr : rightB d = true) (hb : b.length = d.l.length) (ha : a.length = d.l.length)
    (hk : ∀ k, k < d.l.length → (0 ≤ b.getD k 0 ∧ b.getD k 0 ≤ 4) ∧ (0 ≤ a.getD k 0 ∧ a.getD k 0 ≤ 4) ∧ ((d.l.getD k .zero).type = ⟨#[]⟩ → b.getD k 0 = 0 ∧ a.getD k 0 = 0)) : rightB (d.ask b a) = true := by
  unfold rightB at hr ⊢
  rw [Bool.and_eq_true, decide_eq_true_eq] at hr ⊢
  obtain ⟨h1, h2, h3, h4⟩ := hr
  refine ⟨h1, ⟨h2.1, hb, ha, h2.2.2.2⟩, h3, fun k hk' hbad => ?_⟩
  obtain ⟨q1, q2, q3⟩ := hk k hk'
  have h5 := h4 k hk'
  unfold badK at h5 hbad
  simp only [Doc.ask] at hbad
  rcases hbad with h | h | ⟨h, h'⟩
  · exact h q1
  · exact h q2
  · obtain ⟨q4, q5⟩ := q3 h
    refine h5 (.inr (.inr ⟨h, ?_⟩))
    rcases h' with h' | h' | h' | h'
    · exact .inl h'
    · exact absurd q4 h'
    · exact absurd q5 h'
    · exact .inr (.inr (.inr h'))
end
/-- The breaks ahead of a node look at no nodes that are not in flow. -/
theorem brk_ask {d : Doc} (h : okD d) {b a : List Int} {m : Nat} (hm : m < d.l.length) (hi : isN d m = true) (hb : ∀ k, k < d.l.length → isN d k = true → b.getD k 0 = d.bef.getD k 0) (ha : ∀ k, k < d.l.length → isN d k = true → a.getD k 0 = d.aft.getD k 0) :
    brkA (d.ask b a) m = brkA d m := by
  have hF := (pth_all h (w := wF) (fun l h => wF_mem h) _ m (Nat.le_refl _) hm hi).2.2.2
  have e1 : befA (d.ask b a) m = befA d m := by
    unfold befA; rw [pth_ask]
    refine List.map_congr_left fun x hx => ?_
    obtain ⟨j, rfl, h1, h2⟩ := hF x hx
    rw [Int.toNat_natCast]; exact hb j h1 h2
  have e2 : aftA (d.ask b a) m = aftA d m := by
    unfold aftA
    simp only [oldN_ask, pth_ask]
    split
    · rename_i ho
      obtain ⟨o, o1, o2, o3, o4, o5⟩ := oldN_in h hm hi ho
      have hL := (pth_all h (w := wL) (fun l h => wL_mem h) _ o (Nat.le_refl _) (by omega) o4).2.2.2
      rw [o1, Int.toNat_natCast]
      refine List.map_congr_left fun x hx => ?_
      obtain ⟨j, rfl, h1, h2⟩ := hL x (List.mem_reverse.1 hx)
      rw [Int.toNat_natCast]; exact ha j h1 h2
    · rfl
  unfold brkA; rw [e1, e2]
def onlyN (d : Doc) (l : List Int) : Nat → List Int
  | 0 => []
  | n + 1 => onlyN d l n ++ [if isN d n = true then l.getD n 0 else 0]
theorem onlyN_len (d : Doc) (l : List Int) : ∀ n, (onlyN d l n).length = n
  | 0 => rfl
  | n + 1 => by simp only [onlyN, List.length_append, onlyN_len d l n]; rfl
theorem onlyN_at (d : Doc) (l : List Int) : ∀ n k, k < n → (onlyN d l n).getD k 0 = if isN d k = true then l.getD k 0 else 0
  | 0, k, h => by omega
  | n + 1, k, h => by
    simp only [onlyN, List.getD_eq_getElem?_getD]
    by_cases hk : k = n
    · subst hk
      rw [List.getElem?_append_right (by rw [onlyN_len]; omega), onlyN_len]; simp
    · rw [List.getElem?_append_left (by rw [onlyN_len]; omega), ← List.getD_eq_getElem?_getD, ← List.getD_eq_getElem?_getD]
      exact onlyN_at d l n k (by omega)
def onlyD (d : Doc) : Doc := d.ask (onlyN d d.bef d.l.length) (onlyN d d.aft d.l.length)
theorem onlyD_right {d : Doc} (hr : rightB d = true) : rightB (onlyD d) = true := by
  refine right_ask _ _ _ hr (onlyN_len _ _ _) (onlyN_len _ _ _) fun k hk => ?_
  have h5 : ¬ badK d k := by
    unfold rightB at hr; rw [Bool.and_eq_true, decide_eq_true_eq] at hr; exact hr.2.2.2 k hk
  rw [onlyN_at _ _ _ _ hk, onlyN_at _ _ _ _ hk]
  unfold badK at h5
  have q1 : 0 ≤ d.bef.getD k 0 ∧ d.bef.getD k 0 ≤ 4 := Classical.byContradiction fun h => h5 (.inl h)
  have q2 : 0 ≤ d.aft.getD k 0 ∧ d.aft.getD k 0 ≤ 4 := Classical.byContradiction fun h => h5 (.inr (.inl h))
  refine ⟨by split <;> omega, by split <;> omega, fun ht => ?_⟩
  have q3 : d.bef.getD k 0 = 0 := Classical.byContradiction fun h => h5 (.inr (.inr ⟨ht, .inr (.inl h)⟩))
  have q4 : d.aft.getD k 0 = 0 := Classical.byContradiction fun h => h5 (.inr (.inr ⟨ht, .inr (.inr (.inl h))⟩))
  rw [q3, q4]; simp
theorem onlyD_ahd {d : Doc} (hr : rightB d = true) {m : Nat} (hm : m < d.l.length) (hi : isN d m = true) : ahdV (onlyD d) m = ahdV d m := by
  have h := rightB_ok hr
  have e1 : thV (onlyD d) m = true := by
    unfold thV; rw [onlyD_right hr]; unfold onlyD; rw [thB_ask, thB_at hm, hi]; rfl
  have e2 : thV d m = true := by rw [thV_at hr hm, hi]
  unfold ahdV
  rw [if_pos e1, if_pos e2, Int.toNat_natCast]
  congr 1
  refine brk_ask h hm hi (fun k hk hik => ?_) fun k hk hik => ?_
  · rw [onlyN_at _ _ _ _ hk, if_pos hik]
  · rw [onlyN_at _ _ _ _ hk, if_pos hik]
theorem onlyD_in {d : Doc} (hr : rightB d = true) : inV (onlyD d) = inL d := by
  unfold inV; rw [if_pos (onlyD_right hr)]; exact inL_ask _ _ _
/-! ### None, and one alone -/
theorem fold_none {l : List Int} (h : ∀ x ∈ l, x = 0) : joinT l = 0 := by
  unfold joinT
  have : ∀ (l : List Int), (∀ x ∈ l, x = 0) → l.foldl joinS 0 = 0 := by
    intro l
    induction l with
    | nil => intro _; rfl
    | cons x l ih =>
      intro h
      have := h x (by simp)
      subst this
      exact ih fun y hy => h y (by simp [hy])
  exact this l h
theorem fold_one {l : List Int} {n : Int} (hn : 0 ≤ n ∧ n ≤ 4) (h : ∀ x ∈ l, x = 0 ∨ x = n) (hm : n ∈ l) : joinT l = n := by
  unfold joinT
  have key : ∀ (l : List Int) (a : Int), (a = 0 ∨ a = n) → (∀ x ∈ l, x = 0 ∨ x = n) → l.foldl joinS a = if a = n ∨ n ∈ l then n else 0 := by
    intro l
    induction l with
    | nil => intro a ha _; simp only [List.foldl_nil, List.not_mem_nil, or_false]; split <;> omega
    | cons x l ih =>
      intro a ha h
      have hx := h x (by simp)
      have hs : joinS a x = if a = n ∨ x = n then n else 0 := by
        unfold joinS
        rcases ha with rfl | rfl <;> rcases hx with rfl | rfl
        · simp
        · by_cases h3 : x = 3 ∨ x = 4
          · simp [h3]
          · rw [if_neg h3, if_pos ⟨hn, by omega⟩]; simp; omega
        · by_cases h3 : a < 3
          · rw [if_neg (by omega), if_pos ⟨by omega, h3⟩]; simp; omega
          · rw [if_neg (by omega), if_neg (by omega)]; simp
        · by_cases h3 : x = 3 ∨ x = 4
          · simp [h3]
          · rw [if_neg h3, if_pos ⟨hn, by omega⟩]; simp
      rw [List.foldl_cons, hs, ih _ (by split <;> simp) fun y hy => h y (by simp [hy])]
      by_cases h0 : n = 0
      · subst h0; simp
      · by_cases h1 : a = n
        · simp [h1]
        · by_cases h2 : x = n
          · simp [h2]
          · have h1' : ¬ (0 = n) := fun e => h0 e.symm
            have h2' : ¬ (n = x) := fun e => h2 e.symm
            simp [h1, h2, h1', h2']
  rw [key l 0 (.inl rfl) h, if_pos (.inr hm)]
/-! ### A flow that asks for one break before -/
def zerosD (d : Doc) : Doc := d.ask (List.replicate d.l.length 0) (List.replicate d.l.length 0)
def oneD (d : Doc) (k : Nat) (n : Int) : Doc := d.ask ((List.replicate d.l.length 0).set k n) (List.replicate d.l.length 0)
theorem getD_zeros (n k : Nat) : (List.replicate n (0 : Int)).getD k 0 = 0 := by
  rw [List.getD_eq_getElem?_getD, List.getElem?_replicate]; split <;> rfl
theorem getD_one (m k j : Nat) (n : Int) (hk : k < m) : ((List.replicate m (0 : Int)).set k n).getD j 0 = if j = k then n else 0 := by
  rw [List.getD_eq_getElem?_getD, List.getElem?_set]
  by_cases h : k = j
  · subst h; simp [hk]
  · rw [if_neg h, if_neg (fun e => h e.symm), ← List.getD_eq_getElem?_getD]; exact getD_zeros _ _
theorem oneD_right {d : Doc} (hr : rightB d = true) {k : Nat} (hk : k < d.l.length) {n : Int} (hn : 0 ≤ n ∧ n ≤ 4) (ht : (d.l.getD k .zero).type ≠ ⟨#[]⟩) : rightB (oneD d k n) = true := by
  refine right_ask _ _ _ hr (by simp) (by simp) fun j hj => ?_
  rw [getD_zeros, getD_one _ _ _ _ hk]
  refine ⟨by split <;> omega, by omega, fun h => ⟨?_, rfl⟩⟩
  split
  · rename_i e; subst e; exact absurd h ht
  · rfl
theorem zerosD_right {d : Doc} (hr : rightB d = true) : rightB (zerosD d) = true := by
  refine right_ask _ _ _ hr (by simp) (by simp) fun j hj => ?_
  rw [getD_zeros]
  exact ⟨by omega, by omega, fun _ => ⟨rfl, rfl⟩⟩
theorem ahd_ask {d : Doc} (hr : rightB d = true) {b a : List Int} (hr2 : rightB (d.ask b a) = true) {m : Nat} (hm : m < d.l.length) (hi : isN d m = true) : ahdV (d.ask b a) m = joinT (brkA (d.ask b a) m) := by
  have e1 : thV (d.ask b a) m = true := by unfold thV; rw [hr2, thB_ask, thB_at hm, hi]; rfl
  unfold ahdV; rw [if_pos e1, Int.toNat_natCast]
theorem aft_zero {d : Doc} {b : List Int} {m : Nat} : ∀ x ∈ aftA (d.ask b (List.replicate d.l.length 0)) m, x = 0 := by
  intro x hx
  unfold aftA at hx
  split at hx
  · obtain ⟨y, _, rfl⟩ := List.mem_map.1 hx; exact getD_zeros _ _
  · simp at hx
theorem zerosD_ahd {d : Doc} (hr : rightB d = true) {m : Nat} (hm : m < d.l.length) (hi : isN d m = true) : ahdV (zerosD d) m = 0 := by
  rw [show zerosD d = d.ask (List.replicate d.l.length 0) (List.replicate d.l.length 0) from rfl, ahd_ask hr (zerosD_right hr) hm hi]
  refine fold_none fun x hx => ?_
  unfold brkA at hx
  rcases List.mem_append.1 hx with hx | hx
  · exact aft_zero x hx
  · unfold befA at hx; obtain ⟨y, _, rfl⟩ := List.mem_map.1 hx; exact getD_zeros _ _
theorem oneD_ahd {d : Doc} (hr : rightB d = true) {k : Nat} (hk : k < d.l.length) {n : Int} (hn : 0 ≤ n ∧ n ≤ 4) (ht : (d.l.getD k .zero).type ≠ ⟨#[]⟩) {m : Nat} (hm : m < d.l.length) (hi : isN d m = true) :
    ahdV (oneD d k n) m = if (k : Int) ∈ pth d wF m then n else 0 := by
  rw [show oneD d k n = d.ask ((List.replicate d.l.length 0).set k n) (List.replicate d.l.length 0) from rfl, ahd_ask hr (oneD_right hr hk hn ht) hm hi]
  have hF := (pth_all (rightB_ok hr) (w := wF) (fun l h => wF_mem h) _ m (Nat.le_refl _) hm hi).2.2.2
  have hb : befA (d.ask ((List.replicate d.l.length 0).set k n) (List.replicate d.l.length 0)) m = (pth d wF m).map fun x => if x.toNat = k then n else 0 := by
    unfold befA; rw [pth_ask]
    exact List.map_congr_left fun x _ => getD_one _ _ _ _ hk
  by_cases h : (k : Int) ∈ pth d wF m
  · rw [if_pos h]
    refine fold_one hn (fun x hx => ?_) ?_
    · unfold brkA at hx
      rcases List.mem_append.1 hx with hx | hx
      · exact .inl (aft_zero x hx)
      · rw [hb] at hx; obtain ⟨y, _, rfl⟩ := List.mem_map.1 hx; split <;> simp
    · unfold brkA; rw [hb]
      exact List.mem_append.2 (.inr (List.mem_map.2 ⟨k, h, by simp⟩))
  · rw [if_neg h]
    refine fold_none fun x hx => ?_
    unfold brkA at hx
    rcases List.mem_append.1 hx with hx | hx
    · exact aft_zero x hx
    · rw [hb] at hx
      obtain ⟨y, hy, rfl⟩ := List.mem_map.1 hx
      obtain ⟨j, rfl, _, _⟩ := hF y hy
      rw [Int.toNat_natCast]
      split
      · rename_i e; subst e; exact absurd hy h
      · rfl
end Go.Proofs.Ytihkcnibffddgaa
