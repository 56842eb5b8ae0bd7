/- Flows, without the program: what is in flow, children, siblings, names. -/
import Derived.Test.YtdcdhnohbadenaaN13a
namespace Go.Proofs.Ytdcdhnohbadenaa
open Go.Sx
set_option linter.unusedSimpArgs false
set_option maxHeartbeats 1000000

structure okD (d : Doc) : Prop where
  doc : isDoc d.l
  len : lens d
  r0 : runB d 0 = false
theorem rightB_ok {d : Doc} (h : rightB d = true) : okD d := by
  unfold rightB at h
  rw [Bool.and_eq_true, docB_iff, decide_eq_true_eq] at h
  exact ⟨h.1, h.2.1, h.2.2.1⟩
def up (d : Doc) (k : Nat) : Nat := (par d.l k).toNat
theorem okD.pos {d : Doc} (h : okD d) : 0 < d.l.length := Nat.pos_of_ne_zero h.doc.1
theorem okD.par0 {d : Doc} (h : okD d) : par d.l 0 = -1 := (standR_zero.1 (h.doc.2 0 h.pos)).1
theorem okD.up {d : Doc} (h : okD d) {k : Nat} (h0 : 0 < k) (hk : k < d.l.length) : par d.l k = up d k ∧ up d k < k := by
  have h1 := stood_par h.doc.2 k hk
  have h2 := stood_ge h.doc.2 k h0 hk
  unfold Go.Proofs.Ytdcdhnohbadenaa.up; omega
def isF (d : Doc) : Nat → Nat → Bool
  | 0, _ => false
  | f + 1, k => !runB d k && (decide (k = 0) || isF d f (up d k))
def isN (d : Doc) (k : Nat) : Bool := isF d (k + 1) k
theorem isF_fuel {d : Doc} (h : okD d) : ∀ (k f : Nat), k < d.l.length → k < f → isF d f k = isN d k := by
  intro k
  induction k using Nat.strongRecOn with
  | ind k ih =>
    intro f hk hf
    obtain ⟨f, rfl⟩ : ∃ g, f = g + 1 := ⟨f - 1, by omega⟩
    unfold isN
    simp only [isF]
    by_cases h0 : k = 0
    · simp [h0]
    · have hu := h.up (by omega : 0 < k) hk
      rw [ih (up d k) hu.2 f (by omega) (by omega), ih (up d k) hu.2 k (by omega) hu.2]
theorem isN_step {d : Doc} (h : okD d) {k : Nat} (hk : k < d.l.length) : isN d k = (!runB d k && (decide (k = 0) || isN d (up d k))) := by
  conv => lhs; unfold isN isF
  by_cases h0 : k = 0
  · simp [h0]
  · have hu := h.up (by omega : 0 < k) hk
    rw [isF_fuel h (up d k) k (by omega) hu.2]
theorem isN_run {d : Doc} (h : okD d) {k : Nat} (hk : k < d.l.length) (hi : isN d k = true) : runB d k = false := by
  rw [isN_step h hk] at hi; simp at hi; exact hi.1
theorem isN_parent {d : Doc} (h : okD d) {k : Nat} (h0 : 0 < k) (hk : k < d.l.length) (hi : isN d k = true) : isN d (up d k) = true := by
  rw [isN_step h hk] at hi; simp at hi
  rcases hi.2 with h1 | h1
  · omega
  · exact h1
/-- Ancestors of what is in flow are. -/
theorem isN_anc {d : Doc} (h : okD d) : ∀ (k : Nat), k < d.l.length → isN d k = true → ∀ a : Nat, inN d.l k a = true → isN d a = true := by
  intro k
  induction k using Nat.strongRecOn with
  | ind k ih =>
    intro hk hi a ha
    by_cases e : a = k
    · subst e; exact hi
    · have hle := inN_le _ _ _ ha
      have hu := h.up (by omega : 0 < k) hk
      rw [inN_step _ _ _ (by omega) (by omega) (stood_par h.doc.2 k hk), hu.1] at ha
      exact ih (up d k) hu.2 (by omega) (isN_parent h (by omega) hk hi) a ha
def selTo (p : Nat → Bool) : Nat → List Int
  | 0 => []
  | n + 1 => if p n = true then selTo p n ++ [(n : Int)] else selTo p n
theorem kidsTo_sel (l : List Node) (k : Nat) (all : Bool) : ∀ n, kidsTo l k all n = selTo (kidB l k all) n
  | 0 => rfl
  | n + 1 => by simp only [kidsTo, selTo, kidsTo_sel l k all n]
theorem selTo_congr {p q : Nat → Bool} : ∀ {n : Nat}, (∀ m, m < n → p m = q m) → selTo p n = selTo q n
  | 0, _ => rfl
  | n + 1, h => by
    simp only [selTo]
    rw [h n (by omega), selTo_congr fun m hm => h m (by omega)]
theorem selTo_skip {p : Nat → Bool} {a : Nat} : ∀ {b : Nat}, a ≤ b → (∀ m, a ≤ m → m < b → p m = false) → selTo p b = selTo p a
  | 0, h, _ => by rw [show a = 0 by omega]
  | b + 1, h, hn => by
    by_cases e : a = b + 1
    · rw [e]
    · simp only [selTo]
      rw [hn b (by omega) (by omega), if_neg (by simp)]
      exact selTo_skip (by omega) fun m h1 h2 => hn m h1 (by omega)
theorem selTo_filter (p q : Nat → Bool) : ∀ n, (selTo p n).filter (fun x => q x.toNat) = selTo (fun m => p m && q m) n
  | 0 => rfl
  | n + 1 => by
    simp only [selTo]
    by_cases hp : p n = true
    · by_cases hq : q n = true
      · simp [hp, hq, selTo_filter p q n]
      · simp [hp, hq, selTo_filter p q n]
    · simp [hp, selTo_filter p q n]
theorem selTo_mem {p : Nat → Bool} {x : Int} : ∀ {n : Nat}, x ∈ selTo p n ↔ ∃ m : Nat, x = m ∧ m < n ∧ p m = true
  | 0 => by simp [selTo]
  | n + 1 => by
    simp only [selTo]
    have ih := selTo_mem (p := p) (x := x) (n := n)
    split
    · rename_i hp
      rw [List.mem_append, ih, List.mem_singleton]
      constructor
      · rintro (⟨m, a, b, c⟩ | e)
        · exact ⟨m, a, by omega, c⟩
        · exact ⟨n, e, by omega, hp⟩
      · rintro ⟨m, a, b, c⟩
        by_cases e : m = n
        · exact .inr (by rw [a, e])
        · exact .inl ⟨m, a, by omega, c⟩
    · rename_i hp
      rw [ih]
      constructor
      · rintro ⟨m, a, b, c⟩; exact ⟨m, a, by omega, c⟩
      · rintro ⟨m, a, b, c⟩
        refine ⟨m, a, ?_, c⟩
        by_cases e : m = n
        · subst e; exact absurd c hp
        · omega
theorem selTo_len (p : Nat → Bool) : ∀ n, (selTo p n).length ≤ n
  | 0 => Nat.le_refl _
  | n + 1 => by
    have := selTo_len p n
    simp only [selTo]
    split
    · simp; omega
    · omega
theorem selTo_app {p : Nat → Bool} {k : Nat} (hp : p k = true) : ∀ {n : Nat}, k < n → ∃ r, selTo p n = selTo p k ++ (k : Int) :: r
  | 0, h => by omega
  | n + 1, h => by
    by_cases e : k = n
    · subst e; exact ⟨[], by simp [selTo, hp]⟩
    · obtain ⟨r, hr⟩ := selTo_app hp (show k < n by omega)
      simp only [selTo, hr]
      split
      · exact ⟨r ++ [(n : Int)], by simp⟩
      · exact ⟨r, rfl⟩
def lastSel (p : Nat → Bool) : Nat → Int
  | 0 => -1
  | m + 1 => if p m = true then m else lastSel p m
theorem selTo_last (p : Nat → Bool) : ∀ n, (selTo p n = [] ∧ lastSel p n = -1) ∨ ∃ m : Nat, 0 < (selTo p n).length ∧ (selTo p n).getD ((selTo p n).length - 1) 0 = m ∧ lastSel p n = m ∧ m < n ∧ p m = true
  | 0 => .inl ⟨rfl, rfl⟩
  | n + 1 => by
    simp only [selTo, lastSel]
    by_cases hp : p n = true
    · refine .inr ⟨n, ?_, ?_, ?_, by omega, hp⟩
      · simp [hp]
      · simp [hp, List.getD_eq_getElem?_getD]
      · simp [hp]
    · simp only [hp, if_false, Bool.false_eq_true]
      rcases selTo_last p n with h | ⟨m, a, b, c, e, f⟩
      · exact .inl h
      · exact .inr ⟨m, a, b, c, by omega, f⟩
theorem lastSel_congr {p q : Nat → Bool} : ∀ {n : Nat}, (∀ m, m < n → p m = q m) → lastSel p n = lastSel q n
  | 0, _ => rfl
  | n + 1, h => by
    simp only [lastSel]
    rw [h n (by omega), lastSel_congr fun m hm => h m (by omega)]
theorem ix_sel {p : Nat → Bool} {k n : Nat} (hp : p k = true) (hk : k < n) : ixI (selTo p n) k = (selTo p k).length := by
  obtain ⟨r, hr⟩ := selTo_app hp hk
  unfold ixI
  have key : (selTo p n).getD (selTo p k).length 0 = k := by rw [hr]; simp [List.getD_eq_getElem?_getD]
  have hl : (selTo p k).length < (selTo p n).length := by rw [hr]; simp
  have lo : ∀ i, i < (selTo p k).length → (selTo p n).getD i 0 ≠ k := fun i hi h => by
    rw [hr, List.getD_eq_getElem?_getD, List.getElem?_append_left hi, List.getElem?_eq_getElem hi] at h
    have hm : (selTo p k)[i] ∈ selTo p k := List.getElem_mem _
    obtain ⟨m, a, b, _⟩ := selTo_mem.1 hm
    simp at h; omega
  rcases fst_spec (fun i => decide ((k : Int) = (selTo p n).getD i 0)) ((selTo p n).length - 0) 0 with ⟨_, h2⟩ | ⟨m, h1, _, h3, h4, h5⟩
  · have := h2 _ (Nat.zero_le _) (by omega : (selTo p k).length < 0 + ((selTo p n).length - 0))
    rw [key] at this; simp at this
  · rw [h1]
    have h4' : (k : Int) = (selTo p n).getD m 0 := by simpa using h4
    have a1 : ¬ m < (selTo p k).length := fun h => lo m h h4'.symm
    have a2 : ¬ (selTo p k).length < m := fun h => by
      have := h5 _ (Nat.zero_le _) h; rw [key] at this; simp at this
    omega
theorem getD_sel {p : Nat → Bool} {k n i : Nat} (hp : p k = true) (hk : k < n) (hi : i < (selTo p k).length) : (selTo p n).getD i 0 = (selTo p k).getD i 0 := by
  obtain ⟨r, hr⟩ := selTo_app hp hk
  rw [hr, List.getD_eq_getElem?_getD, List.getElem?_append_left hi, ← List.getD_eq_getElem?_getD]
/-- The children in flow, by the program. -/
def kidP (d : Doc) (k m : Nat) : Bool := kidB d.l k true m && !runB d m
def kids (d : Doc) (k : Nat) : List Int := selTo (kidP d k) d.l.length
theorem kidP_par {d : Doc} {k m : Nat} (h : kidP d k m = true) : par d.l m = k := by
  unfold kidP kidB at h; simp at h; exact h.1
theorem kids_filter (d : Doc) (k : Nat) : (kidsTo d.l k true d.l.length).filter (fun x => !runB d x.toNat) = kids d k := by
  rw [kidsTo_sel]; exact selTo_filter _ (fun m => !runB d m) _
theorem kidP_in {d : Doc} (h : okD d) {k m : Nat} (hi : isN d k = true) (hm : m < d.l.length) : kidP d k m = (decide (par d.l m = k) && isN d m) := by
  unfold kidP kidB
  by_cases hp : par d.l m = k
  · have h0 : 0 < m := by
      rcases Nat.eq_zero_or_pos m with e | e
      · subst e; rw [h.par0] at hp; omega
      · exact e
    have hu : up d m = k := by unfold up; omega
    rw [isN_step h hm, hu, hi]
    simp [hp]
  · simp [hp]
theorem kids_mem {d : Doc} (h : okD d) {k : Nat} {x : Int} (hx : x ∈ kids d k) : ∃ m : Nat, x = m ∧ k < m ∧ m < d.l.length ∧ par d.l m = k ∧ kidP d k m = true := by
  obtain ⟨m, a, b, c⟩ := selTo_mem.1 hx
  have hp := kidP_par c
  have := stood_par h.doc.2 m b
  exact ⟨m, a, by omega, b, hp, c⟩
theorem kids_in {d : Doc} (h : okD d) {k : Nat} (hi : isN d k = true) {m : Nat} (hm : m < d.l.length) (hk : kidP d k m = true) : isN d m = true := by
  rw [kidP_in h hi hm] at hk; simp at hk; exact hk.2
/-- All that is in flow. -/
def inL (d : Doc) : List Int := selTo (isN d) d.l.length
def thB (d : Doc) (k : Int) : Bool := decide (k ∈ inL d)
theorem thB_iff {d : Doc} {k : Int} : thB d k = true ↔ ∃ m : Nat, k = m ∧ m < d.l.length ∧ isN d m = true := by
  unfold thB inL; rw [decide_eq_true_eq, selTo_mem]
theorem in_go {d : Doc} (h : okD d) {k : Nat} (hk : k < d.l.length) (hr : runB d k = false) (hp : k = 0 ∨ isN d (up d k) = true) : isN d k = true ∧ (k + 1 < d.l.length → isN d (up d (k + 1)) = true) := by
  have hi : isN d k = true := by rw [isN_step h hk, hr]; simpa using hp
  refine ⟨hi, fun h1 => ?_⟩
  have hst := (standR_pos (by omega)).1 (h.doc.2 (k + 1) h1)
  have hu := h.up (by omega : 0 < k + 1) h1
  refine isN_anc h k hk hi _ ?_
  have h2 := hst.2.2.2.1
  rw [hu.1] at h2
  rw [← h2]; congr 1; omega
theorem in_over {d : Doc} (h : okD d) {k : Nat} (hk : k < d.l.length) (hr : runB d k = true) (hp : k = 0 ∨ isN d (up d k) = true) :
    selTo (isN d) (endN d.l k) = selTo (isN d) k ∧ (endN d.l k < d.l.length → isN d (up d (endN d.l k)) = true) := by
  have hk0 : k ≠ 0 := fun e => by subst e; rw [h.r0] at hr; cases hr
  have hp : isN d (up d k) = true := hp.resolve_left hk0
  have hs := endN_spec d.l k hk
  have hni : isN d k = false := by rw [isN_step h hk, hr]; rfl
  refine ⟨selTo_skip (by omega) fun m h1 h2 => ?_, fun h1 => ?_⟩
  · cases hm : isN d m with
    | false => rfl
    | true =>
      have := isN_anc h m (by omega) hm k (in_sub d.l h.doc.2 k hk m h1 h2)
      rw [hni] at this; cases this
  · have hst := (standR_pos (by omega)).1 (h.doc.2 (endN d.l k) h1)
    have hu := h.up (by omega : 0 < endN d.l k) h1
    have huk := h.up (by omega : 0 < k) hk
    have h5 := hs.2.2.2.2 h1
    have e1 : ((endN d.l k : Int) - 1) = ((endN d.l k - 1 : Nat) : Int) := by omega
    have h2 := hst.2.2.2.1
    rw [e1, hu.1] at h2
    have hin := in_sub d.l h.doc.2 k hk (endN d.l k - 1) (by omega) (by omega)
    have ht := inN_trans d.l d.l.length (stood_par h.doc.2) (endN d.l k - 1) (by omega) k (up d (endN d.l k)) (by omega) (by omega) hin
    rw [h2] at ht
    have ht := ht.symm
    rw [inN_step d.l k _ (by omega) (by omega) (stood_par h.doc.2 k hk), huk.1] at ht
    exact isN_anc h (up d k) (by omega) hp _ ht
/-- The sibling in flow just ahead. -/
def oldN (d : Doc) (k : Nat) : Int := if k = 0 then -1 else lastSel (kidP d (up d k)) k
theorem oldN_in {d : Doc} (h : okD d) {k : Nat} (hk : k < d.l.length) (hi : isN d k = true) (ho : 0 ≤ oldN d k) : ∃ m : Nat, oldN d k = m ∧ 0 < k ∧ m < k ∧ isN d m = true ∧ par d.l m = up d k := by
  unfold oldN at ho ⊢
  by_cases h0 : k = 0
  · rw [if_pos h0] at ho; omega
  · rw [if_neg h0] at ho ⊢
    rcases selTo_last (kidP d (up d k)) k with ⟨_, h2⟩ | ⟨m, _, _, h2, h3, h4⟩
    · omega
    · exact ⟨m, h2, by omega, h3, kids_in h (isN_parent h (by omega) hk hi) (by omega) h4, kidP_par h4⟩
/-- The used name. -/
def usedF (d : Doc) : Nat → Nat → ByteArray
  | 0, k => pageS d k
  | f + 1, k => if pageS d k = ⟨#[]⟩ ∧ 0 < k then usedF d f (up d k) else pageS d k
def usedN (d : Doc) (k : Nat) : ByteArray := usedF d k k
theorem usedF_fuel {d : Doc} (h : okD d) : ∀ (k f : Nat), k < d.l.length → k ≤ f → usedF d f k = usedN d k := by
  intro k
  induction k using Nat.strongRecOn with
  | ind k ih =>
    intro f hk hf
    by_cases h0 : k = 0
    · subst h0
      unfold usedN
      cases f <;> simp [usedF]
    · have hu := h.up (by omega : 0 < k) hk
      obtain ⟨f, rfl⟩ : ∃ g, f = g + 1 := ⟨f - 1, by omega⟩
      obtain ⟨k', hk'⟩ : ∃ g, k = g + 1 := ⟨k - 1, by omega⟩
      unfold usedN
      rw [usedF]
      conv => rhs; rw [hk', usedF, ← hk']
      rw [ih (up d k) hu.2 f (by omega) (by omega), ih (up d k) hu.2 k' (by omega) (by omega)]
theorem usedN_step {d : Doc} (h : okD d) {k : Nat} (hk : k < d.l.length) : usedN d k = if pageS d k = ⟨#[]⟩ ∧ 0 < k then usedN d (up d k) else pageS d k := by
  by_cases h0 : k = 0
  · subst h0; simp [usedN, usedF]
  · have hu := h.up (by omega : 0 < k) hk
    obtain ⟨k', hk'⟩ : ∃ g, k = g + 1 := ⟨k - 1, by omega⟩
    conv => lhs; unfold usedN; rw [hk', usedF, ← hk']
    rw [usedF_fuel h (up d k) k' (by omega) (by omega)]
/-- Down by children. -/
def wF (l : List Int) : Int := l.getD 0 0
def wL (l : List Int) : Int := l.getD (l.length - 1) 0
theorem wF_mem {l : List Int} (h : l ≠ []) : wF l ∈ l := by
  cases l with
  | nil => exact absurd rfl h
  | cons a l => simp [wF]
theorem wL_mem {l : List Int} (h : l ≠ []) : wL l ∈ l := by
  have : 0 < l.length := List.length_pos_iff.2 h
  unfold wL
  rw [List.getD_eq_getElem?_getD, List.getElem?_eq_getElem (by omega)]
  exact List.getElem_mem _
def dwF (d : Doc) (w : List Int → Int) : Nat → Nat → Nat
  | 0, k => k
  | f + 1, k => if kids d k = [] then k else dwF d w f (w (kids d k)).toNat
def dwN (d : Doc) (w : List Int → Int) (k : Nat) : Nat := dwF d w (d.l.length - k) k
theorem dwF_fuel {d : Doc} (h : okD d) {w : List Int → Int} (hw : ∀ l, l ≠ [] → w l ∈ l) : ∀ (m k f : Nat), d.l.length - k ≤ m → k < d.l.length → d.l.length - k ≤ f → dwF d w f k = dwN d w k := by
  intro m
  induction m with
  | zero => intro k f h1 h2; omega
  | succ m ih =>
    intro k f h1 h2 h3
    obtain ⟨f, rfl⟩ : ∃ g, f = g + 1 := ⟨f - 1, by omega⟩
    obtain ⟨g, hg⟩ : ∃ g, d.l.length - k = g + 1 := ⟨d.l.length - k - 1, by omega⟩
    unfold dwN
    rw [hg]
    simp only [dwF]
    by_cases he : kids d k = []
    · rw [if_pos he, if_pos he]
    · rw [if_neg he, if_neg he]
      obtain ⟨j, a, b, c, _⟩ := kids_mem h (hw _ he)
      have e : (w (kids d k)).toNat = j := by omega
      rw [e, ih j f (by omega) c (by omega), ih j g (by omega) c (by omega)]
theorem dwN_step {d : Doc} (h : okD d) {w : List Int → Int} (hw : ∀ l, l ≠ [] → w l ∈ l) {k : Nat} (hk : k < d.l.length) : dwN d w k = if kids d k = [] then k else dwN d w (w (kids d k)).toNat := by
  conv => lhs; unfold dwN
  obtain ⟨g, hg⟩ : ∃ g, d.l.length - k = g + 1 := ⟨d.l.length - k - 1, by omega⟩
  rw [hg]
  simp only [dwF]
  by_cases he : kids d k = []
  · rw [if_pos he, if_pos he]
  · rw [if_neg he, if_neg he]
    obtain ⟨j, a, b, c, _⟩ := kids_mem h (hw _ he)
    have e : (w (kids d k)).toNat = j := by omega
    rw [e, dwF_fuel h hw g j g (by omega) c (by omega)]
def begN (d : Doc) (k : Nat) : ByteArray := usedN d (dwN d wF k)
def endsN (d : Doc) (k : Nat) : ByteArray := usedN d (dwN d wL k)
def chgN (d : Doc) (k : Nat) : Bool := decide (0 ≤ oldN d k ∧ begN d k ≠ endsN d (oldN d k).toNat)
end Go.Proofs.Ytdcdhnohbadenaa
