/- Names, without the program: rows; other names for the same nodes. -/
import Derived.Test.YtdeleamdjakooaaN13c
namespace Go.Proofs.Ytdeleamdjakooaa
open Go.Sx
set_option linter.unusedSimpArgs false
set_option maxHeartbeats 1000000

theorem inN_kid {d : Doc} (h : okD d) {x c : Nat} (hx : x < d.l.length) (hp : par d.l x = c) : inN d.l x c = true := by
  have := stood_par h.doc.2 x hx
  rw [inN_step _ _ _ (by omega) (by omega) this, hp, inN_self]
theorem up_chain {d : Doc} (h : okD d) : ∀ (x : Nat), x < d.l.length → ∀ m : Nat, m < x → inN d.l x m = true → ∃ c : Nat, m < c ∧ c ≤ x ∧ par d.l c = m ∧ inN d.l x c = true := by
  intro x
  induction x using Nat.strongRecOn with
  | ind x ih =>
    intro hx m hm hi
    have hu := h.up (by omega : 0 < x) hx
    by_cases e : up d x = m
    · exact ⟨x, hm, Nat.le_refl _, by omega, inN_self _ _⟩
    · rw [inN_step _ _ _ (by omega) (by omega) (stood_par h.doc.2 x hx), hu.1] at hi
      have hle := inN_le _ _ _ hi
      obtain ⟨c, a1, a2, a3, a4⟩ := ih (up d x) hu.2 (by omega) m (by omega) hi
      refine ⟨c, a1, by omega, a3, ?_⟩
      rw [inN_step _ _ _ (by omega) (by omega) (stood_par h.doc.2 x hx), hu.1]; exact a4
theorem sib_out {d : Doc} (h : okD d) {c o p : Nat} (hc : c < d.l.length) (ho : o < d.l.length) (h1 : par d.l c = p) (h2 : par d.l o = p) (h3 : c < o) : inN d.l o c = false := by
  have := stood_par h.doc.2 c hc
  rw [inN_step _ _ _ (by omega) (by omega) (stood_par h.doc.2 o ho), h2]
  exact inN_low _ _ _ (by omega)
theorem in_end {d : Doc} (h : okD d) {k x : Nat} (hk : k < d.l.length) (hx : x < d.l.length) (hi : inN d.l x k = true) : x < endN d.l k := by
  refine Decidable.byContradiction fun hn => ?_
  rw [out_sub d.l h.doc.2 k hk x (by omega) hx] at hi; cases hi
theorem lastSel_max {p : Nat → Bool} {c : Nat} (hp : p c = true) : ∀ {n : Nat}, c < n → (c : Int) ≤ lastSel p n
  | 0, h => by omega
  | n + 1, h => by
    simp only [lastSel]
    by_cases e : p n = true
    · rw [if_pos e]; omega
    · rw [if_neg e]
      have : c ≠ n := fun hh => e (hh ▸ hp)
      exact lastSel_max hp (by omega)
theorem selTo_first {p : Nat → Bool} {c n : Nat} (hp : p c = true) (h : c < n) : (selTo p n).getD 0 0 ≤ c := by
  obtain ⟨r, hr⟩ := selTo_app hp h
  rw [hr]
  cases hs : selTo p c with
  | nil => simp
  | cons a l =>
    have : a ∈ selTo p c := by rw [hs]; simp
    obtain ⟨m, e, hm, _⟩ := selTo_mem.1 this
    simp; omega
theorem wL_last {p : Nat → Bool} {n : Nat} (h : selTo p n ≠ []) : wL (selTo p n) = lastSel p n := by
  rcases selTo_last p n with ⟨a, _⟩ | ⟨m, _, b, c, _⟩
  · exact absurd a h
  · unfold wL; rw [b, c]
theorem sel_succ {p : Nat → Bool} : ∀ {n i : Nat}, i + 1 < (selTo p n).length → ∃ a b : Nat, (selTo p n).getD i 0 = a ∧ (selTo p n).getD (i + 1) 0 = b ∧ a < b ∧ b < n ∧ p a = true ∧ p b = true ∧ ∀ y, a < y → y < b → p y = false
  | 0, i, h => by simp [selTo] at h
  | n + 1, i, h => by
    simp only [selTo] at h ⊢
    by_cases e : p n = true
    · rw [if_pos e] at h ⊢
      by_cases hi : i + 1 < (selTo p n).length
      · obtain ⟨a, b, h1, h2, h3, h4, h5, h6, h7⟩ := sel_succ hi
        refine ⟨a, b, ?_, ?_, h3, by omega, h5, h6, h7⟩
        · rw [List.getD_eq_getElem?_getD, List.getElem?_append_left (by omega), ← List.getD_eq_getElem?_getD]; exact h1
        · rw [List.getD_eq_getElem?_getD, List.getElem?_append_left hi, ← List.getD_eq_getElem?_getD]; exact h2
      · have hl : i + 1 = (selTo p n).length := by simp at h; omega
        rcases selTo_last p n with ⟨a, _⟩ | ⟨m, q1, q2, q3, q4, q5⟩
        · rw [a] at hl; simp at hl
        · refine ⟨m, n, ?_, ?_, q4, by omega, q5, e, fun y h1 h2 => ?_⟩
          · rw [List.getD_eq_getElem?_getD, List.getElem?_append_left (by omega), ← List.getD_eq_getElem?_getD, show i = (selTo p n).length - 1 by omega]; exact q2
          · rw [hl]; simp [List.getD_eq_getElem?_getD]
          · cases hy : p y with
            | false => rfl
            | true => have := lastSel_max hy h2; omega
    · rw [if_neg e] at h ⊢
      obtain ⟨a, b, h1, h2, h3, h4, h5, h6, h7⟩ := sel_succ h
      exact ⟨a, b, h1, h2, h3, by omega, h5, h6, h7⟩
theorem kid_of {d : Doc} (h : okD d) {k c : Nat} (hi : isN d k = true) (hc : c < d.l.length) (hp : par d.l c = k) (hin : isN d c = true) : kidP d k c = true := by
  rw [kidP_in h hi hc, hp, hin]; simp
theorem kid_ne {d : Doc} {k c : Nat} (hc : c < d.l.length) (hp : kidP d k c = true) : kids d k ≠ [] := fun e => by
  have : (c : Int) ∈ kids d k := selTo_mem.2 ⟨c, rfl, hc, hp⟩
  rw [e] at this; cases this
/-- Behind a node with children in flow stands the first of them. -/
theorem succ_kid {d : Doc} (h : okD d) {m x : Nat} (hm : m < d.l.length) (hi : isN d m = true) (hk : kids d m ≠ []) (hx : x < d.l.length) (hxi : isN d x = true) (hmx : m < x) : wF (kids d m) ≤ x := by
  obtain ⟨j, a1, a2, a3, a4, a5⟩ := kids_mem h (wF_mem hk)
  refine Decidable.byContradiction fun hn => ?_
  have hj := in_end h hm a3 (inN_kid h a3 a4)
  have hxm := in_sub d.l h.doc.2 m hm x (by omega) (by omega)
  obtain ⟨c, c1, c2, c3, c4⟩ := up_chain h x hx m hmx hxm
  have hci := isN_anc h x hx hxi c c4
  have := selTo_first (kid_of h hi (by omega) c3 hci) (show c < d.l.length by omega)
  have e : wF (kids d m) = (selTo (kidP d m) d.l.length).getD 0 0 := rfl
  omega
theorem last_leaf {d : Doc} (h : okD d) {m : Nat} (hm : m < d.l.length) (hi : isN d m = true) (hk : kids d m = []) : ∀ (f c : Nat), d.l.length - c ≤ f → c < d.l.length → isN d c = true → inN d.l m c = true →
    (∀ y, m < y → y < endN d.l c → y < d.l.length → isN d y = false) → dwN d wL c = m := by
  intro f
  induction f with
  | zero => intro c h1 h2; omega
  | succ f ih =>
    intro c hf hc hci hin hno
    have hle := inN_le _ _ _ hin
    rw [dwN_step h (fun l h => wL_mem h) hc]
    by_cases he : kids d c = []
    · rw [if_pos he]
      refine Decidable.byContradiction fun hne => ?_
      obtain ⟨c', c1, c2, c3, c4⟩ := up_chain h m hm c (by omega) hin
      exact kid_ne (by omega) (kid_of h hci (by omega) c3 (isN_anc h m hm hi c' c4)) he
    · rw [if_neg he]
      have hcm : c < m := by
        rcases Nat.lt_or_ge c m with e | e
        · exact e
        · have : c = m := by omega
          subst this; exact absurd hk he
      obtain ⟨c', c1, c2, c3, c4⟩ := up_chain h m hm c hcm hin
      have hc'i := isN_anc h m hm hi c' c4
      obtain ⟨g, g1, g2, g3, g4, g5⟩ := kids_mem h (wL_mem he)
      have hgl : wL (kids d c) = lastSel (kidP d c) d.l.length := wL_last he
      have hmax := lastSel_max (kid_of h hci (by omega) c3 hc'i) (show c' < d.l.length by omega)
      have hgi := kids_in h hci g3 g5
      have hge := in_end h hc g3 (inN_kid h g3 g4)
      have e : c' = g := by
        refine Decidable.byContradiction fun hne => ?_
        have hlt : c' < g := by omega
        have hout := sib_out h (show c' < d.l.length by omega) g3 c3 g4 hlt
        have hme := in_end h (show c' < d.l.length by omega) hm c4
        have : ¬ g < endN d.l c' := fun hh => by
          rw [in_sub d.l h.doc.2 c' (by omega) g (by omega) hh] at hout; cases hout
        rw [hno g (by omega) hge g3] at hgi; cases hgi
      subst e
      rw [g1, Int.toNat_natCast]
      have hw := end_within d.l c c' g3 g2 hge
      exact ih c' (by omega) g3 hgi c4 fun y h1 h2 h3 => hno y h1 (by omega) h3
/-- What stands behind a node without children in flow follows something that ends with it. -/
theorem succ_leaf {d : Doc} (h : okD d) {m x : Nat} (hm : m < d.l.length) (hi : isN d m = true) (hk : kids d m = []) (hx : x < d.l.length) (hxi : isN d x = true) (hmx : m < x) (hno : ∀ y, m < y → y < x → isN d y = false) :
    ∃ o : Nat, oldN d x = o ∧ dwN d wL o = m := by
  have hu := h.up (by omega : 0 < x) hx
  have hpi := isN_parent h (by omega : 0 < x) hx hxi
  have hpm : up d x ≤ m := by
    refine Decidable.byContradiction fun hn => ?_
    rw [hno _ (by omega) hu.2] at hpi; cases hpi
  have hpne : up d x ≠ m := fun e => kid_ne hx (kid_of h hi hx (by omega) hxi) hk
  have hpx := in_end h (show up d x < d.l.length by omega) hx (inN_kid h hx hu.1)
  have hmp := in_sub d.l h.doc.2 (up d x) (by omega) m hpm (by omega)
  obtain ⟨c, c1, c2, c3, c4⟩ := up_chain h m hm (up d x) (by omega) hmp
  have hci := isN_anc h m hm hi c c4
  have hck := kid_of h hpi (by omega) c3 hci
  have hcx : c < x := by omega
  have hmax := lastSel_max hck hcx
  have e0 : oldN d x = lastSel (kidP d (up d x)) x := by unfold oldN; rw [if_neg (by omega)]
  have hme := in_end h (show c < d.l.length by omega) hm c4
  rcases selTo_last (kidP d (up d x)) x with ⟨_, h2⟩ | ⟨o, _, _, h2, h3, h4⟩
  · omega
  · have hoi := kids_in h hpi (by omega) h4
    have ho : o = c := by
      refine Decidable.byContradiction fun hne => ?_
      have hco : c < o := by omega
      have hom : o ≤ m := by
        refine Decidable.byContradiction fun hn => ?_
        rw [hno o (by omega) h3] at hoi; cases hoi
      have hout := sib_out h (show c < d.l.length by omega) (by omega) c3 (kidP_par h4) hco
      rw [in_sub d.l h.doc.2 c (by omega) o (by omega) (by omega)] at hout; cases hout
    subst ho
    refine ⟨o, by rw [e0, h2], last_leaf h hm hi hk _ o (Nat.le_refl _) (by omega) hoi c4 fun y h5 h6 h7 => hno y h5 ?_⟩
    refine Decidable.byContradiction fun hn => ?_
    have hxo := sib_out h (show o < d.l.length by omega) hx c3 hu.1 hcx
    rw [in_sub d.l h.doc.2 o (by omega) x (by omega) (by omega)] at hxo; cases hxo
theorem dwN_in {d : Doc} (h : okD d) {w : List Int → Int} (hw : ∀ l, l ≠ [] → w l ∈ l) : ∀ (f k : Nat), d.l.length - k ≤ f → k < d.l.length → isN d k = true → dwN d w k < d.l.length ∧ isN d (dwN d w k) = true := by
  intro f
  induction f with
  | zero => intro k h1 h2; omega
  | succ f ih =>
    intro k hf hk hi
    rw [dwN_step h hw hk]
    by_cases he : kids d k = []
    · rw [if_pos he]; exact ⟨hk, hi⟩
    · rw [if_neg he]
      obtain ⟨j, a1, a2, a3, a4, a5⟩ := kids_mem h (hw _ he)
      rw [a1, Int.toNat_natCast]
      exact ih j (by omega) a3 (kids_in h hi a3 a5)
/-- The same nodes with other names. -/
def setP (d : Doc) (p : List ByteArray) : Doc := ⟨d.l, d.run, d.bef, d.aft, p⟩
theorem setP_isF (d : Doc) (p : List ByteArray) : ∀ (f k : Nat), isF (setP d p) f k = isF d f k
  | 0, _ => rfl
  | f + 1, k => by
    simp only [isF]
    rw [setP_isF d p f]; rfl
theorem setP_isN (d : Doc) (p : List ByteArray) (k : Nat) : isN (setP d p) k = isN d k := setP_isF d p _ k
theorem setP_kids (d : Doc) (p : List ByteArray) (k : Nat) : kids (setP d p) k = kids d k := rfl
theorem setP_oldN (d : Doc) (p : List ByteArray) (k : Nat) : oldN (setP d p) k = oldN d k := rfl
theorem setP_dwF (d : Doc) (p : List ByteArray) (w : List Int → Int) : ∀ (f k : Nat), dwF (setP d p) w f k = dwF d w f k
  | 0, _ => rfl
  | f + 1, k => by
    simp only [dwF, setP_kids]
    rw [setP_dwF d p w f]
    rfl
theorem setP_dwN (d : Doc) (p : List ByteArray) (w : List Int → Int) (k : Nat) : dwN (setP d p) w k = dwN d w k := setP_dwF d p w _ k
theorem setP_in (d : Doc) (p : List ByteArray) : inL (setP d p) = inL d := selTo_congr fun m _ => setP_isN d p m
theorem okD.set {d : Doc} (h : okD d) (p : List ByteArray) (hp : p.length = d.l.length) : okD (setP d p) := ⟨h.doc, ⟨h.len.1, h.len.2.1, h.len.2.2.1, hp⟩, h.r0⟩
end Go.Proofs.Ytdeleamdjakooaa
