/- Layer 7, without the program: Space between parts says nothing. -/
import Derived.Test.YtjofgafeaiiegaaV7A
namespace Go.Proofs.Ytjofgafeaiiegaa
open Go.Sx
set_option linter.unusedSimpArgs false
set_option maxHeartbeats 8000000
set_option maxRecDepth 20000

theorem F2_length {α β : Type} {R : α → β → Prop} {a : List α} {b : List β} (h : F2 R a b) : a.length = b.length := F2_len h
theorem par_low {p q : Pa} (h : PaR p q) : lowP q = lowP p := by unfold lowP; rw [h.1]
theorem par_ident {p q : Pa} (h : PaR p q) (s : ByteArray) : identB q s = identB p s := by unfold identB; rw [h.1, par_low h]
theorem par_named {p q : Pa} (h : PaR p q) : namedB q = namedB p := by unfold namedB; rw [h.1, par_low h]
theorem par_al {p q : Pa} (h : PaR p q) : ptB q.al = ptB p.al ∧ F2 PaR (pl p.al) (pl q.al) := by
  rcases h.2 with h2 | ⟨h2, h3⟩
  · rw [h2]; exact pl_spread p.al
  · rw [h2, h3]; exact ⟨rfl, trivial⟩
theorem alt_f2 : ∀ {a b : List Pa} (i : Nat), F2 PaR a b → altB i b = altB i a
  | [], [], _, _ => rfl
  | p :: a, q :: b, i, h => by simp only [altB]; rw [h.1.1, alt_f2 (i + 1) h.2]
  | [], _ :: _, _, h => h.elim
  | _ :: _, [], _, h => h.elim
theorem evn_f2 : ∀ {a b : List Pa} (i : Nat), F2 PaR a b → F2 PaR (evn i a) (evn i b)
  | [], [], _, _ => trivial
  | p :: a, q :: b, i, h => by
    simp only [evn]
    split
    · exact ⟨h.1, evn_f2 (i + 1) h.2⟩
    · exact evn_f2 (i + 1) h.2
  | [], _ :: _, _, h => h.elim
  | _ :: _, [], _, h => h.elim
theorem args_f2 {p q : Pa} (h : PaR p q) : argsB q = argsB p ∧ F2 PaR (argsA p) (argsA q) := by
  obtain ⟨h1, h2⟩ := par_al h
  unfold argsB argsA
  rw [h1, alt_f2 0 h2, F2_length h2]
  exact ⟨rfl, evn_f2 0 h2⟩
theorem st_f2 (x : Itm) : ∀ {a b : List Pa}, F2 PaR a b → stV x b = stV x a
  | [], [], _ => rfl
  | [p], [q], h => by simp only [stV]; rw [h.1.1]
  | p :: p2 :: a, q :: q2 :: b, h => by simp only [stV]; rw [h.1.1]; simp
  | [], _ :: _, h => h.elim
  | _ :: _, [], h => h.elim
  | [_], _ :: _ :: _, h => h.2.elim
  | _ :: _ :: _, [_], h => h.2.elim
theorem ch_f2 (x : Itm) : ∀ {a b : List Pa}, F2 PaR a b → chV x b = chV x a
  | [], [], _ => rfl
  | [p], [q], h => by simp only [chV]; rw [h.1.1]
  | p :: p2 :: a, q :: q2 :: b, h => by simp only [chV]; rw [h.1.1]; simp
  | [], _ :: _, h => h.elim
  | _ :: _, [], h => h.elim
  | [_], _ :: _ :: _, h => h.2.elim
  | _ :: _ :: _, [_], h => h.2.elim
theorem item_f2 {p q : Pa} (h : PaR p q) : itemV q = itemV p := by
  obtain ⟨h1, h2⟩ := args_f2 h
  have h3 := par_low h
  have h4 := h.1
  unfold itemV
  rw [h1, h3, h4]
  generalize argsA p = A at *
  generalize argsA q = B at *
  match A, B, h2 with
  | [], [], _ => rfl
  | a :: l, b :: m, h2 =>
    dsimp only
    have h5 := par_named h2.1
    have h6 := h2.1.1
    have h7 := st_f2 ⟨2, ⟨#[]⟩, a.t.text, 0, 0⟩ h2.2
    have h8 := ch_f2 ⟨4, ⟨#[]⟩, a.t.text, 0, 0⟩ h2.2
    have h9 := ch_f2 ⟨5, ⟨#[]⟩, a.t.text, 0, 0⟩ h2.2
    rw [h5, h6, h7, h8, h9]
    have h10 : decide (m = []) = decide (l = []) := by
      match l, m, h2.2 with
      | [], [], _ => rfl
      | _ :: _, _ :: _, _ => simp
    rw [h10]
    match l, m, h2.2 with
    | [], [], _ => rfl
    | c :: l, d :: m, hh =>
      dsimp only
      rw [hh.1.1, st_f2 ⟨3, c.t.text, a.t.text, 0, 0⟩ hh.2]
theorem itO_f2 (own : Bool) {p q : Pa} (h : PaR p q) : itO own q = itO own p := by
  unfold itO itX ownB
  rw [item_f2 h, par_low h, h.1, F2_length (par_al h).2]
theorem itL_f2 (own : Bool) : ∀ {a b : List Pa}, F2 PaR a b → itL own b = itL own a
  | [], [], _ => rfl
  | p :: a, q :: b, h => by simp only [itL]; rw [itO_f2 own h.1, itL_f2 own h.2]
  | [], _ :: _, h => h.elim
  | _ :: _, [], h => h.elim
theorem isNN_f2 : ∀ {a b : List Pa}, F2 PaR a b → isNN b = isNN a ∧ isNone b = isNone a
  | [], [], _ => ⟨rfl, rfl⟩
  | [p], [q], h => by
    unfold isNN isNone
    dsimp only
    rw [par_ident h.1, par_ident h.1]; exact ⟨rfl, rfl⟩
  | p :: p2 :: a, q :: q2 :: b, h => ⟨rfl, rfl⟩
  | [], _ :: _, h => h.elim
  | _ :: _, [], h => h.elim
  | [_], _ :: _ :: _, h => h.2.elim
  | _ :: _ :: _, [_], h => h.2.elim
theorem steps_f2 (u : Int) : ∀ {a b : List Pa}, F2 PaR a b → stepsL u b = stepsL u a
  | [], [], _ => rfl
  | [p], [q], h => by simp only [stepsL]; rw [par_named h.1, h.1.1]
  | p :: p2 :: a, q :: q2 :: b, h => by
    simp only [stepsL]
    rw [par_named h.1, h.1.1, h.2.1.1, steps_f2 u h.2, steps_f2 u h.2.2]
  | [], _ :: _, h => h.elim
  | _ :: _, [], h => h.elim
  | [_], _ :: _ :: _, h => h.2.elim
  | _ :: _ :: _, [_], h => h.2.elim
theorem fin_f2 : ∀ {a b : List Pa}, F2 PaR a b → finS b = finS a
  | [], [], _ => rfl
  | p :: a, q :: b, h => by unfold finS; dsimp only; rw [par_named h.1, h.1.1, itL_f2 true h.2]
  | [], _ :: _, h => h.elim
  | _ :: _, [], h => h.elim
theorem F2_snoc {R : Pa → Pa → Prop} : ∀ {a b : List Pa} {p q : Pa}, F2 R a b → R p q → F2 R (a ++ [p]) (b ++ [q])
  | [], [], _, _, _, h => ⟨h, trivial⟩
  | _ :: _, _ :: _, _, _, h, h' => ⟨h.1, F2_snoc h.2 h'⟩
  | [], _ :: _, _, _, h, _ => h.elim
  | _ :: _, [], _, _, h, _ => h.elim
theorem str_f2 : ∀ {a b : List Pa}, F2 PaR a b → ∀ {c d : List Pa}, F2 PaR c d → strG d b = strG c a
  | [], [], _, c, d, h' => by simp only [strG]; rw [fin_f2 h']
  | p :: a, q :: b, h, c, d, h' => by
    simp only [strG]
    have : isCm q = isCm p := by unfold isCm; rw [h.1.1]
    rw [this, fin_f2 h', str_f2 h.2 (c := []) (d := []) trivial, str_f2 h.2 (F2_snoc h' h.1)]
  | [], _ :: _, h, _, _, _ => h.elim
  | _ :: _, [], h, _, _, _ => h.elim
theorem ct_spread (v : List Tok) : ctO (spread v) = ctO v := by
  obtain ⟨h1, h2⟩ := pl_spread v
  unfold ctO
  rw [h1, (isNN_f2 h2).1, itL_f2 false h2]
theorem sp_spread (u : Int) (v : List Tok) : spO u (spread v) = spO u v := by
  obtain ⟨h1, h2⟩ := pl_spread v
  unfold spO
  rw [h1, (isNN_f2 h2).2, steps_f2 u h2]
  have h3 := F2_length h2
  by_cases hz : pl v = []
  · rw [hz] at h3
    rw [if_pos hz, if_pos (List.length_eq_zero_iff.1 h3.symm)]
  · have hz' : ¬ pl (spread v) = [] := fun hh => hz (List.length_eq_zero_iff.1 (by rw [h3, hh]; rfl))
    rw [if_neg hz, if_neg hz']
theorem str_spread (v : List Tok) : stO (spread v) = stO v := by
  obtain ⟨h1, h2⟩ := pl_spread v
  unfold stO
  rw [h1, (isNN_f2 h2).2, str_f2 h2 (c := []) (d := []) trivial]
end Go.Proofs.Ytjofgafeaiiegaa
