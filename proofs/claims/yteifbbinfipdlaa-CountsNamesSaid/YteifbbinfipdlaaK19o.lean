/- Layer 19: counters of other names: the plain law, and the steps of a name. -/
import Derived.Test.YteifbbinfipdlaaK19k
namespace Go.Proofs.Yteifbbinfipdlaa
open Go.Sx
set_option linter.unusedSimpArgs false
set_option linter.unusedVariables false
set_option maxHeartbeats 4000000
set_option maxRecDepth 20000

def ofN (nm : ByteArray) (l : List Cnt) : List Cnt := l.filter fun c => decide (c.name = nm)
def ofS (nm : ByteArray) (l : List VSt) : List VSt := l.filter fun s => decide (s.name = nm)
theorem ofN_app (nm : ByteArray) (a b : List Cnt) : ofN nm (a ++ b) = ofN nm a ++ ofN nm b := List.filter_append ..
theorem ofN_cons (nm : ByteArray) (c : Cnt) (b : List Cnt) : ofN nm (c :: b) = if c.name = nm then c :: ofN nm b else ofN nm b := by
  unfold ofN
  by_cases h : c.name = nm
  · rw [if_pos h, List.filter_cons_of_pos (by simpa using h)]
  · rw [if_neg h, List.filter_cons_of_neg (by simpa using h)]
theorem lastF_split (l : List Cnt) (nm : ByteArray) : ∀ k, k ≤ l.length → (lastF l nm k = -1 ∧ ∀ m, m ≠ nm ∨ ofN m (l.take k) = []) ∨ ∃ a c b, l.take k = a ++ c :: b ∧ c.name = nm ∧ ofN nm b = [] ∧ lastF l nm k = (a.length : Int)
  | 0, _ => .inl ⟨rfl, fun m => .inr rfl⟩
  | k + 1, h => by
    have ht : l.take (k + 1) = l.take k ++ [l.getD k .zero] := by
      rw [List.take_add_one, List.getD_eq_getElem?_getD, List.getElem?_eq_getElem (by omega)]; rfl
    simp only [lastF]
    by_cases hn : (l.getD k .zero).name = nm
    · rw [if_pos hn]
      exact .inr ⟨l.take k, _, [], ht, hn, rfl, by rw [List.length_take]; omega⟩
    · rw [if_neg hn]
      have hb : ofN nm [l.getD k .zero] = [] := by rw [ofN_cons, if_neg hn]; rfl
      rcases lastF_split l nm k (by omega) with ⟨h1, h2⟩ | ⟨a, c, b, h1, h2, h3, h4⟩
      · refine .inl ⟨h1, fun m => ?_⟩
        rcases h2 m with h | h
        · exact .inl h
        · by_cases e : m = nm
          · subst e; exact .inr (by rw [ht, ofN_app, h, hb]; rfl)
          · exact .inl e
      · exact .inr ⟨a, c, b ++ [l.getD k .zero], by rw [ht, h1, List.append_assoc, List.cons_append], h2, by rw [ofN_app, h3, hb]; rfl, h4⟩
theorem lastC_split (l : List Cnt) (nm : ByteArray) : (lastC l nm = -1 ∧ ofN nm l = []) ∨ ∃ a c b, l = a ++ c :: b ∧ c.name = nm ∧ ofN nm b = [] ∧ lastC l nm = (a.length : Int) := by
  rcases lastF_split l nm l.length (Nat.le_refl _) with ⟨h1, h2⟩ | ⟨a, c, b, h1, h2, h3, h4⟩
  · rw [List.take_length] at h2
    exact .inl ⟨h1, (h2 nm).resolve_left fun h => h rfl⟩
  · rw [List.take_length] at h1
    exact .inr ⟨a, c, b, h1, h2, h3, h4⟩
theorem set_mid (a : List Cnt) (c x : Cnt) (b : List Cnt) : (a ++ c :: b).set a.length x = a ++ x :: b := by
  rw [List.set_append_right _ _ (Nat.le_refl _), Nat.sub_self]; rfl
theorem getD_mid (a : List Cnt) (c : Cnt) (b : List Cnt) : (a ++ c :: b).getD a.length .zero = c := by
  rw [List.getD_eq_getElem?_getD, List.getElem?_append_right (Nat.le_refl _), Nat.sub_self]; rfl
theorem ofN_one {nm : ByteArray} {a b : List Cnt} {c : Cnt} (hc : c.name = nm) (hb : ofN nm b = []) : ofN nm (a ++ c :: b) = ofN nm a ++ [c] := by
  rw [ofN_app, ofN_cons, if_pos hc, hb]
theorem ofN_put (nm : ByteArray) (a b : List Cnt) (c x : Cnt) (hc : c.name ≠ nm) (hx : x.name ≠ nm) : ofN nm (a ++ x :: b) = ofN nm (a ++ c :: b) := by
  rw [ofN_app, ofN_app, ofN_cons, ofN_cons, if_neg hc, if_neg hx]
theorem rst_at {d : Doc} {k : Int} {a b : List Cnt} {c : Cnt} {nm : ByteArray} (h : lastC (a ++ c :: b) nm = (a.length : Int)) (n : Int) :
    rstC d k (a ++ c :: b) nm n = if par d.l c.maker.toNat = par d.l k.toNat then a ++ ⟨nm, stopI n, k⟩ :: b else (a ++ c :: b) ++ [⟨nm, stopI n, k⟩] := by
  unfold rstC rstB atPar
  rw [h, Int.toNat_natCast, getD_mid, set_mid, decide_eq_true (show (0 : Int) ≤ (a.length : Int) by omega), Bool.true_and]
  simp only [decide_eq_true_eq]
theorem rst_no {d : Doc} {k : Int} {l : List Cnt} {nm : ByteArray} (h : lastC l nm = -1) (n : Int) : rstC d k l nm n = l ++ [⟨nm, stopI n, k⟩] := (rstC_neg d k l nm n (by omega)).2
theorem rst_other (d : Doc) (k : Int) (l : List Cnt) (m nm : ByteArray) (n : Int) (h : m ≠ nm) : ofN nm (rstC d k l m n) = ofN nm l := by
  have hx : ofN nm [⟨m, stopI n, k⟩] = [] := by rw [ofN_cons, if_neg h]; rfl
  rcases lastC_split l m with ⟨h1, _⟩ | ⟨a, c, b, rfl, h2, h3, h4⟩
  · rw [rst_no h1, ofN_app, hx, List.append_nil]
  · rw [rst_at h4]
    split
    · exact ofN_put nm a b c _ (by rw [h2]; exact h) h
    · rw [ofN_app, hx, List.append_nil]
theorem last_inj {nm : ByteArray} {l l' : List Cnt} (h : ofN nm l = ofN nm l') :
    (lastC l nm = -1 ∧ lastC l' nm = -1 ∧ ofN nm l = [] ∧ ofN nm l' = []) ∨ ∃ a a' c b b', l = a ++ c :: b ∧ l' = a' ++ c :: b' ∧ c.name = nm ∧ ofN nm b = [] ∧ ofN nm b' = [] ∧ ofN nm a = ofN nm a' ∧ lastC l nm = (a.length : Int) ∧ lastC l' nm = (a'.length : Int) := by
  rcases lastC_split l nm with ⟨h1, h2⟩ | ⟨a, c, b, rfl, h2, h3, h4⟩ <;> rcases lastC_split l' nm with ⟨g1, g2⟩ | ⟨a', c', b', rfl, g2, g3, g4⟩
  · exact .inl ⟨h1, g1, h2, g2⟩
  · rw [h2, ofN_one g2 g3] at h; simp at h
  · rw [g2, ofN_one h2 h3] at h; simp at h
  · rw [ofN_one h2 h3, ofN_one g2 g3] at h
    obtain ⟨e1, e2⟩ := List.append_inj' h rfl
    obtain rfl : c = c' := by simpa using e2
    exact .inr ⟨a, a', c, b, b', rfl, rfl, h2, h3, g3, e1, h4, g4⟩
theorem rst_same (d : Doc) (k : Int) {l l' : List Cnt} {nm : ByteArray} (n : Int) (h : ofN nm l = ofN nm l') : ofN nm (rstC d k l nm n) = ofN nm (rstC d k l' nm n) := by
  rcases last_inj h with ⟨h1, h2, h3, h4⟩ | ⟨a, a', c, b, b', rfl, rfl, h1, h2, h3, h4, h5, h6⟩
  · rw [rst_no h1, rst_no h2, ofN_app, ofN_app, h]
  · rw [rst_at h5, rst_at h6]
    split
    · exact (ofN_one (c := ⟨nm, stopI n, k⟩) rfl h2).trans ((congrArg (· ++ [_]) h4).trans (ofN_one (c := ⟨nm, stopI n, k⟩) rfl h3).symm)
    · rw [ofN_app nm (a ++ c :: b), ofN_app nm (a' ++ c :: b'), h]
theorem chg_at {F : Int → Int → Int} {d : Doc} {k : Int} {a b : List Cnt} {c : Cnt} {s : VSt} (h : lastC (a ++ c :: b) s.name = (a.length : Int)) :
    chg1 F d k (a ++ c :: b) s = a ++ ⟨c.name, F c.n s.n, c.maker⟩ :: b := by
  have e : chgL d k (a ++ c :: b) s.name = a ++ c :: b := by unfold chgL; rw [if_neg (by omega)]
  unfold chg1
  rw [e, h, Int.toNat_natCast, getD_mid, set_mid]
theorem chg_no {F : Int → Int → Int} {d : Doc} {k : Int} {l : List Cnt} {s : VSt} (h : lastC l s.name = -1) :
    chg1 F d k l s = l ++ [⟨s.name, F (stopI 0) s.n, k⟩] := by
  have e : chgL d k l s.name = l ++ [⟨s.name, stopI 0, k⟩] := by unfold chgL; rw [if_pos (by omega), rst_no h]
  unfold chg1
  rw [e, lastC_app l ⟨s.name, stopI 0, k⟩, Int.toNat_natCast, getD_mid l _ [], set_mid l _ _ []]
theorem chg_other (F : Int → Int → Int) (d : Doc) (k : Int) (l : List Cnt) (s : VSt) (nm : ByteArray) (h : s.name ≠ nm) : ofN nm (chg1 F d k l s) = ofN nm l := by
  rcases lastC_split l s.name with ⟨h1, _⟩ | ⟨a, c, b, rfl, h2, h3, h4⟩
  · rw [chg_no h1, ofN_app, ofN_cons, if_neg h]; simp [ofN]
  · rw [chg_at h4]
    exact ofN_put nm a b c _ (by rw [h2]; exact h) (by dsimp only; rw [h2]; exact h)
theorem chg_same (F : Int → Int → Int) (d : Doc) (k : Int) {l l' : List Cnt} (s : VSt) (h : ofN s.name l = ofN s.name l') : ofN s.name (chg1 F d k l s) = ofN s.name (chg1 F d k l' s) := by
  rcases last_inj h with ⟨h1, h2, h3, h4⟩ | ⟨a, a', c, b, b', rfl, rfl, h1, h2, h3, h4, h5, h6⟩
  · rw [chg_no h1, chg_no h2, ofN_app, ofN_app, h]
  · rw [chg_at h5, chg_at h6]
    exact (ofN_one (c := ⟨c.name, F c.n s.n, c.maker⟩) h1 h2).trans ((congrArg (· ++ [_]) h4).trans (ofN_one (c := ⟨c.name, F c.n s.n, c.maker⟩) h1 h3).symm)
theorem ofS_cons (nm : ByteArray) (s : VSt) (b : List VSt) : ofS nm (s :: b) = if s.name = nm then s :: ofS nm b else ofS nm b := by
  unfold ofS
  by_cases h : s.name = nm
  · rw [if_pos h, List.filter_cons_of_pos (by simpa using h)]
  · rw [if_neg h, List.filter_cons_of_neg (by simpa using h)]
theorem rstA_of (d : Doc) (k : Int) (nm : ByteArray) : ∀ (ss : List VSt) {l l' : List Cnt}, ofN nm l = ofN nm l' → ofN nm (rstA d k l ss) = ofN nm (rstA d k l' (ofS nm ss))
  | [], l, l', h => h
  | s :: ss, l, l', h => by
    have e : rstA d k l (s :: ss) = rstA d k (rstC d k l s.name s.n) ss := rfl
    rw [e, ofS_cons]
    by_cases hn : s.name = nm
    · rw [if_pos hn]
      have e' : rstA d k l' (s :: ofS nm ss) = rstA d k (rstC d k l' s.name s.n) (ofS nm ss) := rfl
      rw [e', hn]
      exact rstA_of d k nm ss (rst_same d k s.n h)
    · rw [if_neg hn]
      exact rstA_of d k nm ss (by rw [rst_other d k l s.name nm s.n hn]; exact h)
theorem chgA_of (F : Int → Int → Int) (d : Doc) (k : Int) (nm : ByteArray) : ∀ (ss : List VSt) {l l' : List Cnt}, ofN nm l = ofN nm l' → ofN nm (chgA F d k l ss) = ofN nm (chgA F d k l' (ofS nm ss))
  | [], l, l', h => h
  | s :: ss, l, l', h => by
    have e : chgA F d k l (s :: ss) = chgA F d k (chg1 F d k l s) ss := rfl
    rw [e, ofS_cons]
    by_cases hn : s.name = nm
    · rw [if_pos hn]
      have e' : chgA F d k l' (s :: ofS nm ss) = chgA F d k (chg1 F d k l' s) (ofS nm ss) := rfl
      rw [e']
      subst hn
      exact chgA_of F d k _ ss (chg_same F d k s h)
    · rw [if_neg hn]
      exact chgA_of F d k nm ss (by rw [chg_other F d k l s nm hn]; exact h)
theorem keepC_of (d : Doc) (k : Int) (nm : ByteArray) {l l' : List Cnt} (h : ofN nm l = ofN nm l') : ofN nm (keepC d k l) = ofN nm (keepC d k l') := by
  have e : ∀ l, ofN nm (keepC d k l) = (ofN nm l).filter fun c => seenB d c k := fun l => by
    unfold ofN keepC
    rw [List.filter_filter, List.filter_filter]
    congr 1; funext c; rw [Bool.and_comm]
  rw [e, e, h]
def lessP (nm : ByteArray) (p : Prp) : Prp := ⟨0, 0, ⟨#[]⟩, ofS nm p.r, ofS nm p.i, ofS nm p.s, vnil, ⟨#[]⟩⟩
theorem stepC_of (d : Doc) (p : Prp) (k : Int) (nm : ByteArray) {l l' : List Cnt} (h : ofN nm l = ofN nm l') : ofN nm (stepC d p k l) = ofN nm (stepC d (lessP nm p) k l') := by
  unfold stepC
  split
  · exact chgA_of _ d k nm _ (chgA_of _ d k nm _ (rstA_of d k nm _ (keepC_of d k nm h)))
  · rfl
theorem less_getD (nm : ByteArray) (ps : List Prp) (i : Nat) : (ps.map (lessP nm)).getD i .zero = lessP nm (ps.getD i .zero) := by
  simp only [List.getD_eq_getElem?_getD, List.getElem?_map]
  cases ps[i]? with
  | none => rfl
  | some x => rfl
theorem allS_of (d : Doc) (ps : List Prp) (nm : ByteArray) : ∀ (ks : List Int) {l l' : List Cnt}, ofN nm l = ofN nm l' →
    (allS d ps ks l).length = (allS d (ps.map (lessP nm)) ks l').length ∧ ∀ n, ofN nm ((allS d ps ks l).getD n []) = ofN nm ((allS d (ps.map (lessP nm)) ks l').getD n [])
  | [], l, l', h => ⟨rfl, fun n => rfl⟩
  | k :: ks, l, l', h => by
    simp only [allS, less_getD]
    have h1 := stepC_of d (ps.getD k.toNat .zero) k nm h
    obtain ⟨h2, h3⟩ := allS_of d ps nm ks h1
    refine ⟨by rw [List.length_cons, List.length_cons, h2], fun n => ?_⟩
    cases n with
    | zero => exact h1
    | succ n => simp only [List.getD_cons_succ]; exact h3 n
theorem allC_of (d : Doc) (ps : List Prp) (nm : ByteArray) :
    (allC d ps).length = (allC d (ps.map (lessP nm))).length ∧ ∀ n, ofN nm ((allC d ps).getD n []) = ofN nm ((allC d (ps.map (lessP nm))).getD n []) := by
  unfold allC
  rw [List.length_map]
  split
  · exact allS_of d ps nm _ rfl
  · exact ⟨rfl, fun n => rfl⟩
end Go.Proofs.Yteifbbinfipdlaa
