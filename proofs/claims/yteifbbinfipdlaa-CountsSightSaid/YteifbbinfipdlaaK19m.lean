/- Layer 19: what is in sight behind a node: the plain law. -/
import Derived.Test.YteifbbinfipdlaaK19l
namespace Go.Proofs.Yteifbbinfipdlaa
open Go.Sx
set_option linter.unusedSimpArgs false
set_option maxHeartbeats 4000000
set_option maxRecDepth 20000

def bnd (n : Int) : Prop := -2147483648 ≤ n ∧ n ≤ 2147483647
def sgt (d : Doc) (k : Int) (c : Cnt) : Prop := 0 ≤ c.maker ∧ c.maker ≤ k ∧ bnd c.n ∧ (par d.l c.maker.toNat = -1 ∨ (0 ≤ par d.l c.maker.toNat ∧ inN d.l k (par d.l c.maker.toNat) = true))
def sgA (d : Doc) (k : Int) (l : List Cnt) : Prop := ∀ c ∈ l, sgt d k c
theorem sgA_set {d : Doc} {k : Int} {l : List Cnt} {a : Nat} {c : Cnt} (h : sgA d k l) (hc : sgt d k c) : sgA d k (l.set a c) := fun x hx => by
  rcases List.mem_or_eq_of_mem_set hx with hx | rfl
  · exact h x hx
  · exact hc
theorem sgA_app {d : Doc} {k : Int} {l : List Cnt} {c : Cnt} (h : sgA d k l) (hc : sgt d k c) : sgA d k (l ++ [c]) := fun x hx => by
  rcases List.mem_append.1 hx with hx | hx
  · exact h x hx
  · obtain rfl := List.mem_singleton.1 hx; exact hc
theorem par_rng {l : List Node} (hd : stood l l.length) (k : Nat) (hk : k < l.length) : -1 ≤ par l k ∧ par l k < k ∧ (k = 0 → par l k = -1) ∧ (0 < k → 0 ≤ par l k) := by
  by_cases h0 : k = 0
  · subst h0
    have := hd 0 hk
    unfold standR at this
    rw [if_pos rfl, decide_eq_true_eq] at this
    have hp : par l 0 = -1 := this.1
    omega
  · have := (standR_pos (by omega)).1 (hd k hk)
    omega
theorem sgt_new {d : Doc} (hd : stood d.l d.l.length) {k : Nat} (hk : k < d.l.length) (nm : ByteArray) (n : Int) : sgt d k ⟨nm, stopI n, k⟩ := by
  obtain ⟨p1, p2, p3, p4⟩ := par_rng hd k hk
  refine ⟨by dsimp only; omega, Int.le_refl _, stopI_rng n, ?_⟩
  dsimp only
  rw [Int.toNat_natCast]
  by_cases h0 : k = 0
  · exact .inl (p3 h0)
  · right
    have := p4 (by omega)
    refine ⟨this, ?_⟩
    rw [inN_step d.l k (par d.l k) this p2 p2]
    exact inN_self _ _
theorem sgA_rst {d : Doc} (hd : stood d.l d.l.length) {k : Nat} (hk : k < d.l.length) {l : List Cnt} (h : sgA d k l) (nm : ByteArray) (n : Int) : sgA d k (rstC d k l nm n) := by
  unfold rstC
  split
  · exact sgA_set h (sgt_new hd hk nm n)
  · exact sgA_app h (sgt_new hd hk nm n)
theorem sgA_rstA {d : Doc} (hd : stood d.l d.l.length) {k : Nat} (hk : k < d.l.length) : ∀ (ss : List VSt) (l : List Cnt), sgA d k l → sgA d k (rstA d k l ss)
  | [], l, h => h
  | s :: ss, l, h => sgA_rstA hd hk ss _ (sgA_rst hd hk h s.name s.n)
theorem sgA_chg1 {F : Int → Int → Int} (hF : ∀ a b, bnd (F a b)) {d : Doc} (hd : stood d.l d.l.length) {k : Nat} (hk : k < d.l.length) {l : List Cnt} (h : sgA d k l) (s : VSt) : sgA d k (chg1 F d k l s) := by
  obtain ⟨a, ha, hal⟩ := chgL_at d k l s.name
  have h1 : sgA d k (chgL d k l s.name) := by
    unfold chgL
    split
    · exact sgA_rst hd hk h s.name 0
    · exact h
  unfold chg1
  rw [ha, Int.toNat_natCast]
  have h2 := h1 _ (getD_memC hal)
  exact sgA_set h1 ⟨h2.1, h2.2.1, hF _ _, h2.2.2.2⟩
theorem sgA_chgA {F : Int → Int → Int} (hF : ∀ a b, bnd (F a b)) {d : Doc} (hd : stood d.l d.l.length) {k : Nat} (hk : k < d.l.length) : ∀ (ss : List VSt) (l : List Cnt), sgA d k l → sgA d k (chgA F d k l ss)
  | [], l, h => h
  | s :: ss, l, h => sgA_chgA hF hd hk ss _ (sgA_chg1 hF hd hk h s)
theorem sgA_keep {d : Doc} (hL : okL d) {k : Nat} (hk : k < d.l.length) {l : List Cnt} (h : ∀ c ∈ l, 0 ≤ c.maker ∧ c.maker ≤ k ∧ bnd c.n) : sgA d k (keepC d k l) := fun c hc => by
  obtain ⟨c1, c2⟩ := List.mem_filter.1 hc
  obtain ⟨h1, h2, h3⟩ := h c c1
  refine ⟨h1, h2, h3, ?_⟩
  have hd := hL.1.doc.2
  unfold seenB at c2
  by_cases h0 : c.maker = 0
  · left
    rw [h0]
    exact (par_rng hd 0 (by omega)).2.2.1 rfl
  · rw [if_neg (by omega)] at c2
    simp only [Bool.and_eq_true, decide_eq_true_eq] at c2
    obtain ⟨p1, p2, p3, p4⟩ := par_rng hd c.maker.toNat (by omega)
    have hp0 := p4 (by omega)
    right
    refine ⟨hp0, ?_⟩
    generalize hq : par d.l c.maker.toNat = q at *
    obtain ⟨q, rfl⟩ : ∃ m : Nat, q = m := ⟨q.toNat, by omega⟩
    rw [endV_at hL (by omega)] at c2
    exact in_sub d.l hd q (by omega) k (by omega) (by omega)
theorem bnd_add (a b : Int) : bnd (addI a b) := stopI_rng _
theorem bnd_stop (a b : Int) : bnd ((fun _ b => stopI b) a b) := stopI_rng _
theorem sgA_step {d : Doc} (hL : okL d) {k : Nat} (hk : k < d.l.length) {l : List Cnt} (p : Prp) (h : ∀ c ∈ l, 0 ≤ c.maker ∧ c.maker ≤ k ∧ bnd c.n) : sgA d k (stepC d p k l) := by
  unfold stepC
  split
  · exact sgA_chgA bnd_stop hL.1.doc.2 hk _ _ (sgA_chgA bnd_add hL.1.doc.2 hk _ _ (sgA_rstA hL.1.doc.2 hk _ _ (sgA_keep hL hk h)))
  · intro c hc; cases hc
theorem selTo_pw (p : Nat → Bool) : ∀ n, (selTo p n).Pairwise (· < ·)
  | 0 => .nil
  | n + 1 => by
    simp only [selTo]
    split
    · rw [List.pairwise_append]
      refine ⟨selTo_pw p n, List.pairwise_singleton _ _, fun a ha b hb => ?_⟩
      obtain rfl := List.mem_singleton.1 hb
      obtain ⟨m, rfl, h1, _⟩ := selTo_mem.1 ha
      omega
    · exact selTo_pw p n
theorem sgA_all {d : Doc} (hL : okL d) (ps : List Prp) : ∀ (ks : List Int) (now : List Cnt), ks.Pairwise (· < ·) → (∀ k ∈ ks, 0 ≤ k ∧ k < d.l.length) → (∀ c ∈ now, 0 ≤ c.maker ∧ bnd c.n ∧ ∀ k ∈ ks, c.maker ≤ k) →
    (allS d ps ks now).length = ks.length ∧ ∀ n, n < ks.length → sgA d (ks.getD n 0) ((allS d ps ks now).getD n [])
  | [], now, _, _, _ => ⟨rfl, fun n hn => by simp at hn⟩
  | k :: ks, now, hp, hk, hn => by
    obtain ⟨p1, p2⟩ := List.pairwise_cons.1 hp
    obtain ⟨k0, k1⟩ := hk k (by simp)
    have h1 : sgA d k (stepC d (ps.getD k.toNat .zero) k now) := by
      have := sgA_step hL (k := k.toNat) (by omega) (l := now) (ps.getD k.toNat .zero) (fun c hc => ⟨(hn c hc).1, by have := (hn c hc).2.2 k (by simp); omega, (hn c hc).2.1⟩)
      rwa [Int.toNat_of_nonneg k0] at this
    obtain ⟨q1, q2⟩ := sgA_all hL ps ks (stepC d (ps.getD k.toNat .zero) k now) p2 (fun x hx => hk x (by simp [hx])) (fun c hc => ⟨(h1 c hc).1, (h1 c hc).2.2.1, fun x hx => by have := p1 x hx; have := (h1 c hc).2.1; omega⟩)
    simp only [allS]
    refine ⟨by rw [List.length_cons, List.length_cons, q1], fun n hn => ?_⟩
    cases n with
    | zero => exact h1
    | succ n =>
      simp only [List.getD_cons_succ]
      exact q2 n (by simpa using hn)
end Go.Proofs.Yteifbbinfipdlaa
