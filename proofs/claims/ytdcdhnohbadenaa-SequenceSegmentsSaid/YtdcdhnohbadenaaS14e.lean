/- Segments, by the document: whether a script may be. -/
import Derived.Test.YtdcdhnohbadenaaS14d
namespace Go.Sx
def C.hd : C → C
  | .seq a _ => a
  | c => c
def C.tl : C → C
  | .seq _ b => b
  | c => c
def C.inn : C → C
  | .block _ c => c
  | .loop c => c
  | c => c
end Go.Sx
namespace Go.Proofs.Ytdcdhnohbadenaa
open Go.Sx
set_option linter.unusedSimpArgs false
set_option maxHeartbeats 4000000
set_option maxRecDepth 20000

theorem ovr_congr {p q : Int → Bool} : ∀ {sc : List (List Int)} {n : Nat}, (∀ s ∈ sc, ∀ x ∈ s, p x = q x) → ovr p n sc = ovr q n sc
  | [], _, _ => rfl
  | s :: r, n, h => by
    unfold ovr
    have e : (s.drop 1).any p = (s.drop 1).any q := by
      rw [Bool.eq_iff_iff, List.any_eq_true, List.any_eq_true]
      constructor
      · rintro ⟨x, hx, hp⟩; exact ⟨x, hx, by rw [← h s (by simp) x (List.mem_of_mem_drop hx)]; exact hp⟩
      · rintro ⟨x, hx, hp⟩; exact ⟨x, hx, by rw [h s (by simp) x (List.mem_of_mem_drop hx)]; exact hp⟩
    rw [e, ovr_congr fun t ht => h t (by simp [ht])]
theorem seg_in {d : Doc} (hr : rightB d = true) {sc : List (List Int)} (h : prtS d sc = -1) : (sc.flatten = inL d) ∧ (∀ s ∈ sc, s ≠ []) ∧ ∀ s ∈ sc, ∀ x ∈ s, ∃ m : Nat, x = m ∧ m < d.l.length ∧ isN d m = true := by
  have hinv : inV d = inL d := by unfold inV; rw [if_pos hr]
  unfold prtS at h
  rw [hinv, prt_none d _ sc 0 0 (Nat.zero_le _)] at h
  obtain ⟨h1, h2, _⟩ := h
  rw [List.drop_zero] at h1
  refine ⟨h1, h2, fun s hs x hx => ?_⟩
  have : x ∈ inL d := by rw [← h1]; exact List.mem_flatten.2 ⟨s, hs, hx⟩
  obtain ⟨m, a, b, c⟩ := selTo_mem.1 this
  exact ⟨m, a, b, c⟩
def mp (d : Doc) (w : Int) (k : Int) : Bool := decide (mustN d k.toNat = w)
theorem chkI_must {d : Doc} (hr : rightB d = true) {sc : List (List Int)} (h : prtS d sc = -1) : chkI d sc = if 0 ≤ ovr (mp d 1) 0 sc then (ovr (mp d 1) 0 sc, 7) else if 0 ≤ ovr (mp d 2) 0 sc then (ovr (mp d 2) 0 sc, 8) else (0, 0) := by
  obtain ⟨_, _, h3⟩ := seg_in hr h
  have e1 : ovr (frcV d) 0 sc = ovr (mp d 1) 0 sc := ovr_congr fun s hs x hx => by
    obtain ⟨m, rfl, a, b⟩ := h3 s hs x hx
    rw [must_frc hr a b]; unfold mp; rw [Int.toNat_natCast]
  unfold chkI
  rw [h, if_neg (by omega), e1]
  by_cases h4 : 0 ≤ ovr (mp d 1) 0 sc
  · rw [if_pos h4, if_pos h4]
  · rw [if_neg h4, if_neg h4]
    have h5 : ovr (frcV d) 0 sc = -1 := by rcases ovr_ge (frcV d) sc 0 with h | h; exact h; rw [e1] at h; omega
    rw [ovr_none] at h5
    -- those behind the first one of each segment: no break is forced there
    have e2 : ovr (chV13 d) 0 sc = ovr (mp d 2) 0 sc := by
      have : ∀ (l : List (List Int)) (n : Nat), (∀ s ∈ l, s ∈ sc) → ovr (chV13 d) n l = ovr (mp d 2) n l := by
        intro l
        induction l with
        | nil => intro n _; rfl
        | cons s r ih =>
          intro n hs
          unfold ovr
          have hf := h5 s (hs s (by simp))
          have e : (s.drop 1).any (chV13 d) = (s.drop 1).any (mp d 2) := by
            have key : ∀ x ∈ s.drop 1, chV13 d x = mp d 2 x := fun x hx => by
              obtain ⟨m, rfl, a, b⟩ := h3 s (hs s (by simp)) x (List.mem_of_mem_drop hx)
              have hfx : frcV d m = false := by
                cases hh : frcV d m with
                | false => rfl
                | true => rw [List.any_eq_true.2 ⟨_, hx, hh⟩] at hf; cases hf
              rw [must_chg hr a b hfx]; unfold mp; rw [Int.toNat_natCast]
            rw [Bool.eq_iff_iff, List.any_eq_true, List.any_eq_true]
            constructor
            · rintro ⟨x, hx, hp⟩; exact ⟨x, hx, by rw [← key x hx]; exact hp⟩
            · rintro ⟨x, hx, hp⟩; exact ⟨x, hx, by rw [key x hx]; exact hp⟩
          rw [e, ih (n + 1) fun t ht => hs t (by simp [ht])]
      exact this sc 0 fun s hs => hs
    rw [e2]
/-- What is behind the first loop. -/
def c14b : C := c12.body.tl.tl.tl.tl
/-- The loop over the segments, for one of the two reasons. -/
def c14n : C := (((c14b.tl.hd.tl.inn.inn).tl.hd.inn).tl.inn.inn)
theorem chkR14_n (d : Doc) (sc : List (List Int)) (hok : okL d) (hs : okS sc) (k3 : ∀ s ∈ sc, ∀ x ∈ s, ∃ m : Nat, x = m ∧ m < d.l.length ∧ isN d m = true) (w : Nat) (w1 : 1 ≤ w) (w2 : w ≤ 2) (w0 : World) (own0 : Sx.Own) (Q : Post) (e : Nat → V)
    (t1 : e 1 = .slc 1 (sc.map fun s => [.slc 1 (s.map fun n => [vi n])])) (t2 : e 2 = .ptr 0 0 0 0) (t10 : e 10 = vi w) (t11 : e 11 = vi (0 : Nat))
    (hfound : ∀ n : Nat, n < sc.length → ovr (mp d w) 0 sc = n → ∀ e' : Nat → V, e' 4 = vi n → e' 5 = vi (6 + (w : Int)) → Q .ret e' ⟨[⟨0, 5, [d.enc], false, []⟩], 1⟩)
    (hnone : ovr (mp d w) 0 sc = -1 → ∀ e' : Nat → V, e' 1 = .slc 1 (sc.map fun s => [.slc 1 (s.map fun n => [vi n])]) → e' 2 = .ptr 0 0 0 0 → e' 10 = vi w → Q (.exit 6) e' ⟨[⟨0, 5, [d.enc], false, []⟩], 1⟩) :
    SemC ⟨Try.prog, (Orc.cons sumIsR (Orc.cons sumOldR (Orc.cons sumInR (Orc.cons sumMust (Orc.nil _))))), 122, w0, own0⟩ (.loop c14n) Q e ⟨[⟨0, 5, [d.enc], false, []⟩], 1⟩ := by
  obtain ⟨hs1, hs2⟩ := hs
  refine SemC.lp (α := Nat) (fun n => [(1, .slc 1 (sc.map fun s => [.slc 1 (s.map fun n => [vi n])])), (2, .ptr 0 0 0 0), (10, vi w), (11, vi n)])
    (fun _ => ⟨[⟨0, 5, [d.enc], false, []⟩], 1⟩) (fun n => n ≤ sc.length ∧ ovr (mp d w) 0 sc = ovr (mp d w) n (sc.drop n)) (fun n => sc.length - n) 0 ⟨Nat.zero_le _, rfl⟩ (St.mk ⟨t1, t2, t10, t11, trivial⟩) fun n hn => ?_
  obtain ⟨n1, n2⟩ := hn
  by_cases hne : n = sc.length
  · subst hne
    rw [List.drop_length] at n2
    simp only [c14n, c14b, c12, C.tl, C.hd, C.inn, Doc.enc, Int.lt_irrefl, go_sem, wpR_gcall, reduceCtorEq, reduceIte, Nat.reduceEqDiff, Nat.reduceAdd, Nat.reduceSub, Nat.reduceMul, Nat.reduceLT, Nat.reduceLeDiff, Nat.reduceBEq, Int.reduceEq, Int.reduceLT, Int.reduceLE, Int.reduceAdd, Int.reduceSub, Int.reduceNeg, Int.reduceToNat]
    exact hnone n2 _ (by simp [upd_at, ev_cons]) (by simp [upd_at, ev_cons]) (by simp [upd_at, ev_cons])
  · have m1 : (n : Int) < (sc.length : Int) := by omega
    have m0 : (0 : Int) ≤ (n : Int) := by omega
    have hst := ovr_step (mp d w) n sc (by omega)
    rw [← n2] at hst
    have hg := getD_intss sc n [vnil] (by omega)
    have hmem : sc.getD n [] ∈ sc := by rw [List.getD_eq_getElem?_getD, List.getElem?_eq_getElem (by omega)]; exact List.getElem_mem _
    have hsl := hs2 _ hmem
    have k4 := k3 _ hmem
    generalize hseg : sc.getD n [] = t at *
    simp only [c14n, c14b, c12, C.tl, C.hd, C.inn, Doc.enc, m0, m1, go_sem, wpR_gcall, reduceCtorEq, reduceIte, Nat.reduceEqDiff, Nat.reduceAdd, Nat.reduceSub, Nat.reduceMul, Nat.reduceLT, Nat.reduceLeDiff, Nat.reduceBEq, Int.reduceEq, Int.reduceLT, Int.reduceLE, Int.reduceAdd, Int.reduceSub, Int.reduceNeg, Int.reduceToNat]
    refine SemC.lp (α := Nat) (fun i => [(1, .slc 1 (sc.map fun s => [.slc 1 (s.map fun n => [vi n])])), (2, .ptr 0 0 0 0), (10, vi w), (11, vi n), (12, vi i)])
      (fun _ => ⟨[⟨0, 5, [d.enc], false, []⟩], 1⟩) (fun i => 1 ≤ i ∧ i ≤ max 1 t.length ∧ ∀ j, 0 < j → j < i → mp d w (t.getD j 0) = false) (fun i => t.length - i) 1 ⟨by omega, by omega, fun j h1 h2 => by omega⟩ (St.mk (by simp [Agrees, upd_at, ev_cons, Doc.enc])) fun i hi => ?_
    obtain ⟨i1, i2, i3⟩ := hi
    by_cases hie : t.length ≤ i
    · have q1 : ¬ (i : Int) < (t.length : Int) := by omega
      have hno : ¬ (t.drop 1).any (mp d w) = true := by rw [any_drop]; rintro ⟨j, j1, j2, j3⟩; rw [i3 j j1 (by omega)] at j3; cases j3
      rw [if_neg hno] at hst
      simp only [Doc.enc, m0, m1, hg, q1, go_sem, wpR_gcall, reduceCtorEq, reduceIte, Nat.reduceEqDiff, Nat.reduceAdd, Nat.reduceSub, Nat.reduceMul, Nat.reduceLT, Nat.reduceLeDiff, Nat.reduceBEq, Int.reduceEq, Int.reduceLT, Int.reduceLE, Int.reduceAdd, Int.reduceSub, Int.reduceNeg, Int.reduceToNat]
      exact ⟨by omega, n + 1, ⟨by omega, hst⟩, by omega, by omega⟩
    · have q1 : (i : Int) < (t.length : Int) := by omega
      have q0 : (0 : Int) ≤ (i : Int) := by omega
      obtain ⟨m, b1, b2, b3⟩ := k4 (t.getD i 0) (by rw [List.getD_eq_getElem?_getD, List.getElem?_eq_getElem (by omega)]; exact List.getElem_mem _)
      have hkd : kD d m := ⟨hok, by omega, by omega, by rw [Int.toNat_natCast]; exact b3⟩
      by_cases hp : mustN d m = w
      · have hyes : (t.drop 1).any (mp d w) = true := (any_drop _ t).2 ⟨i, by omega, by omega, by rw [b1]; unfold mp; rw [Int.toNat_natCast, hp]; simp⟩
        rw [if_pos hyes] at hst
        simp only [Doc.enc, dDoc_mk, Doc.eta, m0, m1, hg, q0, q1, b1, hkd, hp, sumIsR_f, sumIsR_D, sumIsR_flat, sumIsR_r, sumOldR_f, sumOldR_D, sumOldR_flat, sumOldR_r, sumInR_f, sumInR_D, sumInR_flat, sumInR_r, sumMust_f, sumMust_D, sumMust_flat, sumMust_r, go_sem, wpR_gcall, reduceCtorEq, reduceIte, Nat.reduceEqDiff, Nat.reduceAdd, Nat.reduceSub, Nat.reduceMul, Nat.reduceLT, Nat.reduceLeDiff, Nat.reduceBEq, Int.reduceEq, Int.reduceLT, Int.reduceLE, Int.reduceAdd, Int.reduceSub, Int.reduceNeg, Int.reduceToNat]
        refine ⟨by omega, ?_⟩
        exact hfound n (by omega) hst _ (by simp [upd_at, ev_cons]) (by simp [upd_at, ev_cons])
      · simp only [Doc.enc, dDoc_mk, Doc.eta, m0, m1, hg, q0, q1, b1, hkd, hp, sumIsR_f, sumIsR_D, sumIsR_flat, sumIsR_r, sumOldR_f, sumOldR_D, sumOldR_flat, sumOldR_r, sumInR_f, sumInR_D, sumInR_flat, sumInR_r, sumMust_f, sumMust_D, sumMust_flat, sumMust_r, go_sem, wpR_gcall, reduceCtorEq, reduceIte, Nat.reduceEqDiff, Nat.reduceAdd, Nat.reduceSub, Nat.reduceMul, Nat.reduceLT, Nat.reduceLeDiff, Nat.reduceBEq, Int.reduceEq, Int.reduceLT, Int.reduceLE, Int.reduceAdd, Int.reduceSub, Int.reduceNeg, Int.reduceToNat]
        refine ⟨by omega, i + 1, ⟨by omega, by omega, fun j j1 j2 => ?_⟩, by omega, by omega⟩
        by_cases hj : j = i
        · rw [hj, b1]; unfold mp; rw [Int.toNat_natCast]; simpa using hp
        · exact i3 j j1 (by omega)
theorem chkR14_two (d : Doc) (sc : List (List Int)) (hok : okL d) (hr : rightB d = true) (hs : okS sc) (hp : prtS d sc = -1) (a : Nat) (ha : ¬ (a : Int) < ((inL d).length : Int)) (w0 : World) (own0 : Sx.Own) (e : Nat → V)
    (t1 : e 1 = .slc 1 (sc.map fun s => [.slc 1 (s.map fun n => [vi n])])) (t2 : e 2 = .ptr 0 0 0 0) (t6 : e 6 = .slc 1 ((inL d).map fun n => [vi n])) (t7 : e 7 = vi a) :
    wpC ⟨Try.prog, (Orc.cons sumIsR (Orc.cons sumOldR (Orc.cons sumInR (Orc.cons sumMust (Orc.nil _))))), 122, w0, own0⟩ c14b (retQ [.tmp 4, .tmp 5] fun v h => res (fun _ => true) h 12 v = some (.tup [vi (chkI d sc).1, vi (chkI d sc).2])) e ⟨[⟨0, 5, [d.enc], false, []⟩], 1⟩ := by
  obtain ⟨hs1, hs2⟩ := hs
  have hchk := chkI_must hr hp
  obtain ⟨_, k2, k3⟩ := seg_in hr hp
  simp only [c14b, c12, C.tl, Doc.enc, t1, t2, t6, t7, ha, go_sem, wpR_gcall, reduceCtorEq, reduceIte, Nat.reduceEqDiff, Nat.reduceAdd, Nat.reduceSub, Nat.reduceMul, Nat.reduceLT, Nat.reduceLeDiff, Nat.reduceBEq, Int.reduceEq, Int.reduceLT, Int.reduceLE, Int.reduceAdd, Int.reduceSub, Int.reduceNeg, Int.reduceToNat]
  refine SemC.lp (α := Nat) (fun w => [(1, .slc 1 (sc.map fun s => [.slc 1 (s.map fun n => [vi n])])), (2, .ptr 0 0 0 0), (10, vi w)])
    (fun _ => ⟨[⟨0, 5, [d.enc], false, []⟩], 1⟩) (fun w => 1 ≤ w ∧ w ≤ 3 ∧ (1 < w → ovr (mp d 1) 0 sc = -1) ∧ (2 < w → ovr (mp d 2) 0 sc = -1)) (fun w => 3 - w) 1 ⟨by omega, by omega, fun h => by omega, fun h => by omega⟩ (St.mk (by simp [Agrees, upd_at, ev_cons, Doc.enc, t1, t2])) fun w hw => ?_
  obtain ⟨w1, w2, w3, w4⟩ := hw
  by_cases hwe : w = 3
  · subst hwe
    have e3 : chkI d sc = (0, 0) := by rw [hchk, w3 (by omega), w4 (by omega)]; rfl
    simp only [Doc.enc, e3, show ¬ ((3 : Nat) : Int) ≤ 2 by omega, go_sem, wpR_gcall, reduceCtorEq, reduceIte, Nat.reduceEqDiff, Nat.reduceAdd, Nat.reduceSub, Nat.reduceMul, Nat.reduceLT, Nat.reduceLeDiff, Nat.reduceBEq, Int.reduceEq, Int.reduceLT, Int.reduceLE, Int.reduceAdd, Int.reduceSub, Int.reduceNeg, Int.reduceToNat]
  · have w5 : (w : Int) ≤ 2 := by omega
    simp only [Doc.enc, w5, go_sem, wpR_gcall, reduceCtorEq, reduceIte, Nat.reduceEqDiff, Nat.reduceAdd, Nat.reduceSub, Nat.reduceMul, Nat.reduceLT, Nat.reduceLeDiff, Nat.reduceBEq, Int.reduceEq, Int.reduceLT, Int.reduceLE, Int.reduceAdd, Int.reduceSub, Int.reduceNeg, Int.reduceToNat]
    refine chkR14_n d sc hok ⟨hs1, hs2⟩ k3 w w1 (by omega) w0 own0 _ _ (by simp [upd_at, ev_cons]) (by simp [upd_at, ev_cons]) (by simp [upd_at, ev_cons]) (by simp [upd_at, ev_cons]) (fun n hn hst e' t4 t5 => ?_) (fun n2 e' t1 t2 t10 => ?_)
    · have e3 : chkI d sc = ((n : Int), 6 + (w : Int)) := by
        rw [hchk]
        by_cases h1 : w = 1
        · subst h1; rw [Int.natCast_one] at hst; rw [hst, if_pos (Int.natCast_nonneg n)]; rfl
        · have h2 : w = 2 := by omega
          have h3 := w3 (by omega)
          subst h2
          rw [show ((2 : Nat) : Int) = 2 from rfl] at hst
          rw [h3, if_neg (by omega), hst, if_pos (by omega)]; rfl
      simp only [e3, t4, t5, go_sem, wpR_gcall, reduceCtorEq, reduceIte, Nat.reduceEqDiff, Nat.reduceAdd, Nat.reduceSub, Nat.reduceMul, Nat.reduceLT, Nat.reduceLeDiff, Nat.reduceBEq, Int.reduceEq, Int.reduceLT, Int.reduceLE, Int.reduceAdd, Int.reduceSub, Int.reduceNeg, Int.reduceToNat]
    · simp only [t1, t2, t10, go_sem, wpR_gcall, reduceCtorEq, reduceIte, Nat.reduceEqDiff, Nat.reduceAdd, Nat.reduceSub, Nat.reduceMul, Nat.reduceLT, Nat.reduceLeDiff, Nat.reduceBEq, Int.reduceEq, Int.reduceLT, Int.reduceLE, Int.reduceAdd, Int.reduceSub, Int.reduceNeg, Int.reduceToNat]
      refine ⟨by omega, w + 1, ⟨by omega, by omega, fun h => ?_, fun h => ?_⟩, by omega, by omega, rfl⟩
      · by_cases h1 : w = 1
        · subst h1; rw [Int.natCast_one] at n2; exact n2
        · exact w3 (by omega)
      · have h1 : w = 2 := by omega
        subst h1; exact n2
theorem chkR14_ok (d : Doc) (sc : List (List Int)) (hok : okL d) (hr : rightB d = true) (hs : okS sc) : PCall Try.prog 12 [.agg d.enc, intss sc] (.tup [vi (chkI d sc).1, vi (chkI d sc).2]) := by
  refine PCall.of (Orc.cons sumIsR (Orc.cons sumOldR (Orc.cons sumInR (Orc.cons sumMust (Orc.nil _))))) c12_ok (by simp [c12]) fun w0 own0 => ?_
  have hl := hok.2
  have hinv : inV d = inL d := by unfold inV; rw [if_pos hr]
  have hil := inL_len d
  obtain ⟨hs1, hs2⟩ := hs
  have hprt : prtS d sc = prt d (inL d) 0 0 sc := by unfold prtS; rw [hinv]
  have hfirst : ∀ n : Nat, prt d (inL d) 0 0 sc = n → chkI d sc = ((n : Int), 6) := fun n hn => by unfold chkI; rw [hprt, hn, if_pos (by omega)]
  change wpC _ (.seq c12.body.hd (.seq c12.body.tl.hd (.seq c12.body.tl.tl.hd (.seq c12.body.tl.tl.tl.hd c14b)))) (retQ [.tmp 4, .tmp 5] _) (initE _) _
  simp only [c12, C.hd, C.tl, Doc.enc, dDoc_mk, Doc.eta, hok, ints, intss, sumIsR_f, sumIsR_D, sumIsR_flat, sumIsR_r, sumOldR_f, sumOldR_D, sumOldR_flat, sumOldR_r, sumInR_f, sumInR_D, sumInR_flat, sumInR_r, sumMust_f, sumMust_D, sumMust_flat, sumMust_r, go_sem, wpR_gcall, reduceCtorEq, reduceIte, Nat.reduceEqDiff, Nat.reduceAdd, Nat.reduceSub, Nat.reduceMul, Nat.reduceLT, Nat.reduceLeDiff, Nat.reduceBEq, Int.reduceEq, Int.reduceLT, Int.reduceLE, Int.reduceAdd, Int.reduceSub, Int.reduceNeg, Int.reduceToNat]
  refine SemC.lp (α := PaS) (fun a => [(1, .slc 1 (sc.map fun s => [.slc 1 (s.map fun n => [vi n])])), (2, .ptr 0 0 0 0), (6, .slc 1 ((inL d).map fun n => [vi n])), (7, vi a.a), (8, vi a.n)])
    (fun _ => ⟨[⟨0, 5, [d.enc], false, []⟩], 1⟩) (fun a => a.n ≤ sc.length ∧ a.a ≤ (inL d).length ∧ prt d (inL d) 0 0 sc = prt d (inL d) a.a a.n (sc.drop a.n)) (fun a => sc.length - a.n) ⟨0, 0⟩ ⟨Nat.zero_le _, Nat.zero_le _, rfl⟩ (St.mk (by simp [Agrees, upd_at, initE_at, Doc.enc])) fun a ha => ?_
  obtain ⟨n, a⟩ := a
  simp only at ha
  obtain ⟨h1, h2, h3⟩ := ha
  by_cases he : n = sc.length
  · subst he
    rw [List.drop_length] at h3
    by_cases hal : a < (inL d).length
    · have e : prt d (inL d) 0 0 sc = (sc.length : Int) := by rw [h3]; unfold prt; rw [if_pos hal]
      have e1 : (a : Int) < ((inL d).length : Int) := by omega
      simp only [c14b, c12, C.tl, Doc.enc, Int.lt_irrefl, hfirst _ e, e1, go_sem, wpR_gcall, reduceCtorEq, reduceIte, Nat.reduceEqDiff, Nat.reduceAdd, Nat.reduceSub, Nat.reduceMul, Nat.reduceLT, Nat.reduceLeDiff, Nat.reduceBEq, Int.reduceEq, Int.reduceLT, Int.reduceLE, Int.reduceAdd, Int.reduceSub, Int.reduceNeg, Int.reduceToNat]
    · have e : prt d (inL d) 0 0 sc = -1 := by rw [h3]; unfold prt; rw [if_neg hal]
      have e1 : ¬ (a : Int) < ((inL d).length : Int) := by omega
      have hgo := chkR14_two d sc hok hr ⟨hs1, hs2⟩ (hprt.trans e) a e1 w0 own0
      simp only [Doc.enc, Int.lt_irrefl, go_sem, wpR_gcall, reduceCtorEq, reduceIte, Nat.reduceEqDiff, Nat.reduceAdd, Nat.reduceSub, Nat.reduceMul, Nat.reduceLT, Nat.reduceLeDiff, Nat.reduceBEq, Int.reduceEq, Int.reduceLT, Int.reduceLE, Int.reduceAdd, Int.reduceSub, Int.reduceNeg, Int.reduceToNat]
      exact hgo _ (by simp [upd_at, ev_cons]) (by simp [upd_at, ev_cons]) (by simp [upd_at, ev_cons]) (by simp [upd_at, ev_cons])
  · have e1 : (n : Int) < (sc.length : Int) := by omega
    have e0 : (0 : Int) ≤ (n : Int) := by omega
    have hst := prt_step d (inL d) a n sc (by omega)
    rw [← h3] at hst
    have hg := getD_intss sc n [vnil] (by omega)
    have hsl : (sc.getD n []).length ≤ 1000000 := by
      rw [List.getD_eq_getElem?_getD, List.getElem?_eq_getElem (by omega)]; exact hs2 _ (List.getElem_mem _)
    have htk := take_eq_iff (inL d) (sc.getD n []) a
    generalize hseg : sc.getD n [] = t at *
    by_cases ht0 : t = []
    · rw [if_neg (fun h => h.2.1 ht0)] at hst
      subst ht0
      simp only [Doc.enc, e0, e1, hg, hfirst _ hst, go_sem, wpR_gcall, reduceCtorEq, reduceIte, Nat.reduceEqDiff, Nat.reduceAdd, Nat.reduceSub, Nat.reduceMul, Nat.reduceLT, Nat.reduceLeDiff, Nat.reduceBEq, Int.reduceEq, Int.reduceLT, Int.reduceLE, Int.reduceAdd, Int.reduceSub, Int.reduceNeg, Int.reduceToNat]
    have htp : ¬ (t.length : Int) = 0 := by have := List.length_pos_iff.2 ht0; omega
    have htp2 : (0 : Int) < (t.length : Int) := by have := List.length_pos_iff.2 ht0; omega
    by_cases hpt : n = 0 ∨ ptV d (t.getD 0 0) = true
    · by_cases hn0 : n = 0
      · have hn0' : ¬ (0 : Int) < (n : Int) := by omega
        simp only [Doc.enc, e0, e1, hg, htp, htp2, hn0', on_gcall, off_gcall, flat_gcall, sumIsR_f, sumIsR_D, sumIsR_flat, sumIsR_r, sumOldR_f, sumOldR_D, sumOldR_flat, sumOldR_r, sumInR_f, sumInR_D, sumInR_flat, sumInR_r, sumMust_f, sumMust_D, sumMust_flat, sumMust_r, go_sem, reduceCtorEq, reduceIte, Nat.reduceEqDiff, Nat.reduceAdd, Nat.reduceSub, Nat.reduceMul, Nat.reduceLT, Nat.reduceLeDiff, Nat.reduceBEq, Int.reduceEq, Int.reduceLT, Int.reduceLE, Int.reduceAdd, Int.reduceSub, Int.reduceNeg, Int.reduceToNat]
        refine SemC.lp (α := Nat) (fun i => [(1, .slc 1 (sc.map fun s => [.slc 1 (s.map fun n => [vi n])])), (2, .ptr 0 0 0 0), (6, .slc 1 ((inL d).map fun n => [vi n])), (7, vi (a + i : Nat)), (8, vi n), (9, vi i)])
          (fun _ => ⟨[⟨0, 5, [d.enc], false, []⟩], 1⟩) (fun i => i ≤ t.length ∧ a + i ≤ (inL d).length ∧ ∀ j, j < i → (inL d).getD (a + j) 0 = t.getD j 0) (fun i => t.length - i) 0 ⟨Nat.zero_le _, h2, fun i h => by omega⟩ (St.mk (by simp [Agrees, upd_at, ev_cons, Doc.enc])) fun i hi => ?_
        obtain ⟨j1, j2, j3⟩ := hi
        by_cases hie : i = t.length
        · subst hie
          have htk2 : ((inL d).drop a).take t.length = t := htk.2 fun i hi => ⟨by omega, j3 i hi⟩
          rw [if_pos ⟨htk2, ht0, hpt⟩] at hst
          simp only [Doc.enc, e0, e1, hg, Int.lt_irrefl, go_sem, wpR_gcall, reduceCtorEq, reduceIte, Nat.reduceEqDiff, Nat.reduceAdd, Nat.reduceSub, Nat.reduceMul, Nat.reduceLT, Nat.reduceLeDiff, Nat.reduceBEq, Int.reduceEq, Int.reduceLT, Int.reduceLE, Int.reduceAdd, Int.reduceSub, Int.reduceNeg, Int.reduceToNat]
          exact ⟨by omega, ⟨n + 1, a + t.length⟩, ⟨by dsimp only; omega, j2, hst⟩, by dsimp only; omega, rfl, rfl⟩
        · have q1 : (i : Int) < (t.length : Int) := by omega
          have q0 : (0 : Int) ≤ (i : Int) := by omega
          by_cases hend : a + i = (inL d).length
          · have hno : ¬ (((inL d).drop a).take t.length = t ∧ t ≠ [] ∧ (n = 0 ∨ ptV d (t.getD 0 0) = true)) := fun h => by
              have := (htk.1 h.1 i (by omega)).1; omega
            rw [if_neg hno] at hst
            rw [hend]
            simp only [Doc.enc, e0, e1, hg, q0, q1, Int.le_refl, hfirst _ hst, go_sem, wpR_gcall, reduceCtorEq, reduceIte, Nat.reduceEqDiff, Nat.reduceAdd, Nat.reduceSub, Nat.reduceMul, Nat.reduceLT, Nat.reduceLeDiff, Nat.reduceBEq, Int.reduceEq, Int.reduceLT, Int.reduceLE, Int.reduceAdd, Int.reduceSub, Int.reduceNeg, Int.reduceToNat]
          · have q2 : ¬ ((inL d).length : Int) ≤ ((a + i : Nat) : Int) := by omega
            have q3 : (0 : Int) ≤ ((a + i : Nat) : Int) := by omega
            have q4 : ((a + i : Nat) : Int) < ((inL d).length : Int) := by omega
            by_cases heq : (inL d).getD (a + i) 0 = t.getD i 0
            · generalize hb : a + i = b at *
              simp only [Doc.enc, e0, e1, hg, q0, q1, q2, q3, q4, heq, go_sem, wpR_gcall, reduceCtorEq, reduceIte, Nat.reduceEqDiff, Nat.reduceAdd, Nat.reduceSub, Nat.reduceMul, Nat.reduceLT, Nat.reduceLeDiff, Nat.reduceBEq, Int.reduceEq, Int.reduceLT, Int.reduceLE, Int.reduceAdd, Int.reduceSub, Int.reduceNeg, Int.reduceToNat]
              refine ⟨by omega, by omega, i + 1, ⟨by omega, by omega, fun j hj => ?_⟩, by omega, by omega, by omega⟩
              by_cases e : j = i
              · rw [e, hb]; exact heq
              · exact j3 j (by omega)
            · have hno : ¬ (((inL d).drop a).take t.length = t ∧ t ≠ [] ∧ (n = 0 ∨ ptV d (t.getD 0 0) = true)) := fun h => heq (htk.1 h.1 i (by omega)).2
              rw [if_neg hno] at hst
              generalize hb : a + i = b at *
              simp only [Doc.enc, e0, e1, hg, q0, q1, q2, q3, q4, heq, hfirst _ hst, go_sem, wpR_gcall, reduceCtorEq, reduceIte, Nat.reduceEqDiff, Nat.reduceAdd, Nat.reduceSub, Nat.reduceMul, Nat.reduceLT, Nat.reduceLeDiff, Nat.reduceBEq, Int.reduceEq, Int.reduceLT, Int.reduceLE, Int.reduceAdd, Int.reduceSub, Int.reduceNeg, Int.reduceToNat]
      · have hn1 : (0 : Int) < (n : Int) := by omega
        have hp : ptV d (t.getD 0 0) = true := by rcases hpt with h | h; exact absurd h hn0; exact h
        have hth : thB d (t.getD 0 0) = true := by unfold ptV thV at hp; rw [hr] at hp; simp at hp; exact hp.1
        obtain ⟨m, b1, b2, b3⟩ := thB_iff.1 hth
        have hkd : kD d m := ⟨hok, by omega, by omega, by rw [Int.toNat_natCast]; exact b3⟩
        have ho : ¬ oldN d m < 0 := by unfold ptV at hp; rw [b1, Int.toNat_natCast] at hp; simp at hp; omega
        rw [b1] at hth
        simp only [Doc.enc, dDoc_mk, Doc.eta, hok, e0, e1, hg, htp, htp2, hn1, b1, hth, hkd, ho, on_gcall, off_gcall, flat_gcall, sumIsR_f, sumIsR_D, sumIsR_flat, sumIsR_r, sumOldR_f, sumOldR_D, sumOldR_flat, sumOldR_r, sumInR_f, sumInR_D, sumInR_flat, sumInR_r, sumMust_f, sumMust_D, sumMust_flat, sumMust_r, go_sem, reduceCtorEq, reduceIte, Nat.reduceEqDiff, Nat.reduceAdd, Nat.reduceSub, Nat.reduceMul, Nat.reduceLT, Nat.reduceLeDiff, Nat.reduceBEq, Int.reduceEq, Int.reduceLT, Int.reduceLE, Int.reduceAdd, Int.reduceSub, Int.reduceNeg, Int.reduceToNat]
        refine SemC.lp (α := Nat) (fun i => [(1, .slc 1 (sc.map fun s => [.slc 1 (s.map fun n => [vi n])])), (2, .ptr 0 0 0 0), (6, .slc 1 ((inL d).map fun n => [vi n])), (7, vi (a + i : Nat)), (8, vi n), (9, vi i)])
          (fun _ => ⟨[⟨0, 5, [d.enc], false, []⟩], 1⟩) (fun i => i ≤ t.length ∧ a + i ≤ (inL d).length ∧ ∀ j, j < i → (inL d).getD (a + j) 0 = t.getD j 0) (fun i => t.length - i) 0 ⟨Nat.zero_le _, h2, fun i h => by omega⟩ (St.mk (by simp [Agrees, upd_at, ev_cons, Doc.enc])) fun i hi => ?_
        obtain ⟨j1, j2, j3⟩ := hi
        by_cases hie : i = t.length
        · subst hie
          have htk2 : ((inL d).drop a).take t.length = t := htk.2 fun i hi => ⟨by omega, j3 i hi⟩
          rw [if_pos ⟨htk2, ht0, hpt⟩] at hst
          simp only [Doc.enc, e0, e1, hg, Int.lt_irrefl, go_sem, wpR_gcall, reduceCtorEq, reduceIte, Nat.reduceEqDiff, Nat.reduceAdd, Nat.reduceSub, Nat.reduceMul, Nat.reduceLT, Nat.reduceLeDiff, Nat.reduceBEq, Int.reduceEq, Int.reduceLT, Int.reduceLE, Int.reduceAdd, Int.reduceSub, Int.reduceNeg, Int.reduceToNat]
          exact ⟨by omega, ⟨n + 1, a + t.length⟩, ⟨by dsimp only; omega, j2, hst⟩, by dsimp only; omega, rfl, rfl⟩
        · have q1 : (i : Int) < (t.length : Int) := by omega
          have q0 : (0 : Int) ≤ (i : Int) := by omega
          by_cases hend : a + i = (inL d).length
          · have hno : ¬ (((inL d).drop a).take t.length = t ∧ t ≠ [] ∧ (n = 0 ∨ ptV d (t.getD 0 0) = true)) := fun h => by
              have := (htk.1 h.1 i (by omega)).1; omega
            rw [if_neg hno] at hst
            rw [hend]
            simp only [Doc.enc, e0, e1, hg, q0, q1, Int.le_refl, hfirst _ hst, go_sem, wpR_gcall, reduceCtorEq, reduceIte, Nat.reduceEqDiff, Nat.reduceAdd, Nat.reduceSub, Nat.reduceMul, Nat.reduceLT, Nat.reduceLeDiff, Nat.reduceBEq, Int.reduceEq, Int.reduceLT, Int.reduceLE, Int.reduceAdd, Int.reduceSub, Int.reduceNeg, Int.reduceToNat]
          · have q2 : ¬ ((inL d).length : Int) ≤ ((a + i : Nat) : Int) := by omega
            have q3 : (0 : Int) ≤ ((a + i : Nat) : Int) := by omega
            have q4 : ((a + i : Nat) : Int) < ((inL d).length : Int) := by omega
            by_cases heq : (inL d).getD (a + i) 0 = t.getD i 0
            · generalize hb : a + i = b at *
              simp only [Doc.enc, e0, e1, hg, q0, q1, q2, q3, q4, heq, go_sem, wpR_gcall, reduceCtorEq, reduceIte, Nat.reduceEqDiff, Nat.reduceAdd, Nat.reduceSub, Nat.reduceMul, Nat.reduceLT, Nat.reduceLeDiff, Nat.reduceBEq, Int.reduceEq, Int.reduceLT, Int.reduceLE, Int.reduceAdd, Int.reduceSub, Int.reduceNeg, Int.reduceToNat]
              refine ⟨by omega, by omega, i + 1, ⟨by omega, by omega, fun j hj => ?_⟩, by omega, by omega, by omega⟩
              by_cases e : j = i
              · rw [e, hb]; exact heq
              · exact j3 j (by omega)
            · have hno : ¬ (((inL d).drop a).take t.length = t ∧ t ≠ [] ∧ (n = 0 ∨ ptV d (t.getD 0 0) = true)) := fun h => heq (htk.1 h.1 i (by omega)).2
              rw [if_neg hno] at hst
              generalize hb : a + i = b at *
              simp only [Doc.enc, e0, e1, hg, q0, q1, q2, q3, q4, heq, hfirst _ hst, go_sem, wpR_gcall, reduceCtorEq, reduceIte, Nat.reduceEqDiff, Nat.reduceAdd, Nat.reduceSub, Nat.reduceMul, Nat.reduceLT, Nat.reduceLeDiff, Nat.reduceBEq, Int.reduceEq, Int.reduceLT, Int.reduceLE, Int.reduceAdd, Int.reduceSub, Int.reduceNeg, Int.reduceToNat]
    · rw [if_neg (fun h => hpt h.2.2)] at hst
      have hn1 : (0 : Int) < (n : Int) := by omega
      by_cases hth : thB d (t.getD 0 0) = true
      · obtain ⟨m, b1, b2, b3⟩ := thB_iff.1 hth
        have hkd : kD d m := ⟨hok, by omega, by omega, by rw [Int.toNat_natCast]; exact b3⟩
        have ho : oldN d m < 0 := by
          have h1 : ¬ ptV d (t.getD 0 0) = true := fun h => hpt (.inr h)
          unfold ptV thV at h1; rw [hr, b1, Int.toNat_natCast] at h1; rw [b1] at hth; rw [hth] at h1; simp at h1; omega
        rw [b1] at hth
        simp only [Doc.enc, dDoc_mk, Doc.eta, hok, e0, e1, hg, htp, htp2, hn1, b1, hth, hkd, ho, hfirst _ hst, on_gcall, off_gcall, flat_gcall, sumIsR_f, sumIsR_D, sumIsR_flat, sumIsR_r, sumOldR_f, sumOldR_D, sumOldR_flat, sumOldR_r, sumInR_f, sumInR_D, sumInR_flat, sumInR_r, sumMust_f, sumMust_D, sumMust_flat, sumMust_r, go_sem, reduceCtorEq, reduceIte, Nat.reduceEqDiff, Nat.reduceAdd, Nat.reduceSub, Nat.reduceMul, Nat.reduceLT, Nat.reduceLeDiff, Nat.reduceBEq, Int.reduceEq, Int.reduceLT, Int.reduceLE, Int.reduceAdd, Int.reduceSub, Int.reduceNeg, Int.reduceToNat]
      · simp only [Doc.enc, dDoc_mk, Doc.eta, hok, e0, e1, hg, htp, htp2, hn1, hth, hfirst _ hst, on_gcall, off_gcall, flat_gcall, sumIsR_f, sumIsR_D, sumIsR_flat, sumIsR_r, sumOldR_f, sumOldR_D, sumOldR_flat, sumOldR_r, sumInR_f, sumInR_D, sumInR_flat, sumInR_r, sumMust_f, sumMust_D, sumMust_flat, sumMust_r, go_sem, reduceCtorEq, reduceIte, Nat.reduceEqDiff, Nat.reduceAdd, Nat.reduceSub, Nat.reduceMul, Nat.reduceLT, Nat.reduceLeDiff, Nat.reduceBEq, Int.reduceEq, Int.reduceLT, Int.reduceLE, Int.reduceAdd, Int.reduceSub, Int.reduceNeg, Int.reduceToNat]
end Go.Proofs.Ytdcdhnohbadenaa
