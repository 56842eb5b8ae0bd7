/- Layer 8 and 10: selectors; which may be. -/
import Derived.Test.YtlcblcjpebabkaaD9f
namespace Go.Proofs.Ytlcblcjpebabkaa
open Go.Sx
set_option linter.unusedSimpArgs false
set_option maxHeartbeats 4000000
set_option maxRecDepth 20000

structure Smp where
  kind : Int
  text : ByteArray
  val : ByteArray
instance : Inhabited Smp := ⟨⟨0, ⟨#[]⟩, ⟨#[]⟩⟩⟩
def Smp.enc (s : Smp) : List V := [vi s.kind, vs s.text, vs s.val]
structure Cmp where
  link : Int
  l : List Smp
instance : Inhabited Cmp := ⟨⟨0, []⟩⟩
def Cmp.enc (c : Cmp) : List V := [vi c.link, .slc 3 (c.l.map Smp.enc)]
abbrev Sel := List Cmp
def selE (s : Sel) : List V := [.slc 2 (s.map Cmp.enc)]
def sels (l : List Sel) : V := .slc 1 (l.map selE)
def dSmp (e : List V) : Smp := ⟨(e.getD 0 .any).int, (e.getD 1 .any).str, (e.getD 2 .any).str⟩
def dSmpV (v : V) : Smp := dSmp v.cs
def dCmpL (e : List V) : Cmp := ⟨(e.getD 0 .any).int, (e.getD 1 .any).es.map dSmp⟩
def dCmp (v : V) : Cmp := dCmpL v.cs
def dSelL (e : List V) : Sel := (e.getD 0 .any).es.map dCmpL
def dSel (v : V) : Sel := dSelL v.cs
def dSels (v : V) : List Sel := v.es.map dSelL
theorem dSmp_enc (s : Smp) : dSmp s.enc = s := rfl
theorem dSmps (sz : Nat) (l : List Smp) : (V.slc sz (l.map Smp.enc)).es.map dSmp = l := by
  simp [V.es, Function.comp_def, dSmp_enc]
theorem dCmpL_enc (c : Cmp) : dCmpL c.enc = c := by
  unfold dCmpL Cmp.enc
  rw [show ([vi c.link, V.slc 3 (c.l.map Smp.enc)] : List V).getD 1 .any = V.slc 3 (c.l.map Smp.enc) from rfl, dSmps]
  rfl
theorem dCmp_mk (n : Int) (l : List Smp) : dCmp (.agg [.c (.int .i64 n), .slc 3 (l.map Smp.enc)]) = ⟨n, l⟩ := dCmpL_enc ⟨n, l⟩
theorem dSelL_enc (s : Sel) : dSelL (selE s) = s := by
  unfold dSelL selE
  simp [V.es, Function.comp_def, dCmpL_enc]
theorem dSel_mk (s : Sel) : dSel (.agg [.slc 2 (s.map Cmp.enc)]) = s := dSelL_enc s
theorem dSels_map (l : List Sel) : dSels (.slc 1 (l.map selE)) = l := by
  simp [dSels, V.es, Function.comp_def, dSelL_enc]
theorem getD_smps (l : List Smp) (i : Nat) : (l.map Smp.enc).getD i [.c (.int .i64 0), .c (.string ⟨#[]⟩), .c (.string ⟨#[]⟩)] = (l.getD i default).enc := by
  simp only [List.getD_eq_getElem?_getD, List.getElem?_map]
  cases l[i]? <;> rfl
theorem getD_cmps (l : List Cmp) (i : Nat) (d : List V) (h : i < l.length) : (l.map Cmp.enc).getD i d = (l.getD i default).enc := by
  simp [List.getD_eq_getElem?_getD, h]
theorem getD_sels (l : List Sel) (i : Nat) (d : List V) (h : i < l.length) : (l.map selE).getD i d = selE (l.getD i []) := by
  simp [List.getD_eq_getElem?_getD, h]
theorem Cmp.eta (c : Cmp) : (⟨c.link, c.l⟩ : Cmp) = c := rfl
theorem Smp.eta (c : Smp) : (⟨c.kind, c.text, c.val⟩ : Smp) = c := rfl
structure LpS where
  n : Nat
  clk : Nat
def badX (i : Nat) (x : Smp) : Prop := x.kind < 1 ∨ 6 < x.kind ∨ (0 < i ∧ x.kind ≤ 2) ∨ ¬ (x.text = ⟨#[]⟩ ↔ x.kind = 1) ∨ (¬ x.val = ⟨#[]⟩ ∧ ¬ x.kind = 6)
instance (i : Nat) (x : Smp) : Decidable (badX i x) := by unfold badX; infer_instance
def rgtC (c : Cmp) (first : Bool) : Bool := decide ((first = true ↔ c.link = 0) ∧ 0 ≤ c.link ∧ c.link ≤ 2 ∧ 0 < c.l.length ∧ ∀ i, i < c.l.length → ¬ badX i (c.l.getD i default))
theorem right_ok (c : Cmp) (first : Bool) (hlen : c.l.length ≤ 1000000) : PCall Try.prog 31 [.agg c.enc, vb first] (vb (rgtC c first)) := by
  refine PCall.of (Orc.nil _) c31_ok (by simp [c31]) fun w0 own0 => ?_
  have hf : (first == decide (c.link = 0)) = true ↔ (first = true ↔ c.link = 0) := by
    cases first <;> by_cases h : c.link = 0 <;> simp [h]
  cases h1 : (first == decide (c.link = 0)) with
  | true =>
    by_cases h2 : c.link < 0
    · have e : rgtC c first = false := by unfold rgtC; rw [decide_eq_false_iff_not]; omega
      simp only [c31, Cmp.enc, h1, h2, e, go_sem, wpR_gcall, reduceCtorEq, reduceIte, Nat.reduceEqDiff, Nat.reduceAdd, Nat.reduceSub, Nat.reduceMul, Nat.reduceLT, Nat.reduceLeDiff, Nat.reduceBEq, Int.reduceEq, Int.reduceLT, Int.reduceLE, Int.reduceAdd, Int.reduceSub, Int.reduceNeg, Int.reduceToNat]
    by_cases h3 : 2 < c.link
    · have e : rgtC c first = false := by unfold rgtC; rw [decide_eq_false_iff_not]; omega
      simp only [c31, Cmp.enc, h1, h2, h3, e, go_sem, wpR_gcall, reduceCtorEq, reduceIte, Nat.reduceEqDiff, Nat.reduceAdd, Nat.reduceSub, Nat.reduceMul, Nat.reduceLT, Nat.reduceLeDiff, Nat.reduceBEq, Int.reduceEq, Int.reduceLT, Int.reduceLE, Int.reduceAdd, Int.reduceSub, Int.reduceNeg, Int.reduceToNat]
    by_cases h4 : (c.l.length : Int) = 0
    · have e : rgtC c first = false := by unfold rgtC; rw [decide_eq_false_iff_not]; omega
      simp only [c31, Cmp.enc, h1, h2, h3, h4, e, go_sem, wpR_gcall, reduceCtorEq, reduceIte, Nat.reduceEqDiff, Nat.reduceAdd, Nat.reduceSub, Nat.reduceMul, Nat.reduceLT, Nat.reduceLeDiff, Nat.reduceBEq, Int.reduceEq, Int.reduceLT, Int.reduceLE, Int.reduceAdd, Int.reduceSub, Int.reduceNeg, Int.reduceToNat]
    simp only [c31, Cmp.enc, h1, h2, h3, h4, go_sem, wpR_gcall, reduceCtorEq, reduceIte, Nat.reduceEqDiff, Nat.reduceAdd, Nat.reduceSub, Nat.reduceMul, Nat.reduceLT, Nat.reduceLeDiff, Nat.reduceBEq, Int.reduceEq, Int.reduceLT, Int.reduceLE, Int.reduceAdd, Int.reduceSub, Int.reduceNeg, Int.reduceToNat]
    refine SemC.lp (α := LpS) (fun a => [(29, .slc 3 (c.l.map Smp.enc)), (30, vi c.l.length), (31, vi a.n)]) (fun a => ⟨[], a.clk⟩)
      (fun a => a.n ≤ c.l.length ∧ ∀ i, i < a.n → ¬ badX i (c.l.getD i default)) (fun a => c.l.length - a.n) ⟨0, 1⟩ ⟨Nat.zero_le _, fun i hi => absurd hi (Nat.not_lt_zero _)⟩ (St.cut (by simp [Agrees, upd_at, initE_at]) rfl rfl) fun a ha => ?_
    obtain ⟨k, clk⟩ := a
    simp only at ha
    obtain ⟨k1, k2⟩ := ha
    by_cases he : k = c.l.length
    · subst he
      have e : rgtC c first = true := by unfold rgtC; rw [decide_eq_true_eq]; exact ⟨hf.1 h1, by omega, by omega, by omega, k2⟩
      simp only [Int.lt_irrefl, e, go_sem, wpR_gcall, reduceCtorEq, reduceIte, Nat.reduceEqDiff, Nat.reduceAdd, Nat.reduceSub, Nat.reduceMul, Nat.reduceLT, Nat.reduceLeDiff, Nat.reduceBEq, Int.reduceEq, Int.reduceLT, Int.reduceLE, Int.reduceAdd, Int.reduceSub, Int.reduceNeg, Int.reduceToNat]
    · have e1 : (k : Int) < (c.l.length : Int) := by omega
      have e0 : (0 : Int) ≤ (k : Int) := by omega
      have hlt : k < c.l.length := by omega
      have hg := getD_smps c.l k
      generalize hx : c.l.getD k default = x at *
      by_cases hb : badX k x
      · have e : rgtC c first = false := by
          unfold rgtC; rw [decide_eq_false_iff_not]; exact fun h => h.2.2.2.2 k hlt (by rw [hx]; exact hb)
        unfold badX at hb
        have hk : ((0 : Int) < (k : Int)) = (0 < k) := by rw [eq_iff_iff]; omega
        simp only [e0, e1, hg, e, Smp.enc, hk, go_sem, wpR_gcall, reduceCtorEq, reduceIte, Nat.reduceEqDiff, Nat.reduceAdd, Nat.reduceSub, Nat.reduceMul, Nat.reduceLT, Nat.reduceLeDiff, Nat.reduceBEq, Int.reduceEq, Int.reduceLT, Int.reduceLE, Int.reduceAdd, Int.reduceSub, Int.reduceNeg, Int.reduceToNat]
        by_cases x1 : x.kind < 1 <;> by_cases x2 : 6 < x.kind <;> by_cases x3 : 0 < k <;> by_cases x4 : x.kind ≤ 2 <;> by_cases x5 : x.text = ⟨#[]⟩ <;> by_cases x6 : x.kind = 1 <;> by_cases x7 : x.val = ⟨#[]⟩ <;> by_cases x8 : x.kind = 6 <;> first | (exfalso; omega) | (exfalso; simp [x1, x2, x3, x4, x5, x6, x7, x8] at hb; done) | (simp [x1, x2, x3, x4, x5, x6, x7, x8]; done)
      · have hn : ∀ i, i < k + 1 → ¬ badX i (c.l.getD i default) := fun i hi => by
          by_cases h : i = k
          · subst h; rw [hx]; exact hb
          · exact k2 i (by omega)
        unfold badX at hb
        have hk : ((0 : Int) < (k : Int)) = (0 < k) := by rw [eq_iff_iff]; omega
        simp only [e0, e1, hg, Smp.enc, hk, go_sem, wpR_gcall, reduceCtorEq, reduceIte, Nat.reduceEqDiff, Nat.reduceAdd, Nat.reduceSub, Nat.reduceMul, Nat.reduceLT, Nat.reduceLeDiff, Nat.reduceBEq, Int.reduceEq, Int.reduceLT, Int.reduceLE, Int.reduceAdd, Int.reduceSub, Int.reduceNeg, Int.reduceToNat]
        have fin : (-9223372036854775808 ≤ (k : Int) + 1 ∧ (k : Int) + 1 ≤ 9223372036854775807) ∧ ∃ b : LpS, (b.n ≤ c.l.length ∧ ∀ (i : Nat), i < b.n → ¬badX i (c.l.getD i default)) ∧ c.l.length - b.n < c.l.length - k ∧ (k : Int) + 1 = (b.n : Int) ∧ clk + 1 = b.clk :=
          ⟨by omega, ⟨k + 1, clk + 1⟩, ⟨by dsimp only; omega, hn⟩, by dsimp only; omega, by dsimp only; omega, rfl⟩
        generalize hF : ((-9223372036854775808 ≤ (k : Int) + 1 ∧ (k : Int) + 1 ≤ 9223372036854775807) ∧ ∃ b : LpS, (b.n ≤ c.l.length ∧ ∀ (i : Nat), i < b.n → ¬badX i (c.l.getD i default)) ∧ c.l.length - b.n < c.l.length - k ∧ (k : Int) + 1 = (b.n : Int) ∧ clk + 1 = b.clk) = F at *
        by_cases x1 : x.kind < 1 <;> by_cases x2 : 6 < x.kind <;> by_cases x3 : 0 < k <;> by_cases x4 : x.kind ≤ 2 <;> by_cases x5 : x.text = ⟨#[]⟩ <;> by_cases x6 : x.kind = 1 <;> by_cases x7 : x.val = ⟨#[]⟩ <;> by_cases x8 : x.kind = 6 <;> first | (exfalso; omega) | (exfalso; simp [x1, x2, x3, x4, x5, x6, x7, x8] at hb; done) | (simp [x1, x2, x3, x4, x5, x6, x7, x8, fin]; done)
  | false =>
    have e : rgtC c first = false := by unfold rgtC; rw [decide_eq_false_iff_not]; exact fun h => by rw [hf.2 h.1] at h1; cases h1
    simp only [c31, Cmp.enc, h1, e, go_sem, wpR_gcall, reduceCtorEq, reduceIte, Nat.reduceEqDiff, Nat.reduceAdd, Nat.reduceSub, Nat.reduceMul, Nat.reduceLT, Nat.reduceLeDiff, Nat.reduceBEq, Int.reduceEq, Int.reduceLT, Int.reduceLE, Int.reduceAdd, Int.reduceSub, Int.reduceNeg, Int.reduceToNat]
def sumRgt : Sum Try.prog := ⟨31, fun args => args = [.agg (Cmp.enc (dCmp (args.getD 0 .any))), vb (V.boo (args.getD 1 .any))] ∧ ((dCmp (args.getD 0 .any))).l.length ≤ 1000000, fun args => vb (rgtC (dCmp (args.getD 0 .any)) (V.boo (args.getD 1 .any))), fun args h => by
  have := right_ok (dCmp (args.getD 0 .any)) (V.boo (args.getD 1 .any)) h.2; rwa [← h.1] at this, true⟩
theorem sumRgt_f : sumRgt.f = 31 := rfl
theorem sumRgt_D (args : List V) : sumRgt.D args = (args = [.agg (Cmp.enc (dCmp (args.getD 0 .any))), vb (V.boo (args.getD 1 .any))] ∧ ((dCmp (args.getD 0 .any))).l.length ≤ 1000000) := rfl
theorem sumRgt_flat : sumRgt.flat = true := rfl
theorem sumRgt_r (args : List V) : sumRgt.r args = vb (rgtC (dCmp (args.getD 0 .any)) (V.boo (args.getD 1 .any))) := rfl
attribute [go_sem] sumRgt_f sumRgt_D sumRgt_flat sumRgt_r
def okC (s : Sel) : Prop := s.length ≤ 1000000 ∧ ∀ i, i < s.length → (s.getD i default).l.length ≤ 1000000
def okM (l : List Sel) : Prop := l.length ≤ 1000000 ∧ ∀ i, i < l.length → okC (l.getD i [])
def rgtS (s : Sel) : Bool := decide (1 ≤ s.length ∧ s.length ≤ 64 ∧ ∀ i, i < s.length → rgtC (s.getD i default) (decide ((i : Int) = 0)) = true)
def rgtL (l : List Sel) : Bool := decide (0 < l.length ∧ ∀ i, i < l.length → rgtS (l.getD i []) = true)
theorem rightL_ok (l : List Sel) (hl : okM l) : PCall Try.prog 18 [sels l] (vb (rgtL l)) := by
  refine PCall.of (Orc.cons sumRgt (Orc.nil _)) c18_ok (by simp [c18]) fun w0 own0 => ?_
  obtain ⟨hl1, hl2⟩ := hl
  simp only [c18, sels, go_sem, wpR_gcall, reduceCtorEq, reduceIte, Nat.reduceEqDiff, Nat.reduceAdd, Nat.reduceSub, Nat.reduceMul, Nat.reduceLT, Nat.reduceLeDiff, Nat.reduceBEq, Int.reduceEq, Int.reduceLT, Int.reduceLE, Int.reduceAdd, Int.reduceSub, Int.reduceNeg, Int.reduceToNat]
  refine SemC.lp (α := LpS) (fun a => [(0, .slc 1 (l.map selE)), (7, .slc 1 (l.map selE)), (8, vi l.length), (9, vi a.n)]) (fun a => ⟨[], a.clk⟩)
    (fun a => a.n ≤ l.length ∧ ∀ i, i < a.n → rgtS (l.getD i []) = true) (fun a => l.length - a.n) ⟨0, 0⟩ ⟨Nat.zero_le _, fun i hi => absurd hi (Nat.not_lt_zero _)⟩ (St.mk (by simp [Agrees, upd_at, initE_at])) fun a ha => ?_
  obtain ⟨k, clk⟩ := a
  simp only at ha
  obtain ⟨k1, k2⟩ := ha
  by_cases he : k = l.length
  · subst he
    have e : rgtL l = decide ((0 : Int) < (l.length : Int)) := by
      unfold rgtL; rw [decide_eq_decide]; exact ⟨fun h => by omega, fun h => ⟨by omega, k2⟩⟩
    simp only [Int.lt_irrefl, e, go_sem, wpR_gcall, reduceCtorEq, reduceIte, Nat.reduceEqDiff, Nat.reduceAdd, Nat.reduceSub, Nat.reduceMul, Nat.reduceLT, Nat.reduceLeDiff, Nat.reduceBEq, Int.reduceEq, Int.reduceLT, Int.reduceLE, Int.reduceAdd, Int.reduceSub, Int.reduceNeg, Int.reduceToNat]
  · have e1 : (k : Int) < (l.length : Int) := by omega
    have e0 : (0 : Int) ≤ (k : Int) := by omega
    have hlt : k < l.length := by omega
    have hg := getD_sels l k [.c (.slice none 0 0)] hlt
    obtain ⟨o1, o2⟩ := hl2 k hlt
    have hno : rgtS (l.getD k []) = false → rgtL l = false := fun h => by
      unfold rgtL; rw [decide_eq_false_iff_not]; exact fun hh => by rw [hh.2 k hlt] at h; cases h
    generalize hx : l.getD k [] = s at *
    by_cases h1 : (s.length : Int) < 1
    · have e := hno (by unfold rgtS; rw [decide_eq_false_iff_not]; omega)
      simp only [e0, e1, hg, selE, h1, e, go_sem, wpR_gcall, reduceCtorEq, reduceIte, Nat.reduceEqDiff, Nat.reduceAdd, Nat.reduceSub, Nat.reduceMul, Nat.reduceLT, Nat.reduceLeDiff, Nat.reduceBEq, Int.reduceEq, Int.reduceLT, Int.reduceLE, Int.reduceAdd, Int.reduceSub, Int.reduceNeg, Int.reduceToNat]
    by_cases h2 : (64 : Int) < (s.length : Int)
    · have e := hno (by unfold rgtS; rw [decide_eq_false_iff_not]; omega)
      simp only [e0, e1, hg, selE, h1, h2, e, go_sem, wpR_gcall, reduceCtorEq, reduceIte, Nat.reduceEqDiff, Nat.reduceAdd, Nat.reduceSub, Nat.reduceMul, Nat.reduceLT, Nat.reduceLeDiff, Nat.reduceBEq, Int.reduceEq, Int.reduceLT, Int.reduceLE, Int.reduceAdd, Int.reduceSub, Int.reduceNeg, Int.reduceToNat]
    simp only [e0, e1, hg, selE, h1, h2, go_sem, wpR_gcall, reduceCtorEq, reduceIte, Nat.reduceEqDiff, Nat.reduceAdd, Nat.reduceSub, Nat.reduceMul, Nat.reduceLT, Nat.reduceLeDiff, Nat.reduceBEq, Int.reduceEq, Int.reduceLT, Int.reduceLE, Int.reduceAdd, Int.reduceSub, Int.reduceNeg, Int.reduceToNat]
    refine SemC.lp (α := LpS) (fun a => [(0, .slc 1 (l.map selE)), (7, .slc 1 (l.map selE)), (8, vi l.length), (9, vi k), (24, .slc 2 (s.map Cmp.enc)), (25, vi s.length), (26, vi a.n)]) (fun a => ⟨[], a.clk⟩)
      (fun a => a.n ≤ s.length ∧ ∀ i, i < a.n → rgtC (s.getD i default) (decide ((i : Int) = 0)) = true) (fun a => s.length - a.n) ⟨0, clk + 1⟩ ⟨Nat.zero_le _, fun i hi => absurd hi (Nat.not_lt_zero _)⟩ (St.cut (by simp [Agrees, upd_at, ev, selE]) rfl rfl) fun a ha => ?_
    obtain ⟨j, clk2⟩ := a
    simp only at ha
    obtain ⟨j1, j2⟩ := ha
    by_cases hj : j = s.length
    · subst hj
      have e : rgtS s = true := by unfold rgtS; rw [decide_eq_true_eq]; exact ⟨by omega, by omega, j2⟩
      simp only [Int.lt_irrefl, go_sem, wpR_gcall, reduceCtorEq, reduceIte, Nat.reduceEqDiff, Nat.reduceAdd, Nat.reduceSub, Nat.reduceMul, Nat.reduceLT, Nat.reduceLeDiff, Nat.reduceBEq, Int.reduceEq, Int.reduceLT, Int.reduceLE, Int.reduceAdd, Int.reduceSub, Int.reduceNeg, Int.reduceToNat]
      have hn : ∀ i, i < k + 1 → rgtS (l.getD i []) = true := fun i hi => by
        by_cases h : i = k
        · subst h; rw [hx]; exact e
        · exact k2 i (by omega)
      exact ⟨by omega, ⟨k + 1, clk2⟩, ⟨by dsimp only; omega, hn⟩, by dsimp only; omega, by dsimp only; omega, rfl⟩
    · have f1 : (j : Int) < (s.length : Int) := by omega
      have f0 : (0 : Int) ≤ (j : Int) := by omega
      have hjl : j < s.length := by omega
      have hgj := getD_cmps s j [.c (.int .i64 0), .c (.slice none 0 0)] hjl
      have ho := o2 j hjl
      cases hr : rgtC (s.getD j default) (decide ((j : Int) = 0)) with
      | true =>
        have hn : ∀ i, i < j + 1 → rgtC (s.getD i default) (decide ((i : Int) = 0)) = true := fun i hi => by
          by_cases h : i = j
          · subst h; exact hr
          · exact j2 i (by omega)
        simp only [f0, f1, hgj, Cmp.enc, dCmp_mk, Cmp.eta, V.boo_c, ho, hr, go_sem, wpR_gcall, reduceCtorEq, reduceIte, Nat.reduceEqDiff, Nat.reduceAdd, Nat.reduceSub, Nat.reduceMul, Nat.reduceLT, Nat.reduceLeDiff, Nat.reduceBEq, Int.reduceEq, Int.reduceLT, Int.reduceLE, Int.reduceAdd, Int.reduceSub, Int.reduceNeg, Int.reduceToNat]
        exact ⟨by omega, ⟨j + 1, clk2 + 1⟩, ⟨by dsimp only; omega, hn⟩, by dsimp only; omega, by dsimp only; omega, rfl⟩
      | false =>
        have e := hno (by unfold rgtS; rw [decide_eq_false_iff_not]; exact fun h => by rw [h.2.2 j hjl] at hr; cases hr)
        simp only [f0, f1, hgj, Cmp.enc, dCmp_mk, Cmp.eta, V.boo_c, ho, hr, e, go_sem, wpR_gcall, reduceCtorEq, reduceIte, Nat.reduceEqDiff, Nat.reduceAdd, Nat.reduceSub, Nat.reduceMul, Nat.reduceLT, Nat.reduceLeDiff, Nat.reduceBEq, Int.reduceEq, Int.reduceLT, Int.reduceLE, Int.reduceAdd, Int.reduceSub, Int.reduceNeg, Int.reduceToNat]
end Go.Proofs.Ytlcblcjpebabkaa
