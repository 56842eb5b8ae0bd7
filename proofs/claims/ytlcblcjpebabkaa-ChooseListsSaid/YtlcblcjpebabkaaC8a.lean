/- The law of layer 8: what selectors weigh. -/
import Derived.Test.YtlcblcjpebabkaaM10o
import Derived.Test.YtlcblcjpebabkaaAw
import Derived.Test.YtlcblcjpebabkaaCe
namespace Go.Proofs.Ytlcblcjpebabkaa
open Go.Sx
set_option linter.unusedSimpArgs false
set_option maxHeartbeats 4000000
set_option maxRecDepth 20000

abbrev smpC : List Cell := [.int .i64, .str, .str]
abbrev cmpC : List Cell := [.int .i64, .slc smpC]
abbrev selC : List Cell := [.slc cmpC]
theorem maxLen_big : maxLen = big := by decide
theorem rows_of {α : Type} (enc : α → List V) (ok : α → Prop) : ∀ (es : List (List V)), (∀ e ∈ es, ∃ n : α, e = enc n ∧ ok n) → ∃ l : List α, es = l.map enc ∧ ∀ x ∈ l, ok x
  | [], _ => ⟨[], rfl, by simp⟩
  | e :: es, h => by
    obtain ⟨l, hl, ho⟩ := rows_of enc ok es fun e' he => h e' (by simp [he])
    obtain ⟨n, hn, hok⟩ := h e (by simp)
    exact ⟨n :: l, by rw [hl, hn]; rfl, fun x hx => by rcases List.mem_cons.1 hx with rfl | hx; exact hok; exact ho x hx⟩
theorem getD_mem {α : Type} {l : List α} {i : Nat} {d : α} (h : i < l.length) : l.getD i d ∈ l := by
  rw [List.getD_eq_getElem?_getD, List.getElem?_eq_getElem h]; exact List.getElem_mem _
theorem smps_of {x : V} (h : CellOK (.slc smpC) x) : ∃ l : List Smp, x = .slc 3 (l.map Smp.enc) ∧ l.length ≤ big := by
  cases h with
  | slc cs ess hl h h2 =>
    obtain ⟨l, rfl, _⟩ := rows_of Smp.enc (fun _ => True) ess fun e he => by
      have hlen := h e he
      have a0 := h2 e he 0 _ rfl
      have a1 := h2 e he 1 _ rfl
      have a2 := h2 e he 2 _ rfl
      match e, hlen with
      | [a, b, c], _ =>
        simp only [List.getD_cons_zero, List.getD_cons_succ] at a0 a1 a2
        cases a0; cases a1; cases a2
        exact ⟨⟨_, _, _⟩, rfl, trivial⟩
    exact ⟨l, rfl, by rw [← maxLen_big]; simpa using hl⟩
theorem selL_of {xs : List V} (hl : xs.length = 1) (h : ∀ i c, selC[i]? = some c → CellOK c (xs.getD i .any)) : ∃ s : Sel, xs = selE s ∧ memS s := by
  have a0 := h 0 _ rfl
  clear h
  match xs, hl with
  | [a], _ =>
    simp only [List.getD_cons_zero] at a0
    cases a0 with
    | slc cs ess hl h3 h2 =>
      obtain ⟨l, rfl, ho⟩ := rows_of Cmp.enc (fun c => c.l.length ≤ big) ess fun e he => by
        have hlen := h3 e he
        have a0 := h2 e he 0 _ rfl
        have a1 := h2 e he 1 _ rfl
        match e, hlen with
        | [a, b], _ =>
          simp only [List.getD_cons_zero, List.getD_cons_succ] at a0 a1
          obtain ⟨l, rfl, hb⟩ := smps_of a1
          cases a0
          exact ⟨⟨_, l⟩, rfl, hb⟩
      exact ⟨l, rfl, by rw [← maxLen_big]; simpa using hl, fun i hi => ho _ (getD_mem hi)⟩
theorem sels_of {x : V} (h : CellOK (.slc selC) x) : ∃ l : List Sel, x = sels l ∧ memL l := by
  cases h with
  | slc cs ess hl h h2 =>
    obtain ⟨l, rfl, ho⟩ := rows_of selE memS ess fun e he => selL_of (h e he) (h2 e he)
    exact ⟨l, rfl, by rw [← maxLen_big]; simpa using hl, fun i hi => ho _ (getD_mem hi)⟩
def sumAwake8 : Sum Try.prog := ⟨9, fun args => args = [], fun args => vb true, fun args h => by
  have := awake_ok; rwa [← h] at this, true⟩
theorem sumAwake8_f : sumAwake8.f = 9 := rfl
theorem sumAwake8_D (args : List V) : sumAwake8.D args = (args = []) := rfl
theorem sumAwake8_flat : sumAwake8.flat = true := rfl
theorem sumAwake8_r (args : List V) : sumAwake8.r args = vb true := rfl
attribute [go_sem] sumAwake8_f sumAwake8_D sumAwake8_flat sumAwake8_r
def W3.v (w : W3) : Value := .agg #[.int .i64 w.a, .int .i64 w.b, .int .i64 w.c]
theorem w3_prep {F : Nat → Prop} {w : World} {v : Value} {x : W3} (h : PRep F w v (.agg x.enc)) : PRep F w v (.c x.v) := by
  cases h with
  | agg cs xs hl h1 h =>
    have e0 := h 0 (by simp [W3.enc])
    have e1 := h 1 (by simp [W3.enc])
    have e2 := h 2 (by simp [W3.enc])
    simp only [W3.enc, List.getD_cons_zero, List.getD_cons_succ] at e0 e1 e2
    obtain ⟨l⟩ := cs
    match l, hl with
    | [a, b, c], _ =>
      have e0 : PRep F w a (.c (.int .i64 x.a)) := e0
      have e1 : PRep F w b (.c (.int .i64 x.b)) := e1
      have e2 : PRep F w c (.c (.int .i64 x.c)) := e2
      cases e0; cases e1; cases e2
      exact .c _
theorem weightC_ok (s : Sel) (hs : okC s) : PCall Try.prog 10 [.agg (selE s)] (.c (wtS s).v) := PCall.rsub (weightT_ok s hs) fun _ _ _ h => w3_prep h
def sumWgtC : Sum Try.prog := ⟨10, fun args => args = [.agg (selE (dSel (args.getD 0 .any)))] ∧ okC (dSel (args.getD 0 .any)), fun args => .c (wtS (dSel (args.getD 0 .any))).v, fun args h => by
  have := weightC_ok (dSel (args.getD 0 .any)) h.2; rwa [← h.1] at this, true⟩
theorem sumWgtC_f : sumWgtC.f = 10 := rfl
theorem sumWgtC_D (args : List V) : sumWgtC.D args = (args = [.agg (selE (dSel (args.getD 0 .any)))] ∧ okC (dSel (args.getD 0 .any))) := rfl
theorem sumWgtC_flat : sumWgtC.flat = true := rfl
theorem sumWgtC_r (args : List V) : sumWgtC.r args = .c (wtS (dSel (args.getD 0 .any))).v := rfl
attribute [go_sem] sumWgtC_f sumWgtC_D sumWgtC_flat sumWgtC_r
def W3.add (u v : W3) : W3 := ⟨u.a + v.a, u.b + v.b, u.c + v.c⟩
theorem addW_add (u v : W3) (k : Int) : addW (u.add v) k = u.add (addW v k) := by
  unfold addW W3.add
  split
  · simp [Int.add_assoc]
  split
  · simp [Int.add_assoc]
  split
  · simp [Int.add_assoc]
  · rfl
theorem wtC_add (u : W3) : ∀ (l : List Smp) (v : W3), wtC (u.add v) l = u.add (wtC v l)
  | [], _ => rfl
  | x :: l, v => by
    unfold wtC
    rw [List.foldl_cons, List.foldl_cons, addW_add]
    exact wtC_add u l _
theorem wtC_zero (u : W3) (c : Cmp) : wtC u c.l = u.add (wtS [c]) := by
  have h := wtC_add u c.l ⟨0, 0, 0⟩
  have e : u.add ⟨0, 0, 0⟩ = u := by unfold W3.add; simp
  rw [e] at h
  exact h
theorem wtC_le : ∀ (l : List Smp) (u : W3) (n : Int), u.le n → (wtC u l).le (n + l.length)
  | [], u, n, h => by show u.le _; simpa using h
  | x :: l, u, n, h => by
    have := wtC_le l (addW u x.kind) (n + 1) (addW_le _ h)
    unfold wtC at this ⊢
    rw [List.foldl_cons]
    exact W3.le_mono this (by simp; omega)
theorem wtS_one_le (c : Cmp) : (wtS [c]).le c.l.length := by
  have := wtC_le c.l ⟨0, 0, 0⟩ 0 ⟨by simp, by simp, by simp, by simp, by simp, by simp⟩
  rw [Int.zero_add] at this
  exact this
theorem few8_one {s : Sel} (h : few8 [s] = true) : fewS s := by
  unfold few8 at h; rw [decide_eq_true_eq] at h
  exact h.2 0 (by simp)
theorem fewS_okC {s : Sel} (h : fewS s) : okC s := by
  obtain ⟨h1, h2⟩ := h
  exact ⟨by omega, fun i hi => by have := (h2 i hi).1; omega⟩
theorem chooseWeighs_law (y : List V) (hl : y.length = 1) (h2 : ∀ i c, selC[i]? = some c → CellOK c (y.getD i .any)) : PCall Try.prog 3 [.agg y] (.c (.bool true)) := by
  obtain ⟨s, rfl, hm⟩ := selL_of hl h2
  refine PCall.of (Orc.cons sumFew8 (Orc.cons sumAwake8 (Orc.cons sumWgtC (Orc.nil _)))) c3_ok (by simp [c3]) fun w0 own0 => ?_
  have hds : dSels (.slc 1 [[.slc 2 (s.map Cmp.enc)]]) = [s] := dSels_map [s]
  have hsx : sels [s] = .slc 1 [[.slc 2 (s.map Cmp.enc)]] := rfl
  cases hf : few8 [s] with
  | false => simp only [c3, selE, hds, hsx, hf, go_sem, wpR_gcall, reduceCtorEq, reduceIte, Nat.reduceEqDiff, Nat.reduceAdd, Nat.reduceSub, Nat.reduceMul, Nat.reduceLT, Nat.reduceLeDiff, Nat.reduceBEq, Int.reduceEq, Int.reduceLT, Int.reduceLE, Int.reduceAdd, Int.reduceSub, Int.reduceNeg, Int.reduceToNat]
  | true =>
    have hfs := few8_one hf
    have hs := fewS_okC hfs
    have hs70 := hfs.1
    simp only [c3, selE, hds, hsx, hf, go_sem, wpR_gcall, reduceCtorEq, reduceIte, Nat.reduceEqDiff, Nat.reduceAdd, Nat.reduceSub, Nat.reduceMul, Nat.reduceLT, Nat.reduceLeDiff, Nat.reduceBEq, Int.reduceEq, Int.reduceLT, Int.reduceLE, Int.reduceAdd, Int.reduceSub, Int.reduceNeg, Int.reduceToNat]
    refine SemC.lp (α := WtS) (fun a => [(1, .ptr 0 0 0 0), (3, .ptr 2 2 0 0), (14, .slc 2 (s.map Cmp.enc)), (15, vi s.length), (16, vi a.n)])
      (fun a => ⟨[⟨0, 1, [[.slc 2 (s.map Cmp.enc)]], false, []⟩, ⟨1, 1, [[.slc 2 (s.map Cmp.enc)]], false, [vnil]⟩, ⟨2, 3, [a.w.enc], false, []⟩], a.clk⟩)
      (fun a => a.n ≤ s.length ∧ a.w.le (a.n * 20) ∧ wtS s = wtF a.w (s.drop a.n)) (fun a => s.length - a.n) ⟨0, ⟨0, 0, 0⟩, 3⟩ ⟨Nat.zero_le _, ⟨by simp, by simp, by simp, by simp, by simp, by simp⟩, rfl⟩ (St.cut (by simp [Agrees, upd_at, initE_at]) rfl rfl) fun a ha => ?_
    obtain ⟨k, w, clk⟩ := a
    simp only at ha
    obtain ⟨k1, k2, k3⟩ := ha
    by_cases he : k = s.length
    · subst he
      rw [List.drop_length] at k3
      have e : wtS s = w := k3
      simp only [W3.enc, W3.v, selE, Int.lt_irrefl, dSel_mk, hs, e, List.isEmpty_cons, List.toList_toArray, on_gcall, off_gcall, flat_gcall, go_sem, reduceCtorEq, reduceIte, Nat.reduceEqDiff, Nat.reduceAdd, Nat.reduceSub, Nat.reduceMul, Nat.reduceLT, Nat.reduceLeDiff, Nat.reduceBEq, Int.reduceEq, Int.reduceLT, Int.reduceLE, Int.reduceAdd, Int.reduceSub, Int.reduceNeg, Int.reduceToNat]
    · have e1 : (k : Int) < (s.length : Int) := by omega
      have e0 : (0 : Int) ≤ (k : Int) := by omega
      have hlt : k < s.length := by omega
      have hg := getD_cmps s k [.c (.int .i64 0), .c (.slice none 0 0)] hlt
      have hcl := (hfs.2 k hlt).1
      rw [wtF_drop w s k hlt] at k3
      generalize hx : s.getD k default = c at *
      have hc1 : okC [c] := ⟨by simp, fun i hi => by
        have : i = 0 := by simp at hi; omega
        subst this; show c.l.length ≤ 1000000; omega⟩
      have hdc : dSel (.agg [.slc 2 [[.c (.int .i64 c.link), .slc 3 (c.l.map Smp.enc)]]]) = [c] := dSel_mk [c]
      have hd := wtS_one_le c
      rw [wtC_zero] at k3
      generalize hu : wtS [c] = u at *
      simp only [W3.enc, e0, e1, hg, selE, Cmp.enc, hdc, hc1, hu, W3.v, res_slc10, List.toList_toArray, List.map_cons, List.map_nil, go_sem, wpR_gcall, reduceCtorEq, reduceIte, Nat.reduceEqDiff, Nat.reduceAdd, Nat.reduceSub, Nat.reduceMul, Nat.reduceLT, Nat.reduceLeDiff, Nat.reduceBEq, Int.reduceEq, Int.reduceLT, Int.reduceLE, Int.reduceAdd, Int.reduceSub, Int.reduceNeg, Int.reduceToNat]
      obtain ⟨b1, b2, b3, b4, b5, b6⟩ := id k2
      obtain ⟨d1, d2, d3, d4, d5, d6⟩ := hd
      refine SemC.lp (α := Nat) (fun j => [(1, .ptr 0 0 0 0), (3, .ptr 2 2 0 0), (6, .ptr 5 (clk + 2) 0 0), (14, .slc 2 (s.map Cmp.enc)), (15, vi s.length), (16, vi k), (24, vi j)])
        (fun j => ⟨[⟨0, 1, [[.slc 2 (s.map Cmp.enc)]], false, []⟩, ⟨1, 1, [[.slc 2 (s.map Cmp.enc)]], false, [vnil]⟩, ⟨2, 3, [[vi (if 0 < j then w.a + u.a else w.a), vi (if 1 < j then w.b + u.b else w.b), vi (if 2 < j then w.c + u.c else w.c)]], false, []⟩,
          ⟨clk, 2, [[vi c.link, .slc 3 (c.l.map Smp.enc)]], false, []⟩, ⟨clk + 1, 2, [[vi c.link, .slc 3 (c.l.map Smp.enc)]], false, [vi 0, vnil]⟩, ⟨clk + 2, 3, [[vi u.a, vi u.b, vi u.c]], false, []⟩], clk + 3⟩)
        (fun j => j ≤ 3) (fun j => 3 - j) 0 (Nat.zero_le _) (St.cut (by simp [Agrees, upd_at, ev_cons]) rfl rfl) fun j hj => ?_
      by_cases hj3 : j = 3
      · subst hj3
        simp only [Int.lt_irrefl, show ¬ ((3 : Nat) : Int) < 3 by omega, go_sem, wpR_gcall, reduceCtorEq, reduceIte, Nat.reduceEqDiff, Nat.reduceAdd, Nat.reduceSub, Nat.reduceMul, Nat.reduceLT, Nat.reduceLeDiff, Nat.reduceBEq, Int.reduceEq, Int.reduceLT, Int.reduceLE, Int.reduceAdd, Int.reduceSub, Int.reduceNeg, Int.reduceToNat]
        exact ⟨by omega, ⟨k + 1, w.add u, clk + 3⟩, ⟨by dsimp only; omega, ⟨by simp only [W3.add]; omega, by simp only [W3.add]; omega, by simp only [W3.add]; omega, by simp only [W3.add]; omega, by simp only [W3.add]; omega, by simp only [W3.add]; omega⟩, k3⟩, by dsimp only; omega, by dsimp only; omega, ⟨rfl, rfl, rfl⟩, rfl⟩
      · have c0 : j = 0 ∨ j = 1 ∨ j = 2 := by omega
        rcases c0 with rfl | rfl | rfl
        · simp only [show ((0 : Nat) : Int) < 3 by omega, show ((0 : Nat) : Int).toNat = 0 by omega, go_sem, wpR_gcall, reduceCtorEq, reduceIte, Nat.reduceEqDiff, Nat.reduceAdd, Nat.reduceSub, Nat.reduceMul, Nat.reduceLT, Nat.reduceLeDiff, Nat.reduceBEq, Int.reduceEq, Int.reduceLT, Int.reduceLE, Int.reduceAdd, Int.reduceSub, Int.reduceNeg, Int.reduceToNat]
          exact ⟨by omega, 1, by omega, by omega, rfl, by simp, by simp, by simp⟩
        · simp only [show ((1 : Nat) : Int) < 3 by omega, show ((1 : Nat) : Int).toNat = 1 by omega, go_sem, wpR_gcall, reduceCtorEq, reduceIte, Nat.reduceEqDiff, Nat.reduceAdd, Nat.reduceSub, Nat.reduceMul, Nat.reduceLT, Nat.reduceLeDiff, Nat.reduceBEq, Int.reduceEq, Int.reduceLT, Int.reduceLE, Int.reduceAdd, Int.reduceSub, Int.reduceNeg, Int.reduceToNat]
          exact ⟨by omega, 2, by omega, by omega, rfl, by simp, by simp, by simp⟩
        · simp only [show ((2 : Nat) : Int) < 3 by omega, show ((2 : Nat) : Int).toNat = 2 by omega, go_sem, wpR_gcall, reduceCtorEq, reduceIte, Nat.reduceEqDiff, Nat.reduceAdd, Nat.reduceSub, Nat.reduceMul, Nat.reduceLT, Nat.reduceLeDiff, Nat.reduceBEq, Int.reduceEq, Int.reduceLT, Int.reduceLE, Int.reduceAdd, Int.reduceSub, Int.reduceNeg, Int.reduceToNat]
          exact ⟨by omega, 3, by omega, by omega, rfl, by simp, by simp, by simp⟩
end Go.Proofs.Ytlcblcjpebabkaa
