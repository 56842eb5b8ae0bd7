/- The law of layer 8: what selectors weigh. -/
import Derived.Test.YtlcblcjpebabkaaM10o
import Derived.Test.YtlcblcjpebabkaaAw
import Derived.Test.YtlcblcjpebabkaaCe
namespace Go.Proofs.Ytlcblcjpebabkaa
open Go.Sx
set_option linter.unusedSimpArgs false
set_option maxHeartbeats 4000000
set_option maxRecDepth 20000

abbrev smpC : List Cell := [.int .i64, .str, .str]
abbrev cmpC : List Cell := [.int .i64, .slc smpC]
abbrev selC : List Cell := [.slc cmpC]
theorem maxLen_big : maxLen = big := by decide
theorem rows_of {α : Type} (enc : α → List V) (ok : α → Prop) : ∀ (es : List (List V)), (∀ e ∈ es, ∃ n : α, e = enc n ∧ ok n) → ∃ l : List α, es = l.map enc ∧ ∀ x ∈ l, ok x
  | [], _ => ⟨[], rfl, by simp⟩
  | e :: es, h => by
    obtain ⟨l, hl, ho⟩ := rows_of enc ok es fun e' he => h e' (by simp [he])
    obtain ⟨n, hn, hok⟩ := h e (by simp)
    exact ⟨n :: l, by rw [hl, hn]; rfl, fun x hx => by rcases List.mem_cons.1 hx with rfl | hx; exact hok; exact ho x hx⟩
theorem getD_mem {α : Type} {l : List α} {i : Nat} {d : α} (h : i < l.length) : l.getD i d ∈ l := by
  rw [List.getD_eq_getElem?_getD, List.getElem?_eq_getElem h]; exact List.getElem_mem _
theorem smps_of {x : V} (h : CellOK (.slc smpC) x) : ∃ l : List Smp, x = .slc 3 (l.map Smp.enc) ∧ l.length ≤ big := by
  cases h with
  | slc cs ess hl h h2 =>
    obtain ⟨l, rfl, _⟩ := rows_of Smp.enc (fun _ => True) ess fun e he => by
      have hlen := h e he
      have a0 := h2 e he 0 _ rfl
      have a1 := h2 e he 1 _ rfl
      have a2 := h2 e he 2 _ rfl
      match e, hlen with
      | [a, b, c], _ =>
        simp only [List.getD_cons_zero, List.getD_cons_succ] at a0 a1 a2
        cases a0; cases a1; cases a2
        exact ⟨⟨_, _, _⟩, rfl, trivial⟩
    exact ⟨l, rfl, by rw [← maxLen_big]; simpa using hl⟩
theorem selL_of {xs : List V} (hl : xs.length = 1) (h : ∀ i c, selC[i]? = some c → CellOK c (xs.getD i .any)) : ∃ s : Sel, xs = selE s ∧ memS s := by
  have a0 := h 0 _ rfl
  clear h
  match xs, hl with
  | [a], _ =>
    simp only [List.getD_cons_zero] at a0
    cases a0 with
    | slc cs ess hl h3 h2 =>
      obtain ⟨l, rfl, ho⟩ := rows_of Cmp.enc (fun c => c.l.length ≤ big) ess fun e he => by
        have hlen := h3 e he
        have a0 := h2 e he 0 _ rfl
        have a1 := h2 e he 1 _ rfl
        match e, hlen with
        | [a, b], _ =>
          simp only [List.getD_cons_zero, List.getD_cons_succ] at a0 a1
          obtain ⟨l, rfl, hb⟩ := smps_of a1
          cases a0
          exact ⟨⟨_, l⟩, rfl, hb⟩
      exact ⟨l, rfl, by rw [← maxLen_big]; simpa using hl, fun i hi => ho _ (getD_mem hi)⟩
theorem sels_of {x : V} (h : CellOK (.slc selC) x) : ∃ l : List Sel, x = sels l ∧ memL l := by
  cases h with
  | slc cs ess hl h h2 =>
    obtain ⟨l, rfl, ho⟩ := rows_of selE memS ess fun e he => selL_of (h e he) (h2 e he)
    exact ⟨l, rfl, by rw [← maxLen_big]; simpa using hl, fun i hi => ho _ (getD_mem hi)⟩
def sumAwake8 : Sum Try.prog := ⟨9, fun args => args = [], fun args => vb true, fun args h => by
  have := awake_ok; rwa [← h] at this, true⟩
theorem sumAwake8_f : sumAwake8.f = 9 := rfl
theorem sumAwake8_D (args : List V) : sumAwake8.D args = (args = []) := rfl
theorem sumAwake8_flat : sumAwake8.flat = true := rfl
theorem sumAwake8_r (args : List V) : sumAwake8.r args = vb true := rfl
attribute [go_sem] sumAwake8_f sumAwake8_D sumAwake8_flat sumAwake8_r
def W3.v (w : W3) : Value := .agg #[.int .i64 w.a, .int .i64 w.b, .int .i64 w.c]
theorem w3_prep {F : Nat → Prop} {w : World} {v : Value} {x : W3} (h : PRep F w v (.agg x.enc)) : PRep F w v (.c x.v) := by
  cases h with
  | agg cs xs hl h1 h =>
    have e0 := h 0 (by simp [W3.enc])
    have e1 := h 1 (by simp [W3.enc])
    have e2 := h 2 (by simp [W3.enc])
    simp only [W3.enc, List.getD_cons_zero, List.getD_cons_succ] at e0 e1 e2
    obtain ⟨l⟩ := cs
    match l, hl with
    | [a, b, c], _ =>
      have e0 : PRep F w a (.c (.int .i64 x.a)) := e0
      have e1 : PRep F w b (.c (.int .i64 x.b)) := e1
      have e2 : PRep F w c (.c (.int .i64 x.c)) := e2
      cases e0; cases e1; cases e2
      exact .c _
theorem weightC_ok (s : Sel) (hs : okC s) : PCall Try.prog 10 [.agg (selE s)] (.c (wtS s).v) := PCall.rsub (weightT_ok s hs) fun _ _ _ h => w3_prep h
def sumWgtC : Sum Try.prog := ⟨10, fun args => args = [.agg (selE (dSel (args.getD 0 .any)))] ∧ okC (dSel (args.getD 0 .any)), fun args => .c (wtS (dSel (args.getD 0 .any))).v, fun args h => by
  have := weightC_ok (dSel (args.getD 0 .any)) h.2; rwa [← h.1] at this, true⟩
theorem sumWgtC_f : sumWgtC.f = 10 := rfl
theorem sumWgtC_D (args : List V) : sumWgtC.D args = (args = [.agg (selE (dSel (args.getD 0 .any)))] ∧ okC (dSel (args.getD 0 .any))) := rfl
theorem sumWgtC_flat : sumWgtC.flat = true := rfl
theorem sumWgtC_r (args : List V) : sumWgtC.r args = .c (wtS (dSel (args.getD 0 .any))).v := rfl
attribute [go_sem] sumWgtC_f sumWgtC_D sumWgtC_flat sumWgtC_r
def W3.add (u v : W3) : W3 := ⟨u.a + v.a, u.b + v.b, u.c + v.c⟩
theorem fewS_okC {s : Sel} (h : fewS s) : okC s := by
  obtain ⟨h1, h2⟩ := h
  exact ⟨by omega, fun i hi => by have := (h2 i hi).1; omega⟩
end Go.Proofs.Ytlcblcjpebabkaa
