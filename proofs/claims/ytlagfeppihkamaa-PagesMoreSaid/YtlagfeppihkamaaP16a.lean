/- Layer 16: selectors of pages: which pages they are about, what they weigh. -/
import Derived.Test.YtlagfeppihkamaaAb
import Derived.Test.YtlagfeppihkamaaAw
namespace Go.Sx
def C.hd : C → C
  | .seq a _ => a
  | c => c
def C.tl : C → C
  | .seq _ b => b
  | c => c
def C.inn : C → C
  | .block _ c => c
  | .loop c => c
  | c => c
end Go.Sx
namespace Go.Proofs.Ytlagfeppihkamaa
open Go.Sx
set_option linter.unusedSimpArgs false
set_option maxHeartbeats 4000000
set_option maxRecDepth 20000

structure Sh where
  num : Int
  right : Bool
  first : Bool
  blank : Bool
  name : ByteArray
  seg : Int
def Sh.enc (s : Sh) : List V := [vi s.num, vb s.right, vb s.first, vb s.blank, vs s.name, vi s.seg]
def dSh1 (v : V) : Sh := ⟨(v.cs.getD 0 .any).int, V.boo (v.cs.getD 1 .any), V.boo (v.cs.getD 2 .any), V.boo (v.cs.getD 3 .any), (v.cs.getD 4 .any).str, (v.cs.getD 5 .any).int⟩
theorem dSh1_mk (a f : Int) (b c d : Bool) (e : ByteArray) : dSh1 (.agg [.c (.int .i64 a), .c (.bool b), .c (.bool c), .c (.bool d), .c (.string e), .c (.int .i64 f)]) = ⟨a, b, c, d, e, f⟩ := rfl
structure PSel where
  name : ByteArray
  first : Int
  blank : Int
  left : Int
  right : Int
instance : Inhabited PSel := ⟨⟨⟨#[]⟩, 0, 0, 0, 0⟩⟩
def PSel.enc (s : PSel) : List V := [vs s.name, vi s.first, vi s.blank, vi s.left, vi s.right]
def psels (l : List PSel) : V := .slc 5 (l.map PSel.enc)
def dPSelL (e : List V) : PSel := ⟨(e.getD 0 .any).str, (e.getD 1 .any).int, (e.getD 2 .any).int, (e.getD 3 .any).int, (e.getD 4 .any).int⟩
def dPSel (v : V) : PSel := dPSelL v.cs
def dPSels (v : V) : List PSel := v.es.map dPSelL
theorem dPSel_mk (a : ByteArray) (b c d e : Int) : dPSel (.agg [.c (.string a), .c (.int .i64 b), .c (.int .i64 c), .c (.int .i64 d), .c (.int .i64 e)]) = ⟨a, b, c, d, e⟩ := rfl
theorem dPSels_map (sz : Nat) (l : List PSel) : dPSels (.slc sz (l.map PSel.enc)) = l := by
  simp only [dPSels, V.es, List.map_map]
  conv => rhs; rw [← List.map_id l]
  apply List.map_congr_left
  intro s _
  rfl
theorem PSel.eta' (s : PSel) : (⟨s.name, s.first, s.blank, s.left, s.right⟩ : PSel) = s := rfl
theorem Sh.eta' (s : Sh) : (⟨s.num, s.right, s.first, s.blank, s.name, s.seg⟩ : Sh) = s := rfl
theorem getD_psels (l : List PSel) (i : Nat) : (l.map PSel.enc).getD i [vs ⟨#[]⟩, vi 0, vi 0, vi 0, vi 0] = (l.getD i default).enc := by
  by_cases h : i < l.length
  · simp [List.getD_eq_getElem?_getD, h]
  · simp [List.getD_eq_getElem?_getD, h]; rfl
def stB (ok : Bool) (n : Int) (b : Bool) : Bool := ok && (decide (n ≤ 0) || b)
def isP (s : PSel) (p : Sh) : Bool := stB (stB (stB (stB (decide (s.name = ⟨#[]⟩) || decide (s.name = p.name)) s.first p.first) s.blank p.blank) s.left (!p.right)) s.right p.right
theorem isP_iff (s : PSel) (p : Sh) : isP s p = true ↔ (s.name = ⟨#[]⟩ ∨ s.name = p.name) ∧ (s.first ≤ 0 ∨ p.first = true) ∧ (s.blank ≤ 0 ∨ p.blank = true) ∧ (s.left ≤ 0 ∨ p.right = false) ∧ (s.right ≤ 0 ∨ p.right = true) := by
  simp [isP, stB, and_assoc]
theorem ask_call (B0 B1 : Blk) (n : Int) (b ok : Bool) : CallOK Try.prog 27 [vi n, vb b, .ptr 2 2 0 0] ⟨[B0, B1, ⟨2, 1, [[vb ok]], false, []⟩], 3⟩ (.tup []) ⟨[B0, B1, ⟨2, 1, [[vb (ok && (decide (n ≤ 0) || b))]], false, []⟩], 3⟩ := by
  refine CallOK.walk (Orc.nil _) c27_ok (by simp [c27]) fun w0 own0 => ?_
  simp only [c27, go_sem, wpR_gcall, reduceCtorEq, reduceIte, Nat.reduceEqDiff, Nat.reduceAdd, Nat.reduceSub, Nat.reduceMul, Nat.reduceLT, Nat.reduceLeDiff, Nat.reduceBEq, Int.reduceEq, Int.reduceLT, Int.reduceLE, Int.reduceAdd, Int.reduceSub, Int.reduceNeg, Int.reduceToNat]
  intro h
  refine ⟨h, ?_⟩
  by_cases hn : n ≤ 0
  · exact .inl hn
  · exact .inr ⟨h, hn⟩
def askHp (B0 B1 : Blk) (ok : Bool) : Heap := ⟨[B0, B1, ⟨2, 1, [[vb ok]], false, []⟩], 3⟩
def askP (args : List V) (h : Heap) : Prop := ∃ (B0 B1 : Blk) (n : Int) (b ok : Bool), args = [vi n, vb b, .ptr 2 2 0 0] ∧ h = askHp B0 B1 ok
def askH (args : List V) (h : Heap) : Heap := askHp (h.blk 0) (h.blk 1) (stB (V.boo (((h.blk 2).es.getD 0 []).getD 0 .any)) (args.getD 0 .any).int (V.boo (args.getD 1 .any)))
theorem askH_at (B0 B1 : Blk) (n : Int) (b ok : Bool) (p : V) : askH [vi n, vb b, p] (askHp B0 B1 ok) = askHp B0 B1 (stB ok n b) := rfl
def sumAsk : ESum Try.prog := ⟨27, askP, fun _ _ => .tup [], askH, fun args h hp => by
  obtain ⟨B0, B1, n, b, ok, rfl, rfl⟩ := hp
  rw [askH_at]; exact ask_call B0 B1 n b ok⟩
theorem ask_any : ∃ A : ESum Try.prog, A.f = 27 ∧ (∀ B0 B1 n b ok, A.pre [.c (.int .i64 n), .c (.bool b), .ptr 2 2 0 0] ⟨[B0, B1, ⟨2, 1, [[.c (.bool ok)]], false, []⟩], 3⟩) ∧ (∀ args h, A.v args h = .tup []) ∧
    ∀ B0 B1 n b ok, A.hp [.c (.int .i64 n), .c (.bool b), .ptr 2 2 0 0] ⟨[B0, B1, ⟨2, 1, [[.c (.bool ok)]], false, []⟩], 3⟩ = ⟨[B0, B1, ⟨2, 1, [[.c (.bool (stB ok n b))]], false, []⟩], 3⟩ :=
  ⟨sumAsk, rfl, fun B0 B1 n b ok => ⟨B0, B1, n, b, ok, rfl, rfl⟩, fun _ _ => rfl, fun B0 B1 n b ok => askH_at B0 B1 n b ok _⟩
structure AskE (e : Nat → V) : Prop where
  a : e 2 = .ptr 0 0 0 0
  b : e 3 = .ptr 1 1 0 0
  c : e 5 = .ptr 2 2 0 0
  d : e 6 = .fn 27 [.ptr 2 2 0 0]
def AskOK (A : ESum Try.prog) : Prop := A.f = 27 ∧ (∀ B0 B1 n b ok, A.pre [.c (.int .i64 n), .c (.bool b), .ptr 2 2 0 0] ⟨[B0, B1, ⟨2, 1, [[.c (.bool ok)]], false, []⟩], 3⟩) ∧ (∀ args h, A.v args h = .tup []) ∧
    ∀ B0 B1 n b ok, A.hp [.c (.int .i64 n), .c (.bool b), .ptr 2 2 0 0] ⟨[B0, B1, ⟨2, 1, [[.c (.bool ok)]], false, []⟩], 3⟩ = ⟨[B0, B1, ⟨2, 1, [[.c (.bool (stB ok n b))]], false, []⟩], 3⟩
def hpA (s : PSel) (p : Sh) (ok : Bool) : Heap := ⟨[⟨0, 5, [s.enc], false, []⟩, ⟨1, 6, [p.enc], false, []⟩, ⟨2, 1, [[vb ok]], false, []⟩], 3⟩
theorem ask_s0 {A : ESum Try.prog} (hA : AskOK A) (s : PSel) (p : Sh) (ok : Bool) (w0 : World) (own0 : Sx.Own) (rest : C) (Q : Post) (e : Nat → V) (he : AskE e)
    (hK : ∀ e', AskE e' → wpC ⟨Try.prog, Orc.econs A (Orc.nil _), 44, w0, own0⟩ rest Q e' (hpA s p (stB ok (s.first) (p.first)))) : wpC ⟨Try.prog, Orc.econs A (Orc.nil _), 44, w0, own0⟩ (.seq c12.body.tl.tl.tl.hd rest) Q e (hpA s p ok) := by
  obtain ⟨e1, hp, e3, hh⟩ := hA
  obtain ⟨a, b, c, d⟩ := he
  unfold hpA at hK ⊢
  simp only [c12, C.hd, C.tl, PSel.enc, Sh.enc, a, b, c, d, Orc.flat_econs, Orc.pre_econs, Orc.v_econs, Orc.hp_econs, Orc.qpre_econs, Orc.qv_econs, e1, e3, hp, hh, go_sem, wpR_gcall, reduceCtorEq, reduceIte, Nat.reduceEqDiff, Nat.reduceAdd, Nat.reduceSub, Nat.reduceMul, Nat.reduceLT, Nat.reduceLeDiff, Nat.reduceBEq, Int.reduceEq, Int.reduceLT, Int.reduceLE, Int.reduceAdd, Int.reduceSub, Int.reduceNeg, Int.reduceToNat]
  exact hK _ ⟨by simp [upd_at, a], by simp [upd_at, b], by simp [upd_at, c], by simp [upd_at, d]⟩
theorem ask_s1 {A : ESum Try.prog} (hA : AskOK A) (s : PSel) (p : Sh) (ok : Bool) (w0 : World) (own0 : Sx.Own) (rest : C) (Q : Post) (e : Nat → V) (he : AskE e)
    (hK : ∀ e', AskE e' → wpC ⟨Try.prog, Orc.econs A (Orc.nil _), 44, w0, own0⟩ rest Q e' (hpA s p (stB ok (s.blank) (p.blank)))) : wpC ⟨Try.prog, Orc.econs A (Orc.nil _), 44, w0, own0⟩ (.seq c12.body.tl.tl.tl.tl.hd rest) Q e (hpA s p ok) := by
  obtain ⟨e1, hp, e3, hh⟩ := hA
  obtain ⟨a, b, c, d⟩ := he
  unfold hpA at hK ⊢
  simp only [c12, C.hd, C.tl, PSel.enc, Sh.enc, a, b, c, d, Orc.flat_econs, Orc.pre_econs, Orc.v_econs, Orc.hp_econs, Orc.qpre_econs, Orc.qv_econs, e1, e3, hp, hh, go_sem, wpR_gcall, reduceCtorEq, reduceIte, Nat.reduceEqDiff, Nat.reduceAdd, Nat.reduceSub, Nat.reduceMul, Nat.reduceLT, Nat.reduceLeDiff, Nat.reduceBEq, Int.reduceEq, Int.reduceLT, Int.reduceLE, Int.reduceAdd, Int.reduceSub, Int.reduceNeg, Int.reduceToNat]
  exact hK _ ⟨by simp [upd_at, a], by simp [upd_at, b], by simp [upd_at, c], by simp [upd_at, d]⟩
theorem ask_s2 {A : ESum Try.prog} (hA : AskOK A) (s : PSel) (p : Sh) (ok : Bool) (w0 : World) (own0 : Sx.Own) (rest : C) (Q : Post) (e : Nat → V) (he : AskE e)
    (hK : ∀ e', AskE e' → wpC ⟨Try.prog, Orc.econs A (Orc.nil _), 44, w0, own0⟩ rest Q e' (hpA s p (stB ok (s.left) (!p.right)))) : wpC ⟨Try.prog, Orc.econs A (Orc.nil _), 44, w0, own0⟩ (.seq c12.body.tl.tl.tl.tl.tl.hd rest) Q e (hpA s p ok) := by
  obtain ⟨e1, hp, e3, hh⟩ := hA
  obtain ⟨a, b, c, d⟩ := he
  unfold hpA at hK ⊢
  simp only [c12, C.hd, C.tl, PSel.enc, Sh.enc, a, b, c, d, Orc.flat_econs, Orc.pre_econs, Orc.v_econs, Orc.hp_econs, Orc.qpre_econs, Orc.qv_econs, e1, e3, hp, hh, go_sem, wpR_gcall, reduceCtorEq, reduceIte, Nat.reduceEqDiff, Nat.reduceAdd, Nat.reduceSub, Nat.reduceMul, Nat.reduceLT, Nat.reduceLeDiff, Nat.reduceBEq, Int.reduceEq, Int.reduceLT, Int.reduceLE, Int.reduceAdd, Int.reduceSub, Int.reduceNeg, Int.reduceToNat]
  exact hK _ ⟨by simp [upd_at, a], by simp [upd_at, b], by simp [upd_at, c], by simp [upd_at, d]⟩
theorem ask_s3 {A : ESum Try.prog} (hA : AskOK A) (s : PSel) (p : Sh) (ok : Bool) (w0 : World) (own0 : Sx.Own) (rest : C) (Q : Post) (e : Nat → V) (he : AskE e)
    (hK : ∀ e', AskE e' → wpC ⟨Try.prog, Orc.econs A (Orc.nil _), 44, w0, own0⟩ rest Q e' (hpA s p (stB ok (s.right) (p.right)))) : wpC ⟨Try.prog, Orc.econs A (Orc.nil _), 44, w0, own0⟩ (.seq c12.body.tl.tl.tl.tl.tl.tl.hd rest) Q e (hpA s p ok) := by
  obtain ⟨e1, hp, e3, hh⟩ := hA
  obtain ⟨a, b, c, d⟩ := he
  unfold hpA at hK ⊢
  simp only [c12, C.hd, C.tl, PSel.enc, Sh.enc, a, b, c, d, Orc.flat_econs, Orc.pre_econs, Orc.v_econs, Orc.hp_econs, Orc.qpre_econs, Orc.qv_econs, e1, e3, hp, hh, go_sem, wpR_gcall, reduceCtorEq, reduceIte, Nat.reduceEqDiff, Nat.reduceAdd, Nat.reduceSub, Nat.reduceMul, Nat.reduceLT, Nat.reduceLeDiff, Nat.reduceBEq, Int.reduceEq, Int.reduceLT, Int.reduceLE, Int.reduceAdd, Int.reduceSub, Int.reduceNeg, Int.reduceToNat]
  exact hK _ ⟨by simp [upd_at, a], by simp [upd_at, b], by simp [upd_at, c], by simp [upd_at, d]⟩
theorem is_b (A : ESum Try.prog) (s : PSel) (p : Sh) (w0 : World) (own0 : Sx.Own) (rest : C) (Q : Post) (hK : ∀ e, AskE e → wpC ⟨Try.prog, Orc.econs A (Orc.nil _), 44, w0, own0⟩ rest Q e (hpA s p (decide (s.name = ⟨#[]⟩) || decide (s.name = p.name)))) :
    wpC ⟨Try.prog, Orc.econs A (Orc.nil _), 44, w0, own0⟩ (.seq c12.body.hd (.seq c12.body.tl.hd (.seq c12.body.tl.tl.hd rest))) Q (initE [.agg s.enc, .agg p.enc]) ⟨[], 0⟩ := by
  unfold hpA at hK
  simp only [c12, C.hd, C.tl, PSel.enc, Sh.enc, go_sem, wpR_gcall, reduceCtorEq, reduceIte, Nat.reduceEqDiff, Nat.reduceAdd, Nat.reduceSub, Nat.reduceMul, Nat.reduceLT, Nat.reduceLeDiff, Nat.reduceBEq, Int.reduceEq, Int.reduceLT, Int.reduceLE, Int.reduceAdd, Int.reduceSub, Int.reduceNeg, Int.reduceToNat] at hK ⊢
  refine ⟨Decidable.em _, ?_⟩
  refine hK _ ⟨?_, ?_, ?_, ?_⟩
  all_goals simp [upd_at]
theorem is_ok (s : PSel) (p : Sh) : PCall Try.prog 12 [.agg s.enc, .agg p.enc] (vb (isP s p)) := by
  obtain ⟨A, hA⟩ : ∃ A, AskOK A := ask_any
  refine PCall.of (Orc.econs A (Orc.nil _)) c12_ok (by simp [c12]) fun w0 own0 => ?_
  refine is_b A s p w0 own0 (.seq c12.body.tl.tl.tl.hd (.seq c12.body.tl.tl.tl.tl.hd (.seq c12.body.tl.tl.tl.tl.tl.hd (.seq c12.body.tl.tl.tl.tl.tl.tl.hd c12.body.tl.tl.tl.tl.tl.tl.tl)))) _ fun e he => ?_
  refine ask_s0 hA s p _ w0 own0 _ _ e he fun e he => ask_s1 hA s p _ w0 own0 _ _ e he fun e he => ask_s2 hA s p _ w0 own0 _ _ e he fun e he => ask_s3 hA s p _ w0 own0 _ _ e he fun e he => ?_
  obtain ⟨a, b, c, d⟩ := he
  unfold hpA isP
  simp only [c12, C.hd, C.tl, PSel.enc, Sh.enc, a, b, c, d, go_sem, wpR_gcall, reduceCtorEq, reduceIte, Nat.reduceEqDiff, Nat.reduceAdd, Nat.reduceSub, Nat.reduceMul, Nat.reduceLT, Nat.reduceLeDiff, Nat.reduceBEq, Int.reduceEq, Int.reduceLT, Int.reduceLE, Int.reduceAdd, Int.reduceSub, Int.reduceNeg, Int.reduceToNat]
theorem isR_ok (s : PSel) (p : Sh) : PCall Try.prog 29 [.agg s.enc, .agg p.enc] (vb (isP s p)) := by
  refine PCall.of (Orc.nil _) c29_ok (by simp [c29]) fun w0 own0 => ?_
  have hI := isP_iff s p
  have hf : ¬ ((s.name = ⟨#[]⟩ ∨ s.name = p.name) ∧ (s.first ≤ 0 ∨ p.first = true) ∧ (s.blank ≤ 0 ∨ p.blank = true) ∧ (s.left ≤ 0 ∨ p.right = false) ∧ (s.right ≤ 0 ∨ p.right = true)) → false = isP s p := fun hn => by
    cases hb : isP s p with
    | false => rfl
    | true => exact absurd (hI.1 hb) hn
  generalize isP s p = R at *
  simp only [c29, PSel.enc, Sh.enc, go_sem, wpR_gcall, reduceCtorEq, reduceIte, Nat.reduceEqDiff, Nat.reduceAdd, Nat.reduceSub, Nat.reduceMul, Nat.reduceLT, Nat.reduceLeDiff, Nat.reduceBEq, Int.reduceEq, Int.reduceLT, Int.reduceLE, Int.reduceAdd, Int.reduceSub, Int.reduceNeg, Int.reduceToNat]
  refine ⟨fun h => ?_, fun h => ?_⟩
  · exact hf fun hh => by rcases hh.1 with e | e; exact h.1 e; exact h.2 e
  refine SemC.lp (α := Nat) (fun k => [(2, .ptr 0 0 0 0), (5, .ref 2 2 0 4), (6, vi k)]) (fun _ => ⟨[⟨0, 5, [s.enc], false, []⟩, ⟨1, 6, [p.enc], false, []⟩, ⟨2, 1, [[vb p.first], [vb p.blank], [vb (!p.right)], [vb p.right]], false, [vb false]⟩], 3⟩)
    (fun k => k ≤ 4 ∧ (0 < k → s.first ≤ 0 ∨ p.first = true) ∧ (1 < k → s.blank ≤ 0 ∨ p.blank = true) ∧ (2 < k → s.left ≤ 0 ∨ p.right = false) ∧ (3 < k → s.right ≤ 0 ∨ p.right = true)) (fun k => 4 - k) 0 ⟨by omega, by omega, by omega, by omega, by omega⟩ (St.cut ?_ ?_ ?_) fun k hk => ?_
  · simp [Agrees, upd_at, initE_at]
  · simp [Heap.alloc, PSel.enc, Sh.enc]
  · rfl
  obtain ⟨h1, h2, h3, h4, h5⟩ := hk
  rcases (show k = 0 ∨ k = 1 ∨ k = 2 ∨ k = 3 ∨ k = 4 by omega) with rfl | rfl | rfl | rfl | rfl
  all_goals simp only [PSel.enc, go_sem, wpR_gcall, reduceCtorEq, reduceIte, Nat.reduceEqDiff, Nat.reduceAdd, Nat.reduceSub, Nat.reduceMul, Nat.reduceLT, Nat.reduceLeDiff, Nat.reduceBEq, Int.reduceEq, Int.reduceLT, Int.reduceLE, Int.reduceAdd, Int.reduceSub, Int.reduceNeg, Int.reduceToNat]
  · refine ⟨fun hc => hf fun hh => ?_, fun hc => ⟨1, ⟨by omega, fun _ => ?_, by omega, by omega, by omega⟩, by omega, by omega⟩⟩
    · rcases hh.2.1 with e | e
      · omega
      · rw [e] at hc; cases hc.2
    · rcases hc with e | e
      · exact .inl (by omega)
      · exact .inr e
  · refine ⟨fun hc => hf fun hh => ?_, fun hc => ⟨2, ⟨by omega, fun _ => h2 (by omega), fun _ => ?_, by omega, by omega⟩, by omega, by omega⟩⟩
    · rcases hh.2.2.1 with e | e
      · omega
      · rw [e] at hc; cases hc.2
    · rcases hc with e | e
      · exact .inl (by omega)
      · exact .inr e
  · refine ⟨fun hc => hf fun hh => ?_, fun hc => ⟨3, ⟨by omega, fun _ => h2 (by omega), fun _ => h3 (by omega), fun _ => ?_, by omega⟩, by omega, by omega⟩⟩
    · rcases hh.2.2.2.1 with e | e
      · omega
      · rw [e] at hc; cases hc.2
    · rcases hc with e | e
      · exact .inl (by omega)
      · exact .inr e
  · refine ⟨fun hc => hf fun hh => ?_, fun hc => ⟨4, ⟨by omega, fun _ => h2 (by omega), fun _ => h3 (by omega), fun _ => h4 (by omega), fun _ => ?_⟩, by omega, by omega⟩⟩
    · rcases hh.2.2.2.2 with e | e
      · omega
      · rw [e] at hc; cases hc.2
    · rcases hc with e | e
      · exact .inl (by omega)
      · exact .inr e
  · exact (hI.2 ⟨by rcases h with e | e; exact .inl e; exact .inr e, h2 (by omega), h3 (by omega), h4 (by omega), h5 (by omega)⟩).symm
def sumIsP : Sum Try.prog := ⟨12, fun args => args = [.agg (PSel.enc (dPSel (args.getD 0 .any))), .agg (Sh.enc (dSh1 (args.getD 1 .any)))], fun args => vb (isP (dPSel (args.getD 0 .any)) (dSh1 (args.getD 1 .any))), fun args h => by
  have := is_ok (dPSel (args.getD 0 .any)) (dSh1 (args.getD 1 .any)); rwa [← h] at this, true⟩
theorem sumIsP_f : sumIsP.f = 12 := rfl
theorem sumIsP_D (args : List V) : sumIsP.D args = (args = [.agg (PSel.enc (dPSel (args.getD 0 .any))), .agg (Sh.enc (dSh1 (args.getD 1 .any)))]) := rfl
theorem sumIsP_flat : sumIsP.flat = true := rfl
theorem sumIsP_r (args : List V) : sumIsP.r args = vb (isP (dPSel (args.getD 0 .any)) (dSh1 (args.getD 1 .any))) := rfl
def sumIsR : Sum Try.prog := ⟨29, fun args => args = [.agg (PSel.enc (dPSel (args.getD 0 .any))), .agg (Sh.enc (dSh1 (args.getD 1 .any)))], fun args => vb (isP (dPSel (args.getD 0 .any)) (dSh1 (args.getD 1 .any))), fun args h => by
  have := isR_ok (dPSel (args.getD 0 .any)) (dSh1 (args.getD 1 .any)); rwa [← h] at this, true⟩
theorem sumIsR_f : sumIsR.f = 29 := rfl
theorem sumIsR_D (args : List V) : sumIsR.D args = (args = [.agg (PSel.enc (dPSel (args.getD 0 .any))), .agg (Sh.enc (dSh1 (args.getD 1 .any)))]) := rfl
theorem sumIsR_flat : sumIsR.flat = true := rfl
theorem sumIsR_r (args : List V) : sumIsR.r args = vb (isP (dPSel (args.getD 0 .any)) (dSh1 (args.getD 1 .any))) := rfl
theorem weight_ok (s : PSel) (h : -9223372036854775808 ≤ s.first + s.blank ∧ s.first + s.blank ≤ 9223372036854775807 ∧ -9223372036854775808 ≤ s.left + s.right ∧ s.left + s.right ≤ 9223372036854775807) :
    PCall Try.prog 13 [.agg s.enc] (.agg (W3.enc ⟨if s.name = ⟨#[]⟩ then 0 else 1, s.first + s.blank, s.left + s.right⟩)) := by
  refine PCall.of (Orc.nil _) c13_ok (by simp [c13]) fun w0 own0 => ?_
  by_cases hn : s.name = ⟨#[]⟩
  · simp only [c13, PSel.enc, W3.enc, hn, h.1, h.2, go_sem, wpR_gcall, reduceCtorEq, reduceIte, Nat.reduceEqDiff, Nat.reduceAdd, Nat.reduceSub, Nat.reduceMul, Nat.reduceLT, Nat.reduceLeDiff, Nat.reduceBEq, Int.reduceEq, Int.reduceLT, Int.reduceLE, Int.reduceAdd, Int.reduceSub, Int.reduceNeg, Int.reduceToNat]
  · simp only [c13, PSel.enc, W3.enc, hn, h.1, h.2, go_sem, wpR_gcall, reduceCtorEq, reduceIte, Nat.reduceEqDiff, Nat.reduceAdd, Nat.reduceSub, Nat.reduceMul, Nat.reduceLT, Nat.reduceLeDiff, Nat.reduceBEq, Int.reduceEq, Int.reduceLT, Int.reduceLE, Int.reduceAdd, Int.reduceSub, Int.reduceNeg, Int.reduceToNat]
end Go.Proofs.Ytlagfeppihkamaa
