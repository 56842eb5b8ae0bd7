/- Layer 16: pseudo-classes counted. -/
import Derived.Test.YtlagfeppihkamaaP16a
import Derived.Test.YtlagfeppihkamaaLo
import Derived.Test.YtlagfeppihkamaaGc
namespace Go.Proofs.Ytlagfeppihkamaa
open Go.Sx
set_option linter.unusedSimpArgs false
set_option maxHeartbeats 4000000
set_option maxRecDepth 20000

def wFirst : ByteArray := ⟨#[102, 105, 114, 115, 116]⟩
def wBlank : ByteArray := ⟨#[98, 108, 97, 110, 107]⟩
def wLeft : ByteArray := ⟨#[108, 101, 102, 116]⟩
def wRight : ByteArray := ⟨#[114, 105, 103, 104, 116]⟩
def bumpO (s : PSel) (w : ByteArray) : Option PSel :=
  if w = wFirst then some ⟨s.name, s.first + 1, s.blank, s.left, s.right⟩
  else if w = wBlank then some ⟨s.name, s.first, s.blank + 1, s.left, s.right⟩
  else if w = wLeft then some ⟨s.name, s.first, s.blank, s.left + 1, s.right⟩
  else if w = wRight then some ⟨s.name, s.first, s.blank, s.left, s.right + 1⟩
  else none
def okB (s : PSel) : Prop := (0 ≤ s.first ∧ s.first ≤ 1000000) ∧ (0 ≤ s.blank ∧ s.blank ≤ 1000000) ∧ (0 ≤ s.left ∧ s.left ≤ 1000000) ∧ (0 ≤ s.right ∧ s.right ≤ 1000000)
def look6 : List (ByteArray × Nat) → ByteArray → Option Nat
  | [], _ => none
  | p :: r, s => if s = p.1 then some p.2 else look6 r s
theorem mget_look6 (f : Nat → V) (s : ByteArray) : ∀ L : List (ByteArray × Nat), mget (L.map fun p => .string p.1) (L.map fun p => f p.2) (.string s) = (look6 L s).map f
  | [] => rfl
  | p :: r => by
    have : (simpleEq (.string p.1) (.string s)).1 = true ↔ s = p.1 := by simp [simpleEq]; exact eq_comm
    simp only [List.map_cons, mget, look6, this, mget_look6 f s r]
    split <;> rfl
def psK : List (ByteArray × Nat) := [(⟨#[102, 105, 114, 115, 116]⟩, 1), (⟨#[98, 108, 97, 110, 107]⟩, 2), (⟨#[108, 101, 102, 116]⟩, 3), (⟨#[114, 105, 103, 104, 116]⟩, 4)]
theorem bump_look (s : PSel) (u : ByteArray) : bumpO s u = (look6 psK u).map fun n => if n = 1 then ⟨s.name, s.first + 1, s.blank, s.left, s.right⟩ else if n = 2 then ⟨s.name, s.first, s.blank + 1, s.left, s.right⟩ else if n = 3 then ⟨s.name, s.first, s.blank, s.left + 1, s.right⟩ else ⟨s.name, s.first, s.blank, s.left, s.right + 1⟩ := by
  unfold bumpO psK wFirst wBlank wLeft wRight
  simp only [look6]
  split
  · rfl
  split
  · rfl
  split
  · rfl
  split
  · rfl
  rfl
theorem look6_rng (u : ByteArray) (n : Nat) (h : look6 psK u = some n) : n = 1 ∨ n = 2 ∨ n = 3 ∨ n = 4 := by
  unfold psK at h
  simp only [look6] at h
  split at h
  · simp at h; omega
  split at h
  · simp at h; omega
  split at h
  · simp at h; omega
  split at h
  · simp at h; omega
  cases h
theorem pseudo_call (B0 : Blk) (s : PSel) (w : ByteArray) (clk : Nat) (hs : okB s) (hw : w.size ≤ 1000000) : CallOK Try.prog 38 [.ptr 1 1 0 0, vs w] ⟨[B0, ⟨1, 5, [s.enc], false, []⟩], clk⟩ (vb (bumpO s (lowB w)).isSome) ⟨[B0, ⟨1, 5, [((bumpO s (lowB w)).getD s).enc], false, []⟩], clk⟩ := by
  refine CallOK.walk (Orc.cons sumLow (Orc.nil _)) c38_ok (by simp [c38]) fun w0 own0 => ?_
  obtain ⟨⟨a1, a2⟩, ⟨b1, b2⟩, ⟨c1, c2⟩, d1, d2⟩ := hs
  generalize hu : lowB w = u
  rw [bump_look]
  have hm := mget_look6 (fun n => V.ptr 1 1 0 n) u psK
  have hr := look6_rng u
  generalize look6 psK u = o at *
  simp only [psK, List.map_cons, List.map_nil] at hm
  cases o with
  | none =>
    simp only [Option.map_none] at hm ⊢
    simp only [c38, PSel.enc, hw, hu, hm, Option.isSome_none, Option.getD_none, go_sem, wpR_gcall, reduceCtorEq, reduceIte, Nat.reduceEqDiff, Nat.reduceAdd, Nat.reduceSub, Nat.reduceMul, Nat.reduceLT, Nat.reduceLeDiff, Nat.reduceBEq, Int.reduceEq, Int.reduceLT, Int.reduceLE, Int.reduceAdd, Int.reduceSub, Int.reduceNeg, Int.reduceToNat]
  | some n =>
    simp only [Option.map_some] at hm ⊢
    rcases hr n rfl with rfl | rfl | rfl | rfl
    all_goals simp only [c38, PSel.enc, hw, hu, hm, Option.isSome_some, Option.getD_some, go_sem, wpR_gcall, reduceCtorEq, reduceIte, Nat.reduceEqDiff, Nat.reduceAdd, Nat.reduceSub, Nat.reduceMul, Nat.reduceLT, Nat.reduceLeDiff, Nat.reduceBEq, Int.reduceEq, Int.reduceLT, Int.reduceLE, Int.reduceAdd, Int.reduceSub, Int.reduceNeg, Int.reduceToNat]
    all_goals omega
structure PsA (A : ESum Try.prog) : Prop where
  f : A.f = 38
  pre : ∀ (B0 : Blk) (s : PSel) (w : ByteArray) (clk : Nat), okB s → w.size ≤ 1000000 → A.pre [.ptr 1 1 0 0, .c (.string w)] ⟨[B0, ⟨1, 5, [s.enc], false, []⟩], clk⟩
  v : ∀ (B0 : Blk) (s : PSel) (w : ByteArray) (clk : Nat), A.v [.ptr 1 1 0 0, .c (.string w)] ⟨[B0, ⟨1, 5, [s.enc], false, []⟩], clk⟩ = vb (bumpO s (lowB w)).isSome
  hp : ∀ (B0 : Blk) (s : PSel) (w : ByteArray) (clk : Nat), A.hp [.ptr 1 1 0 0, .c (.string w)] ⟨[B0, ⟨1, 5, [s.enc], false, []⟩], clk⟩ = ⟨[B0, ⟨1, 5, [((bumpO s (lowB w)).getD s).enc], false, []⟩], clk⟩
theorem dPSelL_enc (s : PSel) : dPSelL s.enc = s := rfl
theorem psA_ex : ∃ A : ESum Try.prog, PsA A :=
  ⟨⟨38, fun args h => ∃ (B0 : Blk) (s : PSel) (w : ByteArray) (clk : Nat), okB s ∧ w.size ≤ 1000000 ∧ args = [.ptr 1 1 0 0, vs w] ∧ h = ⟨[B0, ⟨1, 5, [s.enc], false, []⟩], clk⟩,
    fun args h => vb (bumpO (dPSelL ((h.blk 1).es.getD 0 [])) (lowB (args.getD 1 .any).str)).isSome,
    fun args h => ⟨[h.blk 0, ⟨1, 5, [((bumpO (dPSelL ((h.blk 1).es.getD 0 [])) (lowB (args.getD 1 .any).str)).getD (dPSelL ((h.blk 1).es.getD 0 []))).enc], false, []⟩], h.clk⟩,
    fun args h hp => by
      obtain ⟨B0, s, w, clk, h1, h2, rfl, rfl⟩ := hp
      exact pseudo_call B0 s w clk h1 h2⟩, ⟨rfl, fun B0 s w clk h1 h2 => ⟨B0, s, w, clk, h1, h2, rfl, rfl⟩, fun B0 s w clk => rfl, fun B0 s w clk => rfl⟩⟩
end Go.Proofs.Ytlagfeppihkamaa
