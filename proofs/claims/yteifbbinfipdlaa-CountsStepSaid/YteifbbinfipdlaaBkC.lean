/- slices.Backward, over counters. -/
import Derived.Test.YteifbbinfipdlaaE4
import Derived.Test.YteifbbinfipdlaaE4
import Derived.Test.YteifbbinfipdlaaCd
import Derived.OwnWalkIn
import Derived.TacticsInMore
import Derived.LoopNIn
import Derived.LoopIn
import Derived.RangeFuncBox
namespace Go.Proofs.Yteifbbinfipdlaa
open Go.Sx Go.RowKit
set_option linter.unusedSimpArgs false
set_option maxRecDepth 100000 in
set_option maxHeartbeats 2000000 in
theorem backC_run (l b o n cap : Nat) (a : Option Addr) (val : Nat → Nat → Value) (J : Nat → World → Prop) (Jx : World → Prop) (W : World) (hn : n ≤ 1000000)
    (hbx : ∀ k W1, J k W1 → W1.cell? ⟨b, o, none⟩ = some (.slice a n cap))
    (hel : 0 < n → ∃ b' o', a = some ⟨b', o', none⟩ ∧ ∀ k W1, J k W1 → ∀ i q, i < n → q < 3 → W1.cell? ⟨b', o' + (i * 3 + q), none⟩ = some (val i q) ∧ (val i q).oneCell' = true)
    (hY : ∀ k W1, k < n → J k W1 → YieldAt Fence.wide 0 Try.prog l #[.int .i64 ((n : Int) - 1 - k), (.agg #[val (n - 1 - k) 0, val (n - 1 - k) 1, val (n - 1 - k) 2])] W1 fun e W' => (e = .returned (.bool true) ∧ J (k + 1) W') ∨ (e = .returned (.bool false) ∧ Jx W'))
    (h0 : J 0 W) : CallsIn Fence.wide 1 Try.prog 54 (#[.func (.yield l) #[] #[]] ++ #[.pointer (some ⟨b, o, none⟩)]) W fun e W' => (∃ v, e = .returned v) ∧ (J n W' ∨ Jx W') := by
  refine callsIn_of_wp Try.func54 rfl trivial ?_ rfl
  have hb0 := hbx 0 W h0
  simp only [Try.ntmps54, List.size_toArray, List.length_cons, List.length_nil, Nat.reduceAdd, Nat.reduceSub, Array.replicate_succ, Array.replicate_zero, List.push_toArray, List.append_toArray, List.nil_append, List.cons_append]
  gi_wp2
  gi_loopw [3] (fun i wr => ∃ k : Nat, k ≤ n ∧ i = .int .i64 ((n : Int) - 1 - k) ∧ J k wr)
    (fun i _ => (intOf i + 1).toNat)
  case atStart => exact ⟨0, Nat.zero_le _, by simp, h0⟩
  case round =>
    obtain ⟨k, hk, rfl, hJs⟩ := hrel
    have hb1 := hbx k wr hJs
    by_cases hlt : k < n
    · obtain ⟨b', o', ha, hc⟩ := hel (by omega)
      subst ha
      have hc1 : wr.cell? ⟨b', o' + (n - 1 - k) * 3, none⟩ = some (val (n - 1 - k) 0) := by have := (hc k wr hJs (n - 1 - k) 0 (by omega) (by omega)).1; simpa using this
      have hc2 : wr.cell? ⟨b', o' + (n - 1 - k) * 3 + 1, none⟩ = some (val (n - 1 - k) 1) := by have := (hc k wr hJs (n - 1 - k) 1 (by omega) (by omega)).1; rwa [← Nat.add_assoc] at this
      have hc3 : wr.cell? ⟨b', o' + (n - 1 - k) * 3 + 2, none⟩ = some (val (n - 1 - k) 2) := by have := (hc k wr hJs (n - 1 - k) 2 (by omega) (by omega)).1; rwa [← Nat.add_assoc] at this
      obtain ⟨fn, tmps, assign, body, hy, hR⟩ := hY k wr hlt hJs
      gi_wp2
      refine hR.mono ?_
      rintro e W3 (⟨rfl, hJ3⟩ | ⟨rfl, hJx3⟩)
      · gi_wp2
        go_roundw
        case rel => exact ⟨k + 1, by omega, by simp; omega, hJ3⟩
        case measure => simp [intOf]; omega
      · gi_wp2
        refine bodyPost_ret (results_none rfl _ _ _) rfl ?_
        exact ⟨⟨_, rfl⟩, .inr hJx3⟩
    · obtain rfl : k = n := by omega
      gi_wp2
      go_end0
      exact ⟨⟨_, rfl⟩, .inl hJs⟩
theorem backC_iter (es : List (List V)) (h3 : ∀ e ∈ es, e.length = 3) (hn : es.length ≤ 1000000) :
    IterOK Try.prog 54 [.pp [.slc 3 es]] es.length fun k => [vi ((es.length : Int) - 1 - k), (.agg (es.getD (es.length - 1 - k) []))] := by
  refine ⟨(compF_ok c54_ok).1, fun F l J Jx W ccaps hs hp hF _ hY h0 => ?_⟩
  have hv := hp 0 (by simp)
  simp only [List.getD_cons_zero] at hv
  generalize hcv : ccaps.getD 0 undef = cv at hv
  cases hv with
  | pp b o cs xs hFb hx hr =>
  obtain ⟨hx0, _⟩ := hx 0 (by simp)
  have hr0 := hr 0 (by simp)
  simp only [List.getD_cons_zero] at hr0
  generalize hsv : xs 0 = sv at hx0 hr0
  cases hr0 with
  | slc a n cap sz es b' o' ys hn' hc hsz ha hy hry =>
  subst hn'
  have hsame : ∀ k W1, J k W1 → ∀ p v, F p.block → W.cell? p = some v → W1.cell? p = some v := fun k W1 hJ p v hFp hc => (World.cell?_of_block (hF k W1 hJ p.block hFp)).trans hc
  have hcc : ccaps = #[.pointer (some ⟨b, o, none⟩)] := by
    match ccaps, hs with
    | ⟨[x]⟩, _ => simp at hcv; subst hcv; rfl
  rw [hcc]
  refine callsIn_wide.1 (backC_run l b o es.length cap a ys J Jx W hn (fun k W1 hJ => hsame k W1 hJ _ _ hFb (by simpa using hx0)) (fun h0 => ?_) (fun k W1 hk hJ => ?_) h0)
  · obtain ⟨ha1, ha2⟩ := ha h0
    exact ⟨b', o', ha1, fun k W1 hJ i q hi hq => ⟨hsame k W1 hJ _ _ ha2 (by have := (hy i q hi (by omega)).1; simpa using this), (hy i q hi (by omega)).2⟩⟩
  · refine hY k W1 _ hk hJ rfl fun i hi => ?_
    match i, hi with
    | 0, _ => exact .c _
    | 1, _ =>
      have hlen : (es.getD (es.length - 1 - k) []).length = 3 := by
        rw [List.getD_eq_getElem?_getD, List.getElem?_eq_getElem (by omega)]; exact h3 _ (List.getElem_mem _)
      have hrr := fun q hq => (hry (es.length - 1 - k) q (by omega) hq).mono (fun _ h => h) (fun b hb => hF k W1 hJ b hb)
      refine .agg _ _ (by rw [hlen]; rfl) (fun q hq => ?_) (fun q hq => ?_)
      · rw [hlen] at hq
        match q, hq with
        | 0, _ => exact (hy _ 0 (by omega) (by omega)).2
        | 1, _ => exact (hy _ 1 (by omega) (by omega)).2
        | 2, _ => exact (hy _ 2 (by omega) (by omega)).2
      · rw [hlen] at hq
        match q, hq with
        | 0, _ => exact hrr 0 (by omega)
        | 1, _ => exact hrr 1 (by omega)
        | 2, _ => exact hrr 2 (by omega)
    | i + 2, hi => exact absurd hi (by simp)
end Go.Proofs.Yteifbbinfipdlaa
