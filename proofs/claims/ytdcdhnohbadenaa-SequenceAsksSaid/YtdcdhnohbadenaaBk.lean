/- slices.Backward, over numbers. -/
import Derived.Test.YtdcdhnohbadenaaE4
import Derived.Test.YtdcdhnohbadenaaE4
import Derived.Test.YtdcdhnohbadenaaCd
import Derived.OwnWalkIn
import Derived.TacticsInMore
import Derived.LoopNIn
import Derived.LoopIn
import Derived.RangeFuncBox
namespace Go.Proofs.Ytdcdhnohbadenaa
open Go.Sx Go.RowKit
set_option linter.unusedSimpArgs false
attribute [local go_sem] Oper.semAt_some

set_option maxRecDepth 100000 in
set_option maxHeartbeats 2000000 in
theorem back_run (l b o n cap : Nat) (a : Option Addr) (val : Nat → Value) (J : Nat → World → Prop) (Jx : World → Prop) (W : World) (hn : n ≤ 1000000)
    (hbx : ∀ k W1, J k W1 → W1.cell? ⟨b, o, none⟩ = some (.slice a n cap))
    (hel : 0 < n → ∃ b' o', a = some ⟨b', o', none⟩ ∧ ∀ k W1, J k W1 → ∀ i, i < n → W1.cell? ⟨b', o' + i, none⟩ = some (val i))
    (hY : ∀ k W1, k < n → J k W1 → YieldAt Fence.wide 0 Try.prog l #[.int .i64 ((n : Int) - 1 - k), val (n - 1 - k)] W1 fun e W' => (e = .returned (.bool true) ∧ J (k + 1) W') ∨ (e = .returned (.bool false) ∧ Jx W'))
    (h0 : J 0 W) : CallsIn Fence.wide 1 Try.prog 60 (#[.func (.yield l) #[] #[]] ++ #[.pointer (some ⟨b, o, none⟩)]) W fun e W' => (∃ v, e = .returned v) ∧ (J n W' ∨ Jx W') := by
  refine callsIn_of_wp Try.func60 rfl trivial ?_ rfl
  have hb0 := hbx 0 W h0
  simp only [Try.ntmps60, List.size_toArray, List.length_cons, List.length_nil, Nat.reduceAdd, Nat.reduceSub, Array.replicate_succ, Array.replicate_zero, List.push_toArray, List.append_toArray, List.nil_append, List.cons_append]
  gi_wp2
  gi_loopw [3] (fun i wr => ∃ k : Nat, k ≤ n ∧ i = .int .i64 ((n : Int) - 1 - k) ∧ J k wr)
    (fun i _ => (intOf i + 1).toNat)
  case atStart => exact ⟨0, Nat.zero_le _, by simp, h0⟩
  case round =>
    obtain ⟨k, hk, rfl, hJs⟩ := hrel
    have hb1 := hbx k wr hJs
    by_cases hlt : k < n
    · obtain ⟨b', o', ha, hc⟩ := hel (by omega)
      subst ha
      have hc1 := hc k wr hJs (n - 1 - k) (by omega)
      obtain ⟨fn, tmps, assign, body, hy, hR⟩ := hY k wr hlt hJs
      gi_wp2
      refine hR.mono ?_
      rintro e W3 (⟨rfl, hJ3⟩ | ⟨rfl, hJx3⟩)
      · gi_wp2
        go_roundw
        case rel => exact ⟨k + 1, by omega, by simp; omega, hJ3⟩
        case measure => simp [intOf]; omega
      · gi_wp2
        refine bodyPost_ret (results_none rfl _ _ _) rfl ?_
        exact ⟨⟨_, rfl⟩, .inr hJx3⟩
    · obtain rfl : k = n := by omega
      gi_wp2
      go_end0
      exact ⟨⟨_, rfl⟩, .inl hJs⟩
theorem back_iter (es : List (List V)) (hn : es.length ≤ 1000000) :
    IterOK Try.prog 60 [.pp [.slc 1 es]] es.length fun k => [vi ((es.length : Int) - 1 - k), (es.getD (es.length - 1 - k) []).getD 0 .any] := by
  refine ⟨(compF_ok c60_ok).1, fun F l J Jx W ccaps hs hp hF _ hY h0 => ?_⟩
  have hv := hp 0 (by simp)
  simp only [List.getD_cons_zero] at hv
  generalize hcv : ccaps.getD 0 undef = cv at hv
  cases hv with
  | pp b o cs xs hFb hx hr =>
  obtain ⟨hx0, _⟩ := hx 0 (by simp)
  have hr0 := hr 0 (by simp)
  simp only [List.getD_cons_zero] at hr0
  generalize hsv : xs 0 = sv at hx0 hr0
  cases hr0 with
  | slc a n cap sz es b' o' ys hn' hc hsz ha hy hry =>
  subst hn'
  have hsame : ∀ k W1, J k W1 → ∀ p v, F p.block → W.cell? p = some v → W1.cell? p = some v := fun k W1 hJ p v hFp hc => (World.cell?_of_block (hF k W1 hJ p.block hFp)).trans hc
  have hcc : ccaps = #[.pointer (some ⟨b, o, none⟩)] := by
    match ccaps, hs with
    | ⟨[x]⟩, _ => simp at hcv; subst hcv; rfl
  rw [hcc]
  refine callsIn_wide.1 (back_run l b o es.length cap a (fun i => ys i 0) J Jx W hn (fun k W1 hJ => hsame k W1 hJ _ _ hFb (by simpa using hx0)) (fun h0 => ?_) (fun k W1 hk hJ => ?_) h0)
  · obtain ⟨ha1, ha2⟩ := ha h0
    exact ⟨b', o', ha1, fun k W1 hJ i hi => hsame k W1 hJ _ _ ha2 (by have := (hy i 0 hi (by omega)).1; simpa using this)⟩
  · refine hY k W1 _ hk hJ rfl fun i hi => ?_
    match i, hi with
    | 0, _ => exact .c _
    | 1, _ =>
      have := hry (es.length - 1 - k) 0 (by omega) (by omega)
      exact this.mono (fun _ h => h) (fun b hb => hF k W1 hJ b hb)
    | i + 2, hi => exact absurd hi (by simp)
end Go.Proofs.Ytdcdhnohbadenaa
