/- Layer 19: counters, and the last one of a name. -/
import Derived.Test.YteifbbinfipdlaaBkC
import Derived.Test.YteifbbinfipdlaaCe
namespace Go.Proofs.Yteifbbinfipdlaa
open Go.Sx
set_option linter.unusedSimpArgs false
set_option maxHeartbeats 4000000
set_option maxRecDepth 20000

structure Cnt where
  name : ByteArray
  n : Int
  maker : Int
deriving instance DecidableEq for Cnt
def Cnt.zero : Cnt := ⟨⟨#[]⟩, 0, 0⟩
def Cnt.enc (c : Cnt) : List V := [vs c.name, vi c.n, vi c.maker]
def cnts (l : List Cnt) : V := .slc 3 (l.map Cnt.enc)
def dCntL (e : List V) : Cnt := ⟨(e.getD 0 .any).str, (e.getD 1 .any).int, (e.getD 2 .any).int⟩
def dCnts (v : V) : List Cnt := v.es.map dCntL
theorem dCntL_enc (c : Cnt) : dCntL c.enc = c := rfl
theorem dCnts_map (sz : Nat) (l : List Cnt) : dCnts (.slc sz (l.map Cnt.enc)) = l := by
  simp [dCnts, V.es, Function.comp_def, dCntL_enc]
theorem getD_cnts (l : List Cnt) (i : Nat) : (l.map Cnt.enc).getD i [vs ⟨#[]⟩, vi 0, vi 0] = (l.getD i .zero).enc := by
  have : [vs ⟨#[]⟩, vi 0, vi 0] = Cnt.zero.enc := rfl
  rw [this]
  simp only [List.getD_eq_getElem?_getD, List.getElem?_map]
  cases l[i]? <;> rfl
theorem getD_cnts' (l : List Cnt) (i : Nat) (h : i < l.length) : (l.map Cnt.enc).getD i [] = (l.getD i .zero).enc := by
  simp [List.getD_eq_getElem?_getD, h]
def lastF (l : List Cnt) (nm : ByteArray) : Nat → Int
  | 0 => -1
  | k + 1 => if (l.getD k .zero).name = nm then k else lastF l nm k
def lastC (l : List Cnt) (nm : ByteArray) : Int := lastF l nm l.length
theorem res10_slcC (S : Nat → Bool) (h : Heap) (sz : Nat) (es : List (List V)) : res S h 10 (.slc sz es) = some (.slc sz es) := rfl
theorem backwC_ok (l : List Cnt) : PCall Try.prog 49 [cnts l] (.fn 54 [.pp [cnts l]]) := by
  refine PCall.of (Orc.nil _) c49_ok (by simp [c49]) fun w0 own0 => ?_
  simp only [c49, cnts, res10_slcC, go_sem, wpR_gcall, reduceCtorEq, reduceIte, Nat.reduceEqDiff, Nat.reduceAdd, Nat.reduceSub, Nat.reduceMul, Nat.reduceLT, Nat.reduceLeDiff, Nat.reduceBEq, Int.reduceEq, Int.reduceLT, Int.reduceLE, Int.reduceAdd, Int.reduceSub, Int.reduceNeg, Int.reduceToNat]
def sumBackC : Sum Try.prog := ⟨49, fun args => args = [cnts (dCnts (args.getD 0 .any))], fun args => .fn 54 [.pp [cnts (dCnts (args.getD 0 .any))]], fun args h => by
  have := backwC_ok (dCnts (args.getD 0 .any))
  generalize cnts (dCnts (args.getD 0 .any)) = z at *
  subst h; exact this, false⟩
theorem sumBackC_f : sumBackC.f = 49 := rfl
theorem sumBackC_D (args : List V) : sumBackC.D args = (args = [cnts (dCnts (args.getD 0 .any))]) := rfl
theorem sumBackC_flat : sumBackC.flat = false := rfl
theorem sumBackC_r (args : List V) : sumBackC.r args = .fn 54 [.pp [cnts (dCnts (args.getD 0 .any))]] := rfl
theorem last_ok (l : List Cnt) (nm : ByteArray) (hl : l.length ≤ 1000000) : PCall Try.prog 31 [cnts l, vs nm] (vi (lastC l nm)) := by
  refine PCall.of (Orc.cons sumBackC (Orc.nil _)) c31_ok (by simp [c31]) fun w0 own0 => ?_
  unfold lastC
  generalize hR : lastF l nm l.length = R
  simp only [c31, cnts, dCnts_map, sumBackC_f, sumBackC_D, sumBackC_flat, sumBackC_r, go_sem, wpR_gcall, reduceCtorEq, reduceIte, Nat.reduceEqDiff, Nat.reduceAdd, Nat.reduceSub, Nat.reduceMul, Nat.reduceLT, Nat.reduceLeDiff, Nat.reduceBEq, Int.reduceEq, Int.reduceLT, Int.reduceLE, Int.reduceAdd, Int.reduceSub, Int.reduceNeg, Int.reduceToNat]
  refine SemC.rng (α := Nat) (backC_iter (l.map Cnt.enc) (by simp [Cnt.enc]) (by simpa using hl)) rfl (by simp) (fun _ => rfl)
    [(3, .ptr 0 0 0 0), (4, .ptr 1 1 0 0), (8, .fn 54 [.pp [.slc 3 (l.map Cnt.enc)]])]
    (fun k => ⟨[⟨0, 1, [[vs nm]], false, []⟩, ⟨1, 1, [[vi 0]], false, []⟩], 2 + k⟩) (fun k a => a = k ∧ k ≤ l.length ∧ lastF l nm (l.length - k) = R) 0 ⟨rfl, Nat.zero_le _, hR⟩ (St.mk (by simp [Agrees, upd_at, initE_at])) rfl rfl (fun k a hk ha w0 own0 => ?_) (fun a ha => ?_)
  · obtain ⟨rfl, h1, h2⟩ := ha
    rw [List.length_map] at hk
    obtain ⟨q, hq⟩ : ∃ q, l.length - a = q + 1 := ⟨l.length - a - 1, by omega⟩
    rw [hq] at h2
    simp only [lastF] at h2
    have hg : (l.map Cnt.enc).getD ((l.map Cnt.enc).length - 1 - a) [] = (l.getD q .zero).enc := by
      rw [List.length_map, show l.length - 1 - a = q by omega, getD_cnts' _ _ (by omega)]
    have hk2 : (((l.map Cnt.enc).length : Nat) : Int) - 1 - (a : Int) = (q : Int) := by rw [List.length_map]; omega
    rw [hg, hk2]
    by_cases hn : (l.getD q .zero).name = nm
    · rw [if_pos hn] at h2
      subst h2
      have hn := eq_true hn
      simp only [Cnt.enc, hn, asgQ_normal, rndQ_normal, rndQ_ret, rndQ_exit, updL_cons, updL_nil, sumBackC_f, sumBackC_D, sumBackC_flat, sumBackC_r, go_sem, wpR_gcall, reduceCtorEq, reduceIte, Nat.reduceEqDiff, Nat.reduceAdd, Nat.reduceSub, Nat.reduceMul, Nat.reduceLT, Nat.reduceLeDiff, Nat.reduceBEq, Int.reduceEq, Int.reduceLT, Int.reduceLE, Int.reduceAdd, Int.reduceSub, Int.reduceNeg, Int.reduceToNat]
    · rw [if_neg hn] at h2
      have hn := eq_false hn
      simp only [Cnt.enc, hn, asgQ_normal, rndQ_normal, rndQ_ret, rndQ_exit, updL_cons, updL_nil, sumBackC_f, sumBackC_D, sumBackC_flat, sumBackC_r, go_sem, wpR_gcall, reduceCtorEq, reduceIte, Nat.reduceEqDiff, Nat.reduceAdd, Nat.reduceSub, Nat.reduceMul, Nat.reduceLT, Nat.reduceLeDiff, Nat.reduceBEq, Int.reduceEq, Int.reduceLT, Int.reduceLE, Int.reduceAdd, Int.reduceSub, Int.reduceNeg, Int.reduceToNat]
      exact fun _ => ⟨a + 1, ⟨rfl, by omega, by rw [show l.length - (a + 1) = q by omega]; exact h2⟩, by omega⟩
  · obtain ⟨rfl, h1, h2⟩ := ha
    rw [List.length_map, Nat.sub_self] at h2
    simp only [lastF] at h2
    subst h2
    simp only [sumBackC_f, sumBackC_D, sumBackC_flat, sumBackC_r, go_sem, wpR_gcall, reduceCtorEq, reduceIte, Nat.reduceEqDiff, Nat.reduceAdd, Nat.reduceSub, Nat.reduceMul, Nat.reduceLT, Nat.reduceLeDiff, Nat.reduceBEq, Int.reduceEq, Int.reduceLT, Int.reduceLE, Int.reduceAdd, Int.reduceSub, Int.reduceNeg, Int.reduceToNat]
def sumLast : Sum Try.prog := ⟨31, fun args => args = [cnts (dCnts (args.getD 0 .any)), vs ((args.getD 1 .any).str)] ∧ ((dCnts (args.getD 0 .any))).length ≤ 1000000, fun args => vi (lastC (dCnts (args.getD 0 .any)) ((args.getD 1 .any).str)), fun args h => by
  have := last_ok (dCnts (args.getD 0 .any)) ((args.getD 1 .any).str) h.2; rwa [← h.1] at this, true⟩
theorem sumLast_f : sumLast.f = 31 := rfl
theorem sumLast_D (args : List V) : sumLast.D args = (args = [cnts (dCnts (args.getD 0 .any)), vs ((args.getD 1 .any).str)] ∧ ((dCnts (args.getD 0 .any))).length ≤ 1000000) := rfl
theorem sumLast_flat : sumLast.flat = true := rfl
theorem sumLast_r (args : List V) : sumLast.r args = vi (lastC (dCnts (args.getD 0 .any)) ((args.getD 1 .any).str)) := rfl
attribute [go_sem] sumLast_f sumLast_D sumLast_flat sumLast_r
def decCnt : List V → Option Cnt
  | [.c (.string a), .c (.int .i64 b), .c (.int .i64 c)] => some ⟨a, b, c⟩
  | _ => none
theorem decCnt_ok {e : List V} {c : Cnt} (h : decCnt e = some c) : e = c.enc := by
  unfold decCnt at h
  split at h
  · obtain rfl := Option.some.inj h; rfl
  · cases h
theorem decCnts_ok : ∀ {es : List (List V)} {l : List Cnt}, mapO decCnt es = some l → es = l.map Cnt.enc
  | [], l, h => by simp only [mapO, Option.some.injEq] at h; subst h; rfl
  | e :: es, l, h => by
    simp only [mapO] at h
    split at h
    · rename_i y ys hy hys
      obtain rfl := Option.some.inj h
      rw [List.map_cons, ← decCnt_ok hy, ← decCnts_ok hys]
    · cases h
/-- What is known of `last`, for the run of the law's own example. -/
def lastX (f : FuncId) (args : List V) : Option V :=
  match args with
  | [.slc 3 es, .c (.string nm)] =>
    match decide (f = 31) && decide (es.length ≤ 1000000), mapO decCnt es with
    | true, some l => some (vi (lastC l nm))
    | _, _ => none
  | _ => none
theorem lastX_ok (f : FuncId) (args : List V) (r : V) (h : lastX f args = some r) : PCall Try.prog f args r := by
  unfold lastX at h
  split at h
  · rename_i es nm
    split at h
    · rename_i l hc hl
      obtain rfl := Option.some.inj h
      simp only [Bool.and_eq_true, decide_eq_true_eq] at hc
      obtain ⟨rfl, hc⟩ := hc
      have := decCnts_ok hl
      subst this
      rw [List.length_map] at hc
      exact last_ok l nm hc
    · cases h
  · cases h
end Go.Proofs.Yteifbbinfipdlaa
