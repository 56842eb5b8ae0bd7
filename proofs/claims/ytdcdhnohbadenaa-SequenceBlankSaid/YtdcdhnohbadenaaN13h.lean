/- Children in flow, siblings, points. -/
import Derived.Test.YtdcdhnohbadenaaN13g
namespace Go.Proofs.Ytdcdhnohbadenaa
open Go.Sx
set_option linter.unusedSimpArgs false
set_option maxHeartbeats 4000000
set_option maxRecDepth 20000

def delHp (d : Doc) (xs : List Int) (ver clk : Nat) : Heap := ⟨[⟨0, 5, [[.slc 6 (d.l.map Node.enc), .slc 1 (d.run.map fun b => [vb b]), .slc 1 (d.bef.map fun n => [vi n]), .slc 1 (d.aft.map fun n => [vi n]), .slc 1 (d.page.map fun s => [vs s])]], false, []⟩, ⟨ver, 1, xs.map fun n => [vi n], false, [vi 0]⟩], clk⟩
def delP (args : List V) (h : Heap) : Prop := ∃ (d : Doc) (xs : List Int) (ver clk : Nat), args = [.ref 1 ver 0 xs.length, .fn 74 [.ptr 0 0 0 0]] ∧ h = delHp d xs ver clk ∧ ixD d xs
def delX (h : Heap) : List Int := kp (dDocL ((h.blk 0).es.getD 0 [])) (dInts (.slc 1 (h.blk 1).es))
def delV (h : Heap) : V := .ref 1 (h.blk 1).ver 0 (delX h).length
def delH (h : Heap) : Heap := ⟨[h.blk 0, ⟨(h.blk 1).ver, 1, (delX h).map fun n => [vi n], false, [vi 0]⟩], h.clk⟩
theorem delX_at (d : Doc) (xs : List Int) (ver clk : Nat) : delX (delHp d xs ver clk) = kp d xs := by
  have e : dDocL d.enc = d := dDoc_enc d
  unfold Doc.enc at e
  simp only [delX, delHp, Heap.blk, List.getElem?_cons_zero, List.getElem?_cons_succ, Option.getD_some, List.getD_cons_zero]
  rw [e, dInts_map]
theorem delV_at (d : Doc) (xs : List Int) (ver clk : Nat) : delV (delHp d xs ver clk) = .ref 1 ver 0 (kp d xs).length := by
  unfold delV; rw [delX_at]; rfl
theorem delH_at (d : Doc) (xs : List Int) (ver clk : Nat) : delH (delHp d xs ver clk) = delHp d (kp d xs) ver clk := by
  unfold delH; rw [delX_at]; rfl
def sumDelE : ESum Try.prog := ⟨72, delP, fun _ h => delV h, fun _ h => delH h, fun args h hp => by
  obtain ⟨d, xs, ver, clk, rfl, rfl, h1⟩ := hp
  rw [delV_at, delH_at]; exact del_call d xs ver clk h1⟩
theorem kids_ok (d : Doc) (k : Nat) (h : okL d) (hk : k < d.l.length) : PCall Try.prog 58 [.agg d.enc, vi k] (ints (kids d k)) := by
  refine PCall.of (Orc.econs sumChildrenE (Orc.econs sumDelE (Orc.nil _))) c58_ok (by simp [c58]) fun w0 own0 => ?_
  have hp : ∀ B0, chP [.slc 6 (d.l.map Node.enc), .c (.int .i64 k)] ⟨[B0], 1⟩ [] := fun B0 => ⟨B0, d.l, k, rfl, rfl, h.2, h.1.doc, hk⟩
  have e1 : sumChildrenE.f = 73 := rfl
  have e2 : ∀ args h, sumChildrenE.pre args h = chP args h [] := fun _ _ => rfl
  have e3 : ∀ args h, sumChildrenE.v args h = chV args := fun _ _ => rfl
  have e4 : ∀ args h, sumChildrenE.hp args h = chH args h := fun _ _ => rfl
  have d1 : sumDelE.f = 72 := rfl
  have d2 : ∀ args h, sumDelE.pre args h = delP args h := fun _ _ => rfl
  have d3 : ∀ args h, sumDelE.v args h = delV h := fun _ _ => rfl
  have d4 : ∀ args h, sumDelE.hp args h = delH h := fun _ _ => rfl
  have hix : ixD d (kidsTo d.l k true d.l.length) := by
    refine ⟨by have := kids_len d.l k true d.l.length; have := h.2; omega, fun x hx => ?_⟩
    rw [kidsTo_sel] at hx
    obtain ⟨m, a, b, _⟩ := selTo_mem.1 hx
    have := h.run; omega
  have hdp : ∀ ver clk, delP [.ref 1 ver 0 (chM d.l k), .fn 74 [.ptr 0 0 0 0]] (delHp d (kidsTo d.l k true d.l.length) ver clk) := fun ver clk => ⟨d, _, ver, clk, rfl, rfl, hix⟩
  have hv := fun ver clk => delV_at d (kidsTo d.l k true d.l.length) ver clk
  have hh := fun ver clk => delH_at d (kidsTo d.l k true d.l.length) ver clk
  have hkp : kp d (kidsTo d.l k true d.l.length) = kids d k := kids_filter d k
  rw [hkp] at hv hh
  unfold delHp at hdp hv hh
  simp only [c58, Doc.enc, Orc.flat_econs, Orc.pre_econs, Orc.v_econs, Orc.hp_econs, Orc.qpre_econs, Orc.qv_econs, e1, e2, e3, e4, d1, d2, d3, d4, hp, hdp, hv, hh, chV_at', chH_at', ints, List.take_length, Nat.le_refl, go_sem, wpR_gcall, reduceCtorEq, reduceIte, Nat.reduceEqDiff, Nat.reduceAdd, Nat.reduceSub, Nat.reduceMul, Nat.reduceLT, Nat.reduceLeDiff, Nat.reduceBEq, Int.reduceEq, Int.reduceLT, Int.reduceLE, Int.reduceAdd, Int.reduceSub, Int.reduceNeg, Int.reduceToNat]
def sumKids : Sum Try.prog := ⟨58, fun args => args = [.agg (Doc.enc (dDoc (args.getD 0 .any))), vi ((args.getD 1 .any).int)] ∧ okL (dDoc (args.getD 0 .any)) ∧ 0 ≤ ((args.getD 1 .any).int) ∧ ((args.getD 1 .any).int) < ((dDoc (args.getD 0 .any))).l.length, fun args => ints (kids (dDoc (args.getD 0 .any)) (((args.getD 1 .any).int)).toNat), fun args h => by
  have := (by have h1 := h.2; have h2 := kids_ok (dDoc (args.getD 0 .any)) (((args.getD 1 .any).int)).toNat h1.1 (by have := h1.2.1; have := h1.2.2; omega); rw [Int.toNat_of_nonneg h1.2.1] at h2; exact h2 : PCall Try.prog 58 [.agg (Doc.enc (dDoc (args.getD 0 .any))), vi ((args.getD 1 .any).int)] (ints (kids (dDoc (args.getD 0 .any)) (((args.getD 1 .any).int)).toNat))); rwa [← h.1] at this, false⟩
theorem sumKids_f : sumKids.f = 58 := rfl
theorem sumKids_D (args : List V) : sumKids.D args = (args = [.agg (Doc.enc (dDoc (args.getD 0 .any))), vi ((args.getD 1 .any).int)] ∧ okL (dDoc (args.getD 0 .any)) ∧ 0 ≤ ((args.getD 1 .any).int) ∧ ((args.getD 1 .any).int) < ((dDoc (args.getD 0 .any))).l.length) := rfl
theorem sumKids_flat : sumKids.flat = false := rfl
theorem sumKids_r (args : List V) : sumKids.r args = ints (kids (dDoc (args.getD 0 .any)) (((args.getD 1 .any).int)).toNat) := rfl
end Go.Proofs.Ytdcdhnohbadenaa
