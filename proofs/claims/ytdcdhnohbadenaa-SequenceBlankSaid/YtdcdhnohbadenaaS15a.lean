/- Pages: their sides; those so far. -/
import Derived.Test.YtdcdhnohbadenaaS14h
namespace Go.Proofs.Ytdcdhnohbadenaa
open Go.Sx
set_option linter.unusedSimpArgs false
set_option maxHeartbeats 4000000
set_option maxRecDepth 20000

structure Sh where
  num : Int
  right : Bool
  first : Bool
  blank : Bool
  name : ByteArray
  seg : Int
instance : Inhabited Sh := ⟨⟨0, false, false, false, ⟨#[]⟩, 0⟩⟩
def Sh.enc (s : Sh) : List V := [vi s.num, vb s.right, vb s.first, vb s.blank, vs s.name, vi s.seg]
abbrev zSh : List V := [vi 0, vb false, vb false, vb false, vs ⟨#[]⟩, vi 0]
def shs (l : List Sh) : V := .slc 6 (l.map Sh.enc)
def dSh (e : List V) : Sh := ⟨(e.getD 0 .any).int, V.boo (e.getD 1 .any), V.boo (e.getD 2 .any), V.boo (e.getD 3 .any), (e.getD 4 .any).str, (e.getD 5 .any).int⟩
def dShs (v : V) : List Sh := v.es.map dSh
theorem dShs_map (sz : Nat) (l : List Sh) : dShs (.slc sz (l.map Sh.enc)) = l := by
  simp only [dShs, V.es, List.map_map]
  conv => rhs; rw [← List.map_id l]
  apply List.map_congr_left
  intro s _
  rfl
theorem mapO_shs11 (S : Nat → Bool) (h : Heap) (l : List Sh) : mapO (mapO (res S h 11)) (l.map Sh.enc) = some (l.map Sh.enc) := mapO_flat S h 10 _ (fun _ => rfl) l
theorem mapO_shs10 (S : Nat → Bool) (h : Heap) (l : List Sh) : mapO (mapO (res S h 10)) (l.map Sh.enc) = some (l.map Sh.enc) := mapO_flat S h 9 _ (fun _ => rfl) l
theorem mapO_shs9 (S : Nat → Bool) (h : Heap) (l : List Sh) : mapO (mapO (res S h 9)) (l.map Sh.enc) = some (l.map Sh.enc) := mapO_flat S h 8 _ (fun _ => rfl) l
theorem and_one (k : Nat) (hk : k ≤ 1000000) : andI .i64 (k : Int) 1 = ((k % 2 : Nat) : Int) := by
  unfold andI
  have e1 : BitVec.ofInt (IntKind.i64).bits (k : Int) = BitVec.ofNat 64 k := by
    show BitVec.ofInt 64 (k : Int) = _
    rw [BitVec.ofInt_natCast]
  have e2 : BitVec.ofInt (IntKind.i64).bits 1 = BitVec.ofNat 64 1 := by show BitVec.ofInt 64 1 = BitVec.ofNat 64 1; decide
  rw [e1, e2]
  have e3 : (BitVec.ofNat 64 k &&& BitVec.ofNat 64 1).toNat = k % 2 := by
    rw [BitVec.toNat_and, BitVec.toNat_ofNat, BitVec.toNat_ofNat]
    rw [Nat.mod_eq_of_lt (show k < 2 ^ 64 by omega), Nat.mod_eq_of_lt (show 1 < 2 ^ 64 by decide), Nat.and_one_is_mod]
  show IntKind.i64.wrap ((BitVec.ofNat 64 k &&& BitVec.ofNat 64 1).toNat : Int) = _
  rw [e3]
  exact Go.IntWalk.i64_in _ (by omega)
theorem side_ok (k : Int) (h0 : 0 ≤ k) (hk : k ≤ 1000000) : PCall Try.prog 15 [vi k] (vb (decide (k % 2 = 1))) := by
  refine PCall.of (Orc.nil _) c15_ok (by simp [c15]) fun w0 own0 => ?_
  obtain ⟨m, rfl⟩ : ∃ m : Nat, k = m := ⟨k.toNat, by omega⟩
  have e := and_one m (by omega)
  have e4 : decide (((m % 2 : Nat) : Int) = 1) = decide ((m : Int) % 2 = 1) := by rw [decide_eq_decide]; omega
  simp only [c15, e, e4, go_sem, wpR_gcall, reduceCtorEq, reduceIte, Nat.reduceEqDiff, Nat.reduceAdd, Nat.reduceSub, Nat.reduceMul, Nat.reduceLT, Nat.reduceLeDiff, Nat.reduceBEq, Int.reduceEq, Int.reduceLT, Int.reduceLE, Int.reduceAdd, Int.reduceSub, Int.reduceNeg, Int.reduceToNat]
def sumSide : Sum Try.prog := ⟨15, fun args => args = [vi ((args.getD 0 .any).int)] ∧ 0 ≤ ((args.getD 0 .any).int) ∧ ((args.getD 0 .any).int) ≤ 1000000, fun args => vb (decide (((args.getD 0 .any).int) % 2 = 1)), fun args h => by
  have := side_ok ((args.getD 0 .any).int) h.2.1 h.2.2; rwa [← h.1] at this, true⟩
theorem sumSide_f : sumSide.f = 15 := rfl
theorem sumSide_D (args : List V) : sumSide.D args = (args = [vi ((args.getD 0 .any).int)] ∧ 0 ≤ ((args.getD 0 .any).int) ∧ ((args.getD 0 .any).int) ≤ 1000000) := rfl
theorem sumSide_flat : sumSide.flat = true := rfl
theorem sumSide_r (args : List V) : sumSide.r args = vb (decide (((args.getD 0 .any).int) % 2 = 1)) := rfl
def wrgB (k n : Int) : Bool := (decide (n = 4) && !decide (k % 2 = 1)) || (decide (n = 3) && decide (k % 2 = 1))
theorem wrong_ok (k n : Int) (h0 : 0 ≤ k) (hk : k ≤ 1000000) : PCall Try.prog 22 [vi k, vi n] (vb (wrgB k n)) := by
  refine PCall.of (Orc.cons sumSide (Orc.nil _)) c22_ok (by simp [c22]) fun w0 own0 => ?_
  unfold wrgB
  by_cases h1 : n = 4
  · by_cases h3 : k % 2 = 1
    · simp only [c22, h0, hk, h1, h3, on_gcall, off_gcall, flat_gcall, sumSide_f, sumSide_D, sumSide_flat, sumSide_r, go_sem, reduceCtorEq, reduceIte, Nat.reduceEqDiff, Nat.reduceAdd, Nat.reduceSub, Nat.reduceMul, Nat.reduceLT, Nat.reduceLeDiff, Nat.reduceBEq, Int.reduceEq, Int.reduceLT, Int.reduceLE, Int.reduceAdd, Int.reduceSub, Int.reduceNeg, Int.reduceToNat]
    · simp only [c22, h0, hk, h1, h3, on_gcall, off_gcall, flat_gcall, sumSide_f, sumSide_D, sumSide_flat, sumSide_r, go_sem, reduceCtorEq, reduceIte, Nat.reduceEqDiff, Nat.reduceAdd, Nat.reduceSub, Nat.reduceMul, Nat.reduceLT, Nat.reduceLeDiff, Nat.reduceBEq, Int.reduceEq, Int.reduceLT, Int.reduceLE, Int.reduceAdd, Int.reduceSub, Int.reduceNeg, Int.reduceToNat]
  · by_cases h2 : n = 3
    · by_cases h3 : k % 2 = 1
      · simp only [c22, h0, hk, h1, h2, h3, on_gcall, off_gcall, flat_gcall, sumSide_f, sumSide_D, sumSide_flat, sumSide_r, go_sem, reduceCtorEq, reduceIte, Nat.reduceEqDiff, Nat.reduceAdd, Nat.reduceSub, Nat.reduceMul, Nat.reduceLT, Nat.reduceLeDiff, Nat.reduceBEq, Int.reduceEq, Int.reduceLT, Int.reduceLE, Int.reduceAdd, Int.reduceSub, Int.reduceNeg, Int.reduceToNat]
      · simp only [c22, h0, hk, h1, h2, h3, on_gcall, off_gcall, flat_gcall, sumSide_f, sumSide_D, sumSide_flat, sumSide_r, go_sem, reduceCtorEq, reduceIte, Nat.reduceEqDiff, Nat.reduceAdd, Nat.reduceSub, Nat.reduceMul, Nat.reduceLT, Nat.reduceLeDiff, Nat.reduceBEq, Int.reduceEq, Int.reduceLT, Int.reduceLE, Int.reduceAdd, Int.reduceSub, Int.reduceNeg, Int.reduceToNat]
    · simp only [c22, h0, hk, h1, h2, on_gcall, off_gcall, flat_gcall, sumSide_f, sumSide_D, sumSide_flat, sumSide_r, go_sem, reduceCtorEq, reduceIte, Nat.reduceEqDiff, Nat.reduceAdd, Nat.reduceSub, Nat.reduceMul, Nat.reduceLT, Nat.reduceLeDiff, Nat.reduceBEq, Int.reduceEq, Int.reduceLT, Int.reduceLE, Int.reduceAdd, Int.reduceSub, Int.reduceNeg, Int.reduceToNat]
def sumWrong : Sum Try.prog := ⟨22, fun args => args = [vi ((args.getD 0 .any).int), vi ((args.getD 1 .any).int)] ∧ 0 ≤ ((args.getD 0 .any).int) ∧ ((args.getD 0 .any).int) ≤ 1000000, fun args => vb (wrgB ((args.getD 0 .any).int) ((args.getD 1 .any).int)), fun args h => by
  have := wrong_ok ((args.getD 0 .any).int) ((args.getD 1 .any).int) h.2.1 h.2.2; rwa [← h.1] at this, true⟩
theorem sumWrong_f : sumWrong.f = 22 := rfl
theorem sumWrong_D (args : List V) : sumWrong.D args = (args = [vi ((args.getD 0 .any).int), vi ((args.getD 1 .any).int)] ∧ 0 ≤ ((args.getD 0 .any).int) ∧ ((args.getD 0 .any).int) ≤ 1000000) := rfl
theorem sumWrong_flat : sumWrong.flat = true := rfl
theorem sumWrong_r (args : List V) : sumWrong.r args = vb (wrgB ((args.getD 0 .any).int) ((args.getD 1 .any).int)) := rfl
theorem next_ok (l : List Sh) (hl : l.length ≤ 100000) : PCall Try.prog 19 [.pp [shs l]] (vi (l.length + 1)) := by
  refine PCall.of (Orc.nil _) c19_ok (by simp [c19]) fun w0 own0 => ?_
  simp only [c19, shs, go_sem, wpR_gcall, reduceCtorEq, reduceIte, Nat.reduceEqDiff, Nat.reduceAdd, Nat.reduceSub, Nat.reduceMul, Nat.reduceLT, Nat.reduceLeDiff, Nat.reduceBEq, Int.reduceEq, Int.reduceLT, Int.reduceLE, Int.reduceAdd, Int.reduceSub, Int.reduceNeg, Int.reduceToNat]
  omega
def sumNext : Sum Try.prog := ⟨19, fun args => args = [.pp [shs (dShs ((args.getD 0 .any).cs.getD 0 .any))]] ∧ (dShs ((args.getD 0 .any).cs.getD 0 .any)).length ≤ 100000, fun args => vi ((dShs ((args.getD 0 .any).cs.getD 0 .any)).length + 1), fun args h => by
  have := next_ok _ h.2; rwa [← h.1] at this, true⟩
theorem sumNext_f : sumNext.f = 19 := rfl
theorem sumNext_D (args : List V) : sumNext.D args = (args = [.pp [shs (dShs ((args.getD 0 .any).cs.getD 0 .any))]] ∧ (dShs ((args.getD 0 .any).cs.getD 0 .any)).length ≤ 100000) := rfl
theorem sumNext_flat : sumNext.flat = true := rfl
theorem sumNext_r (args : List V) : sumNext.r args = vi ((dShs ((args.getD 0 .any).cs.getD 0 .any)).length + 1) := rfl
def mkSh (len : Nat) (name : ByteArray) (n : Int) : Sh := ⟨(len : Int) + 1, decide (((len : Int) + 1) % 2 = 1), decide ((len : Int) + 1 = 1), decide (n < 0), name, n⟩
def addP (l : List Sh) (name : ByteArray) (n : Int) : List Sh := l ++ [mkSh l.length name n]
def pgH (d : Doc) (l : List Sh) (ver clk : Nat) : Heap := ⟨[⟨0, 5, [d.enc], false, []⟩, ⟨1, 1, [[.ref 3 ver 0 l.length]], false, []⟩, ⟨2, 1, [[.fn 19 [.ptr 1 1 0 0]]], false, []⟩, ⟨ver, 6, l.map Sh.enc, false, zSh⟩], clk⟩
theorem add_ok (d : Doc) (l : List Sh) (ver clk : Nat) (name : ByteArray) (n : Int) (hl : l.length ≤ 10000) :
    CallOK Try.prog 20 [vs name, vi n, .ptr 1 1 0 0, .ptr 2 2 0 0] (pgH d l ver clk) (.tup []) (pgH d (addP l name n) clk (clk + 1)) := by
  refine CallOK.walk (Orc.cons sumNext (Orc.cons sumSide (Orc.nil _))) c20_ok (by simp [c20]) fun w0 own0 => ?_
  have h1 : (0 : Int) ≤ (l.length : Int) + 1 := by omega
  have h2 : (l.length : Int) + 1 ≤ 1000000 := by omega
  have h3 : l.length ≤ 100000 := by omega
  simp only [c20, pgH, addP, mkSh, shs, dShs_map, h1, h2, h3, mapO_shs10, mapO_shs11, mapO_shs9, List.take_length, Nat.le_refl, sumNext_f, sumNext_D, sumNext_flat, sumNext_r, sumSide_f, sumSide_D, sumSide_flat, sumSide_r, go_sem, wpR_gcall, reduceCtorEq, reduceIte, Nat.reduceEqDiff, Nat.reduceAdd, Nat.reduceSub, Nat.reduceMul, Nat.reduceLT, Nat.reduceLeDiff, Nat.reduceBEq, Int.reduceEq, Int.reduceLT, Int.reduceLE, Int.reduceAdd, Int.reduceSub, Int.reduceNeg, Int.reduceToNat]
  exact ⟨⟨by omega, by omega⟩, by simp, by simp [Sh.enc]⟩
def sumAdd : ESum Try.prog := ⟨20, fun args h => ∃ (d : Doc) (l : List Sh) (ver clk : Nat) (name : ByteArray) (n : Int), args = [vs name, vi n, .ptr 1 1 0 0, .ptr 2 2 0 0] ∧ h = pgH d l ver clk ∧ l.length ≤ 10000,
  fun _ _ => .tup [], fun args h => ⟨[h.blk 0, ⟨1, 1, [[.ref 3 h.clk 0 ((h.blk 3).es.length + 1)]], false, []⟩, h.blk 2, ⟨h.clk, 6, (h.blk 3).es ++ [(mkSh (h.blk 3).es.length (args.getD 0 .any).str (args.getD 1 .any).int).enc], false, zSh⟩], h.clk + 1⟩, fun args h hp => by
  obtain ⟨d, l, ver, clk, name, n, rfl, rfl, hl⟩ := hp
  have := add_ok d l ver clk name n hl
  simp only [pgH, addP] at this ⊢
  simpa [Heap.blk, V.str, V.int, vs, vi] using this⟩
theorem sumAdd_f : sumAdd.f = 20 := rfl
theorem sumAdd_v (args : List V) (h : Heap) : sumAdd.v args h = .tup [] := rfl
theorem sumAdd_hp (args : List V) (h : Heap) : sumAdd.hp args h = ⟨[h.blk 0, ⟨1, 1, [[.ref 3 h.clk 0 ((h.blk 3).es.length + 1)]], false, []⟩, h.blk 2, ⟨h.clk, 6, (h.blk 3).es ++ [(mkSh (h.blk 3).es.length (args.getD 0 .any).str (args.getD 1 .any).int).enc], false, zSh⟩], h.clk + 1⟩ := rfl
theorem sumAdd_pre (d : Doc) (l : List Sh) (ver clk : Nat) (name : ByteArray) (n : Int) (hl : l.length ≤ 10000) : sumAdd.pre [vs name, vi n, .ptr 1 1 0 0, .ptr 2 2 0 0] ⟨[⟨0, 5, [d.enc], false, []⟩, ⟨1, 1, [[.ref 3 ver 0 l.length]], false, []⟩, ⟨2, 1, [[.fn 19 [.ptr 1 1 0 0]]], false, []⟩, ⟨ver, 6, l.map Sh.enc, false, zSh⟩], clk⟩ = True :=
  eq_true ⟨d, l, ver, clk, name, n, rfl, rfl, hl⟩
def pgL (d : Doc) (sc : List (List Int)) : Nat → List Sh
  | 0 => []
  | n + 1 => addP (if wrgB ((pgL d sc n).length + 1) (brkS d sc n) = true then addP (pgL d sc n) (nmeS d sc n) (-1) else pgL d sc n) (nmeS d sc n) n
theorem pgL_len (d : Doc) (sc : List (List Int)) : ∀ n, (pgL d sc n).length ≤ 2 * n
  | 0 => Nat.le_refl _
  | n + 1 => by
    have := pgL_len d sc n
    unfold pgL addP
    split <;> simp <;> omega
structure PgS where
  n : Nat
  ver : Nat
  clk : Nat
def pagesR (d : Doc) (sc : List (List Int)) : V := if (chkS d sc).2 = 0 then .tup [shs (pgL d sc sc.length), vi 0] else .tup [vnil, vi (chkS d sc).2]
theorem pages_ok (d : Doc) (sc : List (List Int)) (hl : d.l.length ≤ 1000) (hs : okS sc) (hs2 : sc.length ≤ 1000) : PCall Try.prog 9 [.agg d.enc, intss sc] (pagesR d sc) := by
  refine PCall.of (Orc.econs sumAdd (Orc.cons sumSegChk (Orc.cons sumNext (Orc.cons sumNmeS (Orc.cons sumBrkS (Orc.cons sumWrong (Orc.nil _))))))) c9_ok (by simp [c9]) fun w0 own0 => ?_
  unfold pagesR
  by_cases hc : (chkS d sc).2 = 0
  · rw [if_pos hc]
    simp only [c9, Doc.enc, dDoc_mk, Doc.eta, hl, hs, hc, dIntss_map, intss, sumAdd_f, Orc.flat_econs, Orc.pre_econs, Orc.v_econs, Orc.hp_econs, Orc.qpre_econs, Orc.qv_econs, sumSegChk_f, sumSegChk_D, sumSegChk_flat, sumSegChk_r, sumNext_f, sumNext_D, sumNext_flat, sumNext_r, sumNmeS_f, sumNmeS_D, sumNmeS_flat, sumNmeS_r, sumBrkS_f, sumBrkS_D, sumBrkS_flat, sumBrkS_r, sumWrong_f, sumWrong_D, sumWrong_flat, sumWrong_r, go_sem, wpR_gcall, reduceCtorEq, reduceIte, Nat.reduceEqDiff, Nat.reduceAdd, Nat.reduceSub, Nat.reduceMul, Nat.reduceLT, Nat.reduceLeDiff, Nat.reduceBEq, Int.reduceEq, Int.reduceLT, Int.reduceLE, Int.reduceAdd, Int.reduceSub, Int.reduceNeg, Int.reduceToNat]
    refine SemC.lp (α := PgS) (fun a => [(1, .slc 1 (sc.map fun s => [.slc 1 (s.map fun n => [vi n])])), (2, .ptr 0 0 0 0), (8, .ptr 1 1 0 0), (9, .ptr 2 2 0 0), (10, .fn 20 [.ptr 1 1 0 0, .ptr 2 2 0 0]), (25, vi sc.length), (26, vi a.n)])
      (fun a => pgH d (pgL d sc a.n) a.ver a.clk) (fun a => a.n ≤ sc.length) (fun a => sc.length - a.n) ⟨0, 3, 4⟩ (Nat.zero_le _) (St.cell 1 0 0 6 zSh rfl rfl (St.cut ?_ ?_ ?_)) fun a ha => ?_
    · simp [Agrees, upd_at, initE_at]
    · simp [pgH, Heap.alloc, pgL, Doc.enc]
    · rfl
    obtain ⟨n, ver, clk⟩ := a
    simp only at ha
    have hpl := pgL_len d sc n
    by_cases he : n = sc.length
    · subst he
      have h4 : ¬ (4096 : Int) < ((pgL d sc sc.length).length : Int) := by omega
      simp only [pgH, Doc.enc, Int.lt_irrefl, h4, shs, List.take_length, Nat.le_refl, mapO_shs10, mapO_shs11, go_sem, wpR_gcall, reduceCtorEq, reduceIte, Nat.reduceEqDiff, Nat.reduceAdd, Nat.reduceSub, Nat.reduceMul, Nat.reduceLT, Nat.reduceLeDiff, Nat.reduceBEq, Int.reduceEq, Int.reduceLT, Int.reduceLE, Int.reduceAdd, Int.reduceSub, Int.reduceNeg, Int.reduceToNat]
    · have e1 : (n : Int) < (sc.length : Int) := by omega
      have h1 : (0 : Int) ≤ ((pgL d sc n).length : Int) + 1 := by omega
      have h2 : ((pgL d sc n).length : Int) + 1 ≤ 1000000 := by omega
      have h3 : (pgL d sc n).length ≤ 100000 := by omega
      have h5 : (pgL d sc n).length ≤ 10000 := by omega
      cases hw : wrgB (((pgL d sc n).length : Int) + 1) (brkS d sc n) with
      | true =>
        simp only [pgH, Doc.enc, dDoc_mk, Doc.eta, e1, hl, hs, h1, h2, h3, h5, hw, dIntss_map, dShs_map, shs, List.take_length, Nat.le_refl, mapO_shs10, mapO_shs11, mapO_shs9, sumAdd_f, sumAdd_v, sumAdd_hp, sumAdd_pre, Orc.flat_econs, Orc.pre_econs, Orc.v_econs, Orc.hp_econs, Orc.qpre_econs, Orc.qv_econs, sumSegChk_f, sumSegChk_D, sumSegChk_flat, sumSegChk_r, sumNext_f, sumNext_D, sumNext_flat, sumNext_r, sumNmeS_f, sumNmeS_D, sumNmeS_flat, sumNmeS_r, sumBrkS_f, sumBrkS_D, sumBrkS_flat, sumBrkS_r, sumWrong_f, sumWrong_D, sumWrong_flat, sumWrong_r, go_sem, wpR_gcall, reduceCtorEq, reduceIte, Nat.reduceEqDiff, Nat.reduceAdd, Nat.reduceSub, Nat.reduceMul, Nat.reduceLT, Nat.reduceLeDiff, Nat.reduceBEq, Int.reduceEq, Int.reduceLT, Int.reduceLE, Int.reduceAdd, Int.reduceSub, Int.reduceNeg, Int.reduceToNat]
        have hst : pgL d sc (n + 1) = addP (addP (pgL d sc n) (nmeS d sc n) (-1)) (nmeS d sc n) n := by
          show addP (if wrgB (((pgL d sc n).length : Int) + 1) (brkS d sc n) = true then _ else _) _ _ = _
          rw [if_pos hw]
        refine ⟨rfl, rfl, ⟨d, pgL d sc n, ver, clk, nmeS d sc n, -1, rfl, rfl, h5⟩, ⟨d, addP (pgL d sc n) (nmeS d sc n) (-1), clk, clk + 1, nmeS d sc n, n, rfl, by simp [pgH, addP, Doc.enc], by simp [addP]; omega⟩, by omega, ⟨n + 1, clk + 1, clk + 1 + 1⟩, by dsimp only; omega, by dsimp only; omega, by dsimp only; omega, ⟨⟨rfl, ?_⟩, rfl, ?_⟩, rfl⟩
        · rw [hst]; simp [addP]
        · rw [hst]; simp [addP]
      | false =>
        simp only [pgH, Doc.enc, dDoc_mk, Doc.eta, e1, hl, hs, h1, h2, h3, h5, hw, dIntss_map, dShs_map, shs, List.take_length, Nat.le_refl, mapO_shs10, mapO_shs11, mapO_shs9, sumAdd_f, sumAdd_v, sumAdd_hp, sumAdd_pre, Orc.flat_econs, Orc.pre_econs, Orc.v_econs, Orc.hp_econs, Orc.qpre_econs, Orc.qv_econs, sumSegChk_f, sumSegChk_D, sumSegChk_flat, sumSegChk_r, sumNext_f, sumNext_D, sumNext_flat, sumNext_r, sumNmeS_f, sumNmeS_D, sumNmeS_flat, sumNmeS_r, sumBrkS_f, sumBrkS_D, sumBrkS_flat, sumBrkS_r, sumWrong_f, sumWrong_D, sumWrong_flat, sumWrong_r, go_sem, wpR_gcall, reduceCtorEq, reduceIte, Nat.reduceEqDiff, Nat.reduceAdd, Nat.reduceSub, Nat.reduceMul, Nat.reduceLT, Nat.reduceLeDiff, Nat.reduceBEq, Int.reduceEq, Int.reduceLT, Int.reduceLE, Int.reduceAdd, Int.reduceSub, Int.reduceNeg, Int.reduceToNat]
        have hst : pgL d sc (n + 1) = addP (pgL d sc n) (nmeS d sc n) n := by
          show addP (if wrgB (((pgL d sc n).length : Int) + 1) (brkS d sc n) = true then _ else _) _ _ = _
          rw [hw]; rfl
        refine ⟨rfl, rfl, ⟨d, pgL d sc n, ver, clk, nmeS d sc n, n, rfl, rfl, h5⟩, by omega, ⟨n + 1, clk, clk + 1⟩, by dsimp only; omega, by dsimp only; omega, by dsimp only; omega, ⟨⟨rfl, ?_⟩, rfl, ?_⟩, rfl⟩
        · rw [hst]; simp [addP]
        · rw [hst]; simp [addP]
  · rw [if_neg hc]
    simp only [c9, Doc.enc, dDoc_mk, Doc.eta, hl, hs, hc, dIntss_map, intss, sumAdd_f, Orc.flat_econs, Orc.pre_econs, Orc.v_econs, Orc.hp_econs, Orc.qpre_econs, Orc.qv_econs, sumSegChk_f, sumSegChk_D, sumSegChk_flat, sumSegChk_r, sumNext_f, sumNext_D, sumNext_flat, sumNext_r, sumNmeS_f, sumNmeS_D, sumNmeS_flat, sumNmeS_r, sumBrkS_f, sumBrkS_D, sumBrkS_flat, sumBrkS_r, sumWrong_f, sumWrong_D, sumWrong_flat, sumWrong_r, go_sem, wpR_gcall, reduceCtorEq, reduceIte, Nat.reduceEqDiff, Nat.reduceAdd, Nat.reduceSub, Nat.reduceMul, Nat.reduceLT, Nat.reduceLeDiff, Nat.reduceBEq, Int.reduceEq, Int.reduceLT, Int.reduceLE, Int.reduceAdd, Int.reduceSub, Int.reduceNeg, Int.reduceToNat]
end Go.Proofs.Ytdcdhnohbadenaa
