/- The laws of sequences: what is called; what the document fixes. -/
import Derived.Test.YtdcdhnohbadenaaCe
import Derived.Test.YtdcdhnohbadenaaS15b
namespace Go.Proofs.Ytdcdhnohbadenaa
open Go.Sx
set_option linter.unusedSimpArgs false
set_option maxHeartbeats 4000000
set_option maxRecDepth 20000

def sumChkR14 : Sum Try.prog := ⟨12, fun args => args = [.agg (Doc.enc (dDoc (args.getD 0 .any))), intss (dIntss (args.getD 1 .any))] ∧ okL (dDoc (args.getD 0 .any)) ∧ rightB (dDoc (args.getD 0 .any)) = true ∧ okS (dIntss (args.getD 1 .any)), fun args => .tup [vi (chkI (dDoc (args.getD 0 .any)) (dIntss (args.getD 1 .any))).1, vi (chkI (dDoc (args.getD 0 .any)) (dIntss (args.getD 1 .any))).2], fun args h => by
  have := chkR14_ok (dDoc (args.getD 0 .any)) (dIntss (args.getD 1 .any)) h.2.1 h.2.2.1 h.2.2.2; rwa [← h.1] at this, false⟩
theorem sumChkR14_f : sumChkR14.f = 12 := rfl
theorem sumChkR14_D (args : List V) : sumChkR14.D args = (args = [.agg (Doc.enc (dDoc (args.getD 0 .any))), intss (dIntss (args.getD 1 .any))] ∧ okL (dDoc (args.getD 0 .any)) ∧ rightB (dDoc (args.getD 0 .any)) = true ∧ okS (dIntss (args.getD 1 .any))) := rfl
theorem sumChkR14_flat : sumChkR14.flat = false := rfl
theorem sumChkR14_r (args : List V) : sumChkR14.r args = .tup [vi (chkI (dDoc (args.getD 0 .any)) (dIntss (args.getD 1 .any))).1, vi (chkI (dDoc (args.getD 0 .any)) (dIntss (args.getD 1 .any))).2] := rfl
def sumPages : Sum Try.prog := ⟨9, fun args => args = [.agg (Doc.enc (dDoc (args.getD 0 .any))), intss (dIntss (args.getD 1 .any))] ∧ ((dDoc (args.getD 0 .any))).l.length ≤ 1000 ∧ okS (dIntss (args.getD 1 .any)) ∧ ((dIntss (args.getD 1 .any))).length ≤ 1000, fun args => pagesR (dDoc (args.getD 0 .any)) (dIntss (args.getD 1 .any)), fun args h => by
  have := pages_ok (dDoc (args.getD 0 .any)) (dIntss (args.getD 1 .any)) h.2.1 h.2.2.1 h.2.2.2; rwa [← h.1] at this, false⟩
theorem sumPages_f : sumPages.f = 9 := rfl
theorem sumPages_D (args : List V) : sumPages.D args = (args = [.agg (Doc.enc (dDoc (args.getD 0 .any))), intss (dIntss (args.getD 1 .any))] ∧ ((dDoc (args.getD 0 .any))).l.length ≤ 1000 ∧ okS (dIntss (args.getD 1 .any)) ∧ ((dIntss (args.getD 1 .any))).length ≤ 1000) := rfl
theorem sumPages_flat : sumPages.flat = false := rfl
theorem sumPages_r (args : List V) : sumPages.r args = pagesR (dDoc (args.getD 0 .any)) (dIntss (args.getD 1 .any)) := rfl
def sumPgR : Sum Try.prog := ⟨13, fun args => args = [.agg (Doc.enc (dDoc (args.getD 0 .any))), intss (dIntss (args.getD 1 .any))] ∧ ((dDoc (args.getD 0 .any))).l.length ≤ 1000 ∧ okS (dIntss (args.getD 1 .any)) ∧ ((dIntss (args.getD 1 .any))).length ≤ 1000 ∧ (chkS (dDoc (args.getD 0 .any)) (dIntss (args.getD 1 .any))).2 = 0, fun args => shs (pgL (dDoc (args.getD 0 .any)) (dIntss (args.getD 1 .any)) ((dIntss (args.getD 1 .any))).length), fun args h => by
  have := pgR_ok (dDoc (args.getD 0 .any)) (dIntss (args.getD 1 .any)) h.2.1 h.2.2.1 h.2.2.2.1 h.2.2.2.2; rwa [← h.1] at this, false⟩
theorem sumPgR_f : sumPgR.f = 13 := rfl
theorem sumPgR_D (args : List V) : sumPgR.D args = (args = [.agg (Doc.enc (dDoc (args.getD 0 .any))), intss (dIntss (args.getD 1 .any))] ∧ ((dDoc (args.getD 0 .any))).l.length ≤ 1000 ∧ okS (dIntss (args.getD 1 .any)) ∧ ((dIntss (args.getD 1 .any))).length ≤ 1000 ∧ (chkS (dDoc (args.getD 0 .any)) (dIntss (args.getD 1 .any))).2 = 0) := rfl
theorem sumPgR_flat : sumPgR.flat = false := rfl
theorem sumPgR_r (args : List V) : sumPgR.r args = shs (pgL (dDoc (args.getD 0 .any)) (dIntss (args.getD 1 .any)) ((dIntss (args.getD 1 .any))).length) := rfl
abbrev scC : Cell := .slc [.slc [.int .i64]]
theorem intss_of {x : V} (h : CellOK scC x) : ∃ l : List (List Int), x = intss l := by
  cases h with
  | slc cs ess hl h h2 =>
    refine ⟨ess.map fun e => dInts (e.getD 0 .any), ?_⟩
    unfold intss
    rw [List.map_map]
    congr 1
    conv => lhs; rw [← List.map_id ess]
    apply List.map_congr_left
    intro es hes
    have hlen := h es hes
    have a0 := h2 es hes 0 _ rfl
    match es, hlen with
    | [a], _ =>
      simp only [List.getD_cons_zero] at a0
      obtain ⟨l, rfl⟩ := ints_of' a0
      simp [dInts_map]
def aw5 : Doc := ⟨[⟨-1, ⟨#[104, 116, 109, 108]⟩, ⟨#[]⟩, [], [], ⟨#[]⟩⟩, ⟨0, ⟨#[112]⟩, ⟨#[]⟩, [], [], ⟨#[]⟩⟩, ⟨0, ⟨#[112]⟩, ⟨#[]⟩, [], [], ⟨#[]⟩⟩], [false, false, false], [0, 0, 4], [0, 0, 0], [⟨#[]⟩, ⟨#[]⟩, ⟨#[]⟩]⟩
def aw5V : V := .agg [.slc 6 [[vi (-1), vs ⟨#[104, 116, 109, 108]⟩, vs ⟨#[]⟩, vnil, vnil, vs ⟨#[]⟩], [vi 0, vs ⟨#[112]⟩, vs ⟨#[]⟩, vnil, vnil, vs ⟨#[]⟩], [vi 0, vs ⟨#[112]⟩, vs ⟨#[]⟩, vnil, vnil, vs ⟨#[]⟩]], .slc 1 [[vb false], [vb false], [vb false]], .slc 1 [[vi 0], [vi 0], [vi 4]], .slc 1 [[vi 0], [vi 0], [vi 0]], .slc 1 [[vs ⟨#[]⟩], [vs ⟨#[]⟩], [vs ⟨#[]⟩]]]
theorem aw5Sub : Sub 3 aw5V (.agg aw5.enc) := by
  simp [Sub, F2, aw5V, aw5, Doc.enc, Node.enc]
theorem PCall.aw5 {f : FuncId} {args : List V} {r : V} (h : PCall Try.prog f (.agg aw5.enc :: args) r) : PCall Try.prog f (aw5V :: args) r := by
  refine PCall.asub 3 h ⟨aw5Sub, ?_⟩
  have : ∀ l : List V, F2 (Sub 3) l l := by
    intro l
    induction l with
    | nil => trivial
    | cons a l ih => exact ⟨Sub.rfl 3 a, ih⟩
  exact this args
theorem aw5Len : aw5.l.length ≤ 1000 := by decide
theorem aw5S2 : okS [[0, 1], [2]] := ⟨by decide, by decide⟩
theorem aw5C2 : chkS aw5 [[0, 1], [2]] = (0, 0) := by kernel_rfl
def aw5L : List Sh := [⟨1, true, true, false, ⟨#[]⟩, 0⟩, ⟨2, false, false, true, ⟨#[]⟩, -1⟩, ⟨3, true, false, false, ⟨#[]⟩, 1⟩]
theorem aw5P : pgL aw5 [[0, 1], [2]] 2 = aw5L := by kernel_rfl
theorem aw5O : sof aw5L 1 = 2 := by kernel_rfl
def sumZ1 : Sum Try.prog := ⟨9, fun args => args = [aw5V, .slc 1 [[.slc 1 [[vi 0], [vi 1]]], [.slc 1 [[vi 2]]]]], fun args => .tup [.slc 6 [[vi 1, vb true, vb true, vb false, vs ⟨#[]⟩, vi 0], [vi 2, vb false, vb false, vb true, vs ⟨#[]⟩, vi (-1)], [vi 3, vb true, vb false, vb false, vs ⟨#[]⟩, vi 1]], vi 0], fun args h => by
  have := PCall.aw5 (pages_ok aw5 [[0, 1], [2]] aw5Len aw5S2 (by decide))
  unfold pagesR at this
  rw [aw5C2, if_pos rfl, show [[(0 : Int), 1], [2]].length = 2 from rfl, aw5P] at this
  rw [h]; exact this, false⟩
theorem sumZ1_f : sumZ1.f = 9 := rfl
theorem sumZ1_D (args : List V) : sumZ1.D args = (args = [aw5V, .slc 1 [[.slc 1 [[vi 0], [vi 1]]], [.slc 1 [[vi 2]]]]]) := rfl
theorem sumZ1_flat : sumZ1.flat = false := rfl
theorem sumZ1_r (args : List V) : sumZ1.r args = .tup [.slc 6 [[vi 1, vb true, vb true, vb false, vs ⟨#[]⟩, vi 0], [vi 2, vb false, vb false, vb true, vs ⟨#[]⟩, vi (-1)], [vi 3, vb true, vb false, vb false, vs ⟨#[]⟩, vi 1]], vi 0] := rfl
def sumZ2 : Sum Try.prog := ⟨16, fun args => args = [.slc 6 [[vi 1, vb true, vb true, vb false, vs ⟨#[]⟩, vi 0], [vi 2, vb false, vb false, vb true, vs ⟨#[]⟩, vi (-1)], [vi 3, vb true, vb false, vb false, vs ⟨#[]⟩, vi 1]], vi 1], fun args => vi 2, fun args h => by
  have := of_ok aw5L 1 (by decide); rw [aw5O] at this; rw [h]; exact this, true⟩
theorem sumZ2_f : sumZ2.f = 16 := rfl
theorem sumZ2_D (args : List V) : sumZ2.D args = (args = [.slc 6 [[vi 1, vb true, vb true, vb false, vs ⟨#[]⟩, vi 0], [vi 2, vb false, vb false, vb true, vs ⟨#[]⟩, vi (-1)], [vi 3, vb true, vb false, vb false, vs ⟨#[]⟩, vi 1]], vi 1]) := rfl
theorem sumZ2_flat : sumZ2.flat = true := rfl
theorem sumZ2_r (args : List V) : sumZ2.r args = vi 2 := rfl
theorem rep3 {α : Type} (x : α) : List.replicate 3 x = [x, x, x] := rfl
theorem awake15_ok : PCall Try.prog 8 [] (vb true) := by
  refine PCall.of (Orc.cons sumZ1 (Orc.cons sumZ2 (Orc.nil _))) c8_ok (by simp [c8]) fun w0 own0 => ?_
  simp (maxSteps := 2000000) only [c8, aw5V, ints, wpC_seq_breg, wpFB_cons, wpFB_nil, fluP, fluV, evF, V.allK, V.isK, O.still, okP_none, vP_none, boxH, boxE, boxOK, rep3, Heap.freeze, List.mapIdx_cons, List.mapIdx_nil, on_gcall, off_gcall, flat_gcall, sumZ1_f, sumZ1_D, sumZ1_flat, sumZ1_r, sumZ2_f, sumZ2_D, sumZ2_flat, sumZ2_r, go_sem, reduceCtorEq, reduceIte, Nat.reduceEqDiff, Nat.reduceAdd, Nat.reduceSub, Nat.reduceMul, Nat.reduceLT, Nat.reduceLeDiff, Nat.reduceBEq, Int.reduceEq, Int.reduceLT, Int.reduceLE, Int.reduceAdd, Int.reduceSub, Int.reduceNeg, Int.reduceToNat]
  decide
def sumAwake15 : Sum Try.prog := ⟨8, fun args => args = [], fun args => vb true, fun args h => by
  have := awake15_ok; rwa [← h] at this, true⟩
theorem sumAwake15_f : sumAwake15.f = 8 := rfl
theorem sumAwake15_D (args : List V) : sumAwake15.D args = (args = []) := rfl
theorem sumAwake15_flat : sumAwake15.flat = true := rfl
theorem sumAwake15_r (args : List V) : sumAwake15.r args = vb true := rfl
end Go.Proofs.Ytdcdhnohbadenaa
