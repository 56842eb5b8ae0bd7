/- Layer 19: the counters behind all nodes. -/
import Derived.Test.YteifbbinfipdlaaK19j
namespace Go.Proofs.Yteifbbinfipdlaa
open Go.Sx
set_option linter.unusedVariables false
set_option linter.unusedSimpArgs false
set_option maxHeartbeats 8000000
set_option maxRecDepth 20000

def Prp.zero : Prp := ⟨0, 0, ⟨#[]⟩, [], [], [], vnil, ⟨#[]⟩⟩
def prps (l : List Prp) : V := .slc 8 (l.map Prp.enc)
def dPrpL (e : List V) : Prp := ⟨(e.getD 0 .any).int, (e.getD 1 .any).int, (e.getD 2 .any).str, dVSts (e.getD 3 .any), dVSts (e.getD 4 .any), dVSts (e.getD 5 .any), e.getD 6 .any, (e.getD 7 .any).str⟩
def dPrps (v : V) : List Prp := v.es.map dPrpL
def dPrp (v : V) : Prp := dPrpL v.cs
theorem dPrpL_enc (p : Prp) : dPrpL p.enc = p := by
  obtain ⟨b, a, pg, r, i, s, st, run⟩ := p
  simp only [dPrpL, Prp.enc, vsts, List.getD_cons_zero, List.getD_cons_succ, dVSts_map]; rfl
theorem dPrps_map (sz : Nat) (l : List Prp) : dPrps (.slc sz (l.map Prp.enc)) = l := by
  simp [dPrps, V.es, Function.comp_def, dPrpL_enc]
theorem dPrp_mk (b a : Int) (pg : ByteArray) (r i s : List VSt) (st : V) (run : ByteArray) : dPrp (.agg [.c (.int .i64 b), .c (.int .i64 a), .c (.string pg), .slc 3 (r.map VSt.enc), .slc 3 (i.map VSt.enc), .slc 3 (s.map VSt.enc), st, .c (.string run)]) = ⟨b, a, pg, r, i, s, st, run⟩ := dPrpL_enc ⟨b, a, pg, r, i, s, st, run⟩
theorem getD_prps (l : List Prp) (i : Nat) (z : List V) (h : i < l.length) : (l.map Prp.enc).getD i z = (l.getD i .zero).enc := by
  simp [List.getD_eq_getElem?_getD, h]
def sumStep : Sum Try.prog := ⟨10, fun args => args = [cnts (dCnts (args.getD 0 .any)), .agg (Doc.enc (dDoc (args.getD 1 .any))), .agg (Prp.enc (dPrp (args.getD 2 .any))), vi ((args.getD 3 .any).int)] ∧ ((dDoc (args.getD 1 .any))).l.length ≤ 1000 ∧ okPr (dPrp (args.getD 2 .any)) ∧ ((dCnts (args.getD 0 .any))).length ≤ 20000, fun args => cnts (stepC (dDoc (args.getD 1 .any)) (dPrp (args.getD 2 .any)) ((args.getD 3 .any).int) (dCnts (args.getD 0 .any))), fun args h => by
  have := step_ok (dDoc (args.getD 1 .any)) (dPrp (args.getD 2 .any)) ((args.getD 3 .any).int) (dCnts (args.getD 0 .any)) h.2.1 h.2.2.1 h.2.2.2; rwa [← h.1] at this, false⟩
theorem sumStep_f : sumStep.f = 10 := rfl
theorem sumStep_D (args : List V) : sumStep.D args = (args = [cnts (dCnts (args.getD 0 .any)), .agg (Doc.enc (dDoc (args.getD 1 .any))), .agg (Prp.enc (dPrp (args.getD 2 .any))), vi ((args.getD 3 .any).int)] ∧ ((dDoc (args.getD 1 .any))).l.length ≤ 1000 ∧ okPr (dPrp (args.getD 2 .any)) ∧ ((dCnts (args.getD 0 .any))).length ≤ 20000) := rfl
theorem sumStep_flat : sumStep.flat = false := rfl
theorem sumStep_r (args : List V) : sumStep.r args = cnts (stepC (dDoc (args.getD 1 .any)) (dPrp (args.getD 2 .any)) ((args.getD 3 .any).int) (dCnts (args.getD 0 .any))) := rfl
attribute [go_sem] sumStep_f sumStep_D sumStep_flat sumStep_r
def okPs (ps : List Prp) : Prop := ∀ p ∈ ps, okPr p ∧ p.r.length ≤ 10 ∧ p.i.length ≤ 10 ∧ p.s.length ≤ 10
theorem rstC_len (d : Doc) (k : Int) (l : List Cnt) (nm : ByteArray) (n : Int) : (rstC d k l nm n).length ≤ l.length + 1 := by
  unfold rstC; split <;> simp
theorem chgA_len (F : Int → Int → Int) (d : Doc) (k : Int) : ∀ (ss : List VSt) (l : List Cnt), (chgA F d k l ss).length ≤ l.length + ss.length
  | [], l => by simp [chgA]
  | s :: ss, l => by
    have h1 := chgA_len F d k ss (chg1 F d k l s)
    have h2 : (chg1 F d k l s).length ≤ l.length + 1 := by
      unfold chg1 chgL
      rw [List.length_set]
      split
      · exact rstC_len _ _ _ _ _
      · omega
    have h3 : chgA F d k l (s :: ss) = chgA F d k (chg1 F d k l s) ss := rfl
    rw [h3, List.length_cons]; omega
theorem stepC_len (d : Doc) (p : Prp) (k : Int) (l : List Cnt) : (stepC d p k l).length ≤ l.length + (p.r.length + (p.i.length + p.s.length)) := by
  unfold stepC
  split
  · unfold stepI
    have h1 := keepC_len d k l
    have h2 := len_rst d k p.r (keepC d k l)
    have h3 := chgA_len addI d k p.i (rstA d k (keepC d k l) p.r)
    have h4 := chgA_len (fun _ b => stopI b) d k p.s (chgA addI d k (rstA d k (keepC d k l) p.r) p.i)
    omega
  · simp
structure AlS where
  j : Nat
  now : List Cnt
  out : List (List Cnt)
  ver : Nat
  clk : Nat
end Go.Proofs.Yteifbbinfipdlaa
