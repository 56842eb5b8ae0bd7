/- The abstract machine's steps as rewriting rules. -/
import Derived.Test.YtdeleamdjakooaaSxN
set_option linter.unusedVariables false
namespace Go.Sx

def wpR (cx : Cx) (ops : List AOp) (rest : C) (Q : Post) (e : Nat → V) (h : Heap) : Prop := wpRgO cx.P cx.T ops e h fun e h => wpC cx rest Q e h
def wpQR (cx : Cx) (ops : List AOp) (rest : C) (Q : Post) (e : Nat → V) (h : Heap) : Prop := wpQO cx.P cx.T ops e h fun e => wpC cx rest Q e h
/-- Operations of which any order will do, then others. -/
def wpFR (cx : Cx) (hd tl : List AOp) (rest : C) (Q : Post) (e : Nat → V) (h : Heap) : Prop := wpFl cx.T hd e h fun e => wpR cx tl rest Q e h
def wpFB (cx : Cx) (hd : List AOp) (b : Option AOp) (tl : List AOp) (rest : C) (Q : Post) (e0 e : Nat → V) (h : Heap) : Prop :=
  wpFlB cx.T hd e h (boxH b e0 h) fun e' => boxOK b e0 h = true ∧ wpR cx tl rest Q (boxE b e' h) (boxH b e0 h)
def seqP (cx : Cx) (rest : C) (Q : Post) : Post := seqQ (fun e h => wpC cx rest Q e h) Q
def blkP (cx : Cx) (id : Nat) (rest : C) (Q : Post) : Post := blkQ id (seqQ (fun e h => wpC cx rest Q e h) Q)

section
variable (cx : Cx) (Q : Post) (e : Nat → V) (h : Heap) (rest : C)

theorem wpC_seq_reg (ops : List AOp) : wpC cx (.seq (.reg ops) rest) Q e h = wpR cx ops rest Q e h := rfl
theorem wpC_reg (ops : List AOp) : wpC cx (.reg ops) Q e h = wpR cx ops .skip Q e h := rfl
theorem wpC_seq_treg (ops : List AOp) : wpC cx (.seq (.treg ops) rest) Q e h = wpR cx ops rest Q e h := rfl
theorem wpC_treg (ops : List AOp) : wpC cx (.treg ops) Q e h = wpR cx ops .skip Q e h := rfl
theorem wpC_seq_areg (n : Nat) (ops : List AOp) : wpC cx (.seq (.areg n ops) rest) Q e h = wpFR cx (ops.take n) (ops.drop n) rest Q e h := rfl
theorem wpC_areg (n : Nat) (ops : List AOp) : wpC cx (.areg n ops) Q e h = wpFR cx (ops.take n) (ops.drop n) .skip Q e h := rfl
theorem wpC_seq_breg (n : Nat) (ops : List AOp) : wpC cx (.seq (.breg n ops) rest) Q e h = wpFB cx (ops.take n) ops[n]? (ops.drop (n + 1)) rest Q e e h := rfl
theorem wpC_breg (n : Nat) (ops : List AOp) : wpC cx (.breg n ops) Q e h = wpFB cx (ops.take n) ops[n]? (ops.drop (n + 1)) .skip Q e e h := rfl
theorem wpC_seq_qreg (ops : List AOp) : wpC cx (.seq (.qreg ops) rest) Q e h = wpQR cx ops rest Q e h := rfl
theorem wpC_qreg (ops : List AOp) : wpC cx (.qreg ops) Q e h = wpQR cx ops .skip Q e h := rfl
theorem wpC_skip : wpC cx .skip Q e h = Q .normal e h := rfl
theorem wpC_ret : wpC cx .ret Q e h = Q .ret e h := rfl
theorem wpC_exit (id : Nat) : wpC cx (.exit id) Q e h = Q (.exit id) e h := rfl
theorem wpC_goto (l : Nat) : wpC cx (.goto l) Q e h = Q (.goto l) e h := rfl
theorem wpC_label (l : Nat) : wpC cx (.label l) Q e h = Q .normal e h := rfl
theorem wpC_loop (c : C) : wpC cx (.loop c) Q e h = SemC cx (.loop c) Q e h := rfl
theorem wpC_scope (c : C) : wpC cx (.scope c) Q e h = SemC cx (.scope c) Q e h := rfl
theorem wpC_block (id : Nat) (c : C) : wpC cx (.block id c) Q e h = wpC cx c (blkP cx id .skip Q) e h := by
  show wpC cx c (blkQ id Q) e h = _
  have : blkQ id Q = blkP cx id .skip Q := by
    funext x e h
    cases x <;> simp only [blkQ, blkP, seqQ, wpC]
  rw [this]
theorem wpC_seq_skip : wpC cx (.seq .skip rest) Q e h = wpC cx rest Q e h := rfl
theorem wpC_seq_ret : wpC cx (.seq .ret rest) Q e h = Q .ret e h := rfl
theorem wpC_seq_exit (id : Nat) : wpC cx (.seq (.exit id) rest) Q e h = Q (.exit id) e h := rfl
theorem wpC_seq_goto (l : Nat) : wpC cx (.seq (.goto l) rest) Q e h = Q (.goto l) e h := rfl
theorem wpC_seq_label (l : Nat) : wpC cx (.seq (.label l) rest) Q e h = wpC cx rest Q e h := rfl
theorem wpC_seq_loop (c : C) : wpC cx (.seq (.loop c) rest) Q e h = SemC cx (.loop c) (seqP cx rest Q) e h := rfl
theorem wpC_seq_scope (c : C) : wpC cx (.seq (.scope c) rest) Q e h = SemC cx (.scope c) (seqP cx rest Q) e h := rfl
theorem wpC_seq_block (id : Nat) (c : C) : wpC cx (.seq (.block id c) rest) Q e h = wpC cx c (blkP cx id rest Q) e h := rfl
theorem wpC_seq_seq (a b : C) : wpC cx (.seq (.seq a b) rest) Q e h = wpC cx (.seq a (.seq b rest)) Q e h := by
  show wpC cx a (seqQ (fun e h => wpC cx b (seqQ (fun e h => wpC cx rest Q e h) Q) e h) (seqQ (fun e h => wpC cx rest Q e h) Q)) e h = wpC cx a (seqQ (fun e h => wpC cx b (seqQ (fun e h => wpC cx rest Q e h) Q) e h) Q) e h
  congr 1
  funext x e h
  cases x <;> rfl
theorem wpC_seq_cond (x : X) (a b : C) : wpC cx (.seq (.cond x a b) rest) Q e h =
    ((val e x).gok = true ∧ (asB (uval e x)).2 = true ∧ ((asB (uval e x)).1 = true → wpC cx (.seq a rest) Q e h) ∧ ((asB (uval e x)).1 = false → wpC cx (.seq b rest) Q e h)) := rfl
theorem wpC_cond (x : X) (a b : C) : wpC cx (.cond x a b) Q e h =
    ((val e x).gok = true ∧ (asB (uval e x)).2 = true ∧ ((asB (uval e x)).1 = true → wpC cx a Q e h) ∧ ((asB (uval e x)).1 = false → wpC cx b Q e h)) := rfl

theorem seqP_normal : seqP cx rest Q .normal e h = wpC cx rest Q e h := rfl
theorem seqP_exit (i : Nat) : seqP cx rest Q (.exit i) e h = Q (.exit i) e h := rfl
theorem seqP_goto (i : Nat) : seqP cx rest Q (.goto i) e h = Q (.goto i) e h := rfl
theorem seqP_ret : seqP cx rest Q .ret e h = Q .ret e h := rfl
theorem blkP_normal (id : Nat) : blkP cx id rest Q .normal e h = wpC cx rest Q e h := rfl
theorem blkP_exit (id i : Nat) : blkP cx id rest Q (.exit i) e h = if i = id then wpC cx rest Q e h else Q (.exit i) e h := rfl
theorem blkP_goto (id i : Nat) : blkP cx id rest Q (.goto i) e h = Q (.goto i) e h := rfl
theorem blkP_ret (id : Nat) : blkP cx id rest Q .ret e h = Q .ret e h := rfl
theorem seqQ_normal (K : (Nat → V) → Heap → Prop) : seqQ K Q .normal e h = K e h := rfl
theorem seqQ_exit (K : (Nat → V) → Heap → Prop) (i : Nat) : seqQ K Q (.exit i) e h = Q (.exit i) e h := rfl
theorem seqQ_goto (K : (Nat → V) → Heap → Prop) (i : Nat) : seqQ K Q (.goto i) e h = Q (.goto i) e h := rfl
theorem seqQ_ret (K : (Nat → V) → Heap → Prop) : seqQ K Q .ret e h = Q .ret e h := rfl
theorem jumpQ_goto (l i : Nat) (J : (Nat → V) → Heap → Prop) : jumpQ l J Q (.goto i) e h = (i = l ∧ J e h) := rfl
theorem jumpQ_normal (l : Nat) (J : (Nat → V) → Heap → Prop) : jumpQ l J Q .normal e h = Q .normal e h := rfl
theorem jumpQ_exit (l i : Nat) (J : (Nat → V) → Heap → Prop) : jumpQ l J Q (.exit i) e h = Q (.exit i) e h := rfl
theorem jumpQ_ret (l : Nat) (J : (Nat → V) → Heap → Prop) : jumpQ l J Q .ret e h = Q .ret e h := rfl
theorem retQ_ret (rs : List RV) (K : V → Heap → Prop) : retQ rs K .ret e h = (rs.all (rvOK e h) = true ∧ K (retV rs e h) h) := rfl
theorem retQ_normal (rs : List RV) (K : V → Heap → Prop) : retQ rs K .normal e h = (rs.all (rvOK e h) = true ∧ K (retV rs e h) h) := rfl

theorem wpR_nil : wpR cx [] rest Q e h = wpC cx rest Q e h := rfl
theorem wpR_still (d : Option Nat) (o : O) (r : List AOp) (hs : o.still = true) : wpR cx (⟨d, none, none, o⟩ :: r) rest Q e h = (okP none o e h = true ∧ wpR cx r rest Q (putE e d (vP none o e h)) h) := by
  cases o <;> first | rfl | cases hs
theorem wpR_pick (d : Option Nat) (q : X × X × X) (r : List AOp) : wpR cx (⟨d, none, some q, .mov (.k (.tuple #[]))⟩ :: r) rest Q e h = (okP (some q) (.mov (.k (.tuple #[]))) e h = true ∧ wpR cx r rest Q (putE e d (vP (some q) (.mov (.k (.tuple #[]))) e h)) h) := rfl
theorem wpR_eff (d : Option Nat) (o : O) (r : List AOp) (hs : o.still = false) (hc : o.calls = false) : wpR cx (⟨d, none, none, o⟩ :: r) rest Q e h = (okE o e h = true ∧ wpR cx r rest Q (putE e d (evE o (uval e) h).1) (evE o (uval e) h).2.1) := by
  cases o <;> first | rfl | (cases hs; done) | (cases hc; done)
theorem wpR_call (d : Option Nat) (f : FuncId) (xs : List X) (r : List AOp) : wpR cx (⟨d, none, none, .call f xs⟩ :: r) rest Q e h =
    (goks e xs = true ∧ cx.T.pre f (xs.map (uval e)) h ∧ wpR cx r rest Q (putE e d (cx.T.v f (xs.map (uval e)) h)) (cx.T.hp f (xs.map (uval e)) h)) := rfl
theorem wpR_callv (d : Option Nat) (x : X) (xs : List X) (r : List AOp) : wpR cx (⟨d, none, none, .callv x xs⟩ :: r) rest Q e h =
    (goks e (x :: xs) = true ∧ (uval e x).isFn = true ∧ cx.T.pre (uval e x).fnId (xs.map (uval e) ++ (uval e x).caps) h ∧ wpR cx r rest Q (putE e d (cx.T.v (uval e x).fnId (xs.map (uval e) ++ (uval e x).caps) h)) (cx.T.hp (uval e x).fnId (xs.map (uval e) ++ (uval e x).caps) h)) := rfl
theorem wpR_gstill (d : Option Nat) (t : Nat) (want : Bool) (o : O) (r : List AOp) (hs : o.still = true) : wpR cx (⟨d, some (t, want), none, o⟩ :: r) rest Q e h =
    (((e t).gok = true → (asB (e t).un).2 = true) ∧ (enB (e t) want = true → okP none o e h = true) ∧ wpR cx r rest Q (putE e d (.gd (enB (e t) want) (vP none o e h))) h) := by
  cases o <;> first | rfl | cases hs
theorem wpR_gpick (d : Option Nat) (t : Nat) (want : Bool) (q : X × X × X) (r : List AOp) : wpR cx (⟨d, some (t, want), some q, .mov (.k (.tuple #[]))⟩ :: r) rest Q e h =
    (((e t).gok = true → (asB (e t).un).2 = true) ∧ (enB (e t) want = true → okP (some q) (.mov (.k (.tuple #[]))) e h = true) ∧ wpR cx r rest Q (putE e d (.gd (enB (e t) want) (vP (some q) (.mov (.k (.tuple #[]))) e h))) h) := rfl
theorem wpR_geff (d : Option Nat) (t : Nat) (want : Bool) (o : O) (r : List AOp) (hs : o.still = false) (hc : o.calls = false) : wpR cx (⟨d, some (t, want), none, o⟩ :: r) rest Q e h =
    (((e t).gok = true → (asB (e t).un).2 = true) ∧ (enB (e t) want = true → okE o e h = true ∧ wpR cx r rest Q (putE e d (evE o (uval e) h).1) (evE o (uval e) h).2.1) ∧ (enB (e t) want = false → wpR cx r rest Q (putE e d (.c undef)) h)) := by
  cases o <;> first | rfl | (cases hs; done) | (cases hc; done)
theorem wpR_gcall (d : Option Nat) (t : Nat) (want : Bool) (f : FuncId) (xs : List X) (r : List AOp) : wpR cx (⟨d, some (t, want), none, .call f xs⟩ :: r) rest Q e h =
    (((e t).gok = true → (asB (e t).un).2 = true) ∧ if cx.T.flat f = true then (enB (e t) want = true → goks e xs = true ∧ cx.T.qpre f (xs.map (uval e)) h) ∧ wpR cx r rest Q (putE e d (.gd (enB (e t) want) (.c (cx.T.qv f (xs.map (uval e)) h)))) h
      else (enB (e t) want = true → goks e xs = true ∧ cx.T.pre f (xs.map (uval e)) h ∧ wpR cx r rest Q (putE e d (cx.T.v f (xs.map (uval e)) h)) (cx.T.hp f (xs.map (uval e)) h)) ∧ (enB (e t) want = false → wpR cx r rest Q (putE e d (.c undef)) h)) := rfl
theorem wpR_gcallv (d : Option Nat) (t : Nat) (want : Bool) (x : X) (xs : List X) (r : List AOp) : wpR cx (⟨d, some (t, want), none, .callv x xs⟩ :: r) rest Q e h =
    (((e t).gok = true → (asB (e t).un).2 = true) ∧ (enB (e t) want = true → goks e (x :: xs) = true ∧ (uval e x).isFn = true ∧ cx.T.qpre (uval e x).fnId (xs.map (uval e) ++ (uval e x).caps) h) ∧ wpR cx r rest Q (putE e d (.gd (enB (e t) want) (.c (cx.T.qv (uval e x).fnId (xs.map (uval e) ++ (uval e x).caps) h)))) h) := rfl

theorem wpQR_nil : wpQR cx [] rest Q e h = wpC cx rest Q e h := rfl
theorem wpQR_still (d : Option Nat) (o : O) (r : List AOp) (hs : o.still = true) : wpQR cx (⟨d, none, none, o⟩ :: r) rest Q e h = (okP none o e h = true ∧ wpQR cx r rest Q (putE e d (vP none o e h)) h) := by
  cases o <;> first | rfl | cases hs
theorem wpQR_pick (d : Option Nat) (q : X × X × X) (r : List AOp) : wpQR cx (⟨d, none, some q, .mov (.k (.tuple #[]))⟩ :: r) rest Q e h = (okP (some q) (.mov (.k (.tuple #[]))) e h = true ∧ wpQR cx r rest Q (putE e d (vP (some q) (.mov (.k (.tuple #[]))) e h)) h) := rfl
theorem wpQR_call (d : Option Nat) (f : FuncId) (xs : List X) (r : List AOp) : wpQR cx (⟨d, none, none, .call f xs⟩ :: r) rest Q e h =
    (goks e xs = true ∧ cx.T.qpre f (xs.map (uval e)) h ∧ wpQR cx r rest Q (putE e d (.c (cx.T.qv f (xs.map (uval e)) h))) h) := rfl
theorem wpQR_callv (d : Option Nat) (x : X) (xs : List X) (r : List AOp) : wpQR cx (⟨d, none, none, .callv x xs⟩ :: r) rest Q e h =
    (goks e (x :: xs) = true ∧ (uval e x).isFn = true ∧ cx.T.qpre (uval e x).fnId (xs.map (uval e) ++ (uval e x).caps) h ∧ wpQR cx r rest Q (putE e d (.c (cx.T.qv (uval e x).fnId (xs.map (uval e) ++ (uval e x).caps) h))) h) := rfl
theorem wpQR_gstill (d : Option Nat) (t : Nat) (want : Bool) (o : O) (r : List AOp) (hs : o.still = true) : wpQR cx (⟨d, some (t, want), none, o⟩ :: r) rest Q e h =
    (((e t).gok = true → (asB (e t).un).2 = true) ∧ (enB (e t) want = true → okP none o e h = true) ∧ wpQR cx r rest Q (putE e d (.gd (enB (e t) want) (vP none o e h))) h) := by
  cases o <;> first | rfl | cases hs
theorem wpQR_gpick (d : Option Nat) (t : Nat) (want : Bool) (q : X × X × X) (r : List AOp) : wpQR cx (⟨d, some (t, want), some q, .mov (.k (.tuple #[]))⟩ :: r) rest Q e h =
    (((e t).gok = true → (asB (e t).un).2 = true) ∧ (enB (e t) want = true → okP (some q) (.mov (.k (.tuple #[]))) e h = true) ∧ wpQR cx r rest Q (putE e d (.gd (enB (e t) want) (vP (some q) (.mov (.k (.tuple #[]))) e h))) h) := rfl
theorem wpQR_gcall (d : Option Nat) (t : Nat) (want : Bool) (f : FuncId) (xs : List X) (r : List AOp) : wpQR cx (⟨d, some (t, want), none, .call f xs⟩ :: r) rest Q e h =
    (((e t).gok = true → (asB (e t).un).2 = true) ∧ (enB (e t) want = true → goks e xs = true ∧ cx.T.qpre f (xs.map (uval e)) h) ∧ wpQR cx r rest Q (putE e d (.gd (enB (e t) want) (.c (cx.T.qv f (xs.map (uval e)) h)))) h) := rfl
theorem wpQR_gcallv (d : Option Nat) (t : Nat) (want : Bool) (x : X) (xs : List X) (r : List AOp) : wpQR cx (⟨d, some (t, want), none, .callv x xs⟩ :: r) rest Q e h =
    (((e t).gok = true → (asB (e t).un).2 = true) ∧ (enB (e t) want = true → goks e (x :: xs) = true ∧ (uval e x).isFn = true ∧ cx.T.qpre (uval e x).fnId (xs.map (uval e) ++ (uval e x).caps) h) ∧ wpQR cx r rest Q (putE e d (.gd (enB (e t) want) (.c (cx.T.qv (uval e x).fnId (xs.map (uval e) ++ (uval e x).caps) h)))) h) := rfl
end

/-! ### Any order -/
section
variable (cx : Cx) (Q : Post) (e e0 : Nat → V) (h : Heap) (rest : C) (tl r : List AOp) (bx : Option AOp)
theorem wpFR_nil : wpFR cx [] tl rest Q e h = wpR cx tl rest Q e h := rfl
theorem wpFR_cons (b : AOp) : wpFR cx (b :: r) tl rest Q e h = (fluP cx.T b e h ∧ wpFR cx r tl rest Q (putE e b.dst (fluV cx.T b e h)) h) := rfl
theorem wpFB_nil : wpFB cx [] bx tl rest Q e0 e h = (boxOK bx e0 h = true ∧ wpR cx tl rest Q (boxE bx e h) (boxH bx e0 h)) := rfl
theorem wpFB_cons (b : AOp) : wpFB cx (b :: r) bx tl rest Q e0 e h = (fluP cx.T b e h ∧ fluP cx.T b e (boxH bx e0 h) ∧ fluV cx.T b e (boxH bx e0 h) = fluV cx.T b e h ∧ wpFB cx r bx tl rest Q e0 (putE e b.dst (fluV cx.T b e h)) h) := rfl
end

/-! ### Values -/
theorem putE_some (e : Nat → V) (d : Nat) (v : V) : putE e (some d) v = upd e d v := rfl
theorem putE_none (e : Nat → V) (v : V) : putE e none v = e := rfl
theorem upd_at (e : Nat → V) (d i : Nat) (v : V) : upd e d v i = if i = d then v else e i := rfl
theorem val_t (e : Nat → V) (n : Nat) : val e (.t n) = e n := rfl
theorem val_k (e : Nat → V) (v : Value) : val e (.k v) = .c v := rfl
theorem val_f (e : Nat → V) (n : FuncId) : val e (.f n) = .fn n [] := rfl
theorem uval_t (e : Nat → V) (n : Nat) : uval e (.t n) = (e n).un := rfl
theorem uval_k (e : Nat → V) (v : Value) : uval e (.k v) = .c v := rfl
theorem uval_f (e : Nat → V) (n : FuncId) : uval e (.f n) = .fn n [] := rfl
theorem un_c (v : Value) : (V.c v).un = .c v := rfl
theorem un_agg (v : List V) : (V.agg v).un = .agg v := rfl
theorem un_tup (v : List V) : (V.tup v).un = .tup v := rfl
theorem un_slc (s : Nat) (v : List (List V)) : (V.slc s v).un = .slc s v := rfl
theorem un_pp (v : List V) : (V.pp v).un = .pp v := rfl
theorem un_ref (a b c d : Nat) : (V.ref a b c d).un = .ref a b c d := rfl
theorem un_ptr (a b c d : Nat) : (V.ptr a b c d).un = .ptr a b c d := rfl
theorem un_fn (f : FuncId) (v : List V) : (V.fn f v).un = .fn f v := rfl
theorem un_gd (b : Bool) (v : V) : (V.gd b v).un = v.un := rfl
theorem gok_c (v : Value) : (V.c v).gok = true := rfl
theorem gok_agg (v : List V) : (V.agg v).gok = true := rfl
theorem gok_tup (v : List V) : (V.tup v).gok = true := rfl
theorem gok_slc (s : Nat) (v : List (List V)) : (V.slc s v).gok = true := rfl
theorem gok_pp (v : List V) : (V.pp v).gok = true := rfl
theorem gok_ref (a b c d : Nat) : (V.ref a b c d).gok = true := rfl
theorem gok_ptr (a b c d : Nat) : (V.ptr a b c d).gok = true := rfl
theorem gok_fn (f : FuncId) (v : List V) : (V.fn f v).gok = true := rfl
theorem gok_gd (b : Bool) (v : V) : (V.gd b v).gok = (b && v.gok) := rfl
theorem okP_none (o : O) (e : Nat → V) (h : Heap) : okP none o e h = ((o.xs.all fun x => (val e x).gok) && (evP o (uval e) h).2) := rfl
theorem vP_none (o : O) (e : Nat → V) (h : Heap) : vP none o e h = (evP o (uval e) h).1 := rfl
theorem okP_pick (c a b : X) (o : O) (e : Nat → V) (h : Heap) : okP (some (c, a, b)) o e h = ((val e c).gok && (asB (uval e c)).2 && cond (asB (uval e c)).1 ((val e a).gok && (asB (uval e a)).2) ((val e b).gok && (asB (uval e b)).2)) := rfl
theorem vP_pick (c a b : X) (o : O) (e : Nat → V) (h : Heap) : vP (some (c, a, b)) o e h = .c (.bool (cond (asB (uval e c)).1 (asB (uval e a)).1 (asB (uval e b)).1)) := rfl
theorem asB_c (b : Bool) : asB (.c (.bool b)) = (b, true) := rfl
theorem asI_c (k : IntKind) (n : Int) : asI (.c (.int k n)) = (n, true) := rfl
theorem enB_c (b want : Bool) : enB (.c (.bool b)) want = (b == want) := by simp [enB, V.gok, V.un, asB]
theorem enB_gd (g b want : Bool) : enB (.gd g (.c (.bool b))) want = (g && (b == want)) := by simp [enB, V.gok, V.un, asB]
theorem initE_at (args : List V) (i : Nat) : initE args i = args.getD i (.c undef) := rfl
end Go.Sx
