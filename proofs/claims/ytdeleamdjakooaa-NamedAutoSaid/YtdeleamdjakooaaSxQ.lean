/- Arguments that came in, as abstract values. -/
import Derived.Test.YtdeleamdjakooaaSx1
import Derived.ChangeArms
import Derived.ChangeOld
import Derived.DataReads
import Derived.WideShapes
set_option maxHeartbeats 1000000
namespace Go.Sx
open Go.WideShapes

inductive Cell where
  | int (k : IntKind)
  | bool
  | str
  | slc (es : List Cell)

inductive CellOK : Cell → V → Prop
  | int (k : IntKind) (n : Int) (h : (Lit.int k n).wf = true) : CellOK (.int k) (.c (.int k n))
  | bool (b : Bool) : CellOK .bool (.c (.bool b))
  | str (s : ByteArray) (h : s.size ≤ maxLen) : CellOK .str (.c (.string s))
  | slc (cs : List Cell) (ess : List (List V)) (hl : ess.length ≤ maxLen) (h : ∀ es ∈ ess, es.length = cs.length)
      (h2 : ∀ es ∈ ess, ∀ i c, cs[i]? = some c → CellOK c (es.getD i .any)) : CellOK (.slc cs) (.slc cs.length ess)

def flatFs (f : TypeId → Option (List Cell)) : Nat → List Field → Option (List Cell)
  | _, [] => some []
  | off, x :: r => if x.offset = off then (f x.type).bind fun cs => (flatFs f (off + cs.length) r).map (cs ++ ·) else none
def chkLen (P : Program) (t : TypeId) (cs : List Cell) : Option (List Cell) := if cs.length = P.cellsOf t then some cs else none
def flat (P : Program) : Nat → TypeId → Option (List Cell)
  | 0, _ => none
  | n + 1, t => match P.underlying t with
    | some (.int k) => chkLen P t [.int k]
    | some .bool => chkLen P t [.bool]
    | some .string => chkLen P t [.str]
    | some (.slice e) => (flat P n e).bind fun cs => if 0 < cs.length then chkLen P t [.slc cs] else none
    | some (.struct fs) => (flatFs (flat P n) 0 fs.toList).bind (chkLen P t)
    | _ => none

def Got (w : World) (vs : List Value) (cs : List Cell) (xs : List V) : Prop :=
  vs.length = cs.length ∧ xs.length = cs.length ∧ ∀ i c, cs[i]? = some c → CellOK c (xs.getD i .any) ∧ PRep (fun b => b < w.heap.size) w (vs.getD i undef) (xs.getD i .any) ∧ (vs.getD i undef).oneCell' = true

section
variable {P : Program} {w : World} {H : Type} {enc : TypeId × Value → H} {base : Nat} {spare : Nat → Bool} {held : Bool}

theorem chkLen_ok {t : TypeId} {cs cs' : List Cell} (h : chkLen P t cs = some cs') : cs' = cs ∧ cs.length = P.cellsOf t := by
  unfold chkLen at h
  split at h
  · exact ⟨(Option.some.inj h).symm, by assumption⟩
  · cases h
theorem flat_len {n : Nat} {t : TypeId} {cs : List Cell} (h : flat P n t = some cs) : cs.length = P.cellsOf t := by
  cases n with
  | zero => cases h
  | succ n =>
    unfold flat at h
    split at h
    all_goals first
      | (obtain ⟨rfl, h2⟩ := chkLen_ok h; exact h2)
      | cases h
      | skip
    · simp only [Option.bind_eq_some_iff] at h
      obtain ⟨es, _, h⟩ := h
      split at h
      · obtain ⟨rfl, h2⟩ := chkLen_ok h; exact h2
      · cases h
    · simp only [Option.bind_eq_some_iff] at h
      obtain ⟨es, _, h⟩ := h
      obtain ⟨rfl, h2⟩ := chkLen_ok h; exact h2
theorem Got.one {v : Value} {c : Cell} {x : V} (h1 : CellOK c x) (h2 : PRep (fun b => b < w.heap.size) w v x) (h3 : v.oneCell' = true) : Got w [v] [c] [x] := by
  refine ⟨rfl, rfl, fun i c' hc => ?_⟩
  cases i with
  | zero => simp at hc; subst hc; exact ⟨by simpa using h1, by simpa using h2, by simpa using h3⟩
  | succ i => simp at hc
theorem Got.append {v1 v2 : List Value} {c1 c2 : List Cell} {x1 x2 : List V} (h1 : Got w v1 c1 x1) (h2 : Got w v2 c2 x2) : Got w (v1 ++ v2) (c1 ++ c2) (x1 ++ x2) := by
  obtain ⟨a1, b1, g1⟩ := h1
  obtain ⟨a2, b2, g2⟩ := h2
  refine ⟨by simp [a1, a2], by simp [b1, b2], fun i c hc => ?_⟩
  by_cases hi : i < c1.length
  · have hc' : c1[i]? = some c := by rwa [List.getElem?_append_left hi] at hc
    have := g1 i c hc'
    simpa [List.getD_eq_getElem?_getD, List.getElem?_append_left, a1, b1, hi] using this
  · have hc' : c2[i - c1.length]? = some c := by rwa [List.getElem?_append_right (by omega)] at hc
    have := g2 _ c hc'
    have e1 : (v1 ++ v2)[i]? = v2[i - c1.length]? := by rw [List.getElem?_append_right (by omega), a1]
    have e2 : (x1 ++ x2)[i]? = x2[i - c1.length]? := by rw [List.getElem?_append_right (by omega), b1]
    simpa only [List.getD_eq_getElem?_getD, e1, e2] using this
theorem got_fields {n m : Nat} {vs : List Value} (ih : ∀ t vs x cs, flat P n t = some cs → DataW.trod enc P w base spare held m t vs = some x → ∃ xs, Got w vs cs xs) :
    ∀ (fs : List Field) (off : Nat) (cs : List Cell), flatFs (flat P n) off fs = some cs → (∀ f ∈ fs, ∃ x, DataW.trod enc P w base spare held m f.type ((vs.drop f.offset).take (P.cellsOf f.type)) = some x) →
      ∃ xs, Got w ((vs.drop off).take cs.length) cs xs
  | [], off, cs, h, _ => by
    simp only [flatFs, Option.some.injEq] at h
    subst h
    exact ⟨[], by simp, rfl, by simp⟩
  | f :: fs, off, cs, h, ht => by
    simp only [flatFs] at h
    split at h
    · rename_i hoff
      simp only [Option.bind_eq_some_iff, Option.map_eq_some_iff] at h
      obtain ⟨c1, h1, c2, h2, rfl⟩ := h
      obtain ⟨x, hx⟩ := ht f (by simp)
      obtain ⟨x1, g1⟩ := ih _ _ _ _ h1 hx
      obtain ⟨x2, g2⟩ := got_fields ih fs _ c2 h2 fun f' hf' => ht f' (by simp [hf'])
      refine ⟨x1 ++ x2, ?_⟩
      have := g1.append g2
      rw [hoff, ← flat_len h1] at this
      rw [List.length_append, List.take_add, List.drop_drop]
      exact this
    · cases h

theorem got_slice {a : Addr} {len cap : Nat} {ces : List Cell} (hle : len ≤ cap) (hcap : cap ≤ maxLen) (hpos : 0 < ces.length)
    (h : ∀ i, i < len → ∃ vals xs, w.cells? base (a.add (i * ces.length)) ces.length = some vals ∧ Got w vals ces xs) :
    ∃ x, Got w [.slice (some a) len cap] [.slc ces] [x] := by
  have h' : ∀ i : Nat, ∃ p : List Value × List V, i < len → w.cells? base (a.add (i * ces.length)) ces.length = some p.1 ∧ Got w p.1 ces p.2 := by
    intro i
    by_cases hi : i < len
    · obtain ⟨v, x, hv⟩ := h i hi; exact ⟨(v, x), fun _ => hv⟩
    · exact ⟨([], []), fun hi' => absurd hi' hi⟩
  obtain ⟨f, hf⟩ := Classical.skolem.1 h'
  have hel : ∀ es ∈ (List.range len).map fun i => (f i).2, ∃ i, i < len ∧ es = (f i).2 := by
    intro es hes
    obtain ⟨i, hi, rfl⟩ := List.mem_map.1 hes
    exact ⟨i, List.mem_range.1 hi, rfl⟩
  have hsz : ∀ es ∈ (List.range len).map fun i => (f i).2, es.length = ces.length := by
    intro es hes
    obtain ⟨i, hi, rfl⟩ := hel es hes
    exact (hf i hi).2.2.1
  refine ⟨.slc ces.length ((List.range len).map fun i => (f i).2), Got.one (.slc _ _ (by simp; omega) hsz fun es hes i c hc => ?_) ?_ rfl⟩
  · obtain ⟨j, hj, rfl⟩ := hel es hes
    exact ((hf j hj).2.2.2 i c hc).1
  · by_cases h0 : len = 0
    · subst h0
      exact .slc _ _ _ _ _ 0 0 (fun _ _ => undef) (by simp) hle hsz (by simp) (by simp) (by simp)
    have hl0 : 0 < len := by omega
    have hs : a.spot = none := by
      obtain ⟨_, hl, hc⟩ := World.cells?_some (hf 0 hl0).1
      have := hc 0 hpos
      rw [List.getElem?_eq_getElem (by omega)] at this
      have := World.cell?_spot this
      simpa [Addr.add] using this
    obtain ⟨b, o, s⟩ := a
    simp only at hs
    subst hs
    have add : ∀ n, (⟨b, o, none⟩ : Addr).add n = ⟨b, o + n, none⟩ := fun n => by
      unfold Addr.add
      split <;> simp_all
    have cell : ∀ i k, i < len → k < ces.length → w.cell? ⟨b, o + (i * ces.length + k), none⟩ = some ((f i).1.getD k undef) := by
      intro i k hi hk
      obtain ⟨_, hl, hc⟩ := World.cells?_some (hf i hi).1
      have := hc k hk
      rw [add] at this
      have add2 : ∀ n m, (⟨b, m, none⟩ : Addr).add n = ⟨b, m + n, none⟩ := fun n m => by
        unfold Addr.add
        split <;> simp_all
      rw [add2, List.getElem?_eq_getElem (by omega)] at this
      rw [List.getD_eq_getElem?_getD, List.getElem?_eq_getElem (by omega)]
      simpa [Nat.add_assoc] using this
    refine .slc _ _ _ _ _ b o (fun i k => (f i).1.getD k undef) (by simp) hle hsz (fun h0 => ⟨rfl, ?_⟩) (fun i k hi hk => ?_) (fun i k hi hk => ?_)
    · have := World.cells?_block (hf 0 hl0).1 hpos
      rw [add] at this
      exact this
    · have hi' : i < len := by simpa using hi
      exact ⟨cell i k hi' hk, ((hf i hi').2.2.2 k ces[k] (List.getElem?_eq_getElem hk)).2.2⟩
    · have hi' : i < len := by simpa using hi
      have e1 : (((List.range len).map fun i => (f i).2).getD i []) = (f i).2 := by simp [List.getD_eq_getElem?_getD, hi']
      rw [e1]
      exact ((hf i hi').2.2.2 k ces[k] (List.getElem?_eq_getElem hk)).2.1

theorem got : ∀ (n m : Nat) (t : TypeId) (vs : List Value) (x : DataW H × List MemPlace) (cs : List Cell), flat P n t = some cs → DataW.trod enc P w base spare held m t vs = some x → ∃ xs, Got w vs cs xs := by
  intro n
  induction n with
  | zero => intro m t vs x cs h; cases h
  | succ n ih =>
    intro m t vs x cs h hx
    unfold flat at h
    split at h
    · rename_i k hk
      obtain ⟨rfl, h2⟩ := chkLen_ok h
      obtain ⟨z, rfl, _, hw⟩ := DataW.trod_int hk hx
      exact ⟨_, Got.one (.int k z hw) (.c _) rfl⟩
    · rename_i hk
      obtain ⟨rfl, h2⟩ := chkLen_ok h
      obtain ⟨z, rfl, _⟩ := DataW.trod_bool hk hx
      exact ⟨_, Got.one (.bool z) (.c _) rfl⟩
    · rename_i hk
      obtain ⟨rfl, h2⟩ := chkLen_ok h
      obtain ⟨z, rfl, _, hw⟩ := DataW.trod_string hk hx
      exact ⟨_, Got.one (.str z hw) (.c _) rfl⟩
    · rename_i e hk
      simp only [Option.bind_eq_some_iff] at h
      obtain ⟨es, hes, h⟩ := h
      split at h
      · rename_i hpos
        obtain ⟨rfl, h2⟩ := chkLen_ok h
        rcases DataW.trod_slice hk hx with ⟨rfl, _⟩ | ⟨a, len, cap, elems, rest, m', rfl, rfl, _, hb, hle, hcap, hlen, hel, _⟩
        · exact ⟨[.slc es.length []], Got.one (.slc _ [] (Nat.zero_le _) (by simp) (by simp)) (.slc none 0 0 _ [] 0 0 (fun _ _ => undef) rfl (Nat.le_refl _) (by simp) (by simp) (by simp) (by simp)) rfl⟩
        · obtain ⟨x, g⟩ := got_slice (w := w) (base := base) (a := a) (len := len) (cap := cap) (ces := es) hle hcap hpos fun i hi => by
            have hi2 := hel i hi
            rw [List.getElem?_eq_getElem (by omega), Option.bind_eq_some_iff] at hi2
            obtain ⟨vals, hv, ht⟩ := hi2
            obtain ⟨xs, g⟩ := ih m' e vals _ es hes ht
            rw [← flat_len hes] at hv
            exact ⟨vals, xs, hv, g⟩
          exact ⟨[x], g⟩
      · cases h
    · rename_i fs hk
      simp only [Option.bind_eq_some_iff] at h
      obtain ⟨cs', hcs, h⟩ := h
      obtain ⟨rfl, h2⟩ := chkLen_ok h
      obtain ⟨xs, m', rfl, _, hl, hxl, hf⟩ := DataW.trod_struct hk hx
      obtain ⟨ys, g⟩ := got_fields (vs := vs) (fun t vs x cs => ih m' t vs x cs) fs.toList 0 _ hcs fun f hf' => by
        obtain ⟨i, hi, rfl⟩ := List.mem_iff_getElem.1 hf'
        have hi' : i < fs.size := by simpa using hi
        have := hf i fs[i] (by simp [hi'])
        refine ⟨xs[i], ?_⟩
        simpa [hxl, hi'] using this
      rw [List.drop_zero, List.take_of_length_le (by omega)] at g
      exact ⟨ys, g⟩
    · cases h

/-- An argument that is one cell. -/
theorem got_arg {r : Reach} {b0 n : Nat} {t : TypeId} {v : Value} {c : Cell} {d : DataW H} {ps : List MemPlace} (hf : flat P n t = some [c]) (hns : ∀ fs, P.underlying t ≠ some (.struct fs))
    (hval : Value.okWide P w r b0 t v) (hd : DataW.Trod enc P w base spare held t v d ps) : ∃ x, CellOK c x ∧ PRep (fun b => b < w.heap.size) w v x := by
  obtain ⟨m, hm⟩ := hd
  obtain ⟨xs, h1, h2, h3⟩ := got n m t _ _ _ hf hm
  have hone : v.cells = #[v] := by
    cases n with
    | zero => cases hf
    | succ n =>
      unfold flat at hf
      split at hf
      · rename_i hk; obtain ⟨_, rfl⟩ := okWide_int hk hval; rfl
      · rename_i hk; obtain ⟨_, rfl⟩ := okWide_bool hk hval; rfl
      · rename_i hk; obtain ⟨_, rfl⟩ := okWide_string hk hval; rfl
      · rename_i hk; obtain ⟨_, _, _, rfl⟩ := okWide_slice hk hval; rfl
      · rename_i hk; exact absurd hk (hns _)
      · cases hf
  rw [hone] at h3
  have := h3 0 c rfl
  exact ⟨xs.getD 0 .any, this.1, by simpa using this.2.1⟩
/-- An argument that is a struct. -/
theorem got_struct {r : Reach} {b0 n : Nat} {t : TypeId} {fs : Array Field} {v : Value} {cs : List Cell} {d : DataW H} {ps : List MemPlace} (hf : flat P n t = some cs) (hs : P.underlying t = some (.struct fs))
    (hval : Value.okWide P w r b0 t v) (hd : DataW.Trod enc P w base spare held t v d ps) :
    ∃ xs : List V, xs.length = cs.length ∧ (∀ i c, cs[i]? = some c → CellOK c (xs.getD i .any)) ∧ PRep (fun b => b < w.heap.size) w v (.agg xs) := by
  obtain ⟨m, hm⟩ := hd
  obtain ⟨xs, h1, h2, h3⟩ := got n m t _ _ _ hf hm
  obtain ⟨vs, rfl, hsz⟩ := okWide_struct hs hval
  have hc : (Value.agg vs).cells = vs := rfl
  rw [hc] at h1 h3
  have hl : vs.size = cs.length := by simpa using h1
  have e1 : ∀ i, vs.toList.getD i undef = vs.getD i undef := fun i => by simp [List.getD_eq_getElem?_getD, Array.getD_eq_getD_getElem?]
  refine ⟨xs, h2, fun i c hc => (h3 i c hc).1, .agg vs xs (by omega) (fun i hi => ?_) (fun i hi => ?_)⟩
  · have := h3 i cs[i] (List.getElem?_eq_getElem (by omega)); rw [e1] at this; exact this.2.2
  · have := h3 i cs[i] (List.getElem?_eq_getElem (by omega)); rw [e1] at this; exact this.2.1
end
end Go.Sx
