/- From the program's operations to the abstract machine's; those that leave memory as it is. -/
import Derived.Test.YtdeleamdjakooaaSx3
import Derived.Lib.Strings
namespace Go.Sx

def compX : Operand → Option X
  | .tmp t => some (.t t)
  | .const v => some (.k v)
  | .func f => some (.f f)
  | .global _ => none
def compOX : Option Operand → Option (Option X)
  | none => some none
  | some x => (compX x).map some
def compXs : List Operand → Option (List X)
  | [] => some []
  | x :: r => (compX x).bind fun y => (compXs r).map fun ys => y :: ys
def aggB : TypeDesc → Bool
  | .struct _ | .array _ _ => true
  | _ => false
/-- How many cells a variable of a type has, of a struct or an array; none: it has one. -/
def shp (P : Program) (t : TypeId) : Option (Option Nat) :=
  match P.underlying t, P.info? t with
  | some d, some i => if aggB d then some (some i.size) else if i.size = 1 then some none else none
  | _, _ => none
def elemOf? (P : Program) (t : TypeId) : Option TypeId :=
  match P.underlying t with
  | some (.slice e) => some e
  | _ => none
def szOf (P : Program) (t : TypeId) : Option Nat := (P.info? t).map (·.size)
def bytesOf' (P : Program) (t : TypeId) : Option Nat := (P.info? t).map (·.bytes)
def zeroOf (P : Program) (t : TypeId) : Option Value := (P.info? t).bind (·.zero)
def fieldOf (P : Program) (t : TypeId) (f : Nat) : Option Field :=
  match P.underlying t with
  | some (.struct fs) => fs[f]?
  | _ => none
/-- Types whose values are compared cell by cell. -/
def flatEq (P : Program) : Nat → TypeId → Option Nat
  | 0, _ => none
  | d + 1, t =>
    match P.underlying t with
    | some .bool => some 1
    | some (.int _) => some 1
    | some .string => some 1
    | some (.array n e) => match flatEq P d e, szOf P e with
      | some k, some s => if k = s then some (n * k) else none
      | _, _ => none
    | _ => none
def compBin (P : Program) (op : BinOp) (t : TypeId) (x y : X) (cy : Operand) : Option O :=
  match P.underlying t with
  | some (.int _) => (match op with
    | .add | .sub | .mul | .quo | .rem | .eql | .neq | .lss | .leq | .gtr | .geq => some (.bin op x y)
    | _ => none)
  | some .string => (match op with | .add | .eql | .neq => some (.bin op x y) | _ => none)
  | some .bool => (match op with | .eql => some (.eqb false x y) | .neq => some (.eqb true x y) | _ => none)
  | some (.func ..) => (match op, cy with | .eql, .const .nilFunc => some (.eqn false x) | .neq, .const .nilFunc => some (.eqn true x) | _, _ => none)
  | _ => none
def compParts (P : Program) (fs : Array Field) : List (Nat × Operand) → Option (List (Nat × Option Nat × X))
  | [] => some []
  | (i, x) :: r => (fs[i]?).bind fun f => (shp P f.type).bind fun n => (compX x).bind fun y => (compParts P fs r).map fun ps => (f.offset, n, y) :: ps
def compElems : List (Nat × Operand) → Option (List (Nat × X))
  | [] => some []
  | (i, x) :: r => (compX x).bind fun y => (compElems r).map fun ps => (i, y) :: ps
def compCall (P : Program) (c : Call) : Option O :=
  match c.callee with
  | .value (.func f) => (compXs c.args.toList).map fun xs => .call f xs
  | .value x => (compX x).bind fun y => (compXs c.args.toList).map fun xs => .callv y xs
  | .invoke _ _ => none
  | .builtin b =>
    match b, c.args.toList, c.argTypes.toList with
    | .len, [x], [t] => (match P.underlying t with
      | some .string => (compX x).map .lenS
      | some (.slice _) => (compX x).map .len
      | some (.array n _) => some (.mov (.k (.int .i64 n)))
      | _ => none)
    | .append, [x, y], [t, u] => (elemOf? P t).bind fun e => (elemOf? P u).bind fun e' => (szOf P e).bind fun sz => (szOf P e').bind fun sz' => (bytesOf' P e).bind fun by' => (zeroOf P e).bind fun z =>
        if t = u ∧ sz' = sz ∧ z.cells.size = sz then (compX x).bind fun x => (compX y).map fun y => .append sz by' z.cells.toList x y else none
    | .min, [x, y], [_, _] => (compX x).bind fun x => (compX y).map fun y => .mm true x y
    | .max, [x, y], [_, _] => (compX x).bind fun x => (compX y).map fun y => .mm false x y
    | .clear, [x], [t] => (elemOf? P t).bind fun e => (szOf P e).bind fun sz => (zeroOf P e).bind fun z => if z.cells.size = sz ∧ z.cells.toList.all (·.oneCell') = true then (compX x).map (.clr sz) else none
    | _, _, _ => none
def compLen (l c : Operand) : Option X :=
  match l, c with
  | .tmp a, .tmp b => if a = b then some (.t a) else none
  | .const (.int .i64 a), .const (.int .i64 b) => if a = b then some (.k (.int .i64 a)) else none
  | _, _ => none
def compO (P : Program) (o : Op) : Option O :=
  match o with
  | .move x => (compX x).map .mov
  | .assign x => (compX x).map .mov
  | .alloc t => (shp P t).bind fun n => (zeroOf P t).map fun z => .box n.isSome (n.getD 1) (.k z)
  | .box t x => (shp P t).bind fun n => (compX x).map fun x => .box n.isSome (n.getD 1) x
  | .build t ps =>
    match P.underlying t with
    | some (.struct fs) => if fs.toList.all (fun f => (szOf P f.type).isSome) then (zeroOf P t).bind fun z => (compParts P fs ps.toList).map fun ps => .build z.cells.toList ps else none
    | some (.array _ e) => (zeroOf P t).bind fun z => (shp P e).bind fun n => (szOf P e).bind fun s => (compElems ps.toList).map fun ps => .build z.cells.toList (ps.map fun p => (p.1 * s, n, p.2))
    | _ => none
  | .buildSlice t n ps => (elemOf? P t).bind fun e => (shp P e).bind fun a => (szOf P e).bind fun s => (zeroOf P e).bind fun z => (compElems ps.toList).map fun ps => .bslice a.isSome s n z.cells.toList ps
  | .load t x => (shp P t).bind fun n => (compX x).map fun x => .load n x
  | .store t x y => (shp P t).bind fun n => (compX x).bind fun x => (compX y).map fun y => .store n x y
  | .nilCheck x => (compX x).map .chk
  | .binOp op t x y _ => (compX x).bind fun x => (compX y).bind fun y' => compBin P op t x y' y
  | .unOp op _ x => (compX x).map fun x => .un op x
  | .convert s d x =>
    match P.underlying s, P.underlying d with
    | some (.int _), some (.int k) => (compX x).map fun x => .cvi k x
    | some .string, some .string => (compX x).map fun x => .cvs x
    | _, _ => none
  | .makeFunc (.func f) first caps => if first.size = 0 then (compXs caps.toList).map fun xs => .mkfn f xs else none
  | .makeSlice t l c => (compLen l c).bind fun l => (elemOf? P t).bind fun e => (szOf P e).bind fun sz => (bytesOf' P e).bind fun by' => (zeroOf P e).map fun z => .mkslice sz by' z.cells.toList l
  | .slice t x lo hi none =>
    match P.underlying t with
    | some .string => (compX x).bind fun x => (compOX lo).bind fun lo => (compOX hi).map fun hi => .sliceS x lo hi
    | some (.slice e) => (szOf P e).bind fun sz => (compX x).bind fun x => (compOX lo).bind fun lo => (compOX hi).map fun hi => .slice sz x lo hi
    | _ => none
  | .fieldAddr t x f => (fieldOf P t f).bind fun f => (szOf P f.type).bind fun s => if s = 0 then none else (compX x).map fun x => .fieldAddr f.offset x
  | .field t x f => (fieldOf P t f).bind fun f => (shp P f.type).bind fun n => (compX x).map fun x => .field f.offset n x
  | .indexAddr t x i =>
    match P.underlying t with
    | some (.slice e) => (szOf P e).bind fun sz => (zeroOf P e).bind fun z => (compX x).bind fun x => (compX i).map fun i => .idxAddr sz z.cells.toList x i
    | some (.array n e) => (szOf P e).bind fun sz => (compX x).bind fun x => (compX i).map fun i => .idxAddrA n sz x i
    | _ => none
  | .index t x i =>
    match P.underlying t with
    | some .string => (compX x).bind fun x => (compX i).map fun i => .idxS x i
    | some (.array n e) => (shp P e).bind fun s => (szOf P e).bind fun sz => (compX x).bind fun x => (compX i).map fun i => .idxA n sz s x i
    | _ => none
  | .extract x i => (compX x).map fun x => .extract x i
  | .call c => compCall P c
  | _ => none

section
variable {P : Program} {g : Gh} {w w0 w' : World} {own0 : Own} {h : Heap}

theorem Grow.cell (hg : Grow w w') {b o : Nat} (hb : b < w.heap.size) : w'.cell? ⟨b, o, none⟩ = w.cell? ⟨b, o, none⟩ := World.cell?_of_block (w := w) (hg.block b hb)

theorem run_isAgg {t : TypeId} {d : TypeDesc} (h : P.underlying t = some d) (w : World) : (isAgg t).run P w = .ok (aggB d) w := by
  simp only [isAgg, Sem.run_bind, run_underlying h, Result.andThen_ok]
  cases d <;> rfl
theorem run_sizeOf {t : TypeId} {s : Nat} (h : szOf P t = some s) (w : World) : (sizeOf t).run P w = .ok s w := by
  unfold szOf at h
  cases hi : P.info? t with
  | none => simp [hi] at h
  | some i => simp [hi] at h; simp [sizeOf, typeInfo, hi, h]
theorem run_zeroValue {t : TypeId} {z : Value} (h : zeroOf P t = some z) (w : World) : (zeroValue t).run P w = .ok z w := by
  unfold zeroOf at h
  cases hi : P.info? t with
  | none => simp [hi] at h
  | some i => simp [hi] at h; simp [zeroValue, typeInfo, hi, h]
theorem shp_agg {t : TypeId} {n : Nat} (h : shp P t = some (some n)) : ∃ d, P.underlying t = some d ∧ aggB d = true ∧ szOf P t = some n := by
  unfold shp at h
  split at h
  · rename_i d i hd hi
    split at h
    · rename_i ha; simp at h; exact ⟨d, hd, ha, by simp [szOf, hi, h]⟩
    · split at h <;> simp at h
  · cases h
theorem shp_one {t : TypeId} (h : shp P t = some none) : ∃ d, P.underlying t = some d ∧ aggB d = false ∧ szOf P t = some 1 := by
  unfold shp at h
  split at h
  · rename_i d i hd hi
    split at h
    · simp at h
    · rename_i ha
      split at h
      · rename_i h1; exact ⟨d, hd, by simpa using ha, by simp [szOf, hi, h1]⟩
      · simp at h
  · cases h
theorem shp_sz {t : TypeId} {n : Option Nat} (h : shp P t = some n) : szOf P t = some (n.getD 1) := by
  cases n with
  | none => obtain ⟨_, _, _, h⟩ := shp_one h; exact h
  | some n => obtain ⟨_, _, _, h⟩ := shp_agg h; exact h

def ldV (n : Option Nat) (xs : Nat → Value) : Value :=
  match n with
  | none => xs 0
  | some n => .agg ((List.range n).map xs).toArray
theorem run_load_ok {t : TypeId} {n : Option Nat} (hs : shp P t = some n) {b o m : Nat} {xs : Nat → Value} (hm : n.getD 1 ≤ m) (hx : ∀ k, k < m → w.cell? ⟨b, o + k, none⟩ = some (xs k)) :
    (Instr.loadAt t (.pointer (some ⟨b, o, none⟩))).run P w = .ok (ldV n xs) w := by
  cases n with
  | none =>
    obtain ⟨d, hd, ha, _⟩ := shp_one hs
    have := hx 0 hm
    simp only [Nat.add_zero] at this
    simp [Instr.loadAt, Instr.sureAddr, loadVar, run_isAgg hd, ha, this, ldV]
  | some n =>
    obtain ⟨d, hd, ha, hz⟩ := shp_agg hs
    have := run_loadCells (P := P) w ⟨b, o, none⟩ n xs (fun j hj => by rw [Addr.add_lit]; exact hx j (Nat.lt_of_lt_of_le hj hm))
    simp [Instr.loadAt, Instr.sureAddr, loadVar, run_isAgg hd, ha, run_sizeOf hz, this, ldV]

theorem getD_range_map {xs : Nat → Value} {n i : Nat} (h : i < n) : ((List.range n).map xs).toArray.getD i undef = xs i := by
  simp [h]

theorem still_load {t : TypeId} {n : Option Nat} (hs : shp P t = some n) (H : HRel g h w w0 own0) {v : Value} {x : V} (hv : VRep g w v x) (hc : (h.cells x).2 = true) (hl : n.getD 1 ≤ (h.cells x).1.length) :
    ∃ cv, VRep g w cv (ldA n (h.cells x).1) ∧ ∀ w', Grow w w' → (Instr.loadAt t v).run P w' = .ok cv w' := by
  obtain ⟨b, o, xs, rfl, hb, hx⟩ := cells_ok H hv hc
  refine ⟨ldV n xs, ?_, fun w' hg => run_load_ok hs hl fun k hk => (hg.cell hb).trans (hx k hk).1⟩
  cases n with
  | none => exact (hx 0 hl).2.2
  | some n =>
    have hn : (List.take n (h.cells x).1).length = n := by rw [List.length_take]; exact Nat.min_eq_left hl
    refine VRep.mkagg (by rw [hn]; simp) (fun i hi => ?_) (fun i hi => ?_)
    · rw [hn] at hi
      rw [getD_range_map hi]
      exact (hx i (Nat.lt_of_lt_of_le hi hl)).2.1
    · rw [hn] at hi
      rw [getD_range_map hi]
      have := (hx i (Nat.lt_of_lt_of_le hi hl)).2.2
      simpa [List.getD_eq_getElem?_getD, List.getElem?_take, hi] using this

theorem pp_drop {cs : List V} {v : Value} (n : Nat) (hv : VRep g w v (.pp cs)) : ∃ b o, v = .pointer (some ⟨b, o, none⟩) ∧ VRep g w (.pointer (some ⟨b, o + n, none⟩)) (.pp (cs.drop n)) := by
  cases hv.inv_pp with
  | pp b o _ xs hF hx hr =>
    refine ⟨b, o, rfl, .p _ _ (.pp b (o + n) _ (fun k => xs (n + k)) hF (fun k hk => ?_) (fun k hk => ?_))⟩
    · have hk' : n + k < cs.length := by simp at hk; omega
      rw [Nat.add_assoc]; exact hx _ hk'
    · have hk' : n + k < cs.length := by simp at hk; omega
      have := hr _ hk'
      simpa [List.getD_eq_getElem?_getD] using this
theorem ptr_add {j ver i o n : Nat} {v : Value} (H : HRel g h w w0 own0) (hv : VRep g w v (.ptr j ver i o)) (hc : h.cur j ver = true) :
    ∃ b q, v = .pointer (some ⟨b, q, none⟩) ∧ VRep g w (.pointer (some ⟨b, q + n, none⟩)) (.ptr j ver i (o + n)) := by
  obtain ⟨B, I, hB, hI, hbl, hBv, hIv, hk⟩ := H.cur hc
  obtain ⟨hlt, hp⟩ := hv.inv_ptr
  obtain ⟨b, hb, rfl⟩ := hp I hI hIv
  refine ⟨b, _, rfl, .ptr _ _ _ _ _ hlt fun J hJ hJv => ?_⟩
  obtain rfl : I = J := Option.some.inj (hI.symm.trans hJ)
  exact ⟨b, hb, by rw [Nat.add_assoc]⟩

theorem off_ok {x : V} {v : Value} (n : Nat) (H : HRel g h w w0 own0) (hv : VRep g w v x) (hc : h.isPtr x = true) :
    ∃ b q, v = .pointer (some ⟨b, q, none⟩) ∧ VRep g w (.pointer (some ⟨b, q + n, none⟩)) (x.off n) := by
  cases x with
  | pp cs => exact pp_drop n hv
  | ptr j ver i o => exact ptr_add H hv hc
  | _ => cases hc
theorem still_fieldAddr {t : TypeId} {f : Nat} {F : Field} {s : Nat} (hf : fieldOf P t f = some F) (hs : szOf P F.type = some s) (h0 : ¬ s = 0) (H : HRel g h w w0 own0) {v : Value} {x : V} (hv : VRep g w v x)
    (hc : h.isPtr x = true) : ∃ cv, VRep g w cv (x.off F.offset) ∧ ∀ w', (Instr.fieldAt t v f).run P w' = .ok cv w' := by
  have key : ∀ b o w', (Instr.fieldAt t (.pointer (some ⟨b, o, none⟩)) f).run P w' = .ok (.pointer (some ⟨b, o + F.offset, none⟩)) w' := by
    intro b o w'
    unfold fieldOf at hf
    split at hf
    · rename_i fs hu
      simp only [Instr.fieldAt, Sem.run_bind, run_underlying hu, Result.andThen_ok, hf, Instr.sureAddr, Sem.run_pure, fieldPlace, run_sizeOf hs, h0, if_false, Addr.add_lit]
    · cases hf
  obtain ⟨b, o, rfl, hr⟩ := off_ok F.offset H hv hc
  exact ⟨_, hr, key b o⟩
end
end Go.Sx
