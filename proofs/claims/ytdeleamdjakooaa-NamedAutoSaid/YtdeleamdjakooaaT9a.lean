/- Nodes of documents: encodings. -/
import Derived.Test.YtdeleamdjakooaaLb
namespace Go.Proofs.Ytdeleamdjakooaa
open Go.Sx
set_option linter.unusedSimpArgs false
set_option maxHeartbeats 4000000

def strs (l : List ByteArray) : V := .slc 1 (l.map fun s => [vs s])
def prs2 (l : List (ByteArray × ByteArray)) : V := .slc 2 (l.map fun p => [vs p.1, vs p.2])
def V.boo : V → Bool
  | .c (.bool b) => b
  | _ => false
theorem V.boo_c (b : Bool) : V.boo (.c (.bool b)) = b := rfl
def bools (l : List Bool) : V := .slc 1 (l.map fun b => [vb b])
def dStrs (v : V) : List ByteArray := v.es.map fun e => (e.getD 0 .any).str
def dBools (v : V) : List Bool := v.es.map fun e => V.boo (e.getD 0 .any)
def dPrs2 (v : V) : List (ByteArray × ByteArray) := v.es.map fun e => ((e.getD 0 .any).str, (e.getD 1 .any).str)
theorem dStrs_map (l : List ByteArray) : dStrs (.slc 1 (l.map fun s => [vs s])) = l := by
  simp [dStrs, V.es, V.str, Function.comp_def]
theorem dBools_map (l : List Bool) : dBools (.slc 1 (l.map fun s => [vb s])) = l := by
  simp [dBools, V.es, V.boo, Function.comp_def]
theorem dPrs2_map (l : List (ByteArray × ByteArray)) : dPrs2 (.slc 2 (l.map fun p => [vs p.1, vs p.2])) = l := by
  simp [dPrs2, V.es, V.str, Function.comp_def]
theorem getD_strs (l : List ByteArray) (i : Nat) : (l.map fun s => [vs s]).getD i [vs ⟨#[]⟩] = [vs (l.getD i ⟨#[]⟩)] := by
  simp only [List.getD_eq_getElem?_getD, List.getElem?_map]
  cases l[i]? <;> rfl
theorem getD_bools (l : List Bool) (i : Nat) : (l.map fun s => [vb s]).getD i [vb false] = [vb (l.getD i false)] := by
  simp only [List.getD_eq_getElem?_getD, List.getElem?_map]
  cases l[i]? <;> rfl
theorem getD_prs2 (l : List (ByteArray × ByteArray)) (i : Nat) : (l.map fun p => [vs p.1, vs p.2]).getD i [vs ⟨#[]⟩, vs ⟨#[]⟩] = [vs (l.getD i (⟨#[]⟩, ⟨#[]⟩)).1, vs (l.getD i (⟨#[]⟩, ⟨#[]⟩)).2] := by
  simp only [List.getD_eq_getElem?_getD, List.getElem?_map]
  cases l[i]? <;> rfl
structure Node where
  parent : Int
  type : ByteArray
  id : ByteArray
  cls : List ByteArray
  attrs : List (ByteArray × ByteArray)
  text : ByteArray
def Node.zero : Node := ⟨0, ⟨#[]⟩, ⟨#[]⟩, [], [], ⟨#[]⟩⟩
def Node.enc (n : Node) : List V := [vi n.parent, vs n.type, vs n.id, .slc 1 (n.cls.map fun s => [vs s]), .slc 2 (n.attrs.map fun p => [vs p.1, vs p.2]), vs n.text]
def nodes (l : List Node) : V := .slc 6 (l.map Node.enc)
def dNodeL (l : List V) : Node := ⟨(l.getD 0 .any).int, (l.getD 1 .any).str, (l.getD 2 .any).str, dStrs (l.getD 3 .any), dPrs2 (l.getD 4 .any), (l.getD 5 .any).str⟩
def dNode (v : V) : Node := dNodeL v.cs
def dNodes (v : V) : List Node := v.es.map dNodeL
theorem dNodeL_enc (n : Node) : dNodeL n.enc = n := by
  simp [dNodeL, Node.enc, dStrs_map, dPrs2_map, V.int, V.str]
theorem dNode_enc (n : Node) : dNode (.agg n.enc) = n := dNodeL_enc n
theorem dNode_mk (a : Int) (b c : ByteArray) (d : List ByteArray) (e : List (ByteArray × ByteArray)) (f : ByteArray) :
    dNode (.agg [.c (.int .i64 a), .c (.string b), .c (.string c), .slc 1 (d.map fun s => [vs s]), .slc 2 (e.map fun p => [vs p.1, vs p.2]), .c (.string f)]) = ⟨a, b, c, d, e, f⟩ := dNodeL_enc ⟨a, b, c, d, e, f⟩
theorem dNodes_map (l : List Node) : dNodes (.slc 6 (l.map Node.enc)) = l := by
  simp [dNodes, V.es, Function.comp_def, dNodeL_enc]
theorem dNodes_nodes (l : List Node) : dNodes (nodes l) = l := dNodes_map l
theorem Node.eta (n : Node) : (⟨n.parent, n.type, n.id, n.cls, n.attrs, n.text⟩ : Node) = n := rfl
theorem getD_nodes (l : List Node) (i : Nat) (d : List V) (h : i < l.length) : (l.map Node.enc).getD i d = (l.getD i .zero).enc := by
  simp [List.getD_eq_getElem?_getD, h]
/-- The values of arguments may be told with fewer nils. -/
def F2 {α β : Type} (R : α → β → Prop) : List α → List β → Prop
  | [], [] => True
  | a :: l, b :: m => R a b ∧ F2 R l m
  | _, _ => False
def Sub : Nat → V → V → Prop
  | 0, x, y => x = y
  | n + 1, x, y => x = y ∨ match x, y with
    | .slc sz a, .slc sz' b => sz = sz' ∧ F2 (F2 (Sub n)) a b
    | .agg a, .agg b => F2 (Sub n) a b
    | .c (.slice none 0 0), .slc _ b => b = []
    | _, _ => False
theorem F2_len {α β : Type} {R : α → β → Prop} : ∀ {a : List α} {b : List β}, F2 R a b → a.length = b.length
  | [], [], _ => rfl
  | _ :: _, _ :: _, h => by simp [F2_len h.2]
  | [], _ :: _, h => h.elim
  | _ :: _, [], h => h.elim
theorem F2_get {α β : Type} {R : α → β → Prop} {d : α} {d' : β} : ∀ {a : List α} {b : List β} (i : Nat), F2 R a b → i < a.length → R (a.getD i d) (b.getD i d')
  | [], [], i, _, hi => absurd hi (by simp)
  | _ :: _, _ :: _, 0, h, _ => h.1
  | _ :: _, _ :: _, i + 1, h, hi => by
    have := F2_get (d := d) (d' := d') i h.2 (by simpa using hi)
    simpa using this
  | [], _ :: _, _, h, _ => h.elim
  | _ :: _, [], _, h, _ => h.elim
theorem Sub.prep {F : Nat → Prop} {w : World} : ∀ (n : Nat) (x y : V) (v : Value), Sub n x y → PRep F w v x → PRep F w v y
  | 0, x, y, v, h, hp => by cases h; exact hp
  | n + 1, x, y, v, h, hp => by
    rcases h with rfl | h
    · exact hp
    · split at h
      · obtain ⟨rfl, h⟩ := h
        rename_i sz a b
        have hl := F2_len h
        cases hp with
        | slc ad nn cap _ es bb o xs hn hc hsz ha hx hr =>
          refine .slc ad nn cap _ _ bb o xs (by omega) hc (fun e he => ?_) (fun h0 => ha (by omega)) (fun i k hi hk => hx i k (by omega) hk) fun i k hi hk => ?_
          · obtain ⟨i, hi, rfl⟩ := List.getElem_of_mem he
            have h1 := F2_get (d := []) (d' := []) i h (by omega)
            have h2 := F2_len h1
            have h3 := hsz (a[i]'(by omega)) (List.getElem_mem _)
            rw [List.getD_eq_getElem?_getD, List.getElem?_eq_getElem (by omega), List.getD_eq_getElem?_getD, List.getElem?_eq_getElem hi] at h2
            simpa [h3] using h2.symm
          · have h1 := F2_get (d := []) (d' := []) i h (by omega)
            have h3 := hsz (a[i]'(by omega)) (List.getElem_mem _)
            have h4 : (a.getD i []).length = sz := by rw [List.getD_eq_getElem?_getD, List.getElem?_eq_getElem (by omega)]; exact h3
            exact Sub.prep n _ _ _ (F2_get (d := .any) (d' := .any) k h1 (by omega)) (hr i k (by omega) hk)
      · rename_i a b
        have hl := F2_len h
        cases hp with
        | agg cs _ hl' h1 h2 => exact .agg cs _ (by omega) (fun i hi => h1 i (by omega)) fun i hi => Sub.prep n _ _ _ (F2_get (d := .any) (d' := .any) i h (by omega)) (h2 i (by omega))
      · subst h
        cases hp
        exact .slc none 0 0 _ [] 0 0 (fun _ _ => undef) rfl (Nat.le_refl _) (by simp) (by simp) (by simp) (by simp)
      · exact h.elim
theorem PCall.asub {P : Program} {f : FuncId} {args args' : List V} {r : V} (n : Nat) (h : PCall P f args r) (hs : F2 (Sub n) args' args) : PCall P f args' r := by
  have hl := F2_len hs
  refine ⟨h.1, fun F w cargs hF hc hv => h.2 F w cargs hF (by omega) fun i hi => ?_⟩
  exact Sub.prep n _ _ _ (F2_get (d := .any) (d' := .any) i hs (by omega)) (hv i (by omega))
theorem PCall.rsub {P : Program} {f : FuncId} {args : List V} {r r' : V} (h : PCall P f args r) (hs : ∀ F w v, PRep F w v r → PRep F w v r') : PCall P f args r' := by
  refine ⟨h.1, fun F w cargs hF hc hv => (h.2 F w cargs hF hc hv).mono fun e w' he => ?_⟩
  obtain ⟨cv, h1, h2, h3⟩ := he
  exact ⟨cv, h1, h2, hs _ _ _ h3⟩
theorem PCall.rs {P : Program} {f : FuncId} {args : List V} {r r' : V} (n : Nat) (h : PCall P f args r) (hs : Sub n r r') : PCall P f args r' := PCall.rsub h fun _ _ _ hp => Sub.prep n _ _ _ hs hp
theorem Sub.rfl (n : Nat) (x : V) : Sub n x x := by cases n <;> simp [Sub]

abbrev nodeC : List Cell := [.int .i64, .str, .str, .slc [.str], .slc [.str, .str], .str]
theorem strs_of {x : V} (h : CellOK (.slc [.str]) x) : ∃ l : List ByteArray, x = .slc 1 (l.map fun s => [vs s]) := by
  cases h with
  | slc cs ess hl h h2 =>
    refine ⟨ess.map fun e => (e.getD 0 .any).str, ?_⟩
    rw [List.map_map]
    congr 1
    conv => lhs; rw [← List.map_id ess]
    apply List.map_congr_left
    intro es hes
    have hlen := h es hes
    have a0 := h2 es hes 0 _ rfl
    match es, hlen with
    | [a], _ =>
      simp only [List.getD_cons_zero] at a0
      cases a0; rfl
theorem prs2_of {x : V} (h : CellOK (.slc [.str, .str]) x) : ∃ l : List (ByteArray × ByteArray), x = .slc 2 (l.map fun p => [vs p.1, vs p.2]) := by
  cases h with
  | slc cs ess hl h h2 =>
    refine ⟨ess.map fun e => ((e.getD 0 .any).str, (e.getD 1 .any).str), ?_⟩
    rw [List.map_map]
    congr 1
    conv => lhs; rw [← List.map_id ess]
    apply List.map_congr_left
    intro es hes
    have hlen := h es hes
    have a0 := h2 es hes 0 _ rfl
    have a1 := h2 es hes 1 _ rfl
    match es, hlen with
    | [a, b], _ =>
      simp only [List.getD_cons_zero, List.getD_cons_succ] at a0 a1
      cases a0; cases a1; rfl
theorem nodeL_of {xs : List V} (hl : xs.length = 6) (h : ∀ i c, nodeC[i]? = some c → CellOK c (xs.getD i .any)) : ∃ n : Node, xs = n.enc := by
  have a0 := h 0 _ rfl
  have a1 := h 1 _ rfl
  have a2 := h 2 _ rfl
  have a3 := h 3 _ rfl
  have a4 := h 4 _ rfl
  have a5 := h 5 _ rfl
  match xs, hl with
  | [a, b, c, d, e, f], _ =>
    simp only [List.getD_cons_zero, List.getD_cons_succ] at a0 a1 a2 a3 a4 a5
    obtain ⟨s, rfl⟩ := strs_of a3
    obtain ⟨p, rfl⟩ := prs2_of a4
    cases a0; cases a1; cases a2; cases a5
    exact ⟨⟨_, _, _, s, p, _⟩, rfl⟩
theorem nodes_of {x : V} (h : CellOK (.slc nodeC) x) : ∃ l : List Node, x = nodes l := by
  cases h with
  | slc cs ess hl h h2 =>
    have key : ∀ (es : List (List V)), (∀ e ∈ es, ∃ n : Node, e = n.enc) → ∃ l : List Node, es = l.map Node.enc := by
      intro es
      induction es with
      | nil => intro _; exact ⟨[], rfl⟩
      | cons e es ih =>
        intro h
        obtain ⟨l, rfl⟩ := ih fun e' he => h e' (by simp [he])
        obtain ⟨n, rfl⟩ := h e (by simp)
        exact ⟨n :: l, rfl⟩
    obtain ⟨l, rfl⟩ := key ess fun e he => nodeL_of (h e he) (h2 e he)
    exact ⟨l, rfl⟩
end Go.Proofs.Ytdeleamdjakooaa
