/- The operations of the abstract machine: what they give, and when they may be taken. -/
import Derived.Test.YtdeleamdjakooaaSx1
namespace Go.Sx

inductive X where
  | t (n : Nat)
  | k (v : Value)
  | f (n : FuncId)

inductive O where
  | mov (x : X)
  | box (agg : Bool) (sz : Nat) (x : X)
  | build (zero : List Value) (parts : List (Nat × Option Nat × X))
  | bslice (agg : Bool) (sz n : Nat) (zero : List Value) (parts : List (Nat × X))
  | cvs (x : X)
  | load (n : Option Nat) (x : X)
  | store (n : Option Nat) (x v : X)
  | chk (x : X)
  | bin (op : BinOp) (x y : X)
  | eqb (neg : Bool) (x y : X)
  | eqc (neg : Bool) (n : Nat) (x y : X)
  | eqn (neg : Bool) (x : X)
  | un (op : UnOp) (x : X)
  | cvi (k : IntKind) (x : X)
  | mkfn (f : FuncId) (caps : List X)
  | mkslice (sz bytes : Nat) (zero : List Value) (l : X)
  | slice (sz : Nat) (x : X) (lo hi : Option X)
  | sliceS (x : X) (lo hi : Option X)
  | sliceA (n sz : Nat) (x : X) (lo hi : Option X)
  | fieldAddr (off : Nat) (x : X)
  | field (off : Nat) (n : Option Nat) (x : X)
  | idxAddr (sz : Nat) (zero : List Value) (x i : X)
  | idxAddrA (len sz : Nat) (x i : X)
  | idxS (x i : X)
  | idxA (len : Nat) (sz : Nat) (n : Option Nat) (x i : X)
  | extract (x : X) (i : Nat)
  | len (x : X)
  | lenS (x : X)
  | append (sz bytes : Nat) (zero : List Value) (x y : X)
  | mm (lt : Bool) (x y : X)
  | clr (sz : Nat) (x : X)
  | call (f : FuncId) (args : List X)
  | callv (x : X) (args : List X)

def V.un : V → V
  | .gd _ v => v.un
  | v => v
def V.gok : V → Bool
  | .gd b v => b && v.gok
  | _ => true

def Heap.cur (h : Heap) (j ver : Nat) : Bool :=
  match h.bs[j]? with
  | some B => B.ver == ver
  | none => false
def Heap.blk (h : Heap) (j : Nat) : Blk := (h.bs[j]?).getD ⟨0, 0, [], true, []⟩

/-- The cells that a pointer sees. -/
def Heap.cells (h : Heap) : V → List V × Bool
  | .pp cs => (cs, true)
  | .ptr j ver i o => (((h.blk j).es.getD i (h.blk j).d).drop o, h.cur j ver && decide (i < (h.blk j).es.length))
  | _ => ([], false)
/-- The elements of a slice. -/
def Heap.view (h : Heap) (sz : Nat) : V → List (List V) × Bool
  | .slc sz' es => (es, sz' == sz)
  | .c (.slice none 0 0) => ([], true)
  | .ref j ver off len => (((h.blk j).es.drop off).take len, h.cur j ver && (h.blk j).sz == sz && decide (off + len ≤ (h.blk j).es.length))
  | _ => ([], false)
def Heap.isOne (h : Heap) : V → Bool
  | .c v => v.oneCell'
  | .slc .. | .pp .. | .fn .. => true
  | .ref j ver _ _ | .ptr j ver _ _ => h.cur j ver
  | _ => false
/-- The cells of a value: of a struct, its own; of another, itself. -/
def cellsOf (agg : Bool) (v : V) : List V :=
  match agg, v with
  | true, .agg cs => cs
  | true, .c (.agg cs) => cs.toList.map .c
  | true, _ => []
  | false, v => [v]

def inR (n : Int) : Bool := decide (-9223372036854775808 ≤ n ∧ n ≤ 9223372036854775807)
def arith (k : IntKind) (n : Int) : V × Bool :=
  match k with
  | .i64 => (.c (.int .i64 n), inR n)
  | k => (.c (.int k (k.wrap n)), true)
def binV (op : BinOp) (x y : Value) : V × Bool :=
  match x, y with
  | .int k a, .int k' b =>
    if k = k' then
      match op with
      | .add => arith k (a + b)
      | .sub => arith k (a - b)
      | .mul => arith k (a * b)
      | .quo => ((arith k (a.tdiv b)).1, (arith k (a.tdiv b)).2 && decide (b ≠ 0))
      | .rem => (.c (.int k (a.tmod b)), decide (b ≠ 0))
      | .eql => (.c (.bool (decide (a = b))), true)
      | .neq => (.c (.bool (!decide (a = b))), true)
      | .lss => (.c (.bool (decide (a < b))), true)
      | .leq => (.c (.bool (decide (a ≤ b))), true)
      | .gtr => (.c (.bool (decide (b < a))), true)
      | .geq => (.c (.bool (decide (b ≤ a))), true)
      | _ => (.any, false)
    else (.any, false)
  | .string s, .string t =>
    match op with
    | .eql => (.c (.bool (decide (s = t))), true)
    | .neq => (.c (.bool (!decide (s = t))), true)
    | .add => (.c (.string (s ++ t)), inR (s.size + t.size : Nat))
    | _ => (.any, false)
  | _, _ => (.any, false)
def simpleEq : Value → Value → Bool × Bool
  | .int k a, .int k' b => (decide (a = b), k == k')
  | .string a, .string b => (decide (a = b), true)
  | .bool a, .bool b => (a == b, true)
  | _, _ => (false, false)
def eqCells : List V → List V → Bool × Bool
  | [], [] => (true, true)
  | .c a :: xs, .c b :: ys => ((simpleEq a b).1 && (eqCells xs ys).1, (simpleEq a b).2 && (eqCells xs ys).2)
  | _, _ => (false, false)

def asI : V → Int × Bool
  | .c (.int _ n) => (n, true)
  | _ => (0, false)
def asB : V → Bool × Bool
  | .c (.bool b) => (b, true)
  | _ => (false, false)
def optI (d : Nat) : Option V → Int × Bool
  | some v => asI v
  | none => (d, true)

def ldA (n : Option Nat) (cs : List V) : V :=
  match n with
  | none => cs.getD 0 .any
  | some n => .agg (cs.take n)
def V.off : V → Nat → V
  | .pp cs, n => .pp (cs.drop n)
  | .ptr j ver i o, n => .ptr j ver i (o + n)
  | _, _ => .any
def Heap.isPtr (h : Heap) : V → Bool
  | .pp _ => true
  | .ptr j ver _ _ => h.cur j ver
  | _ => false

def V.isAgg : V → Bool
  | .agg _ => true
  | _ => false
def V.idx : V → List V → Nat → V
  | .slc _ es, d, n => .pp (es.getD n d)
  | .ref j ver off _, _, n => .ptr j ver (off + n) 0
  | _, _, _ => .any
def Heap.idxOK (h : Heap) (sz : Nat) (x : V) (n : Int) : Bool :=
  match x with
  | .slc s es => s == sz && decide (0 ≤ n ∧ n < es.length)
  | .ref j ver _ len => h.cur j ver && (h.blk j).sz == sz && decide (0 ≤ n ∧ n < len)
  | _ => false
def V.slen : V → Nat
  | .slc _ es => es.length
  | .ref _ _ _ len => len
  | _ => 0
def V.cut : V → Nat → Nat → V
  | .slc s es, l, u => .slc s ((es.drop l).take (u - l))
  | .ref j ver off _, l, u => .ref j ver (off + l) (u - l)
  | .c (.slice none 0 0), _, _ => .c (.slice none 0 0)
  | _, _, _ => .any
def Heap.cutOK (h : Heap) (sz : Nat) : V → Bool
  | .slc s _ => s == sz
  | .ref j ver _ _ => h.cur j ver && (h.blk j).sz == sz
  | .c (.slice none 0 0) => true
  | _ => false

def setPart (cs : List V) : List (Nat × List V) → List V
  | [] => cs
  | (off, vs) :: r => setPart (cs.take off ++ vs ++ cs.drop (off + vs.length)) r

/-- Operations that leave the memory as it is: what they give, and whether they may be taken. -/
def evP (o : O) (ρ : X → V) (h : Heap) : V × Bool :=
  match o with
  | .mov x => (ρ x, true)
  | .load n x => (ldA n (h.cells (ρ x)).1, (h.cells (ρ x)).2 && decide (n.getD 1 ≤ (h.cells (ρ x)).1.length))
  | .chk x => (ρ x, h.isPtr (ρ x) || match ρ x with | .fn _ _ => true | _ => false)
  | .bin op x y => match ρ x, ρ y with | .c a, .c b => binV op a b | _, _ => (.any, false)
  | .eqb neg x y => (.c (.bool (((asB (ρ x)).1 == (asB (ρ y)).1) != neg)), (asB (ρ x)).2 && (asB (ρ y)).2)
  | .eqc neg n x y => (.c (.bool ((eqCells (cellsOf true (ρ x)) (cellsOf true (ρ y))).1 != neg)),
      (eqCells (cellsOf true (ρ x)) (cellsOf true (ρ y))).2 && (cellsOf true (ρ x)).length == n)
  | .eqn neg x => (.c (.bool ((match ρ x with | .c .nilFunc => true | _ => false) != neg)), match ρ x with | .c .nilFunc => true | .fn _ _ => true | _ => false)
  | .un op x => match op, ρ x with
    | .not, .c (.bool b) => (.c (.bool !b), true)
    | .neg, .c (.int k n) => arith k (0 - n)
    | _, _ => (.any, false)
  | .cvi k x => match ρ x with | .c (.int _ n) => (.c (.int k (k.wrap n)), true) | _ => (.any, false)
  | .mkfn f caps => (.fn f (caps.map ρ), true)
  | .slice sz x lo hi =>
    ((ρ x).cut (optI 0 (lo.map ρ)).1.toNat (optI (ρ x).slen (hi.map ρ)).1.toNat,
     h.cutOK sz (ρ x) && (optI 0 (lo.map ρ)).2 && (optI (ρ x).slen (hi.map ρ)).2 && decide (0 ≤ (optI 0 (lo.map ρ)).1 ∧ (optI 0 (lo.map ρ)).1 ≤ (optI (ρ x).slen (hi.map ρ)).1 ∧ (optI (ρ x).slen (hi.map ρ)).1 ≤ (ρ x).slen))
  | .sliceS x lo hi => match ρ x with
    | .c (.string s) =>
      let l := optI 0 (lo.map ρ)
      let u := optI s.size (hi.map ρ)
      (.c (.string (s.extract l.1.toNat u.1.toNat)), l.2 && u.2 && decide (0 ≤ l.1 ∧ l.1 ≤ u.1 ∧ u.1 ≤ s.size))
    | _ => (.any, false)
  | .fieldAddr off x => ((ρ x).off off, h.isPtr (ρ x))
  | .field off n x => (ldA n ((cellsOf true (ρ x)).drop off), (n.isNone || (ρ x).isAgg) && decide (off + n.getD 1 ≤ (cellsOf true (ρ x)).length ∧ 0 < n.getD 1))
  | .idxAddr sz zero x i => ((ρ x).idx (zero.map .c) (asI (ρ i)).1.toNat, (asI (ρ i)).2 && h.idxOK sz (ρ x) (asI (ρ i)).1)
  | .idxAddrA len sz x i =>
    ((ρ x).off ((asI (ρ i)).1.toNat * sz), (asI (ρ i)).2 && decide (0 ≤ (asI (ρ i)).1 ∧ (asI (ρ i)).1 < len) && h.isPtr (ρ x))
  | .idxS x i => match ρ x with
    | .c (.string s) => (.c (.int .u8 ((s.data.toList.getD (asI (ρ i)).1.toNat 0).toNat : Int)), (asI (ρ i)).2 && decide (0 ≤ (asI (ρ i)).1 ∧ (asI (ρ i)).1 < s.data.toList.length))
    | _ => (.any, false)
  | .idxA len sz n x i =>
    (ldA n ((cellsOf true (ρ x)).drop ((asI (ρ i)).1.toNat * sz)),
     (asI (ρ i)).2 && decide (0 ≤ (asI (ρ i)).1 ∧ (asI (ρ i)).1 < len) && (cellsOf true (ρ x)).length == len * sz && (n.isNone || (ρ x).isAgg) && n.getD 1 == sz && decide (0 < sz))
  | .extract x i => match ρ x with
    | .tup vs => (vs.getD i .any, decide (i < vs.length))
    | .c (.tuple vs) => (.c (vs.toList.getD i undef), decide (i < vs.toList.length))
    | _ => (.any, false)
  | .len x =>
    match ρ x with
    | .slc _ es => (.c (.int .i64 es.length), true)
    | .ref j ver _ len => (.c (.int .i64 len), h.cur j ver)
    | .c (.slice _ n _) => (.c (.int .i64 n), true)
    | _ => (.any, false)
  | .lenS x =>
    match ρ x with
    | .c (.string s) => (.c (.int .i64 s.data.toList.length), true)
    | _ => (.any, false)
  | .mm lt x y => match ρ x, ρ y with
    | .c (.int k a), .c (.int k' b) => (.c (.int k (if lt then min a b else max a b)), k == k')
    | _, _ => (.any, false)
  | .cvs x => (ρ x, match ρ x with | .c (.string _) => true | _ => false)
  | .build zero parts =>
    (.agg (setPart (zero.map .c) (parts.map fun p => (p.1, cellsOf p.2.1.isSome (ρ p.2.2)))),
     zero.all (·.oneCell') && parts.all fun p => decide (p.1 + (cellsOf p.2.1.isSome (ρ p.2.2)).length ≤ zero.length) && (cellsOf p.2.1.isSome (ρ p.2.2)).length == p.2.1.getD 1 && decide (0 < p.2.1.getD 1) && (cellsOf p.2.1.isSome (ρ p.2.2)).all h.isOne)
  | _ => (.any, false)

def Heap.alloc (h : Heap) (sz : Nat) (d : List V) (es : List (List V)) : Heap := ⟨h.bs ++ [⟨h.clk, sz, es, false, d⟩], h.clk + 1⟩
def Heap.put (h : Heap) (j : Nat) (B : Blk) : Heap := ⟨h.bs.set j B, h.clk⟩

/-- One element of a slice that is built. -/
def bsAt (agg : Bool) (zero : List Value) (parts : List (Nat × X)) (ρ : X → V) (i : Nat) : List V :=
  match parts.find? (·.1 == i) with
  | some p => cellsOf agg (ρ p.2)
  | none => zero.map .c
/-- Operations that make or write memory. -/
def evE (o : O) (ρ : X → V) (h : Heap) : V × Heap × Bool :=
  match o with
  | .box agg sz x => (.ptr h.bs.length h.clk 0 0, h.alloc sz [] [cellsOf agg (ρ x)], (cellsOf agg (ρ x)).length == sz && decide (0 < sz) && (cellsOf agg (ρ x)).all h.isOne)
  | .bslice agg sz n zero parts =>
    (.ref h.bs.length h.clk 0 n,
     h.alloc sz (zero.map .c) ((List.range n).map (bsAt agg zero parts ρ)),
     decide (0 < sz ∧ n * sz ≤ 16777216) && zero.length == sz && zero.all (·.oneCell') && decide (parts.map (·.1)).Nodup && parts.all fun p => decide (p.1 < n) &&
       (cellsOf agg (ρ p.2)).length == sz && (cellsOf agg (ρ p.2)).all h.isOne)
  | .mkslice sz bytes zero l =>
    (.ref h.bs.length h.clk 0 (asI (ρ l)).1.toNat, h.alloc sz (zero.map .c) (List.replicate (asI (ρ l)).1.toNat (zero.map .c)),
     (asI (ρ l)).2 && decide (0 < sz ∧ 0 ≤ (asI (ρ l)).1 ∧ (asI (ρ l)).1 ≤ 1099511627776 ∧ (asI (ρ l)).1 * bytes ≤ 140737488355328) && zero.length == sz && zero.all (·.oneCell'))
  | .append sz bytes zero x y =>
    match ρ x with
    | .c (.slice none 0 0) =>
      (.ref h.bs.length h.clk 0 (h.view sz (ρ y)).1.length, h.alloc sz (zero.map .c) (h.view sz (ρ y)).1,
       (h.view sz (ρ y)).2 && decide (0 < sz ∧ (h.view sz (ρ y)).1.length ≤ 1099511627776 ∧ (h.view sz (ρ y)).1.length * bytes ≤ 140737488355328))
    | .ref j ver off len =>
      (.ref j h.clk 0 (len + (h.view sz (ρ y)).1.length),
       ⟨h.bs.set j ⟨h.clk, sz, (h.blk j).es.take len ++ (h.view sz (ρ y)).1, false, (h.blk j).d⟩, h.clk + 1⟩,
       (h.view sz (ρ y)).2 && h.cur j ver && !(h.blk j).fz && (h.blk j).sz == sz && off == 0 &&
         decide (0 < sz ∧ len ≤ (h.blk j).es.length ∧ len + (h.view sz (ρ y)).1.length ≤ 1099511627776 ∧ (len + (h.view sz (ρ y)).1.length) * bytes ≤ 140737488355328))
    | _ => (.any, h, false)
  | .store n x v =>
    match ρ x with
    | .ptr j ver i o =>
      (.c undef,
       h.put j ⟨ver, (h.blk j).sz, (h.blk j).es.set i (setPart ((h.blk j).es.getD i (h.blk j).d) [(o, cellsOf n.isSome (ρ v))]), false, (h.blk j).d⟩,
       h.cur j ver && !(h.blk j).fz && decide (i < (h.blk j).es.length) && decide (o + (cellsOf n.isSome (ρ v)).length ≤ (h.blk j).sz) &&
         decide ((cellsOf n.isSome (ρ v)).length = n.getD 1 ∧ 0 < n.getD 1) && (cellsOf n.isSome (ρ v)).all h.isOne)
    | _ => (.any, h, false)
  | .clr sz x =>
    match ρ x with
    | .ref j ver off len =>
      (.c (.tuple #[]), h.put j ⟨ver, (h.blk j).sz, (h.blk j).es.take off, false, (h.blk j).d⟩,
       h.cur j ver && !(h.blk j).fz && (h.blk j).sz == sz && decide (0 < len ∧ 0 < sz ∧ off + len ≤ (h.blk j).es.length))
    | _ => (.any, h, false)
  | _ => (.any, h, false)

/-- Is it an operation that leaves memory as it is? -/
def O.still : O → Bool
  | .box .. | .bslice .. | .mkslice .. | .append .. | .store .. | .clr .. | .call .. | .callv .. => false
  | _ => true
def O.calls : O → Bool
  | .call .. | .callv .. => true
  | _ => false
def O.xs : O → List X
  | .mov x | .box _ _ x | .load _ x | .chk x | .eqn _ x | .un _ x | .cvi _ x | .cvs x | .mkslice _ _ _ x | .fieldAddr _ x | .field _ _ x | .extract x _ | .len x | .lenS x | .clr _ x => [x]
  | .build _ ps => ps.map (·.2.2)
  | .bslice _ _ _ _ ps => ps.map (·.2)
  | .store _ x y | .bin _ x y | .eqb _ x y | .eqc _ _ x y | .idxAddr _ _ x y | .idxAddrA _ _ x y | .idxS x y | .idxA _ _ _ x y | .append _ _ _ x y | .mm _ x y => [x, y]
  | .mkfn _ xs | .call _ xs => xs
  | .callv x xs => x :: xs
  | .slice _ x lo hi | .sliceS x lo hi | .sliceA _ _ x lo hi => x :: (lo.toList ++ hi.toList)
/-- '&&', '||': the one, or the other. -/
def evPick (ρ : X → V) (c a b : X) : V × Bool :=
  (.c (.bool (cond (asB (ρ c).un).1 (asB (ρ a).un).1 (asB (ρ b).un).1)),
   (ρ c).gok && (asB (ρ c).un).2 && cond (asB (ρ c).un).1 ((ρ a).gok && (asB (ρ a).un).2) ((ρ b).gok && (asB (ρ b).un).2))
end Go.Sx
