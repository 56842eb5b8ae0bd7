/- Layer 10: which node a simple selector is about. -/
import Derived.Test.YtlcblcjpebabkaaM10b
namespace Go.Proofs.Ytlcblcjpebabkaa
open Go.Sx
set_option linter.unusedSimpArgs false
set_option maxHeartbeats 4000000
set_option maxRecDepth 20000

def dPr (v : V) : ByteArray × ByteArray := ((v.cs.getD 0 .any).str, (v.cs.getD 1 .any).str)
def dSms (v : V) : List Smp := v.es.map dSmp
theorem dSms_map (sz : Nat) (l : List Smp) : dSms (.slc sz (l.map Smp.enc)) = l := dSmps sz l
theorem dPr_mk (a b : ByteArray) : dPr (.agg [.c (.string a), .c (.string b)]) = (a, b) := rfl
def ixA (s : Smp) (l : List (ByteArray × ByteArray)) : Int := fst (fun i => decide ((l.getD i (⟨#[]⟩, ⟨#[]⟩)).1 = s.text)) (l.length - 0) 0
def hasA (s : Smp) (l : List (ByteArray × ByteArray)) : Bool := decide (0 ≤ ixA s l)
def simB (n : Node) (s : Smp) : Bool := if s.kind = 1 then true else if s.kind = 2 then decide (n.type = s.text) else if s.kind = 3 then decide (n.id = s.text) else if s.kind = 4 then hasS n.cls s.text else hasA s n.attrs && (decide (s.kind = 5) || decide (attrV s.text n.attrs = s.val))
def okN (n : Node) : Prop := n.cls.length ≤ 1000000 ∧ n.attrs.length ≤ 1000000
theorem dNode_mkp (a : Int) (b c : ByteArray) (d : List ByteArray) (e : List (ByteArray × ByteArray)) (f : ByteArray) :
    dNode (.pp [.c (.int .i64 a), .c (.string b), .c (.string c), .slc 1 (d.map fun s => [vs s]), .slc 2 (e.map fun p => [vs p.1, vs p.2]), .c (.string f)]) = ⟨a, b, c, d, e, f⟩ := dNodeL_enc ⟨a, b, c, d, e, f⟩
theorem res_slc10 (S : Nat → Bool) (h : Heap) (sz : Nat) (es : List (List V)) : res S h 10 (.slc sz es) = some (.slc sz es) := rfl
def ixC (n : Node) (l : List Smp) : Int := fst (fun i => !simB n (l.getD i default)) (l.length - 0) 0
def oneB (n : Node) (c : Cmp) : Bool := !decide (n.type = ⟨#[]⟩) && !decide (0 ≤ ixC n c.l)
end Go.Proofs.Ytlcblcjpebabkaa
