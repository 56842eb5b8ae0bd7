/- Layer 7: items of content lists, plainly. -/
import Derived.Test.YtjofgafeaiiegaaV7f
namespace Go.Proofs.Ytjofgafeaiiegaa
open Go.Sx
set_option linter.unusedSimpArgs false
set_option maxHeartbeats 4000000
set_option maxRecDepth 20000

structure Itm where
  kind : Int
  text : ByteArray
  name : ByteArray
  style : Int
  which : Int
instance : Inhabited Itm := ⟨⟨0, ⟨#[]⟩, ⟨#[]⟩, 0, 0⟩⟩
def Itm.zero : Itm := ⟨0, ⟨#[]⟩, ⟨#[]⟩, 0, 0⟩
def Itm.enc (x : Itm) : List V := [vi x.kind, vs x.text, vs x.name, vi x.style, vi x.which]
def itms (l : List Itm) : V := .slc 5 (l.map Itm.enc)
def dItmL (e : List V) : Itm := ⟨(e.getD 0 .any).int, (e.getD 1 .any).str, (e.getD 2 .any).str, (e.getD 3 .any).int, (e.getD 4 .any).int⟩
def dItm (v : V) : Itm := dItmL v.cs
def dItms (v : V) : List Itm := v.es.map dItmL
theorem dItm_mk (a d e : Int) (b c : ByteArray) : dItm (.agg [.c (.int .i64 a), .c (.string b), .c (.string c), .c (.int .i64 d), .c (.int .i64 e)]) = ⟨a, b, c, d, e⟩ := rfl
theorem dItms_map (sz : Nat) (l : List Itm) : dItms (.slc sz (l.map Itm.enc)) = l := by
  simp only [dItms, V.es, List.map_map]
  conv => rhs; rw [← List.map_id l]
  apply List.map_congr_left
  intro s _
  rfl
theorem Itm.eta' (x : Itm) : (⟨x.kind, x.text, x.name, x.style, x.which⟩ : Itm) = x := rfl
theorem getD_itms (l : List Itm) (i : Nat) : (l.map Itm.enc).getD i [vi 0, vs ⟨#[]⟩, vs ⟨#[]⟩, vi 0, vi 0] = (l.getD i default).enc := by
  by_cases h : i < l.length
  · simp [List.getD_eq_getElem?_getD, h]
  · simp [List.getD_eq_getElem?_getD, h]; rfl
theorem mapO_itms11 (S : Nat → Bool) (h : Heap) (l : List Itm) : mapO (mapO (res S h 11)) (l.map Itm.enc) = some (l.map Itm.enc) := mapO_flat S h 10 _ (fun _ => rfl) l
theorem mapO_itms10 (S : Nat → Bool) (h : Heap) (l : List Itm) : mapO (mapO (res S h 10)) (l.map Itm.enc) = some (l.map Itm.enc) := mapO_flat S h 9 _ (fun _ => rfl) l

/-! ### Arguments between commas -/
def altB : Nat → List Pa → Bool
  | _, [] => true
  | i, p :: l => (decide (i % 2 = 1) == decide (p.t.kind = 16)) && altB (i + 1) l
def evn : Nat → List Pa → List Pa
  | _, [] => []
  | i, p :: l => if i % 2 = 0 then p :: evn (i + 1) l else evn (i + 1) l
def argsB (p : Pa) : Bool := ptB p.al && decide ((pl p.al).length % 2 = 1) && altB 0 (pl p.al)
def argsA (p : Pa) : List Pa := evn 0 (pl p.al)
theorem evn_mem : ∀ (l : List Pa) (i : Nat), ∀ x ∈ evn i l, x ∈ l
  | [], i, x, h => by simp [evn] at h
  | p :: l, i, x, h => by
    simp only [evn] at h
    split at h
    · rcases List.mem_cons.1 h with rfl | h
      · simp
      · exact List.mem_cons_of_mem _ (evn_mem l _ x h)
    · exact List.mem_cons_of_mem _ (evn_mem l _ x h)
/-! ### Items -/
def wordCounter : ByteArray := ⟨#[99, 111, 117, 110, 116, 101, 114]⟩
def wordCounters : ByteArray := ⟨#[99, 111, 117, 110, 116, 101, 114, 115]⟩
def wordString : ByteArray := ⟨#[115, 116, 114, 105, 110, 103]⟩
def wordElement : ByteArray := ⟨#[101, 108, 101, 109, 101, 110, 116]⟩
def wordAttr : ByteArray := ⟨#[97, 116, 116, 114]⟩
def wordContent : ByteArray := ⟨#[99, 111, 110, 116, 101, 110, 116]⟩
def whs : List ByteArray := [⟨#[102, 105, 114, 115, 116]⟩, ⟨#[115, 116, 97, 114, 116]⟩, ⟨#[108, 97, 115, 116]⟩, ⟨#[102, 105, 114, 115, 116, 45, 101, 120, 99, 101, 112, 116]⟩]
def whN (s : ByteArray) : Int := ixS (⟨#[]⟩ :: whs) (lowB s)
def whR (s : ByteArray) : Int := ixS whs (lowB s) + 1
def stV (x : Itm) : List Pa → Itm × Bool
  | [] => (x, true)
  | q :: r => (⟨x.kind, x.text, x.name, styN q.t.text, x.which⟩, decide (r = []) && decide (q.t.kind = 2) && decide (0 ≤ styN q.t.text))
def chV (x : Itm) : List Pa → Itm × Bool
  | [] => (⟨x.kind, x.text, x.name, x.style, 1⟩, true)
  | q :: r => (⟨x.kind, x.text, x.name, x.style, whN q.t.text⟩, decide (r = []) && decide (q.t.kind = 2) && decide (0 < whN q.t.text))
end Go.Proofs.Ytjofgafeaiiegaa
