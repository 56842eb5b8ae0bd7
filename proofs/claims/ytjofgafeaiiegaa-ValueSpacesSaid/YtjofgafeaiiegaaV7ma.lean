/- Layer 7: an item, by the document: its end. -/
import Derived.Test.YtjofgafeaiiegaaV7l
import Derived.Test.YtjofgafeaiiegaaGc
namespace Go.Proofs.Ytjofgafeaiiegaa
open Go.Sx
set_option linter.unusedSimpArgs false
set_option maxHeartbeats 4000000
set_option maxRecDepth 20000

structure AtS where
  S : Sum Try.prog
  hf : S.f = 42
  hfl : S.flat = true
  hD : ∀ u, S.D [.slc 1 [[.c (.string ⟨#[102, 105, 114, 115, 116]⟩)], [.c (.string ⟨#[115, 116, 97, 114, 116]⟩)], [.c (.string ⟨#[108, 97, 115, 116]⟩)], [.c (.string ⟨#[102, 105, 114, 115, 116, 45, 101, 120, 99, 101, 112, 116]⟩)]], .c (.string u)]
  hr : ∀ u, S.r [.slc 1 [[.c (.string ⟨#[102, 105, 114, 115, 116]⟩)], [.c (.string ⟨#[115, 116, 97, 114, 116]⟩)], [.c (.string ⟨#[108, 97, 115, 116]⟩)], [.c (.string ⟨#[102, 105, 114, 115, 116, 45, 101, 120, 99, 101, 112, 116]⟩)]], .c (.string u)] = vi (ixS whs u)
structure TlE (e : Nat → V) (M : List Pa) (n : Int) (v : Nat) : Prop where
  a : e 2 = .ptr 1 1 0 0
  b : e 4 = .ptr 2 2 0 0
  c : e 5 = .slc 4 (M.map Pa.enc)
  d : e 7 = .ptr 3 v 0 0
  f : e 9 = vi n
end Go.Proofs.Ytjofgafeaiiegaa
