/- palette.far, Nearest, the reference's Far, and the walk of PaletteNearest. -/
import Derived.Test.YtkaijekdnbhjaaaPaletteW
import Derived.Test.YtkaijekdnbhjaaaNearLaw
namespace Go.Proofs.Ytkaijekdnbhjaaa
open Go.RowKit
set_option linter.unusedVariables false

def colV (c : Col) : Value := .agg #[.int .u8 c.r, .int .u8 c.g, .int .u8 c.b, .int .u8 c.a]

/-- the distance's parts, one behind the other -/
def fsum (x y : Col) : Nat → Int
  | 0 => 0
  | 1 => sq (x.r - y.r)
  | 2 => sq (x.r - y.r) + sq (x.g - y.g)
  | 3 => sq (x.r - y.r) + sq (x.g - y.g) + sq (x.b - y.b)
  | _ => cdist x y
/-- the slice's elements: n colours at an address, four cells each -/
structure IsCols (w : World) (b off n : Nat) (cl : List Col) : Prop where
  len : cl.length = n
  ok : ∀ i, i < n → (cl.getD i nocol).ok
  cr : ∀ i, i < n → w.cell? ⟨b, off + i * 4, none⟩ = some (.int .u8 (cl.getD i nocol).r)
  cg : ∀ i, i < n → w.cell? ⟨b, off + i * 4 + 1, none⟩ = some (.int .u8 (cl.getD i nocol).g)
  cb : ∀ i, i < n → w.cell? ⟨b, off + i * 4 + 2, none⟩ = some (.int .u8 (cl.getD i nocol).b)
  ca : ∀ i, i < n → w.cell? ⟨b, off + i * 4 + 3, none⟩ = some (.int .u8 (cl.getD i nocol).a)

/-- what is known of an argument that is a slice of colours -/
def SliceCols (w : World) (A : Option Addr) (n : Nat) (cl : List Col) : Prop := n = 0 ∨ ∃ b off, A = some ⟨b, off, none⟩ ∧ IsCols w b off n cl

end Go.Proofs.Ytkaijekdnbhjaaa
