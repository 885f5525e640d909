/- The document's raster: Image. -/
import Derived.Test.YtccldalagbfmhaaGreatRasBytes
import Derived.Test.YtccldalagbfmhaaGreatRas
import Derived.Lib.ConvBytes
namespace Go.Proofs.YtccldalagbfmhaaGreat
open Go.RowKit
set_option linter.unusedVariables false
set_option linter.unusedSimpArgs false

/-- []byte(a text): one operation -/
theorem oper_convert_text {o : Oper} {a : Act} {w : World} {K : Act → World → Prop} {Q : Exit → Act → World → Prop}
    (x : Operand) (ho : o.op = .convert 9 27 x) (l : List UInt8) (hx : a.eval x = .string (strOf l))
    (h : ∀ c w', BytesAt w' (some ⟨w.heap.size, 0, none⟩) l.length l → Below w.heap.size w w' → K (a.put o.dst (.slice (some ⟨w.heap.size, 0, none⟩) l.length c)) w') : Oper.wp Tryz.prog o a w K Q := by
  have hr := Go.Lib.run_convert_string_bytes (P := Tryz.prog) w 9 27 5 (strOf l) Tryz.underlying9 Tryz.underlying27 Tryz.underlying5
  have hz : (strOf l).size = l.length := by rw [size_list', strOf_data]
  unfold Oper.wp
  simp only [execOp, ho, hx, Sem.run_bind, Sem.run_pure, Result.andThen_ok, hr]
  rw [hz]
  refine h _ _ ⟨rfl, .inr ⟨_, _, rfl, fun j hj => ?_⟩⟩ ⟨rfl, rfl, rfl, by rw [Go.Lib.bytesWorld_size]; omega, fun k hk => Go.Lib.bytesWorld_at_old _ _ _ k hk⟩
  rw [Nat.zero_add, Go.Lib.bytesWorld_cell _ _ _ j (by rw [hz]; exact hj), strOf_data, List.getD_eq_getElem?_getD, List.getElem?_eq_getElem hj]
  rfl
theorem BytesAt.far {w : World} {b off n k i : Nat} {u : Value} {l : List UInt8} (h : BytesAt w (some ⟨b, off, none⟩) n l) (hk : b ≠ k) : BytesAt (w.setCell ⟨k, i, none⟩ u) (some ⟨b, off, none⟩) n l := by
  obtain ⟨h1, h0 | ⟨b', off', e, hc⟩⟩ := h
  · exact ⟨h1, .inl h0⟩
  · simp only [Option.some.injEq, Addr.mk.injEq] at e
    obtain ⟨rfl, rfl, _⟩ := e
    exact ⟨h1, .inr ⟨b, off, rfl, fun j hj => (World.cell?_of_block (Below.heap_setCell w ⟨k, i, none⟩ u b hk)).trans (hc j hj)⟩⟩
end Go.Proofs.YtccldalagbfmhaaGreat
