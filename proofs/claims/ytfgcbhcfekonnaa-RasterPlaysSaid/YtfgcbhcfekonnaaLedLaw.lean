/- Plain: a ledger's counts, and its calls. -/
namespace Go.Proofs.Ytfgcbhcfekonnaa
set_option linter.unusedVariables false

structure Led where
  W : Int
  H : Int
  B : Int
  S : Int
  bytes : Int
  peak : Int
  steps : Int
  reason : Int
  asked : Int
def nought (v : Int) : Int := if v < 0 then 0 else v
def Led.new (w h b s : Int) : Led := ⟨nought w, nought h, nought b, nought s, 0, 0, 0, 0, 0⟩
def Led.refused (x : Led) (r a : Int) : Led := { x with reason := r, asked := a }
def Led.sides (x : Led) (w h : Int) : Led × Bool :=
  if x.reason ≠ 0 then (x, false) else if w < 1 ∨ x.W < w then (x.refused 1 w, false) else if h < 1 ∨ x.H < h then (x.refused 1 h, false) else (x, true)
def Led.take (x : Led) (n : Int) : Led × Bool :=
  if x.reason ≠ 0 then (x, false) else if n < 0 ∨ x.B - x.bytes < n then (x.refused 2 n, false) else ({ x with bytes := x.bytes + n, peak := if x.peak < x.bytes + n then x.bytes + n else x.peak }, true)
def Led.give (x : Led) (n : Int) : Led × Bool :=
  if n < 0 ∨ x.bytes < n then (x, false) else ({ x with bytes := x.bytes - n }, true)
def Led.work (x : Led) (n : Int) : Led × Bool :=
  if x.reason ≠ 0 then (x, false) else if n < 0 ∨ x.S - x.steps < n then (x.refused 3 n, false) else ({ x with steps := x.steps + n }, true)

/-- what holds of every ledger that its own calls made -/
structure Led.Ok (x : Led) : Prop where
  w0 : 0 ≤ x.W
  w1 : x.W ≤ 9223372036854775807
  h0 : 0 ≤ x.H
  h1 : x.H ≤ 9223372036854775807
  b1 : x.B ≤ 9223372036854775807
  s1 : x.S ≤ 9223372036854775807
  y0 : 0 ≤ x.bytes
  y1 : x.bytes ≤ x.B
  p0 : x.bytes ≤ x.peak
  p1 : x.peak ≤ x.B
  t0 : 0 ≤ x.steps
  t1 : x.steps ≤ x.S

theorem nought_range {v : Int} (h : v ≤ 9223372036854775807) : 0 ≤ nought v ∧ nought v ≤ 9223372036854775807 := by unfold nought; split <;> omega
theorem Led.ok_new {w h b s : Int} (hw : w ≤ 9223372036854775807) (hh : h ≤ 9223372036854775807) (hb : b ≤ 9223372036854775807) (hs : s ≤ 9223372036854775807) : (Led.new w h b s).Ok := by
  have a := nought_range hw
  have b' := nought_range hh
  have c := nought_range hb
  have d := nought_range hs
  exact ⟨a.1, a.2, b'.1, b'.2, c.2, d.2, Int.le_refl _, c.1, Int.le_refl _, c.1, Int.le_refl _, d.1⟩
theorem Led.Ok.refused {x : Led} (h : x.Ok) (r a : Int) : (x.refused r a).Ok := ⟨h.w0, h.w1, h.h0, h.h1, h.b1, h.s1, h.y0, h.y1, h.p0, h.p1, h.t0, h.t1⟩
theorem Led.Ok.sides {x : Led} (h : x.Ok) (a b : Int) : (x.sides a b).1.Ok := by
  unfold Led.sides
  split
  · exact h
  · split
    · exact h.refused _ _
    · split
      · exact h.refused _ _
      · exact h
theorem Led.Ok.take {x : Led} (h : x.Ok) (n : Int) : (x.take n).1.Ok := by
  unfold Led.take
  split
  · exact h
  · split
    · exact h.refused _ _
    · obtain ⟨a, b, c, d, e, f, g, i, j, k, l, m⟩ := h
      refine ⟨a, b, c, d, e, f, ?_, ?_, ?_, ?_, l, m⟩ <;> simp only <;> (try split) <;> omega
theorem Led.Ok.give {x : Led} (h : x.Ok) (n : Int) : (x.give n).1.Ok := by
  unfold Led.give
  split
  · exact h
  · obtain ⟨a, b, c, d, e, f, g, i, j, k, l, m⟩ := h
    refine ⟨a, b, c, d, e, f, ?_, ?_, ?_, ?_, l, m⟩ <;> simp only <;> omega
theorem Led.Ok.work {x : Led} (h : x.Ok) (n : Int) : (x.work n).1.Ok := by
  unfold Led.work
  split
  · exact h
  · split
    · exact h.refused _ _
    · obtain ⟨a, b, c, d, e, f, g, i, j, k, l, m⟩ := h
      refine ⟨a, b, c, d, e, f, g, i, j, k, ?_, ?_⟩ <;> simp only <;> omega
end Go.Proofs.Ytfgcbhcfekonnaa
