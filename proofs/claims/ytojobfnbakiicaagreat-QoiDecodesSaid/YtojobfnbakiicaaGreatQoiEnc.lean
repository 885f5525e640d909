/- Plain: a qoi file, as it is written; how long it is for one colour. -/
import Derived.Test.YtojobfnbakiicaaGreatQoiD
import Derived.Test.YtojobfnbakiicaaGreatQoiLaw
namespace Go.Proofs.YtojobfnbakiicaaGreat
set_option linter.unusedVariables false

/-- what a writing keeps between two pixels -/
structure QE where
  run : Nat
  last : Qc
  seen : List Qc
  out : List UInt8
def QE.step (x : QE) (c : Qc) : QE :=
  if c = x.last then
    if x.run + 1 = 62 then ⟨0, c, x.seen.set (qplace c) c, flushL 62 x.out⟩ else ⟨x.run + 1, c, x.seen.set (qplace c) c, x.out⟩
  else ⟨0, c, x.seen.set (qplace c) c, flushL x.run x.out ++ wstep x.last x.seen c⟩
def QE.all (x : QE) (L : List Qc) : QE := L.foldl QE.step x
theorem QE.all_append (x : QE) (L M : List Qc) : x.all (L ++ M) = (x.all L).all M := List.foldl_append
def qW : List UInt8 := [113, 111, 105, 102]
def qoiHd (W H : Nat) : List UInt8 := [113, 111, 105, 102, 0, 0, 0, UInt8.ofNat W, 0, 0, 0, UInt8.ofNat H, 4, 0]
def qend : List UInt8 := [0, 0, 0, 0, 0, 0, 0, 1]
def qe0 (W H : Nat) : QE := ⟨0, q255, qseen, qoiHd W H⟩
/-- a small image's file -/
def qoiFile (W H : Nat) (L : List Qc) : List UInt8 := flushL ((qe0 W H).all L).run ((qe0 W H).all L).out ++ qend

theorem flushL_len (n : Nat) (l : List UInt8) : (flushL n l).length = l.length + (if n = 0 then 0 else 1) := by
  unfold flushL
  split
  · simp
  · simp
theorem wstep_len (last : Qc) (seen : List Qc) (c : Qc) : (wstep last seen c).length ≤ 5 := by
  unfold wstep
  split
  · simp
  · split
    · simp
    · simp only
      split
      · simp
      · split
        · simp
        · simp
structure QE.Ok (x : QE) : Prop where
  run : x.run < 62
  seen : x.seen.length = 64
theorem QE.Ok.step {x : QE} (h : x.Ok) (c : Qc) : (x.step c).Ok := by
  unfold QE.step
  have := h.run
  split
  · split
    · exact ⟨by simp, by simp [h.seen]⟩
    · exact ⟨by simp only; omega, by simp [h.seen]⟩
  · exact ⟨by simp, by simp [h.seen]⟩
theorem QE.Ok.all {x : QE} (h : x.Ok) (L : List Qc) : (x.all L).Ok := by
  induction L generalizing x with
  | nil => exact h
  | cons c L ih => exact ih (h.step c)
theorem qe0_ok (W H : Nat) : (qe0 W H).Ok := ⟨show (0 : Nat) < 62 by decide, by simp [qe0, qseen]⟩
theorem QE.step_len (x : QE) (c : Qc) : (x.step c).out.length ≤ x.out.length + 6 := by
  unfold QE.step
  split
  · split
    · simp only [flushL_len]; simp
    · simp
  · have := wstep_len x.last x.seen c
    have h2 := flushL_len x.run x.out
    simp only [List.length_append]
    split at h2 <;> omega
theorem QE.all_len (x : QE) (L : List Qc) : (x.all L).out.length ≤ x.out.length + 6 * L.length := by
  induction L generalizing x with
  | nil => simp [QE.all]
  | cons c L ih =>
    have h1 := ih (x := x.step c)
    have h2 := x.step_len c
    simp only [QE.all, List.foldl_cons, List.length_cons] at h1 ⊢
    omega
theorem qoiFile_len (W H : Nat) (L : List Qc) : (qoiFile W H L).length ≤ 23 + 6 * L.length := by
  have h1 := (qe0 W H).all_len L
  have h2 := flushL_len ((qe0 W H).all L).run ((qe0 W H).all L).out
  have h3 : (qe0 W H).out.length = 14 := rfl
  unfold qoiFile
  rw [List.length_append]
  have h4 : qend.length = 8 := rfl
  split at h2 <;> omega
/-- a run of the last colour -/
theorem QE.rep (n : Nat) : ∀ x : QE, x.run < 62 → (x.all (List.replicate n x.last)).out.length = x.out.length + (x.run + n) / 62 ∧ (x.all (List.replicate n x.last)).run = (x.run + n) % 62 := by
  induction n with
  | zero => intro x h; simp only [List.replicate_zero, QE.all, List.foldl_nil]; omega
  | succ n ih =>
    intro x h
    rw [List.replicate_succ]
    show ((x.step x.last).all (List.replicate n x.last)).out.length = _ ∧ ((x.step x.last).all (List.replicate n x.last)).run = _
    by_cases h2 : x.run + 1 = 62
    · have e : x.step x.last = ⟨0, x.last, x.seen.set (qplace x.last) x.last, flushL 62 x.out⟩ := by unfold QE.step; rw [if_pos rfl, if_pos h2]
      have := ih (x.step x.last) (by rw [e]; show (0 : Nat) < 62; decide)
      rw [e] at this ⊢
      simp only [flushL_len] at this
      (try simp only at this ⊢)
      have h3 : ¬ (62 : Nat) = 0 := by decide
      rw [if_neg h3] at this
      omega
    · have e : x.step x.last = ⟨x.run + 1, x.last, x.seen.set (qplace x.last) x.last, x.out⟩ := by unfold QE.step; rw [if_pos rfl, if_neg h2]
      have := ih (x.step x.last) (by rw [e]; simp only; omega)
      rw [e] at this ⊢
      simp only at this ⊢
      omega
theorem qoiShort_len {W H n : Nat} (c : Qc) : (qoiFile W H (List.replicate n c)).length ≤ 22 + 5 + (n + 61) / 62 := by
  unfold qoiFile
  rw [List.length_append, flushL_len]
  have h4 : qend.length = 8 := rfl
  rw [h4]
  have h3 : (qe0 W H).out.length = 14 := rfl
  by_cases hc : c = q255
  · subst hc
    have := QE.rep n (qe0 W H) (show (0 : Nat) < 62 by decide)
    have e1 : (qe0 W H).last = q255 := rfl
    have e2 : (qe0 W H).run = 0 := rfl
    rw [e1, e2, h3] at this
    rw [this.1, this.2]
    split <;> omega
  · cases n with
    | zero => simp only [List.replicate_zero, QE.all, List.foldl_nil]; rw [h3]; simp [qe0]
    | succ n =>
      rw [List.replicate_succ]
      show (((qe0 W H).step c).all (List.replicate n c)).out.length + (if (((qe0 W H).step c).all (List.replicate n c)).run = 0 then 0 else 1) + 8 ≤ _
      have e : (qe0 W H).step c = ⟨0, c, qseen.set (qplace c) c, flushL 0 (qoiHd W H) ++ wstep q255 qseen c⟩ := by unfold QE.step; rw [if_neg (show ¬ c = (qe0 W H).last from hc)]; rfl
      have := QE.rep n ((qe0 W H).step c) (by rw [e]; show (0 : Nat) < 62; decide)
      have hw := wstep_len q255 qseen c
      rw [e] at this ⊢
      simp only at this
      rw [this.1, this.2, List.length_append]
      have h5 : (flushL 0 (qoiHd W H)).length = 14 := rfl
      rw [h5]
      split <;> omega
end Go.Proofs.YtojobfnbakiicaaGreat
