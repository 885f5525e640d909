/- pcx: a row's packets are read. -/
import Derived.Test.YtccldalagbfmhaaGreatPcxA
import Derived.Test.YtccldalagbfmhaaGreatWays
import Derived.Test.YtccldalagbfmhaaGreatBuf
namespace Go.Proofs.YtccldalagbfmhaaGreat
open Go.RowKit
set_option linter.unusedVariables false
set_option linter.unusedSimpArgs false

def pFlt (k : Nat) (a : Nat) : Value := .agg #[.int .i64 (k : Int), .int .i64 7, .int .i64 (a : Int)]
def pFlt0 : Value := .agg #[.int .i64 0, .int .i64 0, .int .i64 0]
def pb8 (R : List Nat) : List UInt8 := R.map UInt8.ofNat
theorem pb8_len (R : List Nat) : (pb8 R).length = R.length := by simp [pb8]
/-- what the packets of a row leave -/
def UnpPost (w w' : World) (p g b d fr : Nat) (s : ByteArray) (te a N : Nat) (y : Led) (e : Ending) : Prop :=
  ∃ y' l', LedAt w' g y' ∧ y'.Ok ∧ y'.bytes = y.bytes ∧ Turn [p, g, d] w w' ∧ BufAt w' b g d l' ∧ l'.length = N ∧
    ((∃ kk aa : Nat, kk ≠ 0 ∧ e = .returned (pFlt kk aa) ∧ ∀ z k, (pcxUnp s te z N N a [] k).run y = ((y'.give (z : Int)).1, .bad kk aa)) ∨
     (∃ (a' : Nat) (R : List Nat), e = .returned pFlt0 ∧ a ≤ a' ∧ a' ≤ te ∧ R.length = N ∧ (∀ v ∈ R, v < 256) ∧ l' = pb8 R ∧ y'.reason = 0 ∧ SrcAt w' p g s fr te a' ∧ ∀ z k, (pcxUnp s te z N N a [] k).run y = (k a' R).run y'))
/-- what holds between two packets -/
structure UnpI (w0 w : World) (p g b d f fr : Nat) (s : ByteArray) (te a N : Nat) (R : List Nat) (y0 y : Led) : Prop where
  S : SrcAt w p g s fr te a
  L : LedAt w g y
  B : ∃ q, BufAt w b g d (pb8 R ++ q) ∧ R.length + q.length = N
  F : FB w f 0 0 0
  T : Turn [p, g, d] w0 w
  nf : w0.heap.size ≤ f
  ok : SrcOk s fr te a
  yok : y.Ok
  yr : y.reason = 0
  yb : y.bytes = y0.bytes
  lt : ∀ v ∈ R, v < 256
section
variable {w0 w w' : World} {p g b d f fr te a a' N : Nat} {s : ByteArray} {R : List Nat} {y0 y y' : Led}
theorem UnpI.nf2 (I : UnpI w0 w p g b d f fr s te a N R y0 y) : f ∉ [p, g] := by
  simp only [List.mem_cons, List.not_mem_nil, or_false, not_or]
  exact ⟨Blk.ne_ I.F I.S (by decide), Blk.ne_ I.F I.L (by decide)⟩
theorem UnpI.read (I : UnpI w0 w p g b d f fr s te a N R y0 y) (k : Turn [p, g] w w') (S' : SrcAt w' p g s fr te a') (L' : LedAt w' g y') (ha : SrcOk s fr te a') (yok' : y'.Ok) (yr' : y'.reason = 0) (yb' : y'.bytes = y.bytes) : UnpI w0 w' p g b d f fr s te a' N R y0 y' := by
  obtain ⟨q, hB, hq⟩ := I.B
  refine ⟨S', L', ⟨q, hB.turn k ?_ ?_, hq⟩, I.F.turn k I.nf2, I.T.trans (k.mono (by simp)), I.nf, ha, yok', yr', yb'.trans I.yb, I.lt⟩
  · simp only [List.mem_cons, List.not_mem_nil, or_false, not_or]; exact ⟨Blk.ne_ hB.blk I.S (by decide), Blk.ne_ hB.blk I.L (by decide)⟩
  · simp only [List.mem_cons, List.not_mem_nil, or_false, not_or]; exact ⟨Blk.ne_ hB.row I.S (by decide), Blk.ne_ hB.row I.L (by decide)⟩
theorem UnpI.below (I : UnpI w0 w p g b d f fr s te a N R y0 y) (k : Below w.heap.size w w') : UnpI w0 w' p g b d f fr s te a N R y0 y := by
  obtain ⟨q, hB, hq⟩ := I.B
  exact ⟨Blk.below I.S k (Blk.lt I.S), Blk.below I.L k (Blk.lt I.L), ⟨q, ⟨Blk.below hB.blk k (Blk.lt hB.blk), Blk.below hB.row k (Blk.lt hB.row)⟩, hq⟩, I.F.below k, I.T.trans (Turn.of_below k), I.nf, I.ok, I.yok, I.yr, I.yb, I.lt⟩
/-- a fault's end -/
theorem UnpI.no {kk aa : Nat} (I : UnpI w0 w p g b d f fr s te a N R y0 y) (hw : Turn [p, g] w w') (L' : LedAt w' g y') (F' : FB w' f 0 0 0) (yok' : y'.Ok) (yb' : y'.bytes = y.bytes) (hk : kk ≠ 0) {u0 u1 u2 : Value} {e : Ending} (he : e = .returned (pFlt kk aa))
    {a0 : Nat} (hr : ∀ z k, (pcxUnp s te z N N a0 [] k).run y0 = ((y'.give (z : Int)).1, .bad kk aa)) : UnpPost w0 (st3 w' f u0 u1 u2) p g b d fr s te a0 N y0 e := by
  obtain ⟨q, hB, hq⟩ := I.B
  have B' : BufAt w' b g d (pb8 R ++ q) := hB.turn hw (by simp only [List.mem_cons, List.not_mem_nil, or_false, not_or]; exact ⟨Blk.ne_ hB.blk I.S (by decide), Blk.ne_ hB.blk I.L (by decide)⟩) (by simp only [List.mem_cons, List.not_mem_nil, or_false, not_or]; exact ⟨Blk.ne_ hB.row I.S (by decide), Blk.ne_ hB.row I.L (by decide)⟩)
  exact ⟨y', _, Blk.st3 L' (Blk.ne_ L' F' (by decide)), yok', yb'.trans I.yb, Turn.st3 (I.T.trans (hw.mono (by simp))) (.inr I.nf), ⟨Blk.st3 B'.blk (Blk.ne_ B'.blk F' (by decide)), Blk.st3 B'.row (Blk.ne_ B'.row F' (by decide))⟩, by rw [List.length_append, pb8_len, hq], .inl ⟨kk, aa, hk, he, hr⟩⟩
theorem UnpI.fill (I : UnpI w0 w p g b d f fr s te a N R y0 y) {c v : Nat} (hv : v < 256) (hc : c ≤ N - R.length) {q : List UInt8} (hB : BufAt w b g d (pb8 R ++ q)) (k : Turn [d] w w') (hB' : BufAt w' b g d (over (pb8 R ++ q) R.length (List.replicate c (UInt8.ofNat v)))) (hq : R.length + q.length = N) : UnpI w0 w' p g b d f fr s te a N (R ++ List.replicate c v) y0 y := by
  have e : over (pb8 R ++ q) R.length (List.replicate c (UInt8.ofNat v)) = pb8 (R ++ List.replicate c v) ++ q.drop c := by
    have hl := pb8_len R
    unfold over
    rw [List.length_replicate, List.take_append_of_le_length (by omega), List.take_of_length_le (by omega), List.drop_append, List.drop_eq_nil_of_le (by omega), hl]
    simp [pb8]
  rw [e] at hB'
  refine ⟨Blk.turn I.S k ?_, Blk.turn I.L k ?_, ⟨_, hB', ?_⟩, I.F.turn k ?_, I.T.trans (k.mono (by simp)), I.nf, I.ok, I.yok, I.yr, I.yb, ?_⟩
  · simp only [List.mem_singleton]; exact Blk.ne_ I.S hB.row (by decide)
  · simp only [List.mem_singleton]; exact Blk.ne_ I.L hB.row (by decide)
  · rw [List.length_append, List.length_replicate, List.length_drop]; omega
  · simp only [List.mem_singleton]; exact Blk.ne_ I.F hB.row (by decide)
  · intro x hx
    rcases List.mem_append.1 hx with h | h
    · exact I.lt x h
    · rw [(List.mem_replicate.1 h).2]; exact hv
end
section
variable {w w' : World} {p g : Nat} {s : ByteArray} {f t a : Nat}
theorem srcTo_at (h : SrcAt w p g s f t a) : Calls Tryz.prog 151 #[.pointer (some ⟨p, 0, none⟩)] w fun e w' => e = .returned (.int .i64 (t : Int)) ∧ w = w' := by
  have c3 := h.to_
  clear h
  go_enter Tryz.func151, Tryz.ntmps151
  go_wp2_with fail
  go_ret
  exact ⟨rfl, rfl⟩
set_option maxHeartbeats 1000000 in
theorem srcWindow_yes {m n q : Nat} (h : SrcAt w p g s f t a) (h0 : f ≤ m) (h1 : m + n = q) (h2 : q ≤ t) (ht : t ≤ 1099511627776) : Calls Tryz.prog 155 #[.pointer (some ⟨p, 0, none⟩), .int .i64 (m : Int), .int .i64 (n : Int)] w fun e w' => ∃ i, e = .returned (.tuple #[.pointer (some ⟨i, 0, none⟩), .bool true]) ∧ SrcAt w' i g s m q m ∧ w.heap.size ≤ i ∧ Below w.heap.size w w' := by
  have c0 := h.l
  have c1 := h.str
  have c2 := h.frm
  have c3 := h.to_
  have n0 : ¬ (m : Int) < f := by omega
  have n1 : ¬ (t : Int) < m := by omega
  have n2 : ¬ (n : Int) < 0 := by omega
  have n3 : ¬ (t : Int) - m < n := by omega
  have n4 : (m : Int) + n = q := by omega
  have hw1 := IntWalk.i64_in ((t : Int) - m) (by omega)
  clear h h0 h1 h2
  go_enter Tryz.func155, Tryz.ntmps155
  go_wp2_with fail
  go_region
  all_goals go_wp2_with fail
  all_goals go_ret2
  all_goals exact ⟨_, rfl, (Blk.new _ _ _).eq_ (by simp [srcCells]), Nat.le_refl _, ((Below.refl _ _).alloc (Nat.le_refl _) _).drew⟩
end
/-- one packet -/
theorem pcxUnp_step {s : ByteArray} {te z N f a : Nat} {R : List Nat} {k : Nat → List Nat → Dec} (h : ¬ N ≤ R.length) : pcxUnp s te z N (f + 1) a R k = .work 1 z a (if a + 1 ≤ te then
      (if 192 ≤ bat s a then .work 1 z (a + 1) (if a + 1 + 1 ≤ te then
          (if bat s a - 192 = 0 ∨ N - R.length < bat s a - 192 then .give z (.fin (.bad 2 a)) else pcxUnp s te z N f (a + 2) (R ++ List.replicate (bat s a - 192) (bat s (a + 1))) k)
        else pcxShort te z)
      else pcxUnp s te z N f (a + 1) (R ++ [bat s a]) k)
    else pcxShort te z) := by
  conv => lhs; unfold pcxUnp
  rw [if_neg h]
theorem pcxUnp_done {s : ByteArray} {te z N f a : Nat} {R : List Nat} {k : Nat → List Nat → Dec} (h : N ≤ R.length) : pcxUnp s te z N f a R k = k a R := by
  cases f with
  | zero => rfl
  | succ f => conv => lhs; unfold pcxUnp
              rw [if_pos h]
theorem UnpI.len {w0 w : World} {p g b d f fr te a N : Nat} {s : ByteArray} {R : List Nat} {y0 y : Led} (I : UnpI w0 w p g b d f fr s te a N R y0 y) : Calls Tryz.prog 206 #[.pointer (some ⟨b, 0, none⟩)] w fun e w' => e = .returned (.int .i64 (N : Int)) ∧ w = w' := by
  obtain ⟨q, hB, hq⟩ := I.B
  have h := bufLen_at hB
  rw [List.length_append, pb8_len, hq] at h
  exact h
theorem UnpI.fillC {w0 w : World} {p g b d f fr te a N c v : Nat} {s : ByteArray} {R : List Nat} {y0 y : Led} (I : UnpI w0 w p g b d f fr s te a N R y0 y) (hv : v < 256) (hc : c ≤ N - R.length) (hR : R.length ≤ N) (hN : N ≤ 1000000) {k : Nat} (hk : R.length = k) :
    Calls Tryz.prog 207 #[.pointer (some ⟨b, 0, none⟩), .int .i64 (k : Int), .int .i64 (c : Int), .int .u8 (v : Int)] w fun e w' => e = .returned (.bool true) ∧ UnpI w0 w' p g b d f fr s te a N (R ++ List.replicate c v) y0 y := by
  obtain ⟨q, hB, hq⟩ := I.B
  have hl : (pb8 R ++ q).length = N := by rw [List.length_append, pb8_len, hq]
  have h := bufFill_yes (i := k) (n := c) (UInt8.ofNat v) hB (by rw [hl]; omega) (by rw [hl]; omega)
  rw [ofNat8 hv] at h
  refine h.mono ?_
  rintro e w' ⟨rfl, h1, h2⟩
  rw [← hk] at h1
  exact ⟨rfl, I.fill hv hc hB h2 h1 hq⟩
theorem srcOk_next {s : ByteArray} {f t a n : Nat} (o : SrcOk s f t a) (h : a + n ≤ t) : SrcOk s f t (a + n) := ⟨by have := o.fa; omega, h, o.ts, o.sm⟩
theorem srcU8_ways' {w : World} {p g f t a v : Nat} {s : ByteArray} {x : Led} (hv : bat s a = v) (h : SrcAt w p g s f t a) (o : SrcOk s f t a) (k : LedAt w g x) (ok : x.Ok) (hx : x.reason = 0) :
    Calls Tryz.prog 177 #[.pointer (some ⟨p, 0, none⟩)] w fun e w' => ReadPost w w' p g s f t a 1 x e (.int .i64 0) (.int .i64 (v : Int)) := by
  rw [← hv]
  exact srcU8_ways h o k ok hx
/-- a row's end -/
theorem UnpI.yes {w0 w : World} {p g b d f fr te a a0 N : Nat} {s : ByteArray} {R : List Nat} {y0 y : Led} (I : UnpI w0 w p g b d f fr s te a N R y0 y) (hR : R.length = N) (ha : a0 ≤ a) {u0 u1 u2 : Value}
    (hr : ∀ z k, (pcxUnp s te z N N a0 [] k).run y0 = (k a R).run y) : UnpPost w0 (st3 w f u0 u1 u2) p g b d fr s te a0 N y0 (.returned pFlt0) := by
  obtain ⟨q, hB, hq⟩ := I.B
  have hq0 : q = [] := List.eq_nil_of_length_eq_zero (by omega)
  subst hq0
  rw [List.append_nil] at hB
  exact ⟨y, _, Blk.st3 I.L (Blk.ne_ I.L I.F (by decide)), I.yok, I.yb, Turn.st3 I.T (.inr I.nf), ⟨Blk.st3 hB.blk (Blk.ne_ hB.blk I.F (by decide)), Blk.st3 hB.row (Blk.ne_ hB.row I.F (by decide))⟩, by rw [pb8_len, hR], .inr ⟨a, R, rfl, ha, I.ok.at_, hR, I.lt, rfl, I.yr, Blk.st3 I.S (Blk.ne_ I.S I.F (by decide)), hr⟩⟩
set_option maxRecDepth 100000 in
set_option maxHeartbeats 4000000 in
theorem pcxUnpackC {w : World} {p g b d fr te a N : Nat} {s : ByteArray} {l : List UInt8} {y : Led} (S0 : SrcAt w p g s fr te a) (L0 : LedAt w g y) (B0 : BufAt w b g d l) (hl : l.length = N) (hN : N ≤ 1000000) (o : SrcOk s fr te a) (ok : y.Ok) (hr : y.reason = 0) :
    Calls Tryz.prog 158 #[.pointer (some ⟨p, 0, none⟩), .pointer (some ⟨b, 0, none⟩)] w fun e w' => UnpPost w w' p g b d fr s te a N y e := by
  have I0 : UnpI w (w.alloc (.cells #[.int .i64 0, .int .i64 0, .int .i64 0] 31)) p g b d w.heap.size fr s te a N [] y y :=
    ⟨Blk.alloc S0 _, Blk.alloc L0 _, ⟨l, ⟨Blk.alloc B0.blk _, Blk.alloc B0.row _⟩, by simpa using hl⟩, FB.new w, (Turn.refl _ _).alloc _, Nat.le_refl _, o, ok, hr, rfl, by simp⟩
  generalize hws : w.alloc (.cells #[.int .i64 0, .int .i64 0, .int .i64 0] 31) = ws at I0
  have HWS := Lib.hid hws
  have HI0 := Lib.hid I0
  clear S0 L0 B0 hl o ok hr I0 hws
  go_enter Tryz.func158, Tryz.ntmps158
  go_upto_region 1 with fail
  rw [HWS.out]
  generalize w.heap.size = f at HI0 ⊢
  go_wp2_with fail
  go_loopg [5, 6, 7, 8, 9] N (fun gh v5 v6 v7 v8 v9 wr => ∃ (a' k fu : Nat) (R : List Nat) (yy : Led), k + gh = N ∧ v5 = .int .i64 (k : Int) ∧ Hid (R.length = k ∧ gh ≤ fu ∧ a ≤ a') ∧ Hid (UnpI w wr p g b d f fr s te a' N R y yy) ∧ Hid (∀ z k, (pcxUnp s te z N N a [] k).run y = (pcxUnp s te z N fu a' R k).run yy))
  case atStart => exact ⟨a, 0, N, [], y, by omega, rfl, Lib.hid ⟨rfl, Nat.le_refl _, Nat.le_refl _⟩, HI0, Lib.hid (fun _ _ => rfl)⟩
  case round =>
    obtain ⟨a', k, fu, R, yy, hk, rfl, HK, HI, HRUN⟩ := hrel
    clear HI0
    have HL := Lib.hid (fun w0 w p g b d f fr te a N s R y0 y (I : UnpI w0 w p g b d f fr s te a N R y0 y) => I.len)
    by_cases hkN : k < N
    · have hkI : (k : Int) < (N : Int) := by omega
      have hNI : (N : Int) ≤ 1000000 := by omega
      obtain ⟨m, rfl⟩ : ∃ m, gk = m + 1 := ⟨gk - 1, by omega⟩
      obtain ⟨fu, rfl⟩ : ∃ q, fu = q + 1 := ⟨fu - 1, by have := HK.out; omega⟩
      have HR2 := Lib.hid (fun z k' => (HRUN.out z k').trans (by rw [pcxUnp_step (by have := HK.out; omega)]))
      have hv8 := bat_lt s a'
      have HKN := Lib.hid (And.intro hk hkN)
      clear HRUN hk
      by_cases hv : 192 ≤ bat s a'
      · obtain ⟨v, hvv⟩ : ∃ v, bat s a' = v := ⟨_, rfl⟩
        obtain ⟨c, hc⟩ : ∃ c, v - 192 = c := ⟨_, rfl⟩
        have hvI : (192 : Int) ≤ (v : Int) := by omega
        have hand : bits .and .i64 (v : Int) 63 = (c : Int) := by
          have := and_mask v 6 (by omega) (by omega)
          rw [show ((2 ^ 6 - 1 : Nat) : Int) = 63 by decide] at this
          rw [this]
          omega
        have hv8I : (v : Int) < 256 := by omega
        have hcB : (c : Int) ≤ 63 := by omega
        have HVV := Lib.hid (And.intro hvv hc)
        obtain ⟨u, huu⟩ : ∃ u, bat s (a' + 1) = u := ⟨_, rfl⟩
        have HUU := Lib.hid huu
        have hu8I : (u : Int) < 256 := by have := bat_lt s (a' + 1); omega
        have HU1 := Lib.hid (srcU8_ways HI.out.S HI.out.ok HI.out.L HI.out.yok HI.out.yr)
        rw [hvv] at HU1
        have HR3 : Hid (∀ y2 : Led, yy.work 1 = (y2, true) → a' + 1 ≤ te → ∀ z k', (pcxUnp s te z N N a [] k').run y = (Dec.work 1 z (a' + 1) (if a' + 1 + 1 ≤ te then (if c = 0 ∨ N - R.length < c then .give z (.fin (.bad 2 a')) else pcxUnp s te z N fu (a' + 2) (R ++ List.replicate c u) k') else pcxShort te z)).run y2) :=
          Lib.hid (fun y2 h1 h2 z k' => by rw [HR2.out z k', run_work_yes h1, if_pos h2, if_pos hv, hvv, hc, huu])
        by_cases hc0 : c = 0
        · subst hc0
          clear hvv hc huu hv hv8 hkN hcB
          go_wp2_with (first
            | (go_at_call 197; refine (pcxBadC 2 _ _).mono ?_; rintro e w7 ⟨rfl, b7⟩; have I7 := I4.out.below b7; clear f0 f1 f2' z0 z1 z2 fl; obtain ⟨f0, f1, f2', z0, z1, z2, fl⟩ := FB.all I7.F)
            | (go_at_call 206; refine I4.out.len.mono ?_; rintro e w' ⟨rfl, rfl⟩)
            | (go_at_call 61; refine (srcFault_is 7 s4 l4 n4).mono ?_; rintro e w5 ⟨rfl, b5⟩; have l5 := Blk.below l4 b5 (Blk.lt l4); have F5 := FB.below F4 b5; have T5 := t4.trans (Turn.of_below (S := [p, g]) b5); clear f0 f1 f2' z0 z1 z2 fl; obtain ⟨f0, f1, f2', z0, z1, z2, fl⟩ := FB.all F5)
            | (go_at_call 177; refine (srcU8_ways' HUU.out I2.out.S I2.out.ok I2.out.L I2.out.yok I2.out.yr).mono ?_; rintro e w4 ⟨y4, l4, ok4, b4, t4, hor⟩; have F4 := I2.out.F.turn t4 I2.out.nf2; clear f0 f1 f2' z0 z1 z2 fl; obtain ⟨f0, f1, f2', z0, z1, z2, fl⟩ := FB.all F4; rcases hor with ⟨kk, aa, rfl, s4, n4, r4⟩ | ⟨rfl, s4, yr4, hle4, hw4⟩; all_goals (try (have I4 := Lib.hid (I2.out.read t4 s4 l4 (srcOk_next I2.out.ok hle4) ok4 yr4 b4))))
            | (go_at_call 61; refine (srcFault_is 7 s2 l2 n2).mono ?_; rintro e w3 ⟨rfl, b3⟩; have l3 := Blk.below l2 b3 (Blk.lt l2); have F3 := FB.below F2 b3; have T3 := t2.trans (Turn.of_below (S := [p, g]) b3); clear f0 f1 f2' z0 z1 z2 fl; obtain ⟨f0, f1, f2', z0, z1, z2, fl⟩ := FB.all F3)
            | (go_at_call 177; refine HU1.out.mono ?_; rintro e w2 ⟨y2, l2, ok2, b2, t2, hor⟩; have F2 := HI.out.F.turn t2 HI.out.nf2; obtain ⟨f0, f1, f2', z0, z1, z2, fl⟩ := FB.all F2; rcases hor with ⟨kk, aa, rfl, s2, n2, r2⟩ | ⟨rfl, s2, yr2, hle2, hw2⟩; all_goals (try (have I2 := Lib.hid (HI.out.read t2 s2 l2 (srcOk_next HI.out.ok hle2) ok2 yr2 b2))))
            | (go_at_call 89; refine (srcAt_at HI.out.S).mono ?_; rintro e w' ⟨rfl, rfl⟩)
            | (go_at_call 206; refine HI.out.len.mono ?_; rintro e w' ⟨rfl, rfl⟩))
          · exact bodyPost_ret (v := pFlt kk aa) (by simp [results, Tryz.results158, go_sem, f0, f1, f2', pFlt, pFlt0]) rfl (HI.out.no T3 l3 F3 ok2 b2 n2.ne rfl (fun z k => (HR2.out z k).trans (r2 z _)))
          · exact bodyPost_ret (v := pFlt kk aa) (by simp [results, Tryz.results158, go_sem, f0, f1, f2', pFlt, pFlt0]) rfl (I2.out.no T5 l5 F5 ok4 b4 n4.ne rfl (fun z k => (HR3.out y2 hw2 hle2 z k).trans (r4 z _)))
          · exact bodyPost_ret (v := pFlt 2 a') (by simp [results, Tryz.results158, go_sem, f0, f1, f2', pFlt, pFlt0]) rfl (I4.out.no (Turn.of_below (S := [p, g]) b7) I7.L I7.F I7.yok rfl (by decide) rfl (fun z k => (HR3.out y2 hw2 hle2 z k).trans (by rw [run_work_yes hw4, if_pos hle4, if_pos (Or.inl (by trivial))]; rfl)))
        · have hc0I : ¬ (c : Int) = 0 := by omega
          have hc0B : ((c : Int) == 0) = false := by rw [beq_eq_false_iff_ne]; exact hc0I
          by_cases hcN : N - k < c
          · have hcNI : (N : Int) - (k : Int) < (c : Int) := by omega
            have HCN : Hid (N - R.length < c) := Lib.hid (by have := HK.out; omega)
            clear hvv hc huu hv hv8 hkN hc0 hcN
            go_wp2_with (first
              | (go_at_call 197; refine (pcxBadC 2 _ _).mono ?_; rintro e w7 ⟨rfl, b7⟩; have I7 := I4.out.below b7; clear f0 f1 f2' z0 z1 z2 fl; obtain ⟨f0, f1, f2', z0, z1, z2, fl⟩ := FB.all I7.F)
              | (go_at_call 206; refine I4.out.len.mono ?_; rintro e w' ⟨rfl, rfl⟩)
              | (go_at_call 61; refine (srcFault_is 7 s4 l4 n4).mono ?_; rintro e w5 ⟨rfl, b5⟩; have l5 := Blk.below l4 b5 (Blk.lt l4); have F5 := FB.below F4 b5; have T5 := t4.trans (Turn.of_below (S := [p, g]) b5); clear f0 f1 f2' z0 z1 z2 fl; obtain ⟨f0, f1, f2', z0, z1, z2, fl⟩ := FB.all F5)
              | (go_at_call 177; refine (srcU8_ways' HUU.out I2.out.S I2.out.ok I2.out.L I2.out.yok I2.out.yr).mono ?_; rintro e w4 ⟨y4, l4, ok4, b4, t4, hor⟩; have F4 := I2.out.F.turn t4 I2.out.nf2; clear f0 f1 f2' z0 z1 z2 fl; obtain ⟨f0, f1, f2', z0, z1, z2, fl⟩ := FB.all F4; rcases hor with ⟨kk, aa, rfl, s4, n4, r4⟩ | ⟨rfl, s4, yr4, hle4, hw4⟩; all_goals (try (have I4 := Lib.hid (I2.out.read t4 s4 l4 (srcOk_next I2.out.ok hle4) ok4 yr4 b4))))
              | (go_at_call 61; refine (srcFault_is 7 s2 l2 n2).mono ?_; rintro e w3 ⟨rfl, b3⟩; have l3 := Blk.below l2 b3 (Blk.lt l2); have F3 := FB.below F2 b3; have T3 := t2.trans (Turn.of_below (S := [p, g]) b3); clear f0 f1 f2' z0 z1 z2 fl; obtain ⟨f0, f1, f2', z0, z1, z2, fl⟩ := FB.all F3)
              | (go_at_call 177; refine HU1.out.mono ?_; rintro e w2 ⟨y2, l2, ok2, b2, t2, hor⟩; have F2 := HI.out.F.turn t2 HI.out.nf2; obtain ⟨f0, f1, f2', z0, z1, z2, fl⟩ := FB.all F2; rcases hor with ⟨kk, aa, rfl, s2, n2, r2⟩ | ⟨rfl, s2, yr2, hle2, hw2⟩; all_goals (try (have I2 := Lib.hid (HI.out.read t2 s2 l2 (srcOk_next HI.out.ok hle2) ok2 yr2 b2))))
              | (go_at_call 89; refine (srcAt_at HI.out.S).mono ?_; rintro e w' ⟨rfl, rfl⟩)
              | (go_at_call 206; refine HI.out.len.mono ?_; rintro e w' ⟨rfl, rfl⟩))
            · exact bodyPost_ret (v := pFlt kk aa) (by simp [results, Tryz.results158, go_sem, f0, f1, f2', pFlt, pFlt0]) rfl (HI.out.no T3 l3 F3 ok2 b2 n2.ne rfl (fun z k => (HR2.out z k).trans (r2 z _)))
            · exact bodyPost_ret (v := pFlt kk aa) (by simp [results, Tryz.results158, go_sem, f0, f1, f2', pFlt, pFlt0]) rfl (I2.out.no T5 l5 F5 ok4 b4 n4.ne rfl (fun z k => (HR3.out y2 hw2 hle2 z k).trans (r4 z _)))
            · exact bodyPost_ret (v := pFlt 2 a') (by simp [results, Tryz.results158, go_sem, f0, f1, f2', pFlt, pFlt0]) rfl (I4.out.no (Turn.of_below (S := [p, g]) b7) I7.L I7.F I7.yok rfl (by decide) rfl (fun z k => (HR3.out y2 hw2 hle2 z k).trans (by rw [run_work_yes hw4, if_pos hle4, if_pos (.inr HCN.out)]; rfl)))
          · have hcNI : ¬ (N : Int) - (k : Int) < (c : Int) := by omega
            have HC : Hid (c ≤ N - R.length ∧ R.length ≤ N ∧ N ≤ 1000000 ∧ R.length = k) := Lib.hid (by have := HK.out; omega)
            have HC0 : Hid (¬ (c = 0 ∨ N - R.length < c)) := Lib.hid (by have := HK.out; omega)
            have HV : Hid (u < 256) := Lib.hid (by omega)
            have HCP : Hid (1 ≤ c) := Lib.hid (by omega)
            clear hvv hc huu hv hv8 hkN hc0 hcN
            go_wp2_with (first
              | (go_at_call 207; refine (I4.out.fillC (c := c) HV.out HC.out.1 HC.out.2.1 HC.out.2.2.1 HC.out.2.2.2).mono ?_; rintro e w6 ⟨rfl, I6⟩)
              | (go_at_call 206; refine I4.out.len.mono ?_; rintro e w' ⟨rfl, rfl⟩)
              | (go_at_call 61; refine (srcFault_is 7 s4 l4 n4).mono ?_; rintro e w5 ⟨rfl, b5⟩; have l5 := Blk.below l4 b5 (Blk.lt l4); have F5 := FB.below F4 b5; have T5 := t4.trans (Turn.of_below (S := [p, g]) b5); clear f0 f1 f2' z0 z1 z2 fl; obtain ⟨f0, f1, f2', z0, z1, z2, fl⟩ := FB.all F5)
              | (go_at_call 177; refine (srcU8_ways' HUU.out I2.out.S I2.out.ok I2.out.L I2.out.yok I2.out.yr).mono ?_; rintro e w4 ⟨y4, l4, ok4, b4, t4, hor⟩; have F4 := I2.out.F.turn t4 I2.out.nf2; clear f0 f1 f2' z0 z1 z2 fl; obtain ⟨f0, f1, f2', z0, z1, z2, fl⟩ := FB.all F4; rcases hor with ⟨kk, aa, rfl, s4, n4, r4⟩ | ⟨rfl, s4, yr4, hle4, hw4⟩; all_goals (try (have I4 := Lib.hid (I2.out.read t4 s4 l4 (srcOk_next I2.out.ok hle4) ok4 yr4 b4))))
              | (go_at_call 61; refine (srcFault_is 7 s2 l2 n2).mono ?_; rintro e w3 ⟨rfl, b3⟩; have l3 := Blk.below l2 b3 (Blk.lt l2); have F3 := FB.below F2 b3; have T3 := t2.trans (Turn.of_below (S := [p, g]) b3); clear f0 f1 f2' z0 z1 z2 fl; obtain ⟨f0, f1, f2', z0, z1, z2, fl⟩ := FB.all F3)
              | (go_at_call 177; refine HU1.out.mono ?_; rintro e w2 ⟨y2, l2, ok2, b2, t2, hor⟩; have F2 := HI.out.F.turn t2 HI.out.nf2; obtain ⟨f0, f1, f2', z0, z1, z2, fl⟩ := FB.all F2; rcases hor with ⟨kk, aa, rfl, s2, n2, r2⟩ | ⟨rfl, s2, yr2, hle2, hw2⟩; all_goals (try (have I2 := Lib.hid (HI.out.read t2 s2 l2 (srcOk_next HI.out.ok hle2) ok2 yr2 b2))))
              | (go_at_call 89; refine (srcAt_at HI.out.S).mono ?_; rintro e w' ⟨rfl, rfl⟩)
              | (go_at_call 206; refine HI.out.len.mono ?_; rintro e w' ⟨rfl, rfl⟩))
            · exact bodyPost_ret (v := pFlt kk aa) (by simp [results, Tryz.results158, go_sem, f0, f1, f2', pFlt, pFlt0]) rfl (HI.out.no T3 l3 F3 ok2 b2 n2.ne rfl (fun z k => (HR2.out z k).trans (r2 z _)))
            · exact bodyPost_ret (v := pFlt kk aa) (by simp [results, Tryz.results158, go_sem, f0, f1, f2', pFlt, pFlt0]) rfl (I2.out.no T5 l5 F5 ok4 b4 n4.ne rfl (fun z k => (HR3.out y2 hw2 hle2 z k).trans (r4 z _)))
            · go_roundg (N - (k + c))
              case measure => have := HKN.out; have := HCP.out; omega
              case rel => exact ⟨a' + 1 + 1, k + c, fu, R ++ List.replicate c u, y4, by have := HKN.out; have := HC.out; omega, by go_num, Lib.hid (by rw [List.length_append, List.length_replicate]; have := HK.out; have := HCP.out; have := HKN.out; omega), Lib.hid I6, Lib.hid (fun z k => (HR3.out y2 hw2 hle2 z k).trans (by rw [run_work_yes hw4, if_pos hle4, if_neg HC0.out]))⟩
      · obtain ⟨v, hvv⟩ : ∃ v, bat s a' = v := ⟨_, rfl⟩
        have hvI : ¬ (192 : Int) ≤ (v : Int) := by omega
        have hv8I : (v : Int) < 256 := by omega
        have h1N : ¬ (N : Int) - (k : Int) < 1 := by omega
        have HU1 := Lib.hid (srcU8_ways HI.out.S HI.out.ok HI.out.L HI.out.yok HI.out.yr)
        rw [hvv] at HU1
        have HR3 : Hid (∀ y2 : Led, yy.work 1 = (y2, true) → a' + 1 ≤ te → ∀ z k', (pcxUnp s te z N N a [] k').run y = (pcxUnp s te z N fu (a' + 1) (R ++ List.replicate 1 v) k').run y2) :=
          Lib.hid (fun y2 h1 h2 z k' => by rw [HR2.out z k', run_work_yes h1, if_pos h2, if_neg hv, hvv]; rfl)
        have HC : Hid (1 ≤ N - R.length ∧ R.length ≤ N ∧ N ≤ 1000000 ∧ R.length = k) := Lib.hid (by have := HK.out; omega)
        have HV : Hid (v < 256) := Lib.hid (by omega)
        clear hvv hv hv8 hkN
        go_wp2_with (first
          | (go_at_call 207; refine (I2.out.fillC (c := 1) HV.out HC.out.1 HC.out.2.1 HC.out.2.2.1 HC.out.2.2.2).mono ?_; rintro e w6 ⟨rfl, I6⟩)
          | (go_at_call 206; refine I2.out.len.mono ?_; rintro e w' ⟨rfl, rfl⟩)
          | (go_at_call 61; refine (srcFault_is 7 s2 l2 n2).mono ?_; rintro e w3 ⟨rfl, b3⟩; have l3 := Blk.below l2 b3 (Blk.lt l2); have F3 := FB.below F2 b3; have T3 := t2.trans (Turn.of_below (S := [p, g]) b3); clear f0 f1 f2' z0 z1 z2 fl; obtain ⟨f0, f1, f2', z0, z1, z2, fl⟩ := FB.all F3)
          | (go_at_call 177; refine HU1.out.mono ?_; rintro e w2 ⟨y2, l2, ok2, b2, t2, hor⟩; have F2 := HI.out.F.turn t2 HI.out.nf2; obtain ⟨f0, f1, f2', z0, z1, z2, fl⟩ := FB.all F2; rcases hor with ⟨kk, aa, rfl, s2, n2, r2⟩ | ⟨rfl, s2, yr2, hle2, hw2⟩; all_goals (try (have I2 := Lib.hid (HI.out.read t2 s2 l2 (srcOk_next HI.out.ok hle2) ok2 yr2 b2))))
          | (go_at_call 89; refine (srcAt_at HI.out.S).mono ?_; rintro e w' ⟨rfl, rfl⟩)
          | (go_at_call 206; refine HI.out.len.mono ?_; rintro e w' ⟨rfl, rfl⟩))
        · exact bodyPost_ret (v := pFlt kk aa) (by simp [results, Tryz.results158, go_sem, f0, f1, f2', pFlt, pFlt0]) rfl (HI.out.no T3 l3 F3 ok2 b2 n2.ne rfl (fun z k => (HR2.out z k).trans (r2 z _)))
        · go_roundg (N - (k + 1))
          case measure => have := HKN.out; omega
          case rel => exact ⟨a' + 1, k + 1, fu, R ++ List.replicate 1 v, y2, by have := HKN.out; omega, by go_num, Lib.hid (by rw [List.length_append, List.length_replicate]; have := HK.out; have := HKN.out; omega), Lib.hid I6, Lib.hid (fun z k => HR3.out y2 hw2 hle2 z k)⟩
    · obtain rfl : gk = 0 := by omega
      have hkI : ¬ (k : Int) < (N : Int) := by omega
      have hRN : R.length = N := by have := HK.out; omega
      have HE := Lib.hid hRN
      obtain ⟨f0, f1, f2', z0, z1, z2, fl⟩ := FB.all HI.out.F
      clear hRN
      go_wp2_with (go_at_call 206; refine HI.out.len.mono ?_; rintro e w' ⟨rfl, rfl⟩)
      exact bodyPost_ret (v := pFlt0) (by simp [results, Tryz.results158, go_sem, f0, f1, f2', pFlt, pFlt0]) rfl (HI.out.yes HE.out HK.out.2.2 (fun z k => (HRUN.out z k).trans (by rw [pcxUnp_done (by rw [HE.out]; exact Nat.le_refl _)])))
end Go.Proofs.YtccldalagbfmhaaGreat
