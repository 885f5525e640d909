/- pcx: a head is read. -/
import Derived.Test.YtccldalagbfmhaaGreatPcxD
namespace Go.Proofs.YtccldalagbfmhaaGreat
open Go.RowKit
set_option linter.unusedVariables false
set_option linter.unusedSimpArgs false

theorem pcxDec_run_no {s : ByteArray} {x y : Led} (e : x.work 1 = (y, false)) (hb : 0 ≤ y.bytes) : (pcxDec s).run x = (y, .bad 4 0) := by
  unfold pcxDec
  rw [run_work_no e, give_zero hb]
theorem pcxDec_run_yes {s : ByteArray} {x y : Led} (e : x.work 1 = (y, true)) : (pcxDec s).run x = (if s.size < 128 then Dec.fin (.bad 1 s.size) else match pcxHead s with | some f => .fin (.bad f.1 f.2) | none => pcxMark s (pcxHd s)).run y := by
  unfold pcxDec
  exact run_work_yes e
/-- what a head's reading leaves -/
def PBegPost (w w' : World) (p g : Nat) (s : ByteArray) (y : Led) (e : Ending) : Prop :=
  ∃ y', LedAt w' g y' ∧ y'.Ok ∧ y'.bytes = y.bytes ∧ Turn [p, g] w w' ∧
    ((∃ kk aa : Nat, kk ≠ 0 ∧ e = .returned (.tuple #[.agg pcx0, .int .i64 0, pFlt kk aa]) ∧ (pcxDec s).run y = (y', .bad kk aa) ∧ (kk ≠ 4 → pcxFault s = some (kk, aa))) ∨
     (e = .returned (.tuple #[pcxPicV s (pcxHd s), .int .i64 (pcxTo s (pcxHd s) : Int), pFlt0]) ∧ SrcAt w' p g s 0 s.size 128 ∧ y'.reason = 0 ∧ pcxFault s = none ∧ 128 ≤ s.size ∧ (pcxDec s).run y = (pcxBody s (pcxHd s)).run y'))
/-- the boxes of begin: results' two, the picture's, the fault's -/
structure PB (w : World) (a f q u : Nat) (pc fc : Array Value) : Prop where
  P : Blk w a 145 pcx0
  F : FB w f 0 0 0
  Q : Blk w q 145 pc
  U : Blk w u 31 fc
section
variable {w w' : World} {a f q u : Nat} {pc fc : Array Value}
theorem PB.below (h : PB w a f q u pc fc) (b : Below w.heap.size w w') : PB w' a f q u pc fc := ⟨Blk.below h.P b (Blk.lt h.P), Blk.below h.F b (Blk.lt h.F), Blk.below h.Q b (Blk.lt h.Q), Blk.below h.U b (Blk.lt h.U)⟩
theorem PB.turn {p g : Nat} {s : ByteArray} {fr te a' : Nat} {x : Led} (h : PB w a f q u pc fc) (S : SrcAt w p g s fr te a') (L : LedAt w g x) (k : Turn [p, g] w w') : PB w' a f q u pc fc := by
  have t : ∀ {i : Nat} {tt : TypeId} {cs : Array Value}, Blk w i tt cs → tt ≠ 164 → tt ≠ 121 → Blk w' i tt cs := fun hb h1 h2 => Blk.turn hb k (by simp only [List.mem_cons, List.not_mem_nil, or_false, not_or]; exact ⟨Blk.ne_ hb S h1, Blk.ne_ hb L h2⟩)
  exact ⟨t h.P (by decide) (by decide), t h.F (by decide) (by decide), t h.Q (by decide) (by decide), t h.U (by decide) (by decide)⟩
end
theorem szA (w : World) (o : Obj) : (w.alloc o).heap.size = w.heap.size + 1 := by simp
theorem Turn.st7 {S : List Nat} {a w : World} {b : Nat} {u0 u1 u2 u3 u4 u5 u6 : Value} (h : Turn S a w) (hb : b ∈ S ∨ a.heap.size ≤ b) : Turn S a (st7 w b u0 u1 u2 u3 u4 u5 u6) := ((((((h.set_ 0 u0 hb).set_ 1 u1 hb).set_ 2 u2 hb).set_ 3 u3 hb).set_ 4 u4 hb).set_ 5 u5 hb).set_ 6 u6 hb
theorem Blk.st7 {w : World} {g b : Nat} {t : TypeId} {cs : Array Value} {u0 u1 u2 u3 u4 u5 u6 : Value} (h : Blk w g t cs) (hb : g ≠ b) : Blk (st7 w b u0 u1 u2 u3 u4 u5 u6) g t cs :=
  Blk.far (Blk.far (Blk.far (Blk.far (Blk.far (Blk.far (Blk.far h (p := ⟨b, 0, none⟩) hb _) (p := ⟨b, 1, none⟩) hb _) (p := ⟨b, 2, none⟩) hb _) (p := ⟨b, 3, none⟩) hb _) (p := ⟨b, 4, none⟩) hb _) (p := ⟨b, 5, none⟩) hb _) (p := ⟨b, 6, none⟩) hb _
theorem pq_all {w : World} {p f : Nat} (P : Blk w p 145 pcx0) (F : FB w f 0 0 0) : w.cell? ⟨p, 0, none⟩ = some (.int .i64 0) ∧ w.cell? ⟨p, 1, none⟩ = some (.int .i64 0) ∧ w.cell? ⟨p, 2, none⟩ = some (.int .i64 0) ∧ w.cell? ⟨p, 3, none⟩ = some (.int .i64 0) ∧ w.cell? ⟨p, 4, none⟩ = some (.int .i64 0) ∧ w.cell? ⟨p, 5, none⟩ = some (.string ⟨#[]⟩) ∧ w.cell? ⟨p, 6, none⟩ = some .nilFunc ∧
    w.frozen? ⟨p, 0, none⟩ = false ∧ w.frozen? ⟨p, 1, none⟩ = false ∧ w.frozen? ⟨p, 2, none⟩ = false ∧ w.frozen? ⟨p, 3, none⟩ = false ∧ w.frozen? ⟨p, 4, none⟩ = false ∧ w.frozen? ⟨p, 5, none⟩ = false ∧ w.frozen? ⟨p, 6, none⟩ = false ∧ p < w.heap.size ∧
    w.cell? ⟨f, 0, none⟩ = some (.int .i64 0) ∧ w.cell? ⟨f, 1, none⟩ = some (.int .i64 0) ∧ w.cell? ⟨f, 2, none⟩ = some (.int .i64 0) ∧ w.frozen? ⟨f, 0, none⟩ = false ∧ w.frozen? ⟨f, 1, none⟩ = false ∧ w.frozen? ⟨f, 2, none⟩ = false ∧ f < w.heap.size :=
  ⟨Blk.cell P 0, Blk.cell P 1, Blk.cell P 2, Blk.cell P 3, Blk.cell P 4, Blk.cell P 5, Blk.cell P 6, Blk.frozen P 0, Blk.frozen P 1, Blk.frozen P 2, Blk.frozen P 3, Blk.frozen P 4, Blk.frozen P 5, Blk.frozen P 6, Blk.lt P, Blk.cell F 0, Blk.cell F 1, Blk.cell F 2, Blk.frozen F 0, Blk.frozen F 1, Blk.frozen F 2, Blk.lt F⟩
set_option maxRecDepth 100000 in
set_option maxHeartbeats 4000000 in
theorem pcxBeginC {w : World} {p g : Nat} {s : ByteArray} {y : Led} (hsm : s.size ≤ 1099511627776) (S0 : SrcAt w p g s 0 s.size 0) (L0 : LedAt w g y) (ok : y.Ok) (hr : y.reason = 0) :
    Calls Tryz.prog 76 #[.pointer (some ⟨p, 0, none⟩)] w fun e w' => PBegPost w w' p g s y e := by
  have I0 := PQ.new w
  have S1 : SrcAt ((w.alloc (.cells #[.int .i64 0, .int .i64 0, .int .i64 0, .int .i64 0, .int .i64 0, .string ⟨#[]⟩, .nilFunc] 145)).alloc (.cells #[.int .i64 0, .int .i64 0, .int .i64 0] 31)) p g s 0 s.size 0 := Blk.alloc (Blk.alloc S0 _) _
  have L1 : LedAt ((w.alloc (.cells #[.int .i64 0, .int .i64 0, .int .i64 0, .int .i64 0, .int .i64 0, .string ⟨#[]⟩, .nilFunc] 145)).alloc (.cells #[.int .i64 0, .int .i64 0, .int .i64 0] 31)) g y := Blk.alloc (Blk.alloc L0 _) _
  have T1 : Turn [p, g] w ((w.alloc (.cells #[.int .i64 0, .int .i64 0, .int .i64 0, .int .i64 0, .int .i64 0, .string ⟨#[]⟩, .nilFunc] 145)).alloc (.cells #[.int .i64 0, .int .i64 0, .int .i64 0] 31)) := ((Turn.refl _ _).alloc _).alloc _
  have HO := Lib.hid (srcOk0' hsm (Nat.zero_le s.size))
  have hpf : w.heap.size ≠ w.heap.size + 1 := by omega
  have hfp := hpf.symm
  have hlp := Blk.lt S0
  have hlg := Blk.lt L0
  have n1 : p ≠ w.heap.size := by omega
  have n2 : p ≠ w.heap.size + 1 := by omega
  have n3 : g ≠ w.heap.size := by omega
  have n4 : g ≠ w.heap.size + 1 := by omega
  generalize hws : (w.alloc (.cells #[.int .i64 0, .int .i64 0, .int .i64 0, .int .i64 0, .int .i64 0, .string ⟨#[]⟩, .nilFunc] 145)).alloc (.cells #[.int .i64 0, .int .i64 0, .int .i64 0] 31) = ws at I0 S1 L1 T1
  have HWS := Lib.hid hws
  generalize hf : w.heap.size + 1 = f at I0 hpf hfp n2 n4
  have HF := Lib.hid hf
  have hfl : w.heap.size ≤ f := by omega
  have HI := Lib.hid I0
  have HS := Lib.hid S1
  have HL := Lib.hid L1
  have HT := Lib.hid T1
  have HK := Lib.hid ok
  have HR := Lib.hid hr
  have HSM := Lib.hid hsm
  clear I0 S1 L1 T1 hws hf S0 L0 ok hr hsm hlp hlg
  go_enter Tryz.func76, Tryz.ntmps76
  go_upto_region 2 with (go_at_call 89; refine (srcAt_at (a := 0) (by rw [HWS.out]; exact HS.out)).mono ?_; rintro e w1 ⟨rfl, rfl⟩)
  rw [HWS.out, HF.out]
  go_upto_region 3 with (go_at_call 90; refine (srcTake_ways 128 HS.out HO.out HL.out HK.out HR.out).mono ?_; rintro e w2 ⟨y2, l2, ok2, b2, t2, hor⟩; have P2 : Blk w2 w.heap.size 145 pcx0 := Blk.turn HI.out.P t2 (by simp only [List.mem_cons, List.not_mem_nil, or_false, not_or]; exact ⟨n1.symm, n3.symm⟩); have F2 : FB w2 f 0 0 0 := Blk.turn HI.out.F t2 (by simp only [List.mem_cons, List.not_mem_nil, or_false, not_or]; exact ⟨n2.symm, n4.symm⟩); have T2 := HT.out.trans t2; rcases hor with ⟨kk, aa, rfl, s2, nr2, r2⟩ | ⟨rfl, s2, yr2, hle2, hw2⟩)
  · have HN := Lib.hid nr2
    have hrun : (pcxDec s).run y = (y2, .bad kk aa) ∧ (kk ≠ 4 → pcxFault s = some (kk, aa)) := by
      rcases led_work_ways 1 HK.out HR.out with ⟨yy, e, _, yyr, _⟩ | ⟨yy, e, _, yyr, _⟩
      · have h1 := r2 0 (.fin (.bad 0 0))
        rw [run_work_no e] at h1
        have h2 := pcxDec_run_no (s := s) e (by have := (by have := HK.out.work 1; rw [e] at this; exact this : yy.Ok).y0; exact this)
        have h3 : (yy, DRes.bad 4 0) = ((y2.give ((0 : Nat) : Int)).1, DRes.bad kk aa) := by rw [← give_zero (x := yy) ((by have := HK.out.work 1; rw [e] at this; exact this : yy.Ok).y0)]; exact h1
        have h4 : DRes.bad 4 0 = DRes.bad kk aa := congrArg Prod.snd h3
        injection h4 with h5 h6
        exact ⟨by rw [h2, h3, give_zero ok2.y0], fun h => absurd h5.symm h⟩
      · have h1 := r2 0 (.fin (.bad 0 0))
        rw [run_work_yes e] at h1
        have h2 := pcxDec_run_yes (s := s) e
        by_cases hs : 0 + 128 ≤ s.size
        · rw [if_pos hs] at h1
          have h4 : DRes.bad 0 0 = DRes.bad kk aa := congrArg Prod.snd h1
          injection h4 with h5 h6
          exact absurd h5.symm nr2.ne
        · rw [if_neg hs] at h1
          have h4 : ((yy.give ((0 : Nat) : Int)).1, DRes.bad 1 s.size) = ((y2.give ((0 : Nat) : Int)).1, DRes.bad kk aa) := h1
          have h7 : DRes.bad 1 s.size = DRes.bad kk aa := congrArg Prod.snd h4
          injection h7 with h5 h6
          rw [give_zero (by have := HK.out.work 1; rw [e] at this; exact this.y0), give_zero ok2.y0] at h4
          exact ⟨by rw [h2, if_pos (by omega)]; exact h4, fun _ => by unfold pcxFault; rw [if_pos (by omega), h5, h6]⟩
    have HRN := Lib.hid hrun
    have HS2 := Lib.hid s2
    have HL2 := Lib.hid l2
    have HP2 := Lib.hid P2
    have HF2 := Lib.hid F2
    have HT2 := Lib.hid T2
    clear s2 l2 P2 F2 T2 t2 r2 nr2 hrun
    go_wp2_with (go_at_call 61; refine (srcFault_is 7 HS2.out HL2.out HN.out).mono ?_; rintro e w3 ⟨rfl, b3⟩; have P3 := Blk.below HP2.out b3 (Blk.lt HP2.out); have F3 : FB w3 f 0 0 0 := Blk.below HF2.out b3 (Blk.lt HF2.out); have l3 := Blk.below HL2.out b3 (Blk.lt HL2.out); have T3 := HT2.out.trans (Turn.of_below (S := [p, g]) b3); obtain ⟨a0, a1, a2, a3, a4, a5, a6, z0, z1, z2, z3, z4, z5, z6, zl, d0, d1, d2, y0, y1, y2', yl⟩ := pq_all P3 F3)
    exact bodyPost_ret (v := .tuple #[.agg pcx0, .int .i64 0, pFlt kk aa]) (by simp [results, Tryz.results76, go_sem, a0, a1, a2, a3, a4, a5, a6, d0, d1, d2, hpf, hfp, pcx0, pFlt, pFlt0, pcxPicV]) rfl ⟨y2, Blk.st3 (Blk.st7 l3 n3) n4, ok2, b2, Turn.st3 (Turn.st7 T3 (.inr (Nat.le_refl _))) (.inr hfl), .inl ⟨kk, aa, HN.out.ne, rfl, HRN.out.1, HRN.out.2⟩⟩
  · have h128 : 128 ≤ s.size := by omega
    have HP := Lib.hid (fun w => pcxParseC h128 w)
    have HL2 := Lib.hid (And.intro l2 (And.intro s2 (And.intro yr2 (And.intro h128 ok2))))
    have HP2 := Lib.hid P2
    have HF2 := Lib.hid F2
    have HT2 := Lib.hid T2
    have HRY := Lib.hid (pcxDec_run_yes (s := s) hw2)
    have HB2 := Lib.hid b2
    clear l2 s2 yr2 hle2 hw2 P2 F2 T2 t2 ok2 b2 h128
    generalize s.extract 0 (0 + 128) = bb at HP ⊢
    go_upto_region 6 with (go_at_call 150; refine (HP.out _).mono ?_; rintro e w3 ⟨hor, b3⟩; have P3 := Blk.below HP2.out b3 (Blk.lt HP2.out); have F3 : FB w3 f 0 0 0 := Blk.below HF2.out b3 (Blk.lt HF2.out); have l3 := Blk.below HL2.out.1 b3 (Blk.lt HL2.out.1); have s3 := Blk.below HL2.out.2.1 b3 (Blk.lt HL2.out.2.1); have T3 := HT2.out.trans (Turn.of_below (S := [p, g]) b3); simp only [pcx0, pcxPicV, pFlt, pFlt0] at hor; rcases hor with ⟨ff, hh, rfl⟩ | ⟨hh, rfl⟩)
    · obtain ⟨kk, aa⟩ := ff
      have hkk := (pcxHead_some hh).1
      have hkI : ¬ (kk : Int) = 0 := by simp only at hkk; omega
      have e1 : (w3.alloc (.cells #[.int .i64 0, .int .i64 0, .int .i64 0, .int .i64 0, .int .i64 0, .string ⟨#[]⟩, .nilFunc] 145)).heap.size = w3.heap.size + 1 := szA _ _
      have PB6 : PB ((w3.alloc (.cells #[.int .i64 0, .int .i64 0, .int .i64 0, .int .i64 0, .int .i64 0, .string ⟨#[]⟩, .nilFunc] 145)).alloc (.cells #[.int .i64 (kk : Int), .int .i64 7, .int .i64 (aa : Int)] 31)) w.heap.size f w3.heap.size (w3.heap.size + 1) pcx0 #[.int .i64 (kk : Int), .int .i64 7, .int .i64 (aa : Int)] :=
        ⟨Blk.alloc (Blk.alloc P3 _) _, Blk.alloc (Blk.alloc F3 _) _, Blk.alloc (Blk.new _ _ _) _, Blk.new_at _ _ _ e1.symm⟩
      have L6 : LedAt ((w3.alloc (.cells #[.int .i64 0, .int .i64 0, .int .i64 0, .int .i64 0, .int .i64 0, .string ⟨#[]⟩, .nilFunc] 145)).alloc (.cells #[.int .i64 (kk : Int), .int .i64 7, .int .i64 (aa : Int)] 31)) g y2 := Blk.alloc (Blk.alloc l3 _) _
      have T6 := (T3.alloc (.cells #[.int .i64 0, .int .i64 0, .int .i64 0, .int .i64 0, .int .i64 0, .string ⟨#[]⟩, .nilFunc] 145)).alloc (.cells #[.int .i64 (kk : Int), .int .i64 7, .int .i64 (aa : Int)] 31)
      have nu1 := Blk.lt P3
      have nu2 := Blk.lt F3
      have nu3 : w.heap.size ≠ w3.heap.size + 1 := by omega
      have nu4 : f ≠ w3.heap.size + 1 := by omega
      go_upto_region 7 with fail
      generalize (w3.alloc (.cells #[.int .i64 0, .int .i64 0, .int .i64 0, .int .i64 0, .int .i64 0, .string ⟨#[]⟩, .nilFunc] 145)).alloc (.cells #[.int .i64 (kk : Int), .int .i64 7, .int .i64 (aa : Int)] 31) = w6 at PB6 L6 T6 ⊢
      generalize w3.heap.size + 1 = u at PB6 nu3 nu4 ⊢
      generalize w3.heap.size = q at PB6 ⊢
      have nu5 := nu3.symm
      have nu6 := nu4.symm
      have HD := Lib.hid (And.intro PB6 (And.intro L6 T6))
      obtain ⟨a0, a1, a2, a3, a4, a5, a6, z0, z1, z2, z3, z4, z5, z6, zl, d0, d1, d2, y0, y1, y2', yl⟩ := pq_all PB6.P PB6.F
      have u0 := Blk.cell PB6.U 0
      have u1 := Blk.cell PB6.U 1
      have u2 := Blk.cell PB6.U 2
      have ul := Blk.lt PB6.U
      have HRN : Hid ((pcxDec s).run y = (y2, .bad kk aa) ∧ (kk ≠ 4 → pcxFault s = some (kk, aa))) := Lib.hid ⟨by rw [HRY.out, if_neg (by have := HL2.out.2.2.2.1; omega), hh]; rfl, fun _ => by unfold pcxFault; rw [if_neg (by have := HL2.out.2.2.2.1; omega), hh]⟩
      have HK0 := Lib.hid hkk
      clear PB6 L6 T6 P3 F3 l3 s3 T3 b3 e1 hh hkk nu1 nu2
      go_region
      go_wp2_with fail
      exact bodyPost_ret (v := .tuple #[.agg pcx0, .int .i64 0, pFlt kk aa]) (by simp [results, Tryz.results76, go_sem, a0, a1, a2, a3, a4, a5, a6, d0, d1, d2, hpf, hfp, pcx0, pFlt, pFlt0, pcxPicV]) rfl ⟨y2, (Blk.st3 (Blk.st7 HD.out.2.1 n3) n4).drew, HL2.out.2.2.2.2, HB2.out, (Turn.st3 (Turn.st7 HD.out.2.2 (.inr (Nat.le_refl _))) (.inr hfl)).drew, .inl ⟨kk, aa, HK0.out, rfl, HRN.out⟩⟩
    · have hRY : (pcxDec s).run y = (pcxMark s (pcxHd s)).run y2 := by rw [HRY.out, if_neg (by have := HL2.out.2.2.2.1; omega), hh]
      have hFLT : pcxFault s = if (pcxHd s).Map then (if s.size < 897 then some (1, s.size) else if bat s (s.size - 769) = 12 then none else some (2, s.size - 769)) else none := by
        unfold pcxFault
        rw [if_neg (by have := HL2.out.2.2.2.1; omega), hh]
      generalize hgh : pcxHd s = h at *
      generalize hen : s.extract 16 64 = en at *
      have e1 : (w3.alloc (.cells #[.int .i64 (h.W : Int), .int .i64 (h.H : Int), .int .i64 (h.bits : Int), .int .i64 (h.planes : Int), .int .i64 (h.line : Int), .string en, .nilFunc] 145)).heap.size = w3.heap.size + 1 := szA _ _
      have PB6 : PB ((w3.alloc (.cells #[.int .i64 (h.W : Int), .int .i64 (h.H : Int), .int .i64 (h.bits : Int), .int .i64 (h.planes : Int), .int .i64 (h.line : Int), .string en, .nilFunc] 145)).alloc (.cells #[.int .i64 0, .int .i64 0, .int .i64 0] 31)) w.heap.size f w3.heap.size (w3.heap.size + 1) #[.int .i64 (h.W : Int), .int .i64 (h.H : Int), .int .i64 (h.bits : Int), .int .i64 (h.planes : Int), .int .i64 (h.line : Int), .string en, .nilFunc] #[.int .i64 0, .int .i64 0, .int .i64 0] :=
        ⟨Blk.alloc (Blk.alloc P3 _) _, Blk.alloc (Blk.alloc F3 _) _, Blk.alloc (Blk.new _ _ _) _, Blk.new_at _ _ _ e1.symm⟩
      have L6 : LedAt ((w3.alloc (.cells #[.int .i64 (h.W : Int), .int .i64 (h.H : Int), .int .i64 (h.bits : Int), .int .i64 (h.planes : Int), .int .i64 (h.line : Int), .string en, .nilFunc] 145)).alloc (.cells #[.int .i64 0, .int .i64 0, .int .i64 0] 31)) g y2 := Blk.alloc (Blk.alloc l3 _) _
      have S6 : SrcAt ((w3.alloc (.cells #[.int .i64 (h.W : Int), .int .i64 (h.H : Int), .int .i64 (h.bits : Int), .int .i64 (h.planes : Int), .int .i64 (h.line : Int), .string en, .nilFunc] 145)).alloc (.cells #[.int .i64 0, .int .i64 0, .int .i64 0] 31)) p g s 0 s.size (0 + 128) := Blk.alloc (Blk.alloc s3 _) _
      have T6 := (T3.alloc (.cells #[.int .i64 (h.W : Int), .int .i64 (h.H : Int), .int .i64 (h.bits : Int), .int .i64 (h.planes : Int), .int .i64 (h.line : Int), .string en, .nilFunc] 145)).alloc (.cells #[.int .i64 0, .int .i64 0, .int .i64 0] 31)
      have nu1 := Blk.lt P3
      have nu2 := Blk.lt F3
      have nu3 : w.heap.size ≠ w3.heap.size + 1 := by omega
      have nu4 : f ≠ w3.heap.size + 1 := by omega
      have nq3 : w.heap.size ≠ w3.heap.size := by omega
      have nq4 : f ≠ w3.heap.size := by omega
      have nqu : w3.heap.size ≠ w3.heap.size + 1 := by omega
      have hus : w.heap.size ≤ w3.heap.size + 1 := by omega
      rw [Nat.zero_add] at S6
      go_upto_region 8 with fail
      generalize (w3.alloc (.cells #[.int .i64 (h.W : Int), .int .i64 (h.H : Int), .int .i64 (h.bits : Int), .int .i64 (h.planes : Int), .int .i64 (h.line : Int), .string en, .nilFunc] 145)).alloc (.cells #[.int .i64 0, .int .i64 0, .int .i64 0] 31) = w6 at PB6 L6 T6 S6 ⊢
      generalize w3.heap.size + 1 = u at PB6 nu3 nu4 nqu hus ⊢
      generalize w3.heap.size = q at PB6 nq3 nq4 nqu ⊢
      have nu5 := nu3.symm
      have nu6 := nu4.symm
      have nq5 := nq3.symm
      have nq6 := nq4.symm
      have nuq := nqu.symm
      have HD := Lib.hid (And.intro PB6 (And.intro L6 (And.intro T6 S6)))
      obtain ⟨a0, a1, a2, a3, a4, a5, a6, z0, z1, z2, z3, z4, z5, z6, zl, d0, d1, d2, y0, y1, y2', yl⟩ := pq_all PB6.P PB6.F
      have q0 := Blk.cell PB6.Q 0
      have q1 := Blk.cell PB6.Q 1
      have q2 := Blk.cell PB6.Q 2
      have q3 := Blk.cell PB6.Q 3
      have q4 := Blk.cell PB6.Q 4
      have q5 := Blk.cell PB6.Q 5
      have q6 := Blk.cell PB6.Q 6
      have HRUN := Lib.hid hRY
      have HFT := Lib.hid hFLT
      have HFI := Lib.hid (And.intro hgh hen)
      have h128 := HL2.out.2.2.2.1
      clear PB6 L6 T6 S6 P3 F3 l3 s3 T3 b3 e1 hh hRY hFLT nu1 nu2 hgh hen
      by_cases hM : h.Map
      · obtain ⟨hb8, hp1⟩ := hM
        have HMM : Hid h.Map := Lib.hid ⟨hb8, hp1⟩
        have hb8I : (h.bits : Int) = 8 := by omega
        have hp1I : (h.planes : Int) = 1 := by omega
        rw [hb8I] at q2
        rw [hp1I] at q3
        have u0 := Blk.cell HD.out.1.U 0
        have u1 := Blk.cell HD.out.1.U 1
        have u2 := Blk.cell HD.out.1.U 2
        have v0 := Blk.frozen HD.out.1.U 0
        have v1 := Blk.frozen HD.out.1.U 1
        have v2 := Blk.frozen HD.out.1.U 2
        have ul := Blk.lt HD.out.1.U
        by_cases h9 : 897 ≤ s.size
        · obtain ⟨m, hm⟩ : ∃ m, s.size - 769 = m := ⟨_, rfl⟩
          have hmI : (s.size : Int) - 769 = (m : Int) := by omega
          have HMK := Lib.hid (pcxMark_far (m := m) (by omega) (by omega) HSM.out HD.out.2.2.2 HD.out.2.1 HL2.out.2.2.2.2 HL2.out.2.2.1)
          have hTo : pcxTo s h = m := by unfold pcxTo; rw [if_pos HMM.out, hm]
          have hrun2 : (pcxDec s).run y = (Dec.work 1 0 128 (if bat s m = 12 then pcxBody s h else .fin (.bad 2 m))).run y2 := by
            rw [HRUN.out]
            unfold pcxMark
            rw [if_pos HMM.out, if_neg (by omega), hm]
          have hfl2 : pcxFault s = if bat s m = 12 then none else some (2, m) := by
            rw [HFT.out, if_pos HMM.out, if_neg (by omega), hm]
          have HR2 := Lib.hid (And.intro hTo (And.intro hrun2 hfl2))
          have hmB : (m : Int) ≤ 1099511627776 := by have := HSM.out; omega
          clear hTo hrun2 hfl2 hm hb8 hp1 hb8I hp1I
          go_upto_region 12 with (first
            | (go_at_call 152; refine HMK.out.mono ?_; rintro e w7 ⟨y7, l7, ok7, b7, t7, s7, hor⟩; have PB7 := HD.out.1.turn HD.out.2.2.2 HD.out.2.1 t7; have T7 := HD.out.2.2.1.trans t7; clear a0 a1 a2 a3 a4 a5 a6 z0 z1 z2 z3 z4 z5 z6 zl d0 d1 d2 y0 y1 y2' yl q0 q1 q2 q3 q4 q5 q6 u0 u1 u2 v0 v1 v2 ul; have u0 := Blk.cell PB7.U 0; have u1 := Blk.cell PB7.U 1; have u2 := Blk.cell PB7.U 2; have v0 := Blk.frozen PB7.U 0; have v1 := Blk.frozen PB7.U 1; have v2 := Blk.frozen PB7.U 2; have ul := Blk.lt PB7.U; simp only [pFlt, pFlt0] at hor; rcases hor with ⟨hw7, rfl⟩ | ⟨hw7, yr7, ⟨h12, rfl⟩ | ⟨h12, rfl⟩⟩)
            | (go_at_call 151; refine (srcTo_at HD.out.2.2.2).mono ?_; rintro e w' ⟨rfl, rfl⟩))
          · generalize hw9 : ((w7.setCell ⟨u, 0, none⟩ (.int .i64 4)).setCell ⟨u, 1, none⟩ (.int .i64 7)).setCell ⟨u, 2, none⟩ (.int .i64 128) = w9
            have U9 : FB w9 u 4 7 128 := by rw [← hw9]; exact FB.st3 PB7.U
            have P9 : Blk w9 w.heap.size 145 pcx0 := by rw [← hw9]; exact Blk.st3 PB7.P nu3
            have F9 : FB w9 f 0 0 0 := by rw [← hw9]; exact Blk.st3 PB7.F nu4
            have Q9 := (show Blk w9 q 145 _ by rw [← hw9]; exact Blk.st3 PB7.Q nqu)
            have l9 : LedAt w9 g y7 := by rw [← hw9]; exact Blk.st3 l7 (Blk.ne_ l7 PB7.U (by decide))
            have T9 : Turn [p, g] w w9 := by rw [← hw9]; exact Turn.st3 T7 (.inr hus)
            clear hw9 PB7 l7 T7 u0 u1 u2 v0 v1 v2 ul
            obtain ⟨u0, u1, u2, v0, v1, v2, ul⟩ := FB.all U9
            obtain ⟨a0, a1, a2, a3, a4, a5, a6, z0, z1, z2, z3, z4, z5, z6, zl, d0, d1, d2, y0, y1, y2', yl⟩ := pq_all P9 F9
            have HE9 := Lib.hid (And.intro l9 T9)
            clear U9 P9 F9 Q9 l9 T9
            go_wp2_with fail
            go_region
            go_wp2_with fail
            exact bodyPost_ret (v := .tuple #[.agg pcx0, .int .i64 0, pFlt 4 128]) (by simp [results, Tryz.results76, go_sem, a0, a1, a2, a3, a4, a5, a6, d0, d1, d2, hpf, hfp, pcx0, pFlt, pFlt0, pcxPicV]) rfl ⟨y7, (Blk.st3 (Blk.st7 HE9.out.1 n3) n4).drew, ok7, b7.trans HB2.out, (Turn.st3 (Turn.st7 HE9.out.2 (.inr (Nat.le_refl _))) (.inr hfl)).drew, .inl ⟨4, 128, by decide, rfl, ⟨by rw [HR2.out.2.1, run_work_no hw7, give_zero ok7.y0], fun h => absurd rfl h⟩⟩⟩
          · generalize hw9 : ((w7.setCell ⟨u, 0, none⟩ (.int .i64 0)).setCell ⟨u, 1, none⟩ (.int .i64 0)).setCell ⟨u, 2, none⟩ (.int .i64 0) = w9
            have U9 : FB w9 u 0 0 0 := by rw [← hw9]; exact FB.st3 PB7.U
            have P9 : Blk w9 w.heap.size 145 pcx0 := by rw [← hw9]; exact Blk.st3 PB7.P nu3
            have F9 : FB w9 f 0 0 0 := by rw [← hw9]; exact Blk.st3 PB7.F nu4
            have Q9 := (show Blk w9 q 145 _ by rw [← hw9]; exact Blk.st3 PB7.Q nqu)
            have l9 : LedAt w9 g y7 := by rw [← hw9]; exact Blk.st3 l7 (Blk.ne_ l7 PB7.U (by decide))
            have T9 : Turn [p, g] w w9 := by rw [← hw9]; exact Turn.st3 T7 (.inr hus)
            have S9 : SrcAt w9 p g s 0 s.size 128 := by rw [← hw9]; exact Blk.st3 s7 (Blk.ne_ s7 PB7.U (by decide))
            clear hw9 PB7 l7 T7 u0 u1 u2 v0 v1 v2 ul
            obtain ⟨u0, u1, u2, v0, v1, v2, ul⟩ := FB.all U9
            obtain ⟨a0, a1, a2, a3, a4, a5, a6, z0, z1, z2, z3, z4, z5, z6, zl, d0, d1, d2, y0, y1, y2', yl⟩ := pq_all P9 F9
            have q0 := Blk.cell Q9 0
            have q1 := Blk.cell Q9 1
            have q2 := Blk.cell Q9 2
            have q3 := Blk.cell Q9 3
            have q4 := Blk.cell Q9 4
            have q5 := Blk.cell Q9 5
            have q6 := Blk.cell Q9 6
            have HE9 := Lib.hid (And.intro l9 (And.intro T9 S9))
            clear U9 P9 F9 Q9 l9 T9 S9
            go_wp2_with fail
            exact bodyPost_ret (v := .tuple #[.agg #[.int .i64 (h.W : Int), .int .i64 (h.H : Int), .int .i64 (h.bits : Int), .int .i64 (h.planes : Int), .int .i64 (h.line : Int), .string en, .nilFunc], .int .i64 (m : Int), pFlt0]) (by simp [results, Tryz.results76, go_sem, a0, a1, a2, a3, a4, a5, a6, d0, d1, d2, hpf, hfp, pcx0, pFlt, pFlt0, pcxPicV]) rfl ⟨y7, Blk.st3 (Blk.st7 HE9.out.1 n3) n4, ok7, b7.trans HB2.out, Turn.st3 (Turn.st7 HE9.out.2.1 (.inr (Nat.le_refl _))) (.inr hfl), .inr ⟨by rw [HFI.out.1, HR2.out.1, ← HFI.out.2]; rfl, Blk.st3 (Blk.st7 HE9.out.2.2 n1) n2, yr7, by rw [HR2.out.2.2, if_pos h12], HL2.out.2.2.2.1, by rw [HFI.out.1, HR2.out.2.1, run_work_yes hw7, if_pos h12]⟩⟩
          · generalize hw9 : ((w7.setCell ⟨u, 0, none⟩ (.int .i64 2)).setCell ⟨u, 1, none⟩ (.int .i64 7)).setCell ⟨u, 2, none⟩ (.int .i64 (m : Int)) = w9
            have U9 : FB w9 u 2 7 (m : Int) := by rw [← hw9]; exact FB.st3 PB7.U
            have P9 : Blk w9 w.heap.size 145 pcx0 := by rw [← hw9]; exact Blk.st3 PB7.P nu3
            have F9 : FB w9 f 0 0 0 := by rw [← hw9]; exact Blk.st3 PB7.F nu4
            have Q9 := (show Blk w9 q 145 _ by rw [← hw9]; exact Blk.st3 PB7.Q nqu)
            have l9 : LedAt w9 g y7 := by rw [← hw9]; exact Blk.st3 l7 (Blk.ne_ l7 PB7.U (by decide))
            have T9 : Turn [p, g] w w9 := by rw [← hw9]; exact Turn.st3 T7 (.inr hus)
            clear hw9 PB7 l7 T7 u0 u1 u2 v0 v1 v2 ul
            obtain ⟨u0, u1, u2, v0, v1, v2, ul⟩ := FB.all U9
            obtain ⟨a0, a1, a2, a3, a4, a5, a6, z0, z1, z2, z3, z4, z5, z6, zl, d0, d1, d2, y0, y1, y2', yl⟩ := pq_all P9 F9
            have HE9 := Lib.hid (And.intro l9 T9)
            clear U9 P9 F9 Q9 l9 T9
            go_wp2_with fail
            go_region
            go_wp2_with fail
            exact bodyPost_ret (v := .tuple #[.agg pcx0, .int .i64 0, pFlt 2 m]) (by simp [results, Tryz.results76, go_sem, a0, a1, a2, a3, a4, a5, a6, d0, d1, d2, hpf, hfp, pcx0, pFlt, pFlt0, pcxPicV]) rfl ⟨y7, (Blk.st3 (Blk.st7 HE9.out.1 n3) n4).drew, ok7, b7.trans HB2.out, (Turn.st3 (Turn.st7 HE9.out.2 (.inr (Nat.le_refl _))) (.inr hfl)).drew, .inl ⟨2, m, by decide, rfl, ⟨by rw [HR2.out.2.1, run_work_yes hw7, if_neg h12]; rfl, fun _ => by rw [HR2.out.2.2, if_neg h12]⟩⟩⟩
        · have hmI : (s.size : Int) - 769 < 128 := by omega
          have HMK := Lib.hid (pcxMark_short (m := (s.size : Int) - 769) hmI HD.out.2.2.2)
          have hrun2 : (pcxDec s).run y = (y2, .bad 1 s.size) := by
            rw [HRUN.out]
            unfold pcxMark
            rw [if_pos HMM.out, if_pos (by omega)]
            rfl
          have hfl2 : pcxFault s = some (1, s.size) := by rw [HFT.out, if_pos HMM.out, if_pos (by omega)]
          have HR2 := Lib.hid (And.intro hrun2 hfl2)
          have hsB : (s.size : Int) ≤ 1099511627776 := by have := HSM.out; omega
          clear hrun2 hfl2 hb8 hp1 hb8I hp1I h9
          go_upto_region 12 with (first
            | (go_at_call 152; refine HMK.out.mono ?_; rintro e w7 ⟨rfl, b7⟩; have PB7 := HD.out.1.below b7; have l7 := Blk.below HD.out.2.1 b7 (Blk.lt HD.out.2.1); have T7 := HD.out.2.2.1.trans (Turn.of_below (S := [p, g]) b7); clear a0 a1 a2 a3 a4 a5 a6 z0 z1 z2 z3 z4 z5 z6 zl d0 d1 d2 y0 y1 y2' yl q0 q1 q2 q3 q4 q5 q6 u0 u1 u2 v0 v1 v2 ul; have u0 := Blk.cell PB7.U 0; have u1 := Blk.cell PB7.U 1; have u2 := Blk.cell PB7.U 2; have v0 := Blk.frozen PB7.U 0; have v1 := Blk.frozen PB7.U 1; have v2 := Blk.frozen PB7.U 2; have ul := Blk.lt PB7.U; simp only [pFlt])
            | (go_at_call 151; refine (srcTo_at HD.out.2.2.2).mono ?_; rintro e w' ⟨rfl, rfl⟩))
          generalize hw9 : ((w7.setCell ⟨u, 0, none⟩ (.int .i64 1)).setCell ⟨u, 1, none⟩ (.int .i64 7)).setCell ⟨u, 2, none⟩ (.int .i64 (s.size : Int)) = w9
          have U9 : FB w9 u 1 7 (s.size : Int) := by rw [← hw9]; exact FB.st3 PB7.U
          have P9 : Blk w9 w.heap.size 145 pcx0 := by rw [← hw9]; exact Blk.st3 PB7.P nu3
          have F9 : FB w9 f 0 0 0 := by rw [← hw9]; exact Blk.st3 PB7.F nu4
          have Q9 := (show Blk w9 q 145 _ by rw [← hw9]; exact Blk.st3 PB7.Q nqu)
          have l9 : LedAt w9 g y2 := by rw [← hw9]; exact Blk.st3 l7 (Blk.ne_ l7 PB7.U (by decide))
          have T9 : Turn [p, g] w w9 := by rw [← hw9]; exact Turn.st3 T7 (.inr hus)
          clear hw9 PB7 l7 T7 u0 u1 u2 v0 v1 v2 ul
          obtain ⟨u0, u1, u2, v0, v1, v2, ul⟩ := FB.all U9
          obtain ⟨a0, a1, a2, a3, a4, a5, a6, z0, z1, z2, z3, z4, z5, z6, zl, d0, d1, d2, y0, y1, y2', yl⟩ := pq_all P9 F9
          have HE9 := Lib.hid (And.intro l9 T9)
          clear U9 P9 F9 Q9 l9 T9
          go_wp2_with fail
          go_region
          go_wp2_with fail
          exact bodyPost_ret (v := .tuple #[.agg pcx0, .int .i64 0, pFlt 1 s.size]) (by simp [results, Tryz.results76, go_sem, a0, a1, a2, a3, a4, a5, a6, d0, d1, d2, hpf, hfp, pcx0, pFlt, pFlt0, pcxPicV]) rfl ⟨y2, (Blk.st3 (Blk.st7 HE9.out.1 n3) n4).drew, HL2.out.2.2.2.2, HB2.out, (Turn.st3 (Turn.st7 HE9.out.2 (.inr (Nat.le_refl _))) (.inr hfl)).drew, .inl ⟨1, s.size, by decide, rfl, ⟨HR2.out.1, fun _ => HR2.out.2⟩⟩⟩
      · have hTo : pcxTo s h = s.size := by unfold pcxTo; rw [if_neg hM]
        have hrun2 : (pcxDec s).run y = (pcxBody s h).run y2 := by
          rw [HRUN.out]
          unfold pcxMark
          rw [if_neg hM]
        have hfl2 : pcxFault s = none := by rw [HFT.out, if_neg hM]
        have HR2 := Lib.hid (And.intro hTo (And.intro hrun2 hfl2))
        have hsB : (s.size : Int) ≤ 1099511627776 := by have := HSM.out; omega
        by_cases hb8 : h.bits = 8
        · have hb8I : ((h.bits : Int) == 8) = true := by rw [beq_iff_eq]; omega
          have hp1I : ((h.planes : Int) == 1) = false := by rw [beq_eq_false_iff_ne]; exact fun e => hM ⟨hb8, by omega⟩
          clear hTo hrun2 hfl2 hb8 hM
          go_wp2_with (go_at_call 151; refine (srcTo_at HD.out.2.2.2).mono ?_; rintro e w' ⟨rfl, rfl⟩)
          exact bodyPost_ret (v := .tuple #[.agg #[.int .i64 (h.W : Int), .int .i64 (h.H : Int), .int .i64 (h.bits : Int), .int .i64 (h.planes : Int), .int .i64 (h.line : Int), .string en, .nilFunc], .int .i64 (s.size : Int), pFlt0]) (by simp [results, Tryz.results76, go_sem, a0, a1, a2, a3, a4, a5, a6, d0, d1, d2, hpf, hfp, pcx0, pFlt, pFlt0, pcxPicV]) rfl ⟨y2, Blk.st3 (Blk.st7 HD.out.2.1 n3) n4, HL2.out.2.2.2.2, HB2.out, Turn.st3 (Turn.st7 HD.out.2.2.1 (.inr (Nat.le_refl _))) (.inr hfl), .inr ⟨by rw [HFI.out.1, HR2.out.1, ← HFI.out.2]; rfl, Blk.st3 (Blk.st7 HD.out.2.2.2 n1) n2, HL2.out.2.2.1, HR2.out.2.2, HL2.out.2.2.2.1, by rw [HFI.out.1]; exact HR2.out.2.1⟩⟩
        · have hb8I : ((h.bits : Int) == 8) = false := by rw [beq_eq_false_iff_ne]; omega
          clear hTo hrun2 hfl2 hb8 hM
          go_wp2_with (go_at_call 151; refine (srcTo_at HD.out.2.2.2).mono ?_; rintro e w' ⟨rfl, rfl⟩)
          exact bodyPost_ret (v := .tuple #[.agg #[.int .i64 (h.W : Int), .int .i64 (h.H : Int), .int .i64 (h.bits : Int), .int .i64 (h.planes : Int), .int .i64 (h.line : Int), .string en, .nilFunc], .int .i64 (s.size : Int), pFlt0]) (by simp [results, Tryz.results76, go_sem, a0, a1, a2, a3, a4, a5, a6, d0, d1, d2, hpf, hfp, pcx0, pFlt, pFlt0, pcxPicV]) rfl ⟨y2, Blk.st3 (Blk.st7 HD.out.2.1 n3) n4, HL2.out.2.2.2.2, HB2.out, Turn.st3 (Turn.st7 HD.out.2.2.1 (.inr (Nat.le_refl _))) (.inr hfl), .inr ⟨by rw [HFI.out.1, HR2.out.1, ← HFI.out.2]; rfl, Blk.st3 (Blk.st7 HD.out.2.2.2 n1) n2, HL2.out.2.2.1, HR2.out.2.2, HL2.out.2.2.2.1, by rw [HFI.out.1]; exact HR2.out.2.1⟩⟩
end Go.Proofs.YtccldalagbfmhaaGreat
