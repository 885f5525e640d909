/- The document's Sides and Decode of a file of PCX's, whole; pcx: a file's head is read, and it is the document's. pcx: Is; runs by the wide budget, by any budget. -/
import Derived.Test.YtccldalagbfmhaaGreatPcxT
import Derived.Test.YtccldalagbfmhaaGreatPcxO
import Derived.Test.YtccldalagbfmhaaGreatFfM
import Derived.Test.YtccldalagbfmhaaGreatPcxPackW
namespace Go.Proofs.YtccldalagbfmhaaGreat
open Go.RowKit
set_option linter.unusedVariables false
set_option linter.unusedSimpArgs false

theorem pcxFault_some {s : ByteArray} {f : Nat × Nat} (h : pcxFault s = some f) : f.1 ≠ 0 ∧ f.1 ≠ 4 := by
  unfold pcxFault at h
  by_cases h1 : s.size < 128
  · rw [if_pos h1] at h; cases h; exact ⟨by simp, by simp⟩
  · rw [if_neg h1] at h
    cases hh : pcxHead s with
    | some f' => rw [hh] at h; cases h; exact ⟨(pcxHead_some hh).1, (pcxHead_some hh).2.1⟩
    | none =>
      rw [hh] at h
      simp only at h
      by_cases h2 : (pcxHd s).Map
      · rw [if_pos h2] at h
        by_cases h3 : s.size < 897
        · rw [if_pos h3] at h; cases h; exact ⟨by simp, by simp⟩
        · rw [if_neg h3] at h
          by_cases h4 : bat s (s.size - 769) = 12
          · rw [if_pos h4] at h; cases h
          · rw [if_neg h4] at h; cases h; exact ⟨by simp, by simp⟩
      · rw [if_neg h2] at h; cases h
theorem pcxFault_size {s : ByteArray} (h : pcxFault s = none) : 128 ≤ s.size := by
  unfold pcxFault at h
  by_cases h1 : s.size < 128
  · rw [if_pos h1] at h; cases h
  · omega
theorem pcxRef_ways {s : ByteArray} {h : PcxHd} {te : Nat} : ∀ n a L, (∃ k b : Nat, k ≠ 0 ∧ k ≠ 4 ∧ pcxRef s h te n a L = .bad k b) ∨ ∃ l, pcxRef s h te n a L = .img h.W h.H l := by
  intro n
  induction n with
  | zero => intro a L; exact .inr ⟨_, rfl⟩
  | succ n ih =>
    intro a L
    unfold pcxRef
    cases hg : pcxGet s te h.row h.row a [] with
    | inl g => exact .inl ⟨g.1, g.2, (pcxGet_bad _ _ _ hg).1, (pcxGet_bad _ _ _ hg).2, rfl⟩
    | inr p => exact ih _ _
/-- the ways that a file is told -/
inductive PcxTold (s : ByteArray) : Prop where
  | bad (k a : Nat) (hk : k ≠ 0) (h4 : k ≠ 4) (hf : pcxFault s = some (k, a)) (t : (pcxDec s).told = .bad k a) (u : pcxSides s = (0, 0)) : PcxTold s
  | body (hf : pcxFault s = none) (t : (pcxDec s).told = pcxRef s (pcxHd s) (pcxTo s (pcxHd s)) (pcxHd s).H 128 []) (u : pcxSides s = ((pcxHd s).W, (pcxHd s).H)) : PcxTold s
theorem pcxTold_is (s : ByteArray) : PcxTold s := by
  cases hf : pcxFault s with
  | some f =>
    refine .bad f.1 f.2 (pcxFault_some hf).1 (pcxFault_some hf).2 hf ?_ ?_
    · rw [pcxDec_told, hf]
    · unfold pcxSides; rw [hf]
  | none =>
    refine .body hf ?_ ?_
    · rw [pcxDec_told, hf]
    · unfold pcxSides; rw [hf]
theorem pcxTold_ways {s : ByteArray} : (∃ k a : Nat, k ≠ 0 ∧ k ≠ 4 ∧ (pcxDec s).told = .bad k a) ∨ ∃ l, (pcxDec s).told = .img (pcxHd s).W (pcxHd s).H l := by
  cases pcxTold_is s with
  | bad k a hk h4 hf t u => exact .inl ⟨k, a, hk, h4, t⟩
  | body hf t u => rw [t]; exact pcxRef_ways _ _ _
theorem refPcxSides {s : ByteArray} (hsm : s.size ≤ 1099511627776) (w : World) : Calls Tryz.prog 29 #[.string s] w fun e w' => e = .returned (.tuple #[.int .i64 ((pcxSides s).1 : Int), .int .i64 ((pcxSides s).2 : Int)]) ∧ Below w.heap.size w w' := by
  have HR := Lib.hid (fun w => refPcxReadC hsm w)
  have key : ∃ d t n k a : Int, pcxRdV s = hdP ((pcxSides s).1 : Int) ((pcxSides s).2 : Int) d t n k a := by
    unfold pcxRdV pcxSides
    cases pcxFault s with
    | some f => exact ⟨_, _, _, _, _, rfl⟩
    | none => exact ⟨_, _, _, _, _, rfl⟩
  obtain ⟨d, t, n, k, a, hk⟩ := key
  rw [hk] at HR
  unfold hdP at HR
  generalize (pcxSides s).1 = W at HR ⊢
  generalize (pcxSides s).2 = H at HR ⊢
  clear hk
  go_enter Tryz.func29, Tryz.ntmps29
  go_wp2_with (go_at_call 75; refine (HR.out _).mono ?_; rintro e w1 ⟨rfl, b1⟩)
  go_region
  go_wp2_with fail
  exact bodyPost_ret (v := .tuple #[.int .i64 (W : Int), .int .i64 (H : Int)]) (by simp [results, Tryz.results29, go_sem]) rfl ⟨rfl, (b1.alloc b1.size _).drew⟩
set_option maxHeartbeats 2000000 in
theorem refPcxDec_bad {s : ByteArray} {k a : Nat} (hk : k ≠ 0) (hsm : s.size ≤ 1099511627776) (hR : pcxRdV s = hdP 0 0 0 0 0 (k : Int) (a : Int)) (w : World) :
    Calls Tryz.prog 31 #[.string s] w fun e w' => e = .returned (.agg #[.int .i64 0, .int .i64 0, .slice none 0 0, .int .i64 (k : Int), .int .i64 (a : Int)]) ∧ Below w.heap.size w w' := by
  obtain ⟨F0, B0⟩ := ri_new w
  have HR := Lib.hid (fun w => refPcxReadC hsm w)
  rw [hR] at HR
  unfold hdP at HR
  have hkI : ¬ (k : Int) = 0 := by omega
  clear hR
  go_enter Tryz.func31, Tryz.ntmps31
  go_wp2_with (first
    | (go_at_call 75; refine (HR.out _).mono ?_; rintro e w1 ⟨rfl, b1⟩; have A1 : RI (w1.alloc (.cells #[.int .i64 0, .int .i64 0, .int .i64 0, .int .i64 0, .int .i64 0, .int .i64 (k : Int), .int .i64 (a : Int)] 141)) w.heap.size 0 0 (.slice none 0 0) 0 0 := Blk.alloc (Blk.below F0 b1 (Blk.lt F0)) _; have B1 : Below w.heap.size w (w1.alloc (.cells #[.int .i64 0, .int .i64 0, .int .i64 0, .int .i64 0, .int .i64 0, .int .i64 (k : Int), .int .i64 (a : Int)] 141)) := (below_next B0 b1).alloc (below_next B0 b1).size _)
    | (go_at_call 67; refine (refBadC _ _ _).mono ?_; rintro e w5 ⟨rfl, b5⟩; have f5 : RI w5 w.heap.size 0 0 (.slice none 0 0) 0 0 := Blk.below A1 b5 (Blk.lt A1); obtain ⟨c0, c1, c2, c3, c4, z0, z1, z2, z3, z4, fl⟩ := RI.all f5))
  exact bodyPost_ret (v := .agg #[.int .i64 0, .int .i64 0, .slice none 0 0, .int .i64 (k : Int), .int .i64 (a : Int)]) (by simp [results, Tryz.results31, go_sem, c0, c1, c2, c3, c4]) rfl ⟨rfl, Below.st5 (below_next B1 b5) (Nat.le_refl _)⟩
theorem refPcxDecode {s : ByteArray} (hsm : s.size ≤ 1099511627776) (w : World) : Calls Tryz.prog 31 #[.string s] w fun e w' => RefPost (pcxDec s).told w w' e := by
  cases pcxTold_is s with
  | bad k a hk h4 hf t u =>
    rw [t]
    refine (refPcxDec_bad (k := k) (a := a) hk hsm (by unfold pcxRdV; rw [hf]) w).mono ?_
    rintro e w' ⟨h1, h2⟩
    exact ⟨h2, h1⟩
  | body hf t u =>
    rw [t]
    obtain ⟨ok, hm⟩ := pcxFault_none hf
    have hs := pcxFault_size hf
    have hrd : pcxRdV s = hdP ((pcxHd s).W : Int) ((pcxHd s).H : Int) ((pcxHd s).bits : Int) ((pcxHd s).planes : Int) ((pcxHd s).line : Int) 0 0 := by
      unfold pcxRdV
      rw [hf]
    clear t u hf
    generalize pcxHd s = g at *
    obtain ⟨gW, gH, gd, gp, gl⟩ := g
    by_cases hd : gd = 8
    · by_cases hp : gp = 1
      · have hM : (⟨gW, gH, gd, gp, gl⟩ : PcxHd).Map := ⟨hd, hp⟩
        have h9 := hm hM
        have hte : pcxTo s ⟨gW, gH, gd, gp, gl⟩ = s.size - 769 := by unfold pcxTo; rw [if_pos hM]
        exact refPcxDecM hsm hs ok hd hp hte (by rw [hte]; omega) hm hrd rfl w
      · have hM : ¬ (⟨gW, gH, gd, gp, gl⟩ : PcxHd).Map := fun h => hp h.2
        have hte : pcxTo s ⟨gW, gH, gd, gp, gl⟩ = s.size := by unfold pcxTo; rw [if_neg hM]
        exact refPcxDecN hsm hs ok hd hp hte (by rw [hte]; omega) hm hrd rfl w
    · have hM : ¬ (⟨gW, gH, gd, gp, gl⟩ : PcxHd).Map := fun h => hd h.1
      have hte : pcxTo s ⟨gW, gH, gd, gp, gl⟩ = s.size := by unfold pcxTo; rw [if_neg hM]
      exact refPcxDecO hsm hs ok hd hte (by rw [hte]; omega) hm hrd rfl w
def pHd0 : Value := .agg #[.int .i64 0, .int .i64 0, .int .i64 0, .int .i64 0, .int .i64 0]
def pHdV (h : PcxHd) : Value := .agg #[.int .i64 (h.W : Int), .int .i64 (h.H : Int), .int .i64 (h.bits : Int), .int .i64 (h.planes : Int), .int .i64 (h.line : Int)]
/-- what Read leaves -/
def PRdPost (w w' : World) (p g : Nat) (s : ByteArray) (y : Led) (e : Ending) : Prop :=
  ∃ y', LedAt w' g y' ∧ Turn [p, g] w w' ∧
    ((∃ kk aa : Nat, kk ≠ 0 ∧ e = .returned (.tuple #[pHd0, pFlt kk aa]) ∧ (pcxDec s).run y = (y', .bad kk aa) ∧ (kk ≠ 4 → pcxFault s = some (kk, aa))) ∨
     (e = .returned (.tuple #[pHdV (pcxHd s), pFlt0]) ∧ pcxFault s = none))
theorem Turn.st5p {S : List Nat} {a w : World} {b : Nat} {u0 u1 u2 u3 u4 : Value} (h : Turn S a w) (hb : b ∈ S ∨ a.heap.size ≤ b) : Turn S a (st5 w b u0 u1 u2 u3 u4) := ((((h.set_ 0 u0 hb).set_ 1 u1 hb).set_ 2 u2 hb).set_ 3 u3 hb).set_ 4 u4 hb
theorem prd_all {w : World} {p f : Nat} {k c a : Int} {v0 v1 v2 v3 v4 : Value} (P : Blk w p 153 #[v0, v1, v2, v3, v4]) (F : FB w f k c a) : w.cell? ⟨p, 0, none⟩ = some v0 ∧ w.cell? ⟨p, 1, none⟩ = some v1 ∧ w.cell? ⟨p, 2, none⟩ = some v2 ∧ w.cell? ⟨p, 3, none⟩ = some v3 ∧ w.cell? ⟨p, 4, none⟩ = some v4 ∧ w.frozen? ⟨p, 0, none⟩ = false ∧ w.frozen? ⟨p, 1, none⟩ = false ∧ w.frozen? ⟨p, 2, none⟩ = false ∧ w.frozen? ⟨p, 3, none⟩ = false ∧ w.frozen? ⟨p, 4, none⟩ = false ∧ p < w.heap.size ∧
    w.cell? ⟨f, 0, none⟩ = some (.int .i64 k) ∧ w.cell? ⟨f, 1, none⟩ = some (.int .i64 c) ∧ w.cell? ⟨f, 2, none⟩ = some (.int .i64 a) ∧ w.frozen? ⟨f, 0, none⟩ = false ∧ w.frozen? ⟨f, 1, none⟩ = false ∧ w.frozen? ⟨f, 2, none⟩ = false ∧ f < w.heap.size :=
  ⟨Blk.cell P 0, Blk.cell P 1, Blk.cell P 2, Blk.cell P 3, Blk.cell P 4, Blk.frozen P 0, Blk.frozen P 1, Blk.frozen P 2, Blk.frozen P 3, Blk.frozen P 4, Blk.lt P, Blk.cell F 0, Blk.cell F 1, Blk.cell F 2, Blk.frozen F 0, Blk.frozen F 1, Blk.frozen F 2, Blk.lt F⟩
set_option maxRecDepth 100000 in
set_option maxHeartbeats 4000000 in
theorem pcxReadC {w : World} {p g : Nat} {s : ByteArray} {y : Led} (S0 : SrcAt w p g s 0 s.size 0) (L0 : LedAt w g y) (hsm : s.size ≤ 1099511627776) (ok : y.Ok) (hr : y.reason = 0) :
    Calls Tryz.prog 80 #[.pointer (some ⟨p, 0, none⟩)] w fun e w' => PRdPost w w' p g s y e := by
  have S1 : SrcAt ((w.alloc (.cells #[.int .i64 0, .int .i64 0, .int .i64 0, .int .i64 0, .int .i64 0] 153)).alloc (.cells #[.int .i64 0, .int .i64 0, .int .i64 0] 31)) p g s 0 s.size 0 := Blk.alloc (Blk.alloc S0 _) _
  have L1 : LedAt ((w.alloc (.cells #[.int .i64 0, .int .i64 0, .int .i64 0, .int .i64 0, .int .i64 0] 153)).alloc (.cells #[.int .i64 0, .int .i64 0, .int .i64 0] 31)) g y := Blk.alloc (Blk.alloc L0 _) _
  have T1 : Turn [p, g] w ((w.alloc (.cells #[.int .i64 0, .int .i64 0, .int .i64 0, .int .i64 0, .int .i64 0] 153)).alloc (.cells #[.int .i64 0, .int .i64 0, .int .i64 0] 31)) := ((Turn.refl _ _).alloc _).alloc _
  have P0 : Blk ((w.alloc (.cells #[.int .i64 0, .int .i64 0, .int .i64 0, .int .i64 0, .int .i64 0] 153)).alloc (.cells #[.int .i64 0, .int .i64 0, .int .i64 0] 31)) w.heap.size 153 #[.int .i64 0, .int .i64 0, .int .i64 0, .int .i64 0, .int .i64 0] := Blk.alloc (Blk.new _ _ _) _
  have F0 : FB ((w.alloc (.cells #[.int .i64 0, .int .i64 0, .int .i64 0, .int .i64 0, .int .i64 0] 153)).alloc (.cells #[.int .i64 0, .int .i64 0, .int .i64 0] 31)) (w.heap.size + 1) 0 0 0 := Blk.new_at _ _ _ (szA _ _).symm
  have hpf : w.heap.size ≠ w.heap.size + 1 := by omega
  have hfp := hpf.symm
  have hlp := Blk.lt S0
  have hlg := Blk.lt L0
  have n1 : w.heap.size ∉ [p, g] := by simp; omega
  have n2 : w.heap.size + 1 ∉ [p, g] := by simp; omega
  have HB := Lib.hid (pcxBeginC hsm S1 L1 ok hr)
  generalize hws : ((w.alloc (.cells #[.int .i64 0, .int .i64 0, .int .i64 0, .int .i64 0, .int .i64 0] 153)).alloc (.cells #[.int .i64 0, .int .i64 0, .int .i64 0] 31)) = ws at P0 F0 T1 HB
  have HWS := Lib.hid hws
  generalize hf : w.heap.size + 1 = f at F0 hpf hfp n2
  have HF := Lib.hid hf
  have hfl : w.heap.size ≤ f := by omega
  have HI := Lib.hid (And.intro P0 F0)
  have HT := Lib.hid T1
  clear P0 F0 S1 L1 T1 hws hf S0 L0 ok hr hsm hlp hlg
  go_enter Tryz.func80, Tryz.ntmps80
  go_upto_region 1 with fail
  rw [HWS.out, HF.out]
  go_upto_region 2 with (go_at_call 76; refine HB.out.mono ?_; rintro e w1 ⟨y1, l1, ok1, b1, t1, hor⟩; have P1 := Blk.turn HI.out.1 t1 n1; have F1 := FB.turn HI.out.2 t1 n2; have T2 := HT.out.trans t1; simp only [pcx0, pcxPicV, pFlt, pFlt0] at hor; rcases hor with ⟨kk, aa, hk, rfl, hrun, hno⟩ | ⟨rfl, s1, yr1, hfl', h32, hD⟩; all_goals (try (have hkI : ¬ (kk : Int) = 0 := by omega)))
  · have hf1 := Blk.lt F1
    have e1 : (w1.alloc (.cells #[.int .i64 0, .int .i64 0, .int .i64 0, .int .i64 0, .int .i64 0, .string ⟨#[]⟩, .nilFunc] 145)).heap.size = w1.heap.size + 1 := szA _ _
    have P3 : Blk ((w1.alloc (.cells #[.int .i64 0, .int .i64 0, .int .i64 0, .int .i64 0, .int .i64 0, .string ⟨#[]⟩, .nilFunc] 145)).alloc (.cells #[.int .i64 (kk : Int), .int .i64 7, .int .i64 (aa : Int)] 31)) w.heap.size 153 #[.int .i64 0, .int .i64 0, .int .i64 0, .int .i64 0, .int .i64 0] := Blk.alloc (Blk.alloc P1 _) _
    have F3 : FB ((w1.alloc (.cells #[.int .i64 0, .int .i64 0, .int .i64 0, .int .i64 0, .int .i64 0, .string ⟨#[]⟩, .nilFunc] 145)).alloc (.cells #[.int .i64 (kk : Int), .int .i64 7, .int .i64 (aa : Int)] 31)) f 0 0 0 := Blk.alloc (Blk.alloc F1 _) _
    have G3 : FB ((w1.alloc (.cells #[.int .i64 0, .int .i64 0, .int .i64 0, .int .i64 0, .int .i64 0, .string ⟨#[]⟩, .nilFunc] 145)).alloc (.cells #[.int .i64 (kk : Int), .int .i64 7, .int .i64 (aa : Int)] 31)) (w1.heap.size + 1) (kk : Int) 7 (aa : Int) := Blk.new_at _ _ _ e1.symm
    have L3 : LedAt ((w1.alloc (.cells #[.int .i64 0, .int .i64 0, .int .i64 0, .int .i64 0, .int .i64 0, .string ⟨#[]⟩, .nilFunc] 145)).alloc (.cells #[.int .i64 (kk : Int), .int .i64 7, .int .i64 (aa : Int)] 31)) g y1 := Blk.alloc (Blk.alloc l1 _) _
    have T3 := (T2.alloc (.cells #[.int .i64 0, .int .i64 0, .int .i64 0, .int .i64 0, .int .i64 0, .string ⟨#[]⟩, .nilFunc] 145)).alloc (.cells #[.int .i64 (kk : Int), .int .i64 7, .int .i64 (aa : Int)] 31)
    have k1 : f ≠ w1.heap.size + 1 := by omega
    have k3 : w.heap.size ≠ w1.heap.size + 1 := by have := Blk.lt P1; omega
    go_upto_region 3 with fail
    generalize (w1.alloc (.cells #[.int .i64 0, .int .i64 0, .int .i64 0, .int .i64 0, .int .i64 0, .string ⟨#[]⟩, .nilFunc] 145)).alloc (.cells #[.int .i64 (kk : Int), .int .i64 7, .int .i64 (aa : Int)] 31) = w3 at P3 F3 G3 L3 T3 ⊢
    generalize w1.heap.size + 1 = q at G3 k1 k3 ⊢
    have k2 := k1.symm
    have k4 := k3.symm
    have hgf : g ≠ f := Blk.ne_ L3 F3 (by decide)
    have hgp : g ≠ w.heap.size := Blk.ne_ L3 P3 (by decide)
    have HD := Lib.hid (And.intro L3 T3)
    obtain ⟨g0, g1, g2, o0, o1, o2, gl⟩ := FB.all G3
    obtain ⟨c0, c1, c2, c3, c4, x0, x1, x2, x3, x4, cl, d0, d1, d2, q0, q1, q2, dl⟩ := prd_all P3 F3
    have HN := Lib.hid (And.intro hk (And.intro hrun hno))
    clear F1 P1 T2 F3 G3 L3 T3 P3 l1 t1 hf1 hk hrun hno HB e1
    go_region
    go_wp2_with fail
    exact bodyPost_ret (v := .tuple #[pHd0, pFlt kk aa]) (by simp [results, Tryz.results80, go_sem, c0, c1, c2, c3, c4, d0, d1, d2, hpf, hfp, pHd0, pFlt]) rfl ⟨y1, (Blk.st3 (Blk.st5 HD.out.1 hgp) hgf).drew, (Turn.st3 (Turn.st5p HD.out.2 (.inr (Nat.le_refl _))) (.inr hfl)).drew, .inl ⟨kk, aa, HN.out.1, rfl, HN.out.2⟩⟩
  · generalize hgh : pcxHd s = h
    obtain ⟨en, hen⟩ : ∃ en, s.extract 16 64 = en := ⟨_, rfl⟩
    rw [hen]
    clear hen
    have hf1 := Blk.lt F1
    have e1 : (w1.alloc (.cells #[.int .i64 (h.W : Int), .int .i64 (h.H : Int), .int .i64 (h.bits : Int), .int .i64 (h.planes : Int), .int .i64 (h.line : Int), .string en, .nilFunc] 145)).heap.size = w1.heap.size + 1 := szA _ _
    have P3 : Blk ((w1.alloc (.cells #[.int .i64 (h.W : Int), .int .i64 (h.H : Int), .int .i64 (h.bits : Int), .int .i64 (h.planes : Int), .int .i64 (h.line : Int), .string en, .nilFunc] 145)).alloc (.cells #[.int .i64 0, .int .i64 0, .int .i64 0] 31)) w.heap.size 153 #[.int .i64 0, .int .i64 0, .int .i64 0, .int .i64 0, .int .i64 0] := Blk.alloc (Blk.alloc P1 _) _
    have F3 : FB ((w1.alloc (.cells #[.int .i64 (h.W : Int), .int .i64 (h.H : Int), .int .i64 (h.bits : Int), .int .i64 (h.planes : Int), .int .i64 (h.line : Int), .string en, .nilFunc] 145)).alloc (.cells #[.int .i64 0, .int .i64 0, .int .i64 0] 31)) f 0 0 0 := Blk.alloc (Blk.alloc F1 _) _
    have G3 : FB ((w1.alloc (.cells #[.int .i64 (h.W : Int), .int .i64 (h.H : Int), .int .i64 (h.bits : Int), .int .i64 (h.planes : Int), .int .i64 (h.line : Int), .string en, .nilFunc] 145)).alloc (.cells #[.int .i64 0, .int .i64 0, .int .i64 0] 31)) (w1.heap.size + 1) 0 0 0 := Blk.new_at _ _ _ e1.symm
    have X3 : Blk ((w1.alloc (.cells #[.int .i64 (h.W : Int), .int .i64 (h.H : Int), .int .i64 (h.bits : Int), .int .i64 (h.planes : Int), .int .i64 (h.line : Int), .string en, .nilFunc] 145)).alloc (.cells #[.int .i64 0, .int .i64 0, .int .i64 0] 31)) w1.heap.size 145 #[.int .i64 (h.W : Int), .int .i64 (h.H : Int), .int .i64 (h.bits : Int), .int .i64 (h.planes : Int), .int .i64 (h.line : Int), .string en, .nilFunc] := Blk.alloc (Blk.new _ _ _) _
    have L3 : LedAt ((w1.alloc (.cells #[.int .i64 (h.W : Int), .int .i64 (h.H : Int), .int .i64 (h.bits : Int), .int .i64 (h.planes : Int), .int .i64 (h.line : Int), .string en, .nilFunc] 145)).alloc (.cells #[.int .i64 0, .int .i64 0, .int .i64 0] 31)) g y1 := Blk.alloc (Blk.alloc l1 _) _
    have T3 := (T2.alloc (.cells #[.int .i64 (h.W : Int), .int .i64 (h.H : Int), .int .i64 (h.bits : Int), .int .i64 (h.planes : Int), .int .i64 (h.line : Int), .string en, .nilFunc] 145)).alloc (.cells #[.int .i64 0, .int .i64 0, .int .i64 0] 31)
    have k1 : f ≠ w1.heap.size + 1 := by omega
    have k3 : w.heap.size ≠ w1.heap.size + 1 := by have := Blk.lt P1; omega
    have k5 : f ≠ w1.heap.size := by omega
    have k7 : w.heap.size ≠ w1.heap.size := by have := Blk.lt P1; omega
    generalize hgt : pcxTo s h = te
    generalize (w1.alloc (.cells #[.int .i64 (h.W : Int), .int .i64 (h.H : Int), .int .i64 (h.bits : Int), .int .i64 (h.planes : Int), .int .i64 (h.line : Int), .string en, .nilFunc] 145)).alloc (.cells #[.int .i64 0, .int .i64 0, .int .i64 0] 31) = w3 at P3 F3 G3 L3 T3 X3 ⊢
    generalize w1.heap.size + 1 = q at G3 k1 k3 ⊢
    generalize w1.heap.size = u at X3 k5 k7 ⊢
    have k2 := k1.symm
    have k4 := k3.symm
    have k6 := k5.symm
    have k8 := k7.symm
    have hgf : g ≠ f := Blk.ne_ L3 F3 (by decide)
    have hgp : g ≠ w.heap.size := Blk.ne_ L3 P3 (by decide)
    have HD := Lib.hid (And.intro L3 T3)
    obtain ⟨g0, g1, g2, o0, o1, o2, gl⟩ := FB.all G3
    obtain ⟨c0, c1, c2, c3, c4, x0, x1, x2, x3, x4, cl, d0, d1, d2, q0, q1, q2, dl⟩ := prd_all P3 F3
    have y0 : w3.cell? ⟨u, 0, none⟩ = some (.int .i64 (h.W : Int)) := Blk.cell X3 0
    have y1' : w3.cell? ⟨u, 1, none⟩ = some (.int .i64 (h.H : Int)) := Blk.cell X3 1
    have y2 : w3.cell? ⟨u, 2, none⟩ = some (.int .i64 (h.bits : Int)) := Blk.cell X3 2
    have y3 : w3.cell? ⟨u, 3, none⟩ = some (.int .i64 (h.planes : Int)) := Blk.cell X3 3
    have y4 : w3.cell? ⟨u, 4, none⟩ = some (.int .i64 (h.line : Int)) := Blk.cell X3 4
    have HN := Lib.hid hfl'
    have HGH := Lib.hid hgh
    clear F1 P1 T2 F3 G3 L3 T3 P3 X3 l1 t1 hf1 hgh HB s1 hfl' h32 hD e1 hgt
    go_wp2_with fail
    exact bodyPost_ret (v := .tuple #[pHdV h, pFlt0]) (by simp [results, Tryz.results80, go_sem, c0, c1, c2, c3, c4, d0, d1, d2, hpf, hfp, pHdV, pFlt0]) rfl ⟨y1, by exact Blk.st3 (Blk.st5 HD.out.1 hgp) hgf, by exact Turn.st3 (Turn.st5p HD.out.2 (.inr (Nat.le_refl _))) (.inr hfl), .inr ⟨by rw [HGH.out], HN.out⟩⟩
theorem pcxRead_wide {s : ByteArray} (hsm : s.size ≤ 1099511627776) (hw : (pcxSides s).1 ≤ 60) (hh : (pcxSides s).2 ≤ 60) (w : World) (p g : Nat) (h : SrcAt w p g s 0 s.size 0) (l : LedAt w g XW) :
    Calls Tryz.prog 80 #[.pointer (some ⟨p, 0, none⟩)] w fun e w' => Turn [p, g] w w' ∧ ((∃ kk aa : Nat, kk ≠ 0 ∧ e = .returned (.tuple #[pHd0, pFlt kk aa]) ∧ pcxFault s = some (kk, aa)) ∨ (e = .returned (.tuple #[pHdV (pcxHd s), pFlt0]) ∧ pcxFault s = none)) := by
  refine (pcxReadC h l hsm XW_ok rfl).mono ?_
  rintro e w' ⟨y', _, t, ⟨kk, aa, hk, he, hr, hno⟩ | h⟩
  · refine ⟨t, .inl ⟨kk, aa, hk, he, hno ?_⟩⟩
    obtain ⟨hc, hm⟩ := pcxDec_enough s hw hh
    obtain ⟨y0, r0, _, _⟩ := wide_run (pcxDec_bal s) hm (by omega)
    rw [r0] at hr
    injection hr with _ hr
    rcases pcxTold_ways (s := s) with ⟨k, a, _, h4, ht⟩ | ⟨L, ht⟩
    · rw [ht] at hr; injection hr with h1 h2; rw [← h1]; exact h4
    · rw [ht] at hr; cases hr
  · exact ⟨t, .inr h⟩
set_option maxRecDepth 100000 in
set_option maxHeartbeats 2000000 in
theorem heads28_bad {s : ByteArray} {k a : Nat} (hk : k ≠ 0) (hf : pcxFault s = some (k, a)) (hsm : s.size ≤ 1099511627776) (hw : (pcxSides s).1 ≤ 60) (hh : (pcxSides s).2 ≤ 60) (w : World) :
    Calls Tryz.prog 32 #[.string s] w fun e w' => e = .returned (.bool true) ∧ Below w.heap.size w w' := by
  have hrd : pcxRdV s = hdP 0 0 0 0 0 (k : Int) (a : Int) := by unfold pcxRdV; rw [hf]
  have HS : Hid (∀ (w : World) (p g : Nat), SrcAt w p g s 0 s.size 0 → LedAt w g XW → Calls Tryz.prog 80 #[.pointer (some ⟨p, 0, none⟩)] w fun e w' => e = .returned (.tuple #[pHd0, pFlt k a]) ∧ Turn [p, g] w w') := Lib.hid (fun w p g h l => (pcxRead_wide hsm hw hh w p g h l).mono fun e w' ⟨t, hor⟩ => by
    rcases hor with ⟨kk, aa, _, he, hr⟩ | ⟨_, h1⟩
    · rw [hf] at hr
      injection hr with hr
      injection hr with h1 h2
      exact ⟨by rw [he, h1, h2], t⟩
    · rw [hf] at h1; cases h1)
  simp only [pHd0, pFlt] at HS
  have HR0 := fun w => refPcxReadC hsm w
  rw [hrd] at HR0
  unfold hdP at HR0
  have HR := Lib.hid HR0
  have hkI : ¬ (k : Int) = 0 := by omega
  clear hk hf hrd HR0 hw hh
  go_enter Tryz.func32, Tryz.ntmps32
  go_wp2_with (first
    | (go_at_call 22; refine (wide15 _).mono ?_; rintro e w1 ⟨rfl, b1⟩)
    | (go_at_call 38; refine (ledNew_at XW_new _).mono ?_; rintro e w2 ⟨g, rfl, hgn, l2, b2⟩)
    | (go_at_call 39; refine (srcNew_any _ _ _).mono ?_; rintro e w3 ⟨p, rfl, hpn, s3, b3⟩; have l3 := Blk.below l2 b3 (Blk.lt l2))
    | (go_at_call 80; refine (HS.out _ _ _ s3 l3).mono ?_; rintro e w4 ⟨rfl, t4⟩)
    | (go_at_call 75; refine (HR.out _).mono ?_; rintro e w5 ⟨rfl, b5⟩; have h5 : Blk w5 w4.heap.size 153 #[.int .i64 0, .int .i64 0, .int .i64 0, .int .i64 0, .int .i64 0] := Blk.below (Blk.alloc (Blk.new _ _ _) _) b5 (by simp; omega); have f5 : FB w5 (w4.heap.size + 1) (k : Int) 7 (a : Int) := FB.below (Blk.new_at _ _ _ (szA _ _).symm) b5; obtain ⟨c0, c1, c2, c3, c4, x0, x1, x2, x3, x4, cl, d0, d1, d2, q0, q1, q2, dl⟩ := prd_all h5 f5))
  go_ret
  have B3 := below_next (below_next b1 b2) b3
  have hz1 := b1.size
  have hz2 := b2.size
  have B4 := Turn.belowNext B3 t4 (by simp; omega) B3.size
  have B5 := B4.alloc B4.size (.cells #[.int .i64 0, .int .i64 0, .int .i64 0, .int .i64 0, .int .i64 0] 153)
  have B6 := below_next (B5.alloc B5.size (.cells #[.int .i64 (k : Int), .int .i64 7, .int .i64 (a : Int)] 31)) b5
  exact ⟨rfl, B6.alloc B6.size _⟩
set_option maxRecDepth 100000 in
set_option maxHeartbeats 2000000 in
theorem heads28_ok {s : ByteArray} (hf : pcxFault s = none) (hsm : s.size ≤ 1099511627776) (hw : (pcxSides s).1 ≤ 60) (hh : (pcxSides s).2 ≤ 60) (w : World) :
    Calls Tryz.prog 32 #[.string s] w fun e w' => e = .returned (.bool true) ∧ Below w.heap.size w w' := by
  have hrd : pcxRdV s = hdP ((pcxHd s).W : Int) ((pcxHd s).H : Int) ((pcxHd s).bits : Int) ((pcxHd s).planes : Int) ((pcxHd s).line : Int) 0 0 := by unfold pcxRdV; rw [hf]
  have HS : Hid (∀ (w : World) (p g : Nat), SrcAt w p g s 0 s.size 0 → LedAt w g XW → Calls Tryz.prog 80 #[.pointer (some ⟨p, 0, none⟩)] w fun e w' => e = .returned (.tuple #[pHdV (pcxHd s), pFlt0]) ∧ Turn [p, g] w w') := Lib.hid (fun w p g h l => (pcxRead_wide hsm hw hh w p g h l).mono fun e w' ⟨t, hor⟩ => by
    rcases hor with ⟨kk, aa, _, he, hr⟩ | ⟨he, h1⟩
    · rw [hf] at hr; cases hr
    · exact ⟨he, t⟩)
  simp only [pHdV, pFlt0] at HS
  have HR0 := fun w => refPcxReadC hsm w
  rw [hrd] at HR0
  unfold hdP at HR0
  have HR := Lib.hid HR0
  generalize pcxHd s = h at HS HR
  clear hf hrd HR0 hw hh
  go_enter Tryz.func32, Tryz.ntmps32
  go_wp2_with (first
    | (go_at_call 22; refine (wide15 _).mono ?_; rintro e w1 ⟨rfl, b1⟩)
    | (go_at_call 38; refine (ledNew_at XW_new _).mono ?_; rintro e w2 ⟨g, rfl, hgn, l2, b2⟩)
    | (go_at_call 39; refine (srcNew_any _ _ _).mono ?_; rintro e w3 ⟨p, rfl, hpn, s3, b3⟩; have l3 := Blk.below l2 b3 (Blk.lt l2))
    | (go_at_call 80; refine (HS.out _ _ _ s3 l3).mono ?_; rintro e w4 ⟨rfl, t4⟩)
    | (go_at_call 75; refine (HR.out _).mono ?_; rintro e w5 ⟨rfl, b5⟩; have h5 : Blk w5 w4.heap.size 153 #[.int .i64 (h.W : Int), .int .i64 (h.H : Int), .int .i64 (h.bits : Int), .int .i64 (h.planes : Int), .int .i64 (h.line : Int)] := Blk.below (Blk.alloc (Blk.new _ _ _) _) b5 (by simp; omega); have f5 : FB w5 (w4.heap.size + 1) 0 0 0 := FB.below (Blk.new_at _ _ _ (szA _ _).symm) b5; obtain ⟨c0, c1, c2, c3, c4, x0, x1, x2, x3, x4, cl, d0, d1, d2, q0, q1, q2, dl⟩ := prd_all h5 f5))
  go_ret
  have B3 := below_next (below_next b1 b2) b3
  have hz1 := b1.size
  have hz2 := b2.size
  have B4 := Turn.belowNext B3 t4 (by simp; omega) B3.size
  have B5 := B4.alloc B4.size (.cells #[.int .i64 (h.W : Int), .int .i64 (h.H : Int), .int .i64 (h.bits : Int), .int .i64 (h.planes : Int), .int .i64 (h.line : Int)] 153)
  have B6 := below_next (B5.alloc B5.size (.cells #[.int .i64 0, .int .i64 0, .int .i64 0] 31)) b5
  exact ⟨rfl, B6.alloc B6.size _⟩
theorem heads28_any {s : ByteArray} (hsm : s.size ≤ 1099511627776) (hw : (pcxSides s).1 ≤ 60) (hh : (pcxSides s).2 ≤ 60) (w : World) :
    Calls Tryz.prog 32 #[.string s] w fun e w' => e = .returned (.bool true) ∧ Below w.heap.size w w' := by
  cases pcxTold_is s with
  | bad k a hk h4 hf t u => exact heads28_bad hk hf hsm hw hh w
  | body hf t u => exact heads28_ok hf hsm hw hh w
end Go.Proofs.YtccldalagbfmhaaGreat
namespace Go.Proofs.YtccldalagbfmhaaGreat
open Go.RowKit
set_option linter.unusedVariables false
set_option linter.unusedSimpArgs false

/-- the ways that a file is taken for one of PCX's, or not -/
inductive PcxIsWay (s : ByteArray) : Bool → Prop where
  | a (h : s.size < 4) : PcxIsWay s false
  | b (h : 4 ≤ s.size) (h0 : bat s 0 ≠ 10) : PcxIsWay s false
  | c (h : 4 ≤ s.size) (h0 : bat s 0 = 10) (h1 : ¬ PcxVer (bat s 1)) : PcxIsWay s false
  | d (h : 4 ≤ s.size) (h0 : bat s 0 = 10) (h1 : PcxVer (bat s 1)) (h2 : bat s 2 ≠ 1) : PcxIsWay s false
  | e (h : 4 ≤ s.size) (h0 : bat s 0 = 10) (h1 : PcxVer (bat s 1)) (h2 : bat s 2 = 1) (h3 : bat s 3 = 1) : PcxIsWay s true
  | f (h : 4 ≤ s.size) (h0 : bat s 0 = 10) (h1 : PcxVer (bat s 1)) (h2 : bat s 2 = 1) (h3 : bat s 3 ≠ 1) (h4 : bat s 3 = 8) : PcxIsWay s true
  | g (h : 4 ≤ s.size) (h0 : bat s 0 = 10) (h1 : PcxVer (bat s 1)) (h2 : bat s 2 = 1) (h3 : bat s 3 ≠ 1) (h4 : bat s 3 ≠ 8) : PcxIsWay s false
theorem pcxIsWay_is (s : ByteArray) : ∃ b, PcxIsWay s b := by
  by_cases h : s.size < 4
  · exact ⟨_, .a h⟩
  · have h' : 4 ≤ s.size := by omega
    by_cases h0 : bat s 0 = 10
    · by_cases h1 : PcxVer (bat s 1)
      · by_cases h2 : bat s 2 = 1
        · by_cases h3 : bat s 3 = 1
          · exact ⟨_, .e h' h0 h1 h2 h3⟩
          · by_cases h4 : bat s 3 = 8
            · exact ⟨_, .f h' h0 h1 h2 h3 h4⟩
            · exact ⟨_, .g h' h0 h1 h2 h3 h4⟩
        · exact ⟨_, .d h' h0 h1 h2⟩
      · exact ⟨_, .c h' h0 h1⟩
    · exact ⟨_, .b h' h0⟩
set_option maxHeartbeats 2000000 in
theorem pcxIs {s : ByteArray} {b : Bool} (hw : PcxIsWay s b) (w : World) : Calls Tryz.prog 33 #[.string s] w fun e w' => e = .returned (.bool b) ∧ w = w' := by
  cases hw with
  | a h =>
    have h4I : ¬ (4 : Int) ≤ (s.size : Int) := by omega
    go_enter Tryz.func33, Tryz.ntmps33
    go_wp2_with fail
    go_ret
    exact ⟨rfl, rfl⟩
  | b h h0 =>
    have h4I : (4 : Int) ≤ (s.size : Int) := by omega
    have n0 : 0 < s.size := by omega
    have j0 : (0 : Int) < (s.size : Int) := by omega
    have e0 : (((s[0].toNat : Nat) : Int) == 10) = false := by rw [beq_eq_false_iff_ne]; have := bat_eq n0; omega
    clear h0
    go_enter Tryz.func33, Tryz.ntmps33
    go_wp2_with fail
    go_ret
    exact ⟨rfl, rfl⟩
  | c h h0 h1 =>
    have h4I : (4 : Int) ≤ (s.size : Int) := by omega
    have n0 : 0 < s.size := by omega
    have j0 : (0 : Int) < (s.size : Int) := by omega
    have n1 : 1 < s.size := by omega
    have j1 : (1 : Int) < (s.size : Int) := by omega
    have e0 : (((s[0].toNat : Nat) : Int) == 10) = true := by rw [beq_iff_eq]; have := bat_eq n0; omega
    have HV := Lib.hid (fun w => pcxVerC (bat s 1) w)
    rw [decide_eq_false h1, bat_eq n1] at HV
    clear h0 h1
    go_enter Tryz.func33, Tryz.ntmps33
    go_wp2_with (first | (go_at_call 81; refine (HV.out _).mono ?_; rintro e w9 ⟨rfl, rfl⟩) | fail)
    go_ret
    exact ⟨rfl, rfl⟩
  | d h h0 h1 h2 =>
    have h4I : (4 : Int) ≤ (s.size : Int) := by omega
    have n0 : 0 < s.size := by omega
    have j0 : (0 : Int) < (s.size : Int) := by omega
    have n1 : 1 < s.size := by omega
    have j1 : (1 : Int) < (s.size : Int) := by omega
    have n2 : 2 < s.size := by omega
    have j2 : (2 : Int) < (s.size : Int) := by omega
    have e0 : (((s[0].toNat : Nat) : Int) == 10) = true := by rw [beq_iff_eq]; have := bat_eq n0; omega
    have HV := Lib.hid (fun w => pcxVerC (bat s 1) w)
    rw [decide_eq_true h1, bat_eq n1] at HV
    have e2 : (((s[2].toNat : Nat) : Int) == 1) = false := by rw [beq_eq_false_iff_ne]; have := bat_eq n2; omega
    clear h0 h1 h2
    go_enter Tryz.func33, Tryz.ntmps33
    go_wp2_with (first | (go_at_call 81; refine (HV.out _).mono ?_; rintro e w9 ⟨rfl, rfl⟩) | fail)
    go_ret
    exact ⟨rfl, rfl⟩
  | e h h0 h1 h2 h3 =>
    have h4I : (4 : Int) ≤ (s.size : Int) := by omega
    have n0 : 0 < s.size := by omega
    have j0 : (0 : Int) < (s.size : Int) := by omega
    have n1 : 1 < s.size := by omega
    have j1 : (1 : Int) < (s.size : Int) := by omega
    have n2 : 2 < s.size := by omega
    have j2 : (2 : Int) < (s.size : Int) := by omega
    have n3 : 3 < s.size := by omega
    have j3 : (3 : Int) < (s.size : Int) := by omega
    have e0 : (((s[0].toNat : Nat) : Int) == 10) = true := by rw [beq_iff_eq]; have := bat_eq n0; omega
    have HV := Lib.hid (fun w => pcxVerC (bat s 1) w)
    rw [decide_eq_true h1, bat_eq n1] at HV
    have e2 : (((s[2].toNat : Nat) : Int) == 1) = true := by rw [beq_iff_eq]; have := bat_eq n2; omega
    have e3 : (((s[3].toNat : Nat) : Int) == 1) = true := by rw [beq_iff_eq]; have := bat_eq n3; omega
    clear h0 h1 h2 h3
    go_enter Tryz.func33, Tryz.ntmps33
    go_wp2_with (first | (go_at_call 81; refine (HV.out _).mono ?_; rintro e w9 ⟨rfl, rfl⟩) | fail)
    go_ret
    exact ⟨rfl, rfl⟩
  | f h h0 h1 h2 h3 h4 =>
    have h4I : (4 : Int) ≤ (s.size : Int) := by omega
    have n0 : 0 < s.size := by omega
    have j0 : (0 : Int) < (s.size : Int) := by omega
    have n1 : 1 < s.size := by omega
    have j1 : (1 : Int) < (s.size : Int) := by omega
    have n2 : 2 < s.size := by omega
    have j2 : (2 : Int) < (s.size : Int) := by omega
    have n3 : 3 < s.size := by omega
    have j3 : (3 : Int) < (s.size : Int) := by omega
    have e0 : (((s[0].toNat : Nat) : Int) == 10) = true := by rw [beq_iff_eq]; have := bat_eq n0; omega
    have HV := Lib.hid (fun w => pcxVerC (bat s 1) w)
    rw [decide_eq_true h1, bat_eq n1] at HV
    have e2 : (((s[2].toNat : Nat) : Int) == 1) = true := by rw [beq_iff_eq]; have := bat_eq n2; omega
    have e3 : (((s[3].toNat : Nat) : Int) == 1) = false := by rw [beq_eq_false_iff_ne]; have := bat_eq n3; omega
    have e4 : (((s[3].toNat : Nat) : Int) == 8) = true := by rw [beq_iff_eq]; have := bat_eq n3; omega
    clear h0 h1 h2 h3 h4
    go_enter Tryz.func33, Tryz.ntmps33
    go_wp2_with (first | (go_at_call 81; refine (HV.out _).mono ?_; rintro e w9 ⟨rfl, rfl⟩) | fail)
    go_ret
    exact ⟨rfl, rfl⟩
  | g h h0 h1 h2 h3 h4 =>
    have h4I : (4 : Int) ≤ (s.size : Int) := by omega
    have n0 : 0 < s.size := by omega
    have j0 : (0 : Int) < (s.size : Int) := by omega
    have n1 : 1 < s.size := by omega
    have j1 : (1 : Int) < (s.size : Int) := by omega
    have n2 : 2 < s.size := by omega
    have j2 : (2 : Int) < (s.size : Int) := by omega
    have n3 : 3 < s.size := by omega
    have j3 : (3 : Int) < (s.size : Int) := by omega
    have e0 : (((s[0].toNat : Nat) : Int) == 10) = true := by rw [beq_iff_eq]; have := bat_eq n0; omega
    have HV := Lib.hid (fun w => pcxVerC (bat s 1) w)
    rw [decide_eq_true h1, bat_eq n1] at HV
    have e2 : (((s[2].toNat : Nat) : Int) == 1) = true := by rw [beq_iff_eq]; have := bat_eq n2; omega
    have e3 : (((s[3].toNat : Nat) : Int) == 1) = false := by rw [beq_eq_false_iff_ne]; have := bat_eq n3; omega
    have e4 : (((s[3].toNat : Nat) : Int) == 8) = false := by rw [beq_eq_false_iff_ne]; have := bat_eq n3; omega
    clear h0 h1 h2 h3 h4
    go_enter Tryz.func33, Tryz.ntmps33
    go_wp2_with (first | (go_at_call 81; refine (HV.out _).mono ?_; rintro e w9 ⟨rfl, rfl⟩) | fail)
    go_ret
    exact ⟨rfl, rfl⟩
/-- a run by the wide budget, of a file whose sides are small -/
theorem pcxRunW {s : ByteArray} (hsm : s.size ≤ 1099511627776) (hw : (pcxSides s).1 ≤ 60) (hh : (pcxSides s).2 ≤ 60) (w : World) :
    Calls Tryz.prog 15 #[.string s, .agg #[.int .i64 16384, .int .i64 16384, .int .i64 262144, .int .i64 1048576], .func (.func 30) #[] #[]] w fun e w' => ∃ g y, LedAt w' g y ∧ y.bytes = ((pcxDec s).told.kept : Int) ∧ Below w.heap.size w w' ∧
      ((∃ k a : Nat, k ≠ 0 ∧ (pcxDec s).told = .bad k a ∧ e = .returned (.tuple #[.agg #[.int .i64 0, .int .i64 0, .slice none 0 0], .agg #[.int .i64 (k : Int), .int .i64 7, .int .i64 (a : Int)], .pointer (some ⟨g, 0, none⟩)])) ∨
       (∃ (W H : Nat) (l : List UInt8) (d : Nat), (pcxDec s).told = .img W H l ∧ e = .returned (.tuple #[.agg #[.int .i64 (W : Int), .int .i64 (H : Int), .slice (some ⟨d, 0, none⟩) l.length l.length], .agg #[.int .i64 0, .int .i64 0, .int .i64 0], .pointer (some ⟨g, 0, none⟩)]) ∧ BytesAt w' (some ⟨d, 0, none⟩) l.length l)) := by
  obtain ⟨hc, hm⟩ := pcxDec_enough s hw hh
  obtain ⟨y0, r0, _, rb⟩ := wide_run (pcxDec_bal s) hm (by omega)
  refine (run15 (F := 30) (fm := 7) (D := pcxDec s) XW_new XW_ok rfl hsm (fun p w => by kernel_rfl) (fun w p g h l => pcxDecodeC h l hsm XW_ok rfl) w).mono ?_
  rintro e w' ⟨g, y, l, yok, gn, bl, hor⟩
  rw [r0] at hor
  rcases hor with ⟨k, a, hk, hr, rfl⟩ | ⟨W, H, l', d, hr, rfl, hb⟩
  · injection hr with h1 h2
    exact ⟨g, y, l, by rw [← h1]; exact rb, bl, .inl ⟨k, a, hk, h2, rfl⟩⟩
  · injection hr with h1 h2
    exact ⟨g, y, l, by rw [← h1]; exact rb, bl, .inr ⟨W, H, l', d, h2, rfl, hb⟩⟩
theorem pcxRunG {s : ByteArray} {ba bb bc bd : Int} (hsm : s.size ≤ 1099511627776) (h1 : ba ≤ 9223372036854775807) (h2 : bb ≤ 9223372036854775807) (h3 : bc ≤ 9223372036854775807) (h4 : bd ≤ 9223372036854775807) (w : World) :
    Calls Tryz.prog 15 #[.string s, .agg #[.int .i64 ba, .int .i64 bb, .int .i64 bc, .int .i64 bd], .func (.func 30) #[] #[]] w fun e w' => ∃ g y, LedAt w' g y ∧ y.Ok ∧ y.B = nought bc ∧ y.S = nought bd ∧ Below w.heap.size w w' ∧ AnyRun 7 (pcxDec s) s.size w w' g y e := by
  refine (run15 (F := 30) (fm := 7) (D := pcxDec s) rfl (Led.ok_new h1 h2 h3 h4) rfl hsm (fun p w => by kernel_rfl) (fun w p g h l => pcxDecodeC h l hsm (Led.ok_new h1 h2 h3 h4) rfl) w).mono ?_
  intro e w' h
  exact anyRun (pcxDec_bal s) rfl rfl h
end Go.Proofs.YtccldalagbfmhaaGreat
