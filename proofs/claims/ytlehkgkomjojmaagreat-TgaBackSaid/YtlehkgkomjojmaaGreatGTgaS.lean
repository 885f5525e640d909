/- tga: the map and the pixels. -/
import Derived.Test.YtlehkgkomjojmaaGreatGTgaL
import Derived.Test.YtlehkgkomjojmaaGreatGTgaO
import Derived.Defers
import Derived.Laws.EntriesVeiled
namespace Go.Proofs.YtlehkgkomjojmaaGreat
open Go.RowKit
set_option linter.unusedVariables false
set_option linter.unusedSimpArgs false

theorem leaves_none {P : Program} {fn : Func} {R : Ending → World → Prop} {a : Act} {w : World} {v : Value} (hd : a.defers = []) (hr : (results fn a.tmps).run P w = .ok v w) (hR : R (.returned v) w) : bodyPostD P fn R .ret a w := by
  show Leaves P fn a.tmps R a.defers .returning w
  rw [hd]
  exact ⟨v, hr, hR⟩
theorem leaves_one {P : Program} {fn : Func} {R : Ending → World → Prop} {a : Act} {w : World} {fv : Fn} {cap dargs args : Array Value} {f : FuncId} (hd : a.defers = [{ target := .fn fv cap, args := dargs }]) (hi : (invoke (.fn fv cap) dargs).run P w = .ok (.enter f args) w)
    (h : CallsD P f args .returning w fun e u' w' => u' = .returning ∧ ∃ v0, e = .returned v0 ∧ ∃ v, (results fn a.tmps).run P w' = .ok v w' ∧ R (.returned v) w') : bodyPostD P fn R .ret a w := by
  show Leaves P fn a.tmps R a.defers .returning w
  rw [hd]
  refine leaves_cons (by simp) hi (h.mono ?_)
  rintro e u' w' ⟨rfl, v0, rfl, v, h1, h2⟩
  exact ⟨v, h1, h2⟩
section
variable {w w' : World} {p b g d : Nat} {l : List UInt8}
theorem palFreeD {n m : Int} {x y : Led} {u : FrameMode} (h : PalAt w p b n m) (hm : BufAt w b g d l) (k : LedAt w g x) (ok : x.Ok) (e : x.give l.length = (y, true)) :
    CallsD Tryz.prog 91 #[.pointer (some ⟨p, 0, none⟩)] u w fun e u' w' => u' = u ∧ (e = .returned (.bool true) ∧ LedAt w' g y ∧ Turn [p, b, g] w w') := by
  have hpb : p ≠ b := Blk.ne_ h hm.blk (by decide)
  have hpd : p ≠ d := Blk.ne_ h hm.row (by decide)
  have hpg : p ≠ g := Blk.ne_ h k (by decide)
  have P1 := PalAt.zero h
  have M1 : BufAt ((w.setCell ⟨p, 1, none⟩ (.int .i64 0)).setCell ⟨p, 2, none⟩ (.int .i64 0)) b g d l := ⟨Blk.far (Blk.far hm.blk (p := ⟨p, 1, none⟩) hpb.symm _) (p := ⟨p, 2, none⟩) hpb.symm _, Blk.far (Blk.far hm.row (p := ⟨p, 1, none⟩) hpd.symm _) (p := ⟨p, 2, none⟩) hpd.symm _⟩
  have K1 : LedAt ((w.setCell ⟨p, 1, none⟩ (.int .i64 0)).setCell ⟨p, 2, none⟩ (.int .i64 0)) g x := Blk.far (Blk.far k (p := ⟨p, 1, none⟩) hpg.symm _) (p := ⟨p, 2, none⟩) hpg.symm _
  have T1 : Turn [p, b, g] w ((w.setCell ⟨p, 1, none⟩ (.int .i64 0)).setCell ⟨p, 2, none⟩ (.int .i64 0)) := ((Turn.refl _ _).set_ 1 _ (.inl (by simp))).set_ 2 _ (.inl (by simp))
  have HF := Lib.hid (bufFree_first M1 K1 ok e)
  have n1 := h.n_
  have n2 := h.m_
  have n0 := h.b_
  have z1 := Blk.frozen h 1
  have z2 := Blk.frozen h 2
  have HT := Lib.hid T1
  clear h hm k ok e M1 K1 P1 T1
  go_enter_d Tryz.func91, Tryz.ntmps91
  go_wp2_with (go_at_call 93; refine HF.out.mono ?_; rintro e w2 ⟨rfl, o2, l2, t2⟩)
  go_ret
  exact ⟨rfl, l2, HT.out.trans (t2.mono (by simp))⟩
end
theorem palFreeHasD {w : World} {p b g d m : Nat} {L : List Qc} {x : Led} {u : FrameMode} (h : PalHas w p b g d m L) (k : LedAt w g x) (ok : x.Ok) (hb : ((4 * m : Nat) : Int) ≤ x.bytes) :
    CallsD Tryz.prog 91 #[.pointer (some ⟨p, 0, none⟩)] u w fun e u' w' => u' = u ∧ (e = .returned (.bool true) ∧ LedAt w' g (x.give ((4 * m : Nat) : Int)).1 ∧ Turn [p, b, g] w w') := by
  obtain ⟨h1, _, rest, h3, h4⟩ := h
  exact palFreeD h1 h3 k ok (give_all (by rw [List.length_append, flat_len]; exact h4) hb)
/-- what the map and the pixels leave -/
def TSpxPost (w w' : World) (p g r b d : Nat) (s : ByteArray) (h : TgaHd) (y : Led) (e : Ending) : Prop :=
  ∃ y' L', LedAt w' g y' ∧ y'.Ok ∧ y'.bytes = y.bytes ∧ Turn [p, g, d] w w' ∧ BufAt w' b g d (flat (tgaPerm h L')) ∧
    ((∃ kk aa : Nat, kk ≠ 0 ∧ e = .returned (tFlt kk aa) ∧ (tgaFromK s h (4 * (h.W * h.H)) fun a M Z m => tgaPixels s h M Z m a).run y = ((y'.give ((4 * (h.W * h.H) : Nat) : Int)).1, .bad kk aa)) ∨
     (e = .returned tFlt0 ∧ L'.length = h.W * h.H ∧ (tgaFromK s h (4 * (h.W * h.H)) fun a M Z m => tgaPixels s h M Z m a).run y = (y', .img h.W h.H (flat (tgaPerm h L')))))
set_option maxRecDepth 100000 in
set_option maxHeartbeats 4000000 in
theorem tgaPixelsC {w : World} {p g r b d : Nat} {s : ByteArray} {h : TgaHd} {y : Led} (hh : h.Ok) (hsm : s.size ≤ 1099511627776) (h18 : 18 ≤ s.size) (S0 : SrcAt w p g s 0 s.size 18) (L0 : LedAt w g y) (R0 : RasAt w r g b (h.W : Int) (h.H : Int) true) (D0 : BufAt w b g d (flat (tgaPerm h []))) (ok : y.Ok) (hr : y.reason = 0) (hzb : ((4 * (h.W * h.H) : Nat) : Int) ≤ y.bytes) :
    Calls Tryz.prog 71 #[.pointer (some ⟨p, 0, none⟩), tHdV h, .pointer (some ⟨r, 0, none⟩)] w fun e w' => TSpxPost w w' p g r b d s h y e := by
  have u1 : Below w.heap.size w ((w.alloc (.cells #[.int .i64 (h.name : Int), .bool h.map, .int .i64 (h.typ : Int), .int .i64 (h.first : Int), .int .i64 (h.count : Int), .int .i64 (h.entry : Int), .int .i64 (h.W : Int), .int .i64 (h.H : Int), .int .i64 (h.depth : Int), .int .i64 (h.alpha : Int), .bool h.left, .bool h.top] 121)).alloc (.cells #[.int .i64 0, .int .i64 0, .int .i64 0] 34)) := ((Below.refl _ _).alloc (Nat.le_refl _) _).alloc (by simp) _
  have S1 := Blk.below S0 u1 (Blk.lt S0)
  have L1 := Blk.below L0 u1 (Blk.lt L0)
  have R1 := Blk.below R0 u1 (Blk.lt R0)
  have D1 : BufAt ((w.alloc (.cells #[.int .i64 (h.name : Int), .bool h.map, .int .i64 (h.typ : Int), .int .i64 (h.first : Int), .int .i64 (h.count : Int), .int .i64 (h.entry : Int), .int .i64 (h.W : Int), .int .i64 (h.H : Int), .int .i64 (h.depth : Int), .int .i64 (h.alpha : Int), .bool h.left, .bool h.top] 121)).alloc (.cells #[.int .i64 0, .int .i64 0, .int .i64 0] 34)) b g d (flat (tgaPerm h [])) := ⟨Blk.below D0.blk u1 (Blk.lt D0.blk), Blk.below D0.row u1 (Blk.lt D0.row)⟩
  have H1 : TH ((w.alloc (.cells #[.int .i64 (h.name : Int), .bool h.map, .int .i64 (h.typ : Int), .int .i64 (h.first : Int), .int .i64 (h.count : Int), .int .i64 (h.entry : Int), .int .i64 (h.W : Int), .int .i64 (h.H : Int), .int .i64 (h.depth : Int), .int .i64 (h.alpha : Int), .bool h.left, .bool h.top] 121)).alloc (.cells #[.int .i64 0, .int .i64 0, .int .i64 0] 34)) w.heap.size h := Blk.alloc (Blk.new _ _ _) _
  have F1 : FB ((w.alloc (.cells #[.int .i64 (h.name : Int), .bool h.map, .int .i64 (h.typ : Int), .int .i64 (h.first : Int), .int .i64 (h.count : Int), .int .i64 (h.entry : Int), .int .i64 (h.W : Int), .int .i64 (h.H : Int), .int .i64 (h.depth : Int), .int .i64 (h.alpha : Int), .bool h.left, .bool h.top] 121)).alloc (.cells #[.int .i64 0, .int .i64 0, .int .i64 0] 34)) (w.heap.size + 1) 0 0 0 := Blk.new_at _ _ _ (by simp)
  have T1 : Turn [p, g, d] w ((w.alloc (.cells #[.int .i64 (h.name : Int), .bool h.map, .int .i64 (h.typ : Int), .int .i64 (h.first : Int), .int .i64 (h.count : Int), .int .i64 (h.entry : Int), .int .i64 (h.W : Int), .int .i64 (h.H : Int), .int .i64 (h.depth : Int), .int .i64 (h.alpha : Int), .bool h.left, .bool h.top] 121)).alloc (.cells #[.int .i64 0, .int .i64 0, .int .i64 0] 34)) := Turn.of_below u1
  have hdl := Blk.lt D0.row
  have hbl := Blk.lt D0.blk
  have hfl : w.heap.size ≤ w.heap.size + 1 := by omega
  have hwd : d < w.heap.size := hdl
  have h1 : h.map = h.map := rfl
  have HH := Lib.hid (And.intro hh (And.intro hsm (And.intro h18 (And.intro ok (And.intro hr hzb)))))
  clear S0 L0 R0 D0 hh hsm h18 ok hr hzb h1 hdl u1
  unfold tHdV
  go_enter_defers Tryz.func71, Tryz.ntmps71
  go_upto_region 1 with fail
  have hws : w.heap.size ≤ (((w.alloc (.cells #[.int .i64 (h.name : Int), .bool h.map, .int .i64 (h.typ : Int), .int .i64 (h.first : Int), .int .i64 (h.count : Int), .int .i64 (h.entry : Int), .int .i64 (h.W : Int), .int .i64 (h.H : Int), .int .i64 (h.depth : Int), .int .i64 (h.alpha : Int), .bool h.left, .bool h.top] 121)).alloc (.cells #[.int .i64 0, .int .i64 0, .int .i64 0] 34))).heap.size := T1.size
  generalize ((w.alloc (.cells #[.int .i64 (h.name : Int), .bool h.map, .int .i64 (h.typ : Int), .int .i64 (h.first : Int), .int .i64 (h.count : Int), .int .i64 (h.entry : Int), .int .i64 (h.W : Int), .int .i64 (h.H : Int), .int .i64 (h.depth : Int), .int .i64 (h.alpha : Int), .bool h.left, .bool h.top] 121)).alloc (.cells #[.int .i64 0, .int .i64 0, .int .i64 0] 34)) = w1 at S1 L1 R1 D1 H1 F1 T1 hws ⊢
  generalize w.heap.size + 1 = qf at F1 hfl ⊢
  have HMP := Lib.hid (tgaMapC HH.out.1 HH.out.2.1 HH.out.2.2.1 S1 L1 HH.out.2.2.2.1 HH.out.2.2.2.2.1)
  obtain ⟨c0, c1, c2, c3, c4, c5, c6, c7, c8, c9, c10, c11, hlb⟩ := TH.all H1
  have HI := Lib.hid (And.intro S1 (And.intro L1 (And.intro R1 (And.intro D1 (And.intro H1 (And.intro F1 T1))))))
  go_upto_region 2 with (go_at_call 121; have hM := HMP.out; unfold tHdV at hM; refine hM.mono ?_; clear hM; rintro e w2 ⟨y2, l2, ok2, t2, hor⟩; have H2 : TH w2 w.heap.size h := Blk.turn HI.out.2.2.2.2.1 t2 (by simp only [List.mem_cons, List.not_mem_nil, or_false, not_or]; exact ⟨Blk.ne_ HI.out.2.2.2.2.1 HI.out.1 (by decide), Blk.ne_ HI.out.2.2.2.2.1 HI.out.2.1 (by decide)⟩); have F2 : FB w2 qf 0 0 0 := FB.turn HI.out.2.2.2.2.2.1 t2 (by simp only [List.mem_cons, List.not_mem_nil, or_false, not_or]; exact ⟨Blk.ne_ HI.out.2.2.2.2.2.1 HI.out.1 (by decide), Blk.ne_ HI.out.2.2.2.2.2.1 HI.out.2.1 (by decide)⟩); have R2 : RasAt w2 r g b (h.W : Int) (h.H : Int) true := Blk.turn HI.out.2.2.1 t2 (by simp only [List.mem_cons, List.not_mem_nil, or_false, not_or]; exact ⟨Blk.ne_ HI.out.2.2.1 HI.out.1 (by decide), Blk.ne_ HI.out.2.2.1 HI.out.2.1 (by decide)⟩); have D2 : BufAt w2 b g d (flat (tgaPerm h [])) := HI.out.2.2.2.1.turn t2 (by simp only [List.mem_cons, List.not_mem_nil, or_false, not_or]; exact ⟨Blk.ne_ HI.out.2.2.2.1.blk HI.out.1 (by decide), Blk.ne_ HI.out.2.2.2.1.blk HI.out.2.1 (by decide)⟩) (by simp only [List.mem_cons, List.not_mem_nil, or_false, not_or]; exact ⟨Blk.ne_ HI.out.2.2.2.1.row HI.out.1 (by decide), Blk.ne_ HI.out.2.2.2.1.row HI.out.2.1 (by decide)⟩); have T2 := HI.out.2.2.2.2.2.2.trans (t2.mono (S' := [p, g, d]) (by simp)); have hs2 := t2.size; clear c0 c1 c2 c3 c4 c5 c6 c7 c8 c9 c10 c11 hlb; simp only [tFlt, tFlt0] at hor; rcases hor with ⟨kk, aa, hk, rfl, hb2, hno⟩ | ⟨lv, M, m, a2, rfl, s2, ha2, yr2, hb2, TP, hyes⟩)
  · have hne : qf ≠ w2.heap.size := Nat.ne_of_lt (Blk.lt F2)
    have H3 : TH (w2.alloc (.cells #[.int .i64 (kk : Int), .int .i64 2, .int .i64 (aa : Int)] 34)) w.heap.size h := Blk.alloc H2 _
    have F3 : FB (w2.alloc (.cells #[.int .i64 (kk : Int), .int .i64 2, .int .i64 (aa : Int)] 34)) qf 0 0 0 := Blk.alloc F2 _
    have E3 : FB (w2.alloc (.cells #[.int .i64 (kk : Int), .int .i64 2, .int .i64 (aa : Int)] 34)) w2.heap.size (kk : Int) 2 (aa : Int) := Blk.new _ _ _
    have R3 : RasAt (w2.alloc (.cells #[.int .i64 (kk : Int), .int .i64 2, .int .i64 (aa : Int)] 34)) r g b (h.W : Int) (h.H : Int) true := Blk.alloc R2 _
    have D3 : BufAt (w2.alloc (.cells #[.int .i64 (kk : Int), .int .i64 2, .int .i64 (aa : Int)] 34)) b g d (flat (tgaPerm h [])) := ⟨Blk.alloc D2.blk _, Blk.alloc D2.row _⟩
    have l3 : LedAt (w2.alloc (.cells #[.int .i64 (kk : Int), .int .i64 2, .int .i64 (aa : Int)] 34)) g y2 := Blk.alloc l2 _
    have T3 := T2.alloc (.cells #[.int .i64 (kk : Int), .int .i64 2, .int .i64 (aa : Int)] 34)
    have u4 : Below w2.heap.size w2 (w2.alloc (.cells #[.int .i64 (kk : Int), .int .i64 2, .int .i64 (aa : Int)] 34)) := (Below.refl _ _).alloc (Nat.le_refl _) _
    generalize w2.alloc (.cells #[.int .i64 (kk : Int), .int .i64 2, .int .i64 (aa : Int)] 34) = w3 at H3 F3 E3 R3 D3 l3 T3 u4 ⊢
    generalize w2.heap.size = q8 at E3 hne ⊢
    have hne' := hne.symm
    obtain ⟨f0, f1, f2', z0, z1, z2, fl⟩ := FB.all F3
    obtain ⟨e0, e1, e2, ez0, ez1, ez2, el⟩ := FB.all E3
    have hkI : ((kk : Int) != 0) = true := bne_iff_ne.2 (by omega)
    have HK := Lib.hid hk
    have HNO := Lib.hid hno
    clear hk hno
    go_wp2_with fail
    exact leaves_none rfl (v := tFlt kk aa) (by simp [results, Tryz.results71, go_sem, f0, f1, f2', e0, e1, e2, hne, hne', tFlt]) ⟨y2, [], Blk.st3 l3 (Blk.ne_ l3 F3 (by decide)), ok2, hb2, Turn.st3 T3 (.inr hfl), ⟨Blk.st3 D3.blk (Blk.ne_ D3.blk F3 (by decide)), Blk.st3 D3.row (Blk.ne_ D3.row F3 (by decide))⟩, .inl ⟨kk, aa, HK.out, rfl, HNO.out _ _ HH.out.2.2.2.2.2⟩⟩
  · have TP2 := TP
    have hne : qf ≠ w2.heap.size := Nat.ne_of_lt (Blk.lt F2)
    have H3 : TH (w2.alloc (.cells #[.int .i64 0, .int .i64 0, .int .i64 0] 34)) w.heap.size h := Blk.alloc H2 _
    have F3 : FB (w2.alloc (.cells #[.int .i64 0, .int .i64 0, .int .i64 0] 34)) qf 0 0 0 := Blk.alloc F2 _
    have E3 : FB (w2.alloc (.cells #[.int .i64 0, .int .i64 0, .int .i64 0] 34)) w2.heap.size 0 0 0 := Blk.new _ _ _
    have R3 : RasAt (w2.alloc (.cells #[.int .i64 0, .int .i64 0, .int .i64 0] 34)) r g b (h.W : Int) (h.H : Int) true := Blk.alloc R2 _
    have D3 : BufAt (w2.alloc (.cells #[.int .i64 0, .int .i64 0, .int .i64 0] 34)) b g d (flat (tgaPerm h [])) := ⟨Blk.alloc D2.blk _, Blk.alloc D2.row _⟩
    have l3 : LedAt (w2.alloc (.cells #[.int .i64 0, .int .i64 0, .int .i64 0] 34)) g y2 := Blk.alloc l2 _
    have T3 := T2.alloc (.cells #[.int .i64 0, .int .i64 0, .int .i64 0] 34)
    have u4 : Below w2.heap.size w2 (w2.alloc (.cells #[.int .i64 0, .int .i64 0, .int .i64 0] 34)) := (Below.refl _ _).alloc (Nat.le_refl _) _
    have s3 : SrcAt (w2.alloc (.cells #[.int .i64 0, .int .i64 0, .int .i64 0] 34)) p g s 0 s.size a2 := Blk.alloc s2 _
    generalize w2.alloc (.cells #[.int .i64 0, .int .i64 0, .int .i64 0] 34) = w3 at H3 F3 E3 R3 D3 l3 T3 u4 s3 ⊢
    generalize w2.heap.size = q8 at E3 hne ⊢
    have hne' := hne.symm
    obtain ⟨f0, f1, f2', z0, z1, z2, fl⟩ := FB.all F3
    obtain ⟨e0, e1, e2, ez0, ez1, ez2, el⟩ := FB.all E3
    obtain ⟨c0, c1, c2, c3, c4, c5, c6, c7, c8, c9, c10, c11, hlb⟩ := TH.all H3
    rcases TP2 with ⟨hnm, rfl, rfl, rfl⟩ | ⟨hm, hc, hML, rfl, l, b', d', rfl, PP, gl, gb, gd⟩
    · have HRD := Lib.hid (tgaReadPxC (la := none) (M := []) HH.out.1 HH.out.2.1 ha2 s3 l3 R3 D3 (.inl ⟨hnm, rfl, rfl⟩) ok2 yr2)
      have HYS := Lib.hid hyes
      clear hyes TP
      go_wp2_with (go_at_call 122; have hR := HRD.out; unfold tHdV at hR; refine hR.mono ?_; clear hR; rintro e w4 ⟨y4, L4, a4, l4, ok4, b4, t4, s4, R4, D4, P4, hor⟩; have F4 : FB w4 qf 0 0 0 := FB.turn F3 t4 (by simp only [List.mem_cons, List.not_mem_nil, or_false, not_or]; exact ⟨Blk.ne_ F3 s3 (by decide), Blk.ne_ F3 l3 (by decide), Blk.ne_ F3 D3.row (by decide)⟩); have T4 := T3.trans t4; clear f0 f1 f2' z0 z1 z2 fl; obtain ⟨f0, f1, f2', z0, z1, z2, fl⟩ := FB.all F4; simp only [tFlt, tFlt0] at hor; rcases hor with ⟨kk, aa, hk, rfl, hno⟩ | ⟨rfl, yr4, hlen, hyes4⟩)
      · exact leaves_none rfl (v := tFlt kk aa) (by simp [results, Tryz.results71, go_sem, f0, f1, f2', tFlt]) ⟨y4, L4, Blk.st3 l4 (Blk.ne_ l4 F4 (by decide)), ok4, by rw [b4, hb2]; omega, Turn.st3 T4 (.inr hfl), ⟨Blk.st3 D4.blk (Blk.ne_ D4.blk F4 (by decide)), Blk.st3 D4.row (Blk.ne_ D4.row F4 (by decide))⟩, .inl ⟨kk, aa, hk, rfl, by rw [HYS.out]; exact hno _ _⟩⟩
      · exact leaves_none rfl (v := tFlt0) (by simp [results, Tryz.results71, go_sem, f0, f1, f2', tFlt0]) ⟨y4, L4, Blk.st3 l4 (Blk.ne_ l4 F4 (by decide)), ok4, by rw [b4, hb2]; omega, Turn.st3 T4 (.inr hfl), ⟨Blk.st3 D4.blk (Blk.ne_ D4.blk F4 (by decide)), Blk.st3 D4.row (Blk.ne_ D4.row F4 (by decide))⟩, .inr ⟨rfl, hlen, by rw [HYS.out, hyes4]; show (Dec.give 0 _).run y4 = _; unfold Dec.run; rw [give_zero ok4.y0]; rfl⟩⟩
    · have hdd : d' ≠ d := by omega
      have hbb : b' ≠ b := by omega
      have P3 : PalHas w3 l b' g d' h.count M := PP.below u4
      have HRD := Lib.hid (tgaReadPxC (la := some ⟨l, 0, none⟩) HH.out.1 HH.out.2.1 ha2 s3 l3 R3 D3 (.inr ⟨hm, hc, hML, l, b', d', rfl, P3, hdd⟩) ok2 yr2)
      have HYS := Lib.hid hyes
      have HGG := Lib.hid (And.intro gl (And.intro gb gd))
      clear hyes TP
      go_wp2_with (go_at_call 122; have hR := HRD.out; unfold tHdV at hR; refine hR.mono ?_; clear hR; rintro e w4 ⟨y4, L4, a4, l4, ok4, b4, t4, s4, R4, D4, P4, hor⟩; have F4 : FB w4 qf 0 0 0 := FB.turn F3 t4 (by simp only [List.mem_cons, List.not_mem_nil, or_false, not_or]; exact ⟨Blk.ne_ F3 s3 (by decide), Blk.ne_ F3 l3 (by decide), Blk.ne_ F3 D3.row (by decide)⟩); have T4 := T3.trans t4; clear f0 f1 f2' z0 z1 z2 fl; obtain ⟨f0, f1, f2', z0, z1, z2, fl⟩ := FB.all F4; simp only [tFlt, tFlt0] at hor; rcases hor with ⟨kk, aa, hk, rfl, hno⟩ | ⟨rfl, yr4, hlen, hyes4⟩)
      · skip
        have P5 : PalHas w4 l b' g d' h.count M := P3.turn t4 (by have h1 := P3.src s3; have h2 := P3.led l3; obtain ⟨k1, _, rest, k3, _⟩ := P3; simp only [List.mem_cons, List.not_mem_nil, or_false, not_or]; exact ⟨h1.1, h2.1, Blk.ne_ k1 D3.row (by decide)⟩) (by have h1 := P3.src s3; have h2 := P3.led l3; obtain ⟨k1, _, rest, k3, _⟩ := P3; simp only [List.mem_cons, List.not_mem_nil, or_false, not_or]; exact ⟨h1.2.1, h2.2.1, Blk.ne_ k3.blk D3.row (by decide)⟩) (by have h1 := P3.src s3; have h2 := P3.led l3; simp only [List.mem_cons, List.not_mem_nil, or_false, not_or]; exact ⟨h1.2.2, h2.2.2, hdd⟩)
        have PF : l ∉ [qf] ∧ b' ∉ [qf] ∧ d' ∉ [qf] := by
          obtain ⟨e1', _, rest, e3, _⟩ := P5
          simp only [List.mem_cons, List.not_mem_nil, or_false]
          exact ⟨Blk.ne_ e1' F4 (by decide), Blk.ne_ e3.blk F4 (by decide), Blk.ne_ e3.row F4 (by decide)⟩
        have TF : Turn [qf] w4 (st3 w4 qf (.int .i64 (kk : Int)) (.int .i64 2) (.int .i64 (aa : Int))) := Turn.st3 (Turn.refl _ _) (.inl (by simp))
        have PW := P5.turn TF PF.1 PF.2.1 PF.2.2
        have LW : LedAt (st3 w4 qf (.int .i64 (kk : Int)) (.int .i64 2) (.int .i64 (aa : Int))) g y4 := Blk.st3 l4 (Blk.ne_ l4 F4 (by decide))
        have FW : FB (st3 w4 qf (.int .i64 (kk : Int)) (.int .i64 2) (.int .i64 (aa : Int))) qf (kk : Int) 2 (aa : Int) := FB.st3 F4
        have BW : BufAt (st3 w4 qf (.int .i64 (kk : Int)) (.int .i64 2) (.int .i64 (aa : Int))) b g d (flat (tgaPerm h L4)) := ⟨Blk.st3 D4.blk (Blk.ne_ D4.blk F4 (by decide)), Blk.st3 D4.row (Blk.ne_ D4.row F4 (by decide))⟩
        have TW : Turn [p, g, d] w (st3 w4 qf (.int .i64 (kk : Int)) (.int .i64 2) (.int .i64 (aa : Int))) := Turn.st3 T4 (.inr hfl)
        have hzb := HH.out.2.2.2.2.2
        have hby : ((4 * h.count : Nat) : Int) ≤ y4.bytes := by rw [b4, hb2]; omega
        obtain ⟨hr9, hb9, ok9⟩ := led_give_keeps ok4 hby
        refine leaves_one rfl (f := 91) (args := #[.pointer (some ⟨l, 0, none⟩)]) (by simp [go_sem]) ((palFreeHasD PW LW ok4 hby).mono ?_)
        rintro e u' w9 ⟨rfl, rfl, l9, t9⟩
        obtain ⟨k1, _, rest, k3, _⟩ := PW
        have F9 := FB.turn FW t9 (by simp only [List.mem_cons, List.not_mem_nil, or_false, not_or]; exact ⟨Blk.ne_ FW k1 (by decide), Blk.ne_ FW k3.blk (by decide), Blk.ne_ FW LW (by decide)⟩)
        have B9 := BW.turn t9 (by simp only [List.mem_cons, List.not_mem_nil, or_false, not_or]; exact ⟨Blk.ne_ BW.blk k1 (by decide), Ne.symm hbb, Blk.ne_ BW.blk LW (by decide)⟩) (by simp only [List.mem_cons, List.not_mem_nil, or_false, not_or]; exact ⟨Blk.ne_ BW.row k1 (by decide), Blk.ne_ BW.row k3.blk (by decide), Blk.ne_ BW.row LW (by decide)⟩)
        obtain ⟨g0, g1, g2, _, _, _, _⟩ := FB.all F9
        exact ⟨rfl, _, rfl, tFlt kk aa, by simp [results, Tryz.results71, go_sem, g0, g1, g2, tFlt], _, L4, l9, ok9, by rw [hb9, b4, hb2]; omega, TW.next t9 (by have := HGG.out; simp; omega), B9, .inl ⟨kk, aa, hk, rfl, by rw [HYS.out, hno, give_give (by rw [b4, hb2]; omega)]⟩⟩
      · skip
        have P5 : PalHas w4 l b' g d' h.count M := P3.turn t4 (by have h1 := P3.src s3; have h2 := P3.led l3; obtain ⟨k1, _, rest, k3, _⟩ := P3; simp only [List.mem_cons, List.not_mem_nil, or_false, not_or]; exact ⟨h1.1, h2.1, Blk.ne_ k1 D3.row (by decide)⟩) (by have h1 := P3.src s3; have h2 := P3.led l3; obtain ⟨k1, _, rest, k3, _⟩ := P3; simp only [List.mem_cons, List.not_mem_nil, or_false, not_or]; exact ⟨h1.2.1, h2.2.1, Blk.ne_ k3.blk D3.row (by decide)⟩) (by have h1 := P3.src s3; have h2 := P3.led l3; simp only [List.mem_cons, List.not_mem_nil, or_false, not_or]; exact ⟨h1.2.2, h2.2.2, hdd⟩)
        have PF : l ∉ [qf] ∧ b' ∉ [qf] ∧ d' ∉ [qf] := by
          obtain ⟨e1', _, rest, e3, _⟩ := P5
          simp only [List.mem_cons, List.not_mem_nil, or_false]
          exact ⟨Blk.ne_ e1' F4 (by decide), Blk.ne_ e3.blk F4 (by decide), Blk.ne_ e3.row F4 (by decide)⟩
        have TF : Turn [qf] w4 (st3 w4 qf (.int .i64 0) (.int .i64 0) (.int .i64 0)) := Turn.st3 (Turn.refl _ _) (.inl (by simp))
        have PW := P5.turn TF PF.1 PF.2.1 PF.2.2
        have LW : LedAt (st3 w4 qf (.int .i64 0) (.int .i64 0) (.int .i64 0)) g y4 := Blk.st3 l4 (Blk.ne_ l4 F4 (by decide))
        have FW : FB (st3 w4 qf (.int .i64 0) (.int .i64 0) (.int .i64 0)) qf 0 0 0 := FB.st3 F4
        have BW : BufAt (st3 w4 qf (.int .i64 0) (.int .i64 0) (.int .i64 0)) b g d (flat (tgaPerm h L4)) := ⟨Blk.st3 D4.blk (Blk.ne_ D4.blk F4 (by decide)), Blk.st3 D4.row (Blk.ne_ D4.row F4 (by decide))⟩
        have TW : Turn [p, g, d] w (st3 w4 qf (.int .i64 0) (.int .i64 0) (.int .i64 0)) := Turn.st3 T4 (.inr hfl)
        have hzb := HH.out.2.2.2.2.2
        have hby : ((4 * h.count : Nat) : Int) ≤ y4.bytes := by rw [b4, hb2]; omega
        obtain ⟨hr9, hb9, ok9⟩ := led_give_keeps ok4 hby
        refine leaves_one rfl (f := 91) (args := #[.pointer (some ⟨l, 0, none⟩)]) (by simp [go_sem]) ((palFreeHasD PW LW ok4 hby).mono ?_)
        rintro e u' w9 ⟨rfl, rfl, l9, t9⟩
        obtain ⟨k1, _, rest, k3, _⟩ := PW
        have F9 := FB.turn FW t9 (by simp only [List.mem_cons, List.not_mem_nil, or_false, not_or]; exact ⟨Blk.ne_ FW k1 (by decide), Blk.ne_ FW k3.blk (by decide), Blk.ne_ FW LW (by decide)⟩)
        have B9 := BW.turn t9 (by simp only [List.mem_cons, List.not_mem_nil, or_false, not_or]; exact ⟨Blk.ne_ BW.blk k1 (by decide), Ne.symm hbb, Blk.ne_ BW.blk LW (by decide)⟩) (by simp only [List.mem_cons, List.not_mem_nil, or_false, not_or]; exact ⟨Blk.ne_ BW.row k1 (by decide), Blk.ne_ BW.row k3.blk (by decide), Blk.ne_ BW.row LW (by decide)⟩)
        obtain ⟨g0, g1, g2, _, _, _, _⟩ := FB.all F9
        exact ⟨rfl, _, rfl, tFlt0, by simp [results, Tryz.results71, go_sem, g0, g1, g2, tFlt0], _, L4, l9, ok9, by rw [hb9, b4, hb2]; omega, TW.next t9 (by have := HGG.out; simp; omega), B9, .inr ⟨rfl, hlen, by rw [HYS.out, hyes4]; rfl⟩⟩
end Go.Proofs.YtlehkgkomjojmaaGreat
