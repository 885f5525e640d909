/- pcx: how a pixel is told is chosen. -/
import Derived.Test.YtccldalagbfmhaaGreatPcxH
namespace Go.Proofs.YtccldalagbfmhaaGreat
open Go.RowKit
set_option linter.unusedVariables false
set_option linter.unusedSimpArgs false

/-- the function that is chosen -/
def pcxFn (h : PcxHd) (bx bl : Nat) : Value :=
  if h.planes = 3 then .func (.func 199) #[] #[.pointer (some ⟨bx, 0, none⟩)]
  else if h.bits = 8 then .func (.func 200) #[] #[.pointer (some ⟨bl, 0, none⟩)]
  else if h.planes = 1 then .func (.func 202) #[] #[.pointer (some ⟨bx, 0, none⟩)]
  else .func (.func 204) #[] #[.pointer (some ⟨bx, 0, none⟩)]
def ChoosePost (w w' : World) (q bx bl : Nat) (s : ByteArray) (h : PcxHd) (lv : Option Addr) (e : Ending) : Prop :=
  e = .returned (.tuple #[]) ∧ Blk w' bx 270 #[.pointer (some ⟨q, 0, none⟩)] ∧ Blk w' bl 62 #[.pointer lv] ∧ Blk w' q 145 (pcxCsF s h (pcxFn h bx bl)) ∧ Turn [q] w w'
set_option maxHeartbeats 1000000 in
theorem pcxChoose1 {w : World} {q : Nat} {s : ByteArray} {h : PcxHd} {lv : Option Addr} (Q0 : Blk w q 145 (pcxCsF s h .nilFunc)) (hp : h.planes = 3) :
    Calls Tryz.prog 154 #[.pointer (some ⟨q, 0, none⟩), .pointer lv] w fun e w' => ChoosePost w w' q w.heap.size (w.heap.size + 1) s h lv e := by
  have hmf : ∀ (fn : Fn) (first cap : Array Value) (w : World), (Instr.makeFunc fn first cap).run Tryz.prog w = .ok (.func fn first cap) w := fun _ _ _ _ => rfl
  have p1 : (h.planes : Int) = 3 := by omega
  have X1 : Blk ((w.alloc (.cells #[.pointer (some ⟨q, 0, none⟩)] 270)).alloc (.cells #[.pointer lv] 62)) w.heap.size 270 #[.pointer (some ⟨q, 0, none⟩)] := Blk.alloc (Blk.new _ _ _) _
  have Y1 : Blk ((w.alloc (.cells #[.pointer (some ⟨q, 0, none⟩)] 270)).alloc (.cells #[.pointer lv] 62)) (w.heap.size + 1) 62 #[.pointer lv] := Blk.new_at _ _ _ (by simp)
  have Q1 : Blk ((w.alloc (.cells #[.pointer (some ⟨q, 0, none⟩)] 270)).alloc (.cells #[.pointer lv] 62)) q 145 (pcxCsF s h .nilFunc) := Blk.alloc (Blk.alloc Q0 _) _
  have T1 : Turn [q] w ((w.alloc (.cells #[.pointer (some ⟨q, 0, none⟩)] 270)).alloc (.cells #[.pointer lv] 62)) := ((Turn.refl _ _).alloc _).alloc _
  generalize hw1 : (w.alloc (.cells #[.pointer (some ⟨q, 0, none⟩)] 270)).alloc (.cells #[.pointer lv] 62) = w1 at X1 Y1 Q1 T1
  have HW1 := Lib.hid hw1
  have q2 : w1.cell? ⟨q, 2, none⟩ = some (.int .i64 (h.bits : Int)) := Blk.cell Q1 2
  have q3 : w1.cell? ⟨q, 3, none⟩ = some (.int .i64 (h.planes : Int)) := Blk.cell Q1 3
  have q6 : w1.cell? ⟨q, 6, none⟩ = some .nilFunc := Blk.cell Q1 6
  have r6 := Blk.frozen Q1 6
  have x0 := Blk.cell X1 0
  have y0 := Blk.cell Y1 0
  have hxq : w.heap.size ≠ q := Nat.ne_of_gt (Blk.lt Q0)
  have hyq : w.heap.size + 1 ≠ q := by have := Blk.lt Q0; omega
  have hfn : ∀ bx bl, pcxFn h bx bl = .func (.func 199) #[] #[.pointer (some ⟨bx, 0, none⟩)] := fun bx bl => by unfold pcxFn; rw [if_pos hp]
  have HF := Lib.hid hfn
  have HD := Lib.hid (And.intro X1 (And.intro Y1 (And.intro Q1 T1)))
  clear X1 Y1 Q1 T1 hw1 Q0 hp hfn
  go_enter Tryz.func154, Tryz.ntmps154
  go_upto_region 2 with fail
  rw [HW1.out]
  go_wp2_with fail
  go_end0
  exact ⟨rfl, Blk.far HD.out.1 (p := ⟨q, 6, none⟩) hxq _, Blk.far HD.out.2.1 (p := ⟨q, 6, none⟩) hyq _, (Blk.set_ HD.out.2.2.1 6 _).eq_ (by rw [HF.out]; simp [pcxCsF]), HD.out.2.2.2.set_ 6 _ (.inl (by simp))⟩
set_option maxHeartbeats 1000000 in
theorem pcxChoose2 {w : World} {q : Nat} {s : ByteArray} {h : PcxHd} {lv : Option Addr} (Q0 : Blk w q 145 (pcxCsF s h .nilFunc)) (hp : h.planes ≠ 3) (hb : h.bits = 8) :
    Calls Tryz.prog 154 #[.pointer (some ⟨q, 0, none⟩), .pointer lv] w fun e w' => ChoosePost w w' q w.heap.size (w.heap.size + 1) s h lv e := by
  have hmf : ∀ (fn : Fn) (first cap : Array Value) (w : World), (Instr.makeFunc fn first cap).run Tryz.prog w = .ok (.func fn first cap) w := fun _ _ _ _ => rfl
  have p1 : ¬ (h.planes : Int) = 3 := by omega
  have p2 : (h.bits : Int) = 8 := by omega
  have X1 : Blk ((w.alloc (.cells #[.pointer (some ⟨q, 0, none⟩)] 270)).alloc (.cells #[.pointer lv] 62)) w.heap.size 270 #[.pointer (some ⟨q, 0, none⟩)] := Blk.alloc (Blk.new _ _ _) _
  have Y1 : Blk ((w.alloc (.cells #[.pointer (some ⟨q, 0, none⟩)] 270)).alloc (.cells #[.pointer lv] 62)) (w.heap.size + 1) 62 #[.pointer lv] := Blk.new_at _ _ _ (by simp)
  have Q1 : Blk ((w.alloc (.cells #[.pointer (some ⟨q, 0, none⟩)] 270)).alloc (.cells #[.pointer lv] 62)) q 145 (pcxCsF s h .nilFunc) := Blk.alloc (Blk.alloc Q0 _) _
  have T1 : Turn [q] w ((w.alloc (.cells #[.pointer (some ⟨q, 0, none⟩)] 270)).alloc (.cells #[.pointer lv] 62)) := ((Turn.refl _ _).alloc _).alloc _
  generalize hw1 : (w.alloc (.cells #[.pointer (some ⟨q, 0, none⟩)] 270)).alloc (.cells #[.pointer lv] 62) = w1 at X1 Y1 Q1 T1
  have HW1 := Lib.hid hw1
  have q2 : w1.cell? ⟨q, 2, none⟩ = some (.int .i64 (h.bits : Int)) := Blk.cell Q1 2
  have q3 : w1.cell? ⟨q, 3, none⟩ = some (.int .i64 (h.planes : Int)) := Blk.cell Q1 3
  have q6 : w1.cell? ⟨q, 6, none⟩ = some .nilFunc := Blk.cell Q1 6
  have r6 := Blk.frozen Q1 6
  have x0 := Blk.cell X1 0
  have y0 := Blk.cell Y1 0
  have hxq : w.heap.size ≠ q := Nat.ne_of_gt (Blk.lt Q0)
  have hyq : w.heap.size + 1 ≠ q := by have := Blk.lt Q0; omega
  have hfn : ∀ bx bl, pcxFn h bx bl = .func (.func 200) #[] #[.pointer (some ⟨bl, 0, none⟩)] := fun bx bl => by unfold pcxFn; rw [if_neg hp, if_pos hb]
  have HF := Lib.hid hfn
  have HD := Lib.hid (And.intro X1 (And.intro Y1 (And.intro Q1 T1)))
  clear X1 Y1 Q1 T1 hw1 Q0 hp hb hfn
  go_enter Tryz.func154, Tryz.ntmps154
  go_upto_region 2 with fail
  rw [HW1.out]
  go_wp2_with fail
  go_end0
  exact ⟨rfl, Blk.far HD.out.1 (p := ⟨q, 6, none⟩) hxq _, Blk.far HD.out.2.1 (p := ⟨q, 6, none⟩) hyq _, (Blk.set_ HD.out.2.2.1 6 _).eq_ (by rw [HF.out]; simp [pcxCsF]), HD.out.2.2.2.set_ 6 _ (.inl (by simp))⟩
set_option maxHeartbeats 1000000 in
theorem pcxChoose3 {w : World} {q : Nat} {s : ByteArray} {h : PcxHd} {lv : Option Addr} (Q0 : Blk w q 145 (pcxCsF s h .nilFunc)) (hp : h.planes = 1) (hb : h.bits ≠ 8) :
    Calls Tryz.prog 154 #[.pointer (some ⟨q, 0, none⟩), .pointer lv] w fun e w' => ChoosePost w w' q w.heap.size (w.heap.size + 1) s h lv e := by
  have hmf : ∀ (fn : Fn) (first cap : Array Value) (w : World), (Instr.makeFunc fn first cap).run Tryz.prog w = .ok (.func fn first cap) w := fun _ _ _ _ => rfl
  have p1 : ¬ (h.planes : Int) = 3 := by omega
  have p2 : ¬ (h.bits : Int) = 8 := by omega
  have p3 : (h.planes : Int) = 1 := by omega
  have X1 : Blk ((w.alloc (.cells #[.pointer (some ⟨q, 0, none⟩)] 270)).alloc (.cells #[.pointer lv] 62)) w.heap.size 270 #[.pointer (some ⟨q, 0, none⟩)] := Blk.alloc (Blk.new _ _ _) _
  have Y1 : Blk ((w.alloc (.cells #[.pointer (some ⟨q, 0, none⟩)] 270)).alloc (.cells #[.pointer lv] 62)) (w.heap.size + 1) 62 #[.pointer lv] := Blk.new_at _ _ _ (by simp)
  have Q1 : Blk ((w.alloc (.cells #[.pointer (some ⟨q, 0, none⟩)] 270)).alloc (.cells #[.pointer lv] 62)) q 145 (pcxCsF s h .nilFunc) := Blk.alloc (Blk.alloc Q0 _) _
  have T1 : Turn [q] w ((w.alloc (.cells #[.pointer (some ⟨q, 0, none⟩)] 270)).alloc (.cells #[.pointer lv] 62)) := ((Turn.refl _ _).alloc _).alloc _
  generalize hw1 : (w.alloc (.cells #[.pointer (some ⟨q, 0, none⟩)] 270)).alloc (.cells #[.pointer lv] 62) = w1 at X1 Y1 Q1 T1
  have HW1 := Lib.hid hw1
  have q2 : w1.cell? ⟨q, 2, none⟩ = some (.int .i64 (h.bits : Int)) := Blk.cell Q1 2
  have q3 : w1.cell? ⟨q, 3, none⟩ = some (.int .i64 (h.planes : Int)) := Blk.cell Q1 3
  have q6 : w1.cell? ⟨q, 6, none⟩ = some .nilFunc := Blk.cell Q1 6
  have r6 := Blk.frozen Q1 6
  have x0 := Blk.cell X1 0
  have y0 := Blk.cell Y1 0
  have hxq : w.heap.size ≠ q := Nat.ne_of_gt (Blk.lt Q0)
  have hyq : w.heap.size + 1 ≠ q := by have := Blk.lt Q0; omega
  have hfn : ∀ bx bl, pcxFn h bx bl = .func (.func 202) #[] #[.pointer (some ⟨bx, 0, none⟩)] := fun bx bl => by unfold pcxFn; rw [if_neg (by omega), if_neg hb, if_pos hp]
  have HF := Lib.hid hfn
  have HD := Lib.hid (And.intro X1 (And.intro Y1 (And.intro Q1 T1)))
  clear X1 Y1 Q1 T1 hw1 Q0 hp hb hfn
  go_enter Tryz.func154, Tryz.ntmps154
  go_upto_region 2 with fail
  rw [HW1.out]
  go_wp2_with fail
  go_end0
  exact ⟨rfl, Blk.far HD.out.1 (p := ⟨q, 6, none⟩) hxq _, Blk.far HD.out.2.1 (p := ⟨q, 6, none⟩) hyq _, (Blk.set_ HD.out.2.2.1 6 _).eq_ (by rw [HF.out]; simp [pcxCsF]), HD.out.2.2.2.set_ 6 _ (.inl (by simp))⟩
set_option maxHeartbeats 1000000 in
theorem pcxChoose4 {w : World} {q : Nat} {s : ByteArray} {h : PcxHd} {lv : Option Addr} (Q0 : Blk w q 145 (pcxCsF s h .nilFunc)) (hp : h.planes = 4) (hb : h.bits ≠ 8) :
    Calls Tryz.prog 154 #[.pointer (some ⟨q, 0, none⟩), .pointer lv] w fun e w' => ChoosePost w w' q w.heap.size (w.heap.size + 1) s h lv e := by
  have hmf : ∀ (fn : Fn) (first cap : Array Value) (w : World), (Instr.makeFunc fn first cap).run Tryz.prog w = .ok (.func fn first cap) w := fun _ _ _ _ => rfl
  have p1 : ¬ (h.planes : Int) = 3 := by omega
  have p2 : ¬ (h.bits : Int) = 8 := by omega
  have p3 : ¬ (h.planes : Int) = 1 := by omega
  have X1 : Blk ((w.alloc (.cells #[.pointer (some ⟨q, 0, none⟩)] 270)).alloc (.cells #[.pointer lv] 62)) w.heap.size 270 #[.pointer (some ⟨q, 0, none⟩)] := Blk.alloc (Blk.new _ _ _) _
  have Y1 : Blk ((w.alloc (.cells #[.pointer (some ⟨q, 0, none⟩)] 270)).alloc (.cells #[.pointer lv] 62)) (w.heap.size + 1) 62 #[.pointer lv] := Blk.new_at _ _ _ (by simp)
  have Q1 : Blk ((w.alloc (.cells #[.pointer (some ⟨q, 0, none⟩)] 270)).alloc (.cells #[.pointer lv] 62)) q 145 (pcxCsF s h .nilFunc) := Blk.alloc (Blk.alloc Q0 _) _
  have T1 : Turn [q] w ((w.alloc (.cells #[.pointer (some ⟨q, 0, none⟩)] 270)).alloc (.cells #[.pointer lv] 62)) := ((Turn.refl _ _).alloc _).alloc _
  generalize hw1 : (w.alloc (.cells #[.pointer (some ⟨q, 0, none⟩)] 270)).alloc (.cells #[.pointer lv] 62) = w1 at X1 Y1 Q1 T1
  have HW1 := Lib.hid hw1
  have q2 : w1.cell? ⟨q, 2, none⟩ = some (.int .i64 (h.bits : Int)) := Blk.cell Q1 2
  have q3 : w1.cell? ⟨q, 3, none⟩ = some (.int .i64 (h.planes : Int)) := Blk.cell Q1 3
  have q6 : w1.cell? ⟨q, 6, none⟩ = some .nilFunc := Blk.cell Q1 6
  have r6 := Blk.frozen Q1 6
  have x0 := Blk.cell X1 0
  have y0 := Blk.cell Y1 0
  have hxq : w.heap.size ≠ q := Nat.ne_of_gt (Blk.lt Q0)
  have hyq : w.heap.size + 1 ≠ q := by have := Blk.lt Q0; omega
  have hfn : ∀ bx bl, pcxFn h bx bl = .func (.func 204) #[] #[.pointer (some ⟨bx, 0, none⟩)] := fun bx bl => by unfold pcxFn; rw [if_neg (by omega), if_neg hb, if_neg (by omega)]
  have HF := Lib.hid hfn
  have HD := Lib.hid (And.intro X1 (And.intro Y1 (And.intro Q1 T1)))
  clear X1 Y1 Q1 T1 hw1 Q0 hp hb hfn
  go_enter Tryz.func154, Tryz.ntmps154
  go_upto_region 2 with fail
  rw [HW1.out]
  go_wp2_with fail
  go_end0
  exact ⟨rfl, Blk.far HD.out.1 (p := ⟨q, 6, none⟩) hxq _, Blk.far HD.out.2.1 (p := ⟨q, 6, none⟩) hyq _, (Blk.set_ HD.out.2.2.1 6 _).eq_ (by rw [HF.out]; simp [pcxCsF]), HD.out.2.2.2.set_ 6 _ (.inl (by simp))⟩
theorem pcxChooseC {w : World} {q : Nat} {s : ByteArray} {h : PcxHd} {lv : Option Addr} (ok : h.Ok) (Q0 : Blk w q 145 (pcxCsF s h .nilFunc)) :
    Calls Tryz.prog 154 #[.pointer (some ⟨q, 0, none⟩), .pointer lv] w fun e w' => ChoosePost w w' q w.heap.size (w.heap.size + 1) s h lv e := by
  have pr := ok.pr
  unfold PcxPair at pr
  rcases pr with ⟨hb, hp | hp⟩ | ⟨hb, hp | hp⟩
  · exact pcxChoose2 Q0 (by omega) hb
  · exact pcxChoose1 Q0 hp
  · exact pcxChoose3 Q0 hp (by omega)
  · exact pcxChoose4 Q0 hp (by omega)
/-- a pixel, by whatever was chosen -/
def PixC (w : World) (fv : Value) (rb : Nat) (s : ByteArray) (h : PcxHd) (R : List Nat) : Prop :=
  ∃ fn bb, fv = .func (.func fn) #[] #[.pointer (some ⟨bb, 0, none⟩)] ∧ (∀ x w, (callFunc fn #[.func (.func 156) #[] #[.pointer (some ⟨rb, 0, none⟩)], .int .i64 x, .pointer (some ⟨bb, 0, none⟩)]).run Tryz.prog w = .ok (.enter fn #[.func (.func 156) #[] #[.pointer (some ⟨rb, 0, none⟩)], .int .i64 x, .pointer (some ⟨bb, 0, none⟩)]) w) ∧
    ∀ x, x < h.W → Calls Tryz.prog fn #[.func (.func 156) #[] #[.pointer (some ⟨rb, 0, none⟩)], .int .i64 (x : Int), .pointer (some ⟨bb, 0, none⟩)] w fun e w' => PixPost w w' s h R x e
theorem pixC_is {w : World} {rb bx bl q : Nat} {s : ByteArray} {h : PcxHd} {b g d l lb ld : Nat} {R : List Nat} (ok : h.Ok) (hs : 128 ≤ s.size) (P : PxW w rb bx q s h (pcxFn h bx bl) b g d R) (M : h.Map → Blk w bl 62 #[.pointer (some ⟨l, 0, none⟩)] ∧ PalHas w l lb g ld 256 (pcxMapL s)) : PixC w (pcxFn h bx bl) rb s h R := by
  have pr := ok.pr
  unfold PcxPair at pr
  unfold PixC
  rcases pr with ⟨hb, hp | hp⟩ | ⟨hb, hp | hp⟩
  · obtain ⟨m1, m2⟩ := M ⟨hb, hp⟩
    refine ⟨_, bl, by unfold pcxFn; rw [if_neg (by omega), if_pos hb], fun x w => by kernel_rfl, fun x hx => pcxPix2 ok P m1 m2 hb (by omega) hx⟩
  · exact ⟨_, bx, by unfold pcxFn; rw [if_pos hp], fun x w => by kernel_rfl, fun x hx => pcxPix1 ok P hp hx⟩
  · exact ⟨_, bx, by unfold pcxFn; rw [if_neg (by omega), if_neg (by omega), if_pos hp], fun x w => by kernel_rfl, fun x hx => pcxPix3 ok P (by omega) hp hx⟩
  · exact ⟨_, bx, by unfold pcxFn; rw [if_neg (by omega), if_neg (by omega), if_neg (by omega)], fun x w => by kernel_rfl, fun x hx => pcxPix4 ok P (by omega) hp hs hx⟩
end Go.Proofs.YtccldalagbfmhaaGreat
