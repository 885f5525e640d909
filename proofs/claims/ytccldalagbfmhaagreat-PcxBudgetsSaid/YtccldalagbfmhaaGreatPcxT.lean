/- The document's Decode of a file of PCX's; its Sides. -/
import Derived.Test.YtccldalagbfmhaaGreatPcxS
import Derived.Test.YtccldalagbfmhaaGreatPcxQ
import Derived.Test.YtccldalagbfmhaaGreatFfRef3
import Derived.Deep.CutRange
import Derived.Deep.CutBlock
namespace Go.Proofs.YtccldalagbfmhaaGreat
open Go.RowKit
set_option linter.unusedVariables false
set_option linter.unusedSimpArgs false

theorem pcxGet_bad {s : ByteArray} {te N : Nat} : ∀ f a R {g : Nat × Nat}, pcxGet s te N f a R = .inl g → g.1 ≠ 0 ∧ g.1 ≠ 4 := by
  intro f
  induction f with
  | zero => intro a R g h; cases h
  | succ f ih =>
    intro a R g h
    unfold pcxGet at h
    by_cases h0 : N ≤ R.length
    · rw [if_pos h0] at h; cases h
    · rw [if_neg h0] at h
      by_cases h1 : a + 1 ≤ te
      · rw [if_pos h1] at h
        by_cases h2 : 192 ≤ bat s a
        · rw [if_pos h2] at h
          by_cases h3 : a + 1 + 1 ≤ te
          · rw [if_pos h3] at h
            by_cases h4 : bat s a - 192 = 0 ∨ N - R.length < bat s a - 192
            · rw [if_pos h4] at h; cases h; exact ⟨by simp, by simp⟩
            · rw [if_neg h4] at h; exact ih _ _ h
          · rw [if_neg h3] at h; cases h; exact ⟨by simp, by simp⟩
        · rw [if_neg h2] at h; exact ih _ _ h
      · rw [if_neg h1] at h; cases h; exact ⟨by simp, by simp⟩
theorem pcxGet_ok {s : ByteArray} {te N : Nat} : ∀ f a R {a' : Nat} {R' : List Nat}, pcxGet s te N f a R = .inr (a', R') → a ≤ te → R.length ≤ N → N ≤ R.length + f → (∀ v ∈ R, v < 256) → a' ≤ te ∧ R'.length = N ∧ ∀ v ∈ R', v < 256 := by
  intro f
  induction f with
  | zero => intro a R a' R' h ha hR hN hv; cases h; exact ⟨ha, by omega, hv⟩
  | succ f ih =>
    intro a R a' R' h ha hR hN hv
    unfold pcxGet at h
    by_cases h0 : N ≤ R.length
    · rw [if_pos h0] at h; cases h; exact ⟨ha, by omega, hv⟩
    · rw [if_neg h0] at h
      by_cases h1 : a + 1 ≤ te
      · rw [if_pos h1] at h
        by_cases h2 : 192 ≤ bat s a
        · rw [if_pos h2] at h
          by_cases h3 : a + 1 + 1 ≤ te
          · rw [if_pos h3] at h
            by_cases h4 : bat s a - 192 = 0 ∨ N - R.length < bat s a - 192
            · rw [if_pos h4] at h; cases h
            · rw [if_neg h4] at h
              refine ih _ _ h (by omega) (by rw [List.length_append, List.length_replicate]; omega) (by rw [List.length_append, List.length_replicate]; omega) fun v hm => ?_
              rcases List.mem_append.1 hm with hm | hm
              · exact hv v hm
              · rw [(List.mem_replicate.1 hm).2]; exact bat_lt _ _
          · rw [if_neg h3] at h; cases h
        · rw [if_neg h2] at h
          refine ih _ _ h (by omega) (by rw [List.length_append, List.length_singleton]; omega) (by rw [List.length_append, List.length_singleton]; omega) fun v hm => ?_
          rcases List.mem_append.1 hm with hm | hm
          · exact hv v hm
          · rw [List.mem_singleton.1 hm]; exact bat_lt _ _
      · rw [if_neg h1] at h; cases h
/-- what holds at each pixel -/
structure PdI (w0 w : World) (ph po W H d p l : Nat) (v : Value) (L : List Qc) : Prop where
  A : RI w w0.heap.size 0 0 (.slice none 0 0) 0 0
  Hd : Blk w ph 141 #[.int .i64 (W : Int), .int .i64 (H : Int), .int .i64 (d : Int), .int .i64 (p : Int), .int .i64 (l : Int), .int .i64 0, .int .i64 0]
  X : RI w po (W : Int) (H : Int) v 0 0
  O : OwnsQ w w0.heap.size v L
  B : Below w0.heap.size w0 w
  np : w0.heap.size < po
section
variable {w0 w w' : World} {ph po W H d p l : Nat} {v : Value} {L : List Qc}
theorem PdI.below (h : PdI w0 w ph po W H d p l v L) (b : Below w.heap.size w w') : PdI w0 w' ph po W H d p l v L :=
  ⟨Blk.below h.A b (Blk.lt h.A), Blk.below h.Hd b (Blk.lt h.Hd), Blk.below h.X b (Blk.lt h.X), h.O.below b, below_next h.B b, h.np⟩
theorem PdI.alloc (h : PdI w0 w ph po W H d p l v L) (x : Obj) : PdI w0 (w.alloc x) ph po W H d p l v L := h.below ((Below.refl _ _).alloc (Nat.le_refl _) _)
theorem PdI.drew (h : PdI w0 w ph po W H d p l v L) : PdI w0 w.drew ph po W H d p l v L :=
  ⟨Blk.drew h.A, Blk.drew h.Hd, Blk.drew h.X, h.O, h.B.drew, h.np⟩
/-- what a pixel's call reads -/
def PdS (ph W H d p l : Nat) (w : World) : Prop := w.cell? ⟨ph, 0, none⟩ = some (.int .i64 (W : Int)) ∧ w.cell? ⟨ph, 1, none⟩ = some (.int .i64 (H : Int)) ∧ w.cell? ⟨ph, 2, none⟩ = some (.int .i64 (d : Int)) ∧ w.cell? ⟨ph, 3, none⟩ = some (.int .i64 (p : Int)) ∧ w.cell? ⟨ph, 4, none⟩ = some (.int .i64 (l : Int)) ∧ w.cell? ⟨ph, 5, none⟩ = some (.int .i64 0) ∧ w.cell? ⟨ph, 6, none⟩ = some (.int .i64 0)
theorem PdI.sds (h : PdI w0 w ph po W H d p l v L) : PdS ph W H d p l w := ⟨Blk.cell h.Hd 0, Blk.cell h.Hd 1, Blk.cell h.Hd 2, Blk.cell h.Hd 3, Blk.cell h.Hd 4, Blk.cell h.Hd 5, Blk.cell h.Hd 6⟩
theorem pwp_gen {c : Code} {Q : Exit → Act → World → Prop} {a : Act} {w : World} {S : World → Prop} (hS : S w) (h : ∀ wx, S wx → c.wp Tryz.prog Q a wx) : c.wp Tryz.prog Q a w := h w hS
theorem PdI.grow {u : Value} {c : Qc} (h : PdI w0 w ph po W H d p l v L) (o : OwnsQ w' w0.heap.size u (L ++ [c])) (b : Below w0.heap.size w w') (g : w.grownBy w' v.ownBlock) : PdI w0 (w'.setCell ⟨po, 2, none⟩ u) ph po W H d p l u (L ++ [c]) := by
  have X1 : RI w' po (W : Int) (H : Int) v 0 0 := Blk.grownQ h.X h.O (by decide) g
  have A1 : RI w' w0.heap.size 0 0 (.slice none 0 0) 0 0 := Blk.grownQ h.A h.O (by decide) g
  have H1 := Blk.grownQ h.Hd h.O (by decide) g
  exact ⟨Blk.far A1 (p := ⟨po, 2, none⟩) (Nat.ne_of_lt h.np) u, Blk.far H1 (p := ⟨po, 2, none⟩) (Blk.ne_ H1 X1 (by decide)) u, (Blk.set_ X1 2 u).eq_ (by simp [ri5]), OwnsQ.farRI o X1, below_set (h.B.trans b) (Nat.le_of_lt h.np), h.np⟩
theorem PdI.outs (h : PdI w0 w ph po W H d p l v L) {W' H' k i : Int} : Below w0.heap.size w0 (st5 w w0.heap.size (.int .i64 W') (.int .i64 H') v (.int .i64 k) (.int .i64 i)) ∧ OwnsQ (st5 w w0.heap.size (.int .i64 W') (.int .i64 H') v (.int .i64 k) (.int .i64 i)) w0.heap.size v L :=
  ⟨Below.st5 h.B (Nat.le_refl _), OwnsQ.st5RI h.O h.A⟩
end
set_option maxRecDepth 100000 in
set_option maxHeartbeats 8000000 in
theorem refPcxDecM {s : ByteArray} {W H d p l te : Nat} {D : DRes} (hsm : s.size ≤ 1099511627776) (hs : 128 ≤ s.size) (ok : (⟨W, H, d, p, l⟩ : PcxHd).Ok) (hd : d = 8) (hp : p = 1) (hte : te = s.size - 769) (ht8 : 128 ≤ te) (hmp : (⟨W, H, d, p, l⟩ : PcxHd).Map → 897 ≤ s.size)
    (hR : pcxRdV s = hdP (W : Int) (H : Int) (d : Int) (p : Int) (l : Int) 0 0) (hD : pcxRef s ⟨W, H, d, p, l⟩ te H 128 [] = D) (w : World) : Calls Tryz.prog 31 #[.string s] w fun e w' => RefPost D w w' e := by
  obtain ⟨F0, B0⟩ := ri_new w
  have HR := Lib.hid (fun w => refPcxReadC hsm w)
  rw [hR] at HR
  unfold hdP at HR
  have HOK := Lib.hid ok
  have HMP := Lib.hid hmp
  have hW1 : 1 ≤ W := ok.w1
  have hW2 : W ≤ 16384 := ok.w2
  have hH1 : 1 ≤ H := ok.h1
  have hH2 : H ≤ 16384 := ok.h2
  have hl2 : l ≤ 65535 := by have a := ok.l2; have b := ok.pr; unfold PcxPair at b; simp only at a b; rcases b with ⟨rfl, _⟩ | ⟨rfl, _⟩ <;> omega
  have hp2 : p ≤ 4 := by have b := ok.pr; unfold PcxPair at b; simp only at b; omega
  have htes : te ≤ s.size := by omega
  obtain ⟨N, hN⟩ : ∃ N, p * l = N := ⟨_, rfl⟩
  have hNB : N ≤ 4 * 65535 := by rw [← hN]; exact Nat.mul_le_mul hp2 hl2
  have hNI : IntKind.i64.wrap ((p : Int) * (l : Int)) = (N : Int) := by rw [← Int.natCast_mul, hN]; exact IntWalk.i64_in _ (by omega)
  have HROW : Hid ((⟨W, H, d, p, l⟩ : PcxHd).row = N) := Lib.hid hN
  have hPB : W * H ≤ 16384 * 16384 := Nat.mul_le_mul hW2 hH2
  have hd8 : ((d : Int) == 8) = true := by rw [beq_iff_eq]; omega
  have hp1 : ((p : Int) == 1) = true := by rw [beq_iff_eq]; omega
  have h897 : 897 ≤ s.size := hmp ⟨hd, hp⟩
  have hteI : (s.size : Int) - 769 = (te : Int) := by omega
  clear hd hp
  have HD := Lib.hid hD
  have HTE := Lib.hid hte
  have hsB : (s.size : Int) ≤ 1099511627776 := by omega
  have F1 := Lib.hid F0
  have B1' := Lib.hid B0
  clear hR hD hN ok hmp hte F0 B0
  go_enter Tryz.func31, Tryz.ntmps31
  go_upto_region 7 with (first
    | (go_at_call 75; refine (HR.out _).mono ?_; rintro e w1 ⟨rfl, b1⟩; have A1 : RI (w1.alloc (.cells #[.int .i64 (W : Int), .int .i64 (H : Int), .int .i64 (d : Int), .int .i64 (p : Int), .int .i64 (l : Int), .int .i64 0, .int .i64 0] 141)) w.heap.size 0 0 (.slice none 0 0) 0 0 := Blk.alloc (Blk.below F1.out b1 (Blk.lt F1.out)) _; have H1 : Blk (w1.alloc (.cells #[.int .i64 (W : Int), .int .i64 (H : Int), .int .i64 (d : Int), .int .i64 (p : Int), .int .i64 (l : Int), .int .i64 0, .int .i64 0] 141)) w1.heap.size 141 #[.int .i64 (W : Int), .int .i64 (H : Int), .int .i64 (d : Int), .int .i64 (p : Int), .int .i64 (l : Int), .int .i64 0, .int .i64 0] := Blk.new _ _ _; have B1 : Below w.heap.size w (w1.alloc (.cells #[.int .i64 (W : Int), .int .i64 (H : Int), .int .i64 (d : Int), .int .i64 (p : Int), .int .i64 (l : Int), .int .i64 0, .int .i64 0] 141)) := (below_next B1'.out b1).alloc (below_next B1'.out b1).size _; have n1 : w.heap.size < (w1.alloc (.cells #[.int .i64 (W : Int), .int .i64 (H : Int), .int .i64 (d : Int), .int .i64 (p : Int), .int .i64 (l : Int), .int .i64 0, .int .i64 0] 141)).heap.size := (by have := (below_next B1'.out b1).size; simp; omega); have q0 : (w1.alloc (.cells #[.int .i64 (W : Int), .int .i64 (H : Int), .int .i64 (d : Int), .int .i64 (p : Int), .int .i64 (l : Int), .int .i64 0, .int .i64 0] 141)).cell? ⟨w1.heap.size, 0, none⟩ = some (.int .i64 (W : Int)) := Blk.cell H1 0; have q1 : (w1.alloc (.cells #[.int .i64 (W : Int), .int .i64 (H : Int), .int .i64 (d : Int), .int .i64 (p : Int), .int .i64 (l : Int), .int .i64 0, .int .i64 0] 141)).cell? ⟨w1.heap.size, 1, none⟩ = some (.int .i64 (H : Int)) := Blk.cell H1 1))
  generalize w1.alloc (.cells #[.int .i64 (W : Int), .int .i64 (H : Int), .int .i64 (d : Int), .int .i64 (p : Int), .int .i64 (l : Int), .int .i64 0, .int .i64 0] 141) = w4 at A1 H1 B1 n1 q0 q1 ⊢
  generalize w1.heap.size = ph at H1 q0 q1 ⊢
  go_upto_region 8 with fail
  have I0 : PdI w (w4.alloc (.cells #[.int .i64 (W : Int), .int .i64 (H : Int), .slice none 0 0, .int .i64 0, .int .i64 0] 42)) ph w4.heap.size W H d p l (.slice none 0 0) [] :=
    ⟨Blk.alloc A1 _, Blk.alloc H1 _, Blk.new _ _ _, World.ownsRow_nil _ _ _ _, B1.alloc B1.size _, n1⟩
  generalize w4.alloc (.cells #[.int .i64 (W : Int), .int .i64 (H : Int), .slice none 0 0, .int .i64 0, .int .i64 0] 42) = w5 at I0 ⊢
  generalize w4.heap.size = po at I0 ⊢
  have HI0 := Lib.hid I0
  clear I0 q0 q1 A1 H1 B1 n1 b1 HR F1 B1'
  go_wp2_with fail
  go_loopg [6, 7, 8, 9, 10, 11, 12] H (fun gh v6 v7 v8 v9 v10 v11 v12 wr => ∃ (y a : Nat) (v : Value) (L : List Qc), y + gh = H ∧ v6 = .int .i64 (a : Int) ∧ v7 = .int .i64 (y : Int) ∧ a ≤ te ∧ L.length = W * y ∧ Hid (pcxRef s ⟨W, H, d, p, l⟩ te gh a L = D) ∧ Hid (PdI w wr ph po W H d p l v L))
  case atStart => exact ⟨0, 128, _, [], by omega, rfl, rfl, ht8, rfl, HD, HI0⟩
  case round =>
    obtain ⟨y, a, v, L, hy, rfl, rfl, ha, hL, HRUN, HI⟩ := hrel
    clear HI0 HD
    obtain ⟨h0, h1, h2, h3, h4, h5, h6⟩ := HI.out.sds
    have HL := Lib.hid hL
    clear hL
    by_cases hyH : y < H
    · have hyI : (y : Int) < (H : Int) := by omega
      obtain ⟨m, rfl⟩ : ∃ m, gk = m + 1 := ⟨gk - 1, by omega⟩
      have hrun := HRUN.out
      unfold pcxRef at hrun
      rw [HROW.out] at hrun
      obtain ⟨r, hr⟩ : ∃ r, pcxGet s te N N a [] = r := ⟨_, rfl⟩
      have HRW := Lib.hid (fun w => refPcxRow hr hsm ha htes (by omega) w)
      rw [hr] at hrun
      cases r with
      | inl g =>
        obtain ⟨gk0, gp⟩ := g
        have hg := (pcxGet_bad _ _ _ hr).1
        simp only at hg hrun
        have hgI : ¬ (gk0 : Int) = 0 := by omega
        unfold pcxRowV at HRW
        simp only at HRW
        have HR2 := Lib.hid hrun
        clear hrun HRUN hr hg
        go_wp2_with (first
          | (go_at_call 78; refine (HRW.out _).mono ?_; rintro e w7 ⟨rfl, b7⟩; have I7 := HI.out.below b7)
          | (go_at_call 67; refine (refBadC _ _ _).mono ?_; rintro e wb ⟨rfl, bb⟩; have IB := I7.below bb; obtain ⟨x0, x1, x2, x3, x4, zx0, zx1, zx2, zx3, zx4, xl⟩ := RI.all IB.A))
        exact bodyPost_ret (v := .agg #[.int .i64 0, .int .i64 0, .slice none 0 0, .int .i64 (gk0 : Int), .int .i64 (gp : Int)]) (by simp [results, Tryz.results31, go_sem, x0, x1, x2, x3, x4]) rfl (by rw [show D = DRes.bad gk0 gp from HR2.out.symm]; exact ⟨Below.st5 IB.B (Nat.le_refl _), rfl⟩)
      | inr g =>
        obtain ⟨a', R⟩ := g
        obtain ⟨ha', hRN, hR8⟩ := pcxGet_ok _ _ _ hr ha (Nat.zero_le _) (by simp) (by simp)
        simp only at hrun
        unfold pcxRowV at HRW
        simp only at HRW
        have HPX0 : Hid (∀ x, x < W → ∀ w, Calls Tryz.prog 79 #[.string s, hdP (W : Int) (H : Int) (d : Int) (p : Int) (l : Int) 0 0, .string (strOf (pb8 R)), .int .i64 (x : Int)] w fun e w' => e = .returned (Qc.v (pcxQ s ⟨W, H, d, p, l⟩ R x)) ∧ Below w.heap.size w w') :=
          Lib.hid (fun x hx w => refPcxPixel (h := ⟨W, H, d, p, l⟩) HOK.out (by rw [HROW.out]; exact hRN) hx hR8 hsm hs HMP.out w)
        unfold hdP at HPX0
        obtain ⟨b, hb⟩ : ∃ b, strOf (pb8 R) = b := ⟨_, rfl⟩
        rw [hb] at HRW HPX0
        obtain ⟨Le, hLe⟩ : ∃ Le, pcxCols s ⟨W, H, d, p, l⟩ R W 0 L = Le := ⟨_, rfl⟩
        rw [show pcxCols s ⟨W, H, d, p, l⟩ R (⟨W, H, d, p, l⟩ : PcxHd).W 0 L = Le from hLe] at hrun
        have HR2 := Lib.hid hrun
        have HLE := Lib.hid hLe
        have hyW : W * y + W ≤ W * H := by rw [← Nat.mul_succ]; exact Nat.mul_le_mul (Nat.le_refl _) (by omega)
        clear hrun HRUN hr hb hLe hRN hR8
        go_wp2_with (go_at_call 78; refine (HRW.out _).mono ?_; rintro e w7 ⟨rfl, b7⟩; have HI7 := Lib.hid (HI.out.below b7))
        clear HI b7 h0 h1 h2 h3 h4 h5 h6
        obtain ⟨Wy, hWy⟩ : ∃ q, W * y = q := ⟨_, rfl⟩
        rw [hWy] at hyW HL
        go_loopg [12] W (fun gx v12 wx => ∃ (x : Nat) (v : Value) (L : List Qc), x + gx = W ∧ v12 = .int .i64 (x : Int) ∧ L.length = Wy + x ∧ Hid (pcxCols s ⟨W, H, d, p, l⟩ R gx x L = Le) ∧ Hid (PdI w wx ph po W H d p l v L))
        case atStart => exact ⟨0, v, L, by omega, rfl, HL.out, HLE, HI7⟩
        case round =>
          clear HI7 HLE HL
          obtain ⟨x, v, L, hx, rfl, hL, HRX, HI⟩ := hrel
          have HL := Lib.hid hL
          clear hL
          obtain ⟨h0, h1, h2, h3, h4, h5, h6⟩ := HI.out.sds
          by_cases hxW : x < W
          · have hxI : (x : Int) < (W : Int) := by omega
            obtain ⟨gx', rfl⟩ : ∃ m, gk = m + 1 := ⟨gk - 1, by omega⟩
            have HPX := Lib.hid (HPX0.out x hxW)
            have hrx := HRX.out
            unfold pcxCols at hrx
            generalize pcxQ s ⟨W, H, d, p, l⟩ R x = q at HPX hrx
            unfold Qc.v at HPX
            have HRX := Lib.hid hrx
            clear hrx
            go_upto_region 19 with fail
            clear h0 h1 h2 h3 h4 h5 h6
            refine pwp_gen (S := fun wx => PdI w wx ph po W H d p l v L) (by exact HI.out) (fun wx hX => ?_)
            have HX := Lib.hid hX.drew
            refine wp_region_held_drew (S := (PdS ph W H d p l)) (by kernel_rfl) HX.out.sds (fun hHeld => ?_)
            clear hX HI
            generalize wx.drew = wd at HX hHeld ⊢
            refine wpAnyH_take (i := 0) (v := ?_) rfl (by kernel_rfl) (by kernel_rfl) (by kernel_rfl) (fun _ _ _ h => h) (Or.inl ⟨by kernel_rfl, ?_⟩) (by assumption) ?_
            rotate_left
            · intro w hSw; obtain ⟨s0, s1, s2, s3, s4, s5, s6⟩ := hSw; go_simp; (try with_reducible rfl)
            (try simp only [Act.put, List.getElem_toArray, List.getElem_cons_succ, List.getElem_cons_zero, List.setIfInBounds_toArray, List.set_cons_zero, List.set_cons_succ])
            refine wpAnyH_take (i := 2) (v := ?_) rfl (by kernel_rfl) (by kernel_rfl) (by kernel_rfl) (fun _ _ _ h => h) (Or.inl ⟨by kernel_rfl, ?_⟩) (by assumption) ?_
            rotate_left
            · intro w hSw; obtain ⟨s0, s1, s2, s3, s4, s5, s6⟩ := hSw; go_simp; (try with_reducible rfl)
            (try simp only [Act.put, List.getElem_toArray, List.getElem_cons_succ, List.getElem_cons_zero, List.setIfInBounds_toArray, List.set_cons_zero, List.set_cons_succ])
            refine wpAnyH_take (i := 3) (v := ?_) rfl (by kernel_rfl) (by kernel_rfl) (by kernel_rfl) (fun _ _ _ h => h) (Or.inl ⟨by kernel_rfl, ?_⟩) (by assumption) ?_
            rotate_left
            · intro w hSw; obtain ⟨s0, s1, s2, s3, s4, s5, s6⟩ := hSw; go_simp; (try with_reducible rfl)
            (try simp only [Act.put, List.getElem_toArray, List.getElem_cons_succ, List.getElem_cons_zero, List.setIfInBounds_toArray, List.set_cons_zero, List.set_cons_succ])
            refine wpAnyH_take (i := 4) (v := ?_) rfl (by kernel_rfl) (by kernel_rfl) (by kernel_rfl) (fun _ _ _ h => h) (Or.inl ⟨by kernel_rfl, ?_⟩) (by assumption) ?_
            rotate_left
            · intro w hSw; obtain ⟨s0, s1, s2, s3, s4, s5, s6⟩ := hSw; go_simp; (try with_reducible rfl)
            (try simp only [Act.put, List.getElem_toArray, List.getElem_cons_succ, List.getElem_cons_zero, List.setIfInBounds_toArray, List.set_cons_zero, List.set_cons_succ])
            refine wpAnyH_take (i := 5) (v := ?_) rfl (by kernel_rfl) (by kernel_rfl) (by kernel_rfl) (fun _ _ _ h => h) (Or.inl ⟨by kernel_rfl, ?_⟩) (by assumption) ?_
            rotate_left
            · intro w hSw; obtain ⟨s0, s1, s2, s3, s4, s5, s6⟩ := hSw; go_simp; (try with_reducible rfl)
            (try simp only [Act.put, List.getElem_toArray, List.getElem_cons_succ, List.getElem_cons_zero, List.setIfInBounds_toArray, List.set_cons_zero, List.set_cons_succ])
            refine wpAnyH_ready (rs := [1, 6]) (by kernel_rfl) (by simp) ?_
            refine AllReadyH.cons rfl (fun K hK => ?_) (AllReadyH.cons rfl (fun K hK => ?_) AllReadyH.nil)
            · obtain ⟨X0, X1, X2, X3, X4, zX0, zX1, zX2, zX3, zX4, Xl⟩ := RI.all HX.out.X
              go_simp
              refine hK.out _ _ HX.out.sds (fun hHeld' => ?_)
              clear hK K hHeld
              have hHeld := hHeld'
              clear hHeld'
              (try simp only [Act.put, List.getElem_toArray, List.getElem_cons_succ, List.getElem_cons_zero, List.setIfInBounds_toArray, List.set_cons_zero, List.set_cons_succ])
              clear X0 X1 X2 X3 X4 zX0 zX1 zX2 zX3 zX4 Xl
              refine wpAnyH_ready (rs := [6]) (by kernel_rfl) (by simp) ?_
              refine AllReadyH.cons rfl (fun K hK => ?_) AllReadyH.nil
              go_simp
              refine (HPX.out _).mono ?_
              rintro e w8 ⟨rfl, b8⟩
              have I8 := HX.out.below b8
              refine hK.out _ _ I8.sds (fun hHeld' => ?_)
              clear hK K hHeld
              have hHeld := hHeld'
              clear hHeld'
              (try simp only [Act.put, List.getElem_toArray, List.getElem_cons_succ, List.getElem_cons_zero, List.setIfInBounds_toArray, List.set_cons_zero, List.set_cons_succ])
              refine wpAnyH_ready (rs := [7]) (by kernel_rfl) (by simp) ?_
              refine AllReadyH.cons rfl (fun K hK => ?_) AllReadyH.nil
              go_simp
              have I9 := I8.alloc (.cells #[.int .u8 (q.r.toNat : Int), .int .u8 (q.g.toNat : Int), .int .u8 (q.b.toNat : Int), .int .u8 (q.a.toNat : Int)] 131)
              refine hK.out _ _ I9.sds (fun hHeld' => ?_)
              clear hK K hHeld
              have hHeld := hHeld'
              clear hHeld'
              (try simp only [Act.put, List.getElem_toArray, List.getElem_cons_succ, List.getElem_cons_zero, List.setIfInBounds_toArray, List.set_cons_zero, List.set_cons_succ])
              refine wpAnyH_ready (rs := [8]) (by kernel_rfl) (by simp) ?_
              refine AllReadyH.cons rfl (fun K hK => ?_) AllReadyH.nil
              refine oper_append_cols (.tmp 74) (.tmp 80) rfl w.heap.size v L rfl I9.O w8.heap.size 1 1 [q] rfl rfl (q_new w8 q) ?_ ?_ ?_
              · rw [HL.out]; simp; omega
              · have := I9.B.size; exact this
              intro v10 w10 o10 b10 g10
              have X10 : RI w10 po (W : Int) (H : Int) v 0 0 := Blk.grownQ I9.X I9.O (by decide) g10
              have H10 := Blk.grownQ I9.Hd I9.O (by decide) g10
              have IG := PdI.grow I9 o10 b10 g10
              obtain ⟨a10, c10, hv10⟩ := o10.slice
              generalize hn10 : (L ++ [q]).length = n10 at hv10
              subst hv10
              refine hK.out _ _ ⟨Blk.cell H10 0, Blk.cell H10 1, Blk.cell H10 2, Blk.cell H10 3, Blk.cell H10 4, Blk.cell H10 5, Blk.cell H10 6⟩ (fun hHeld' => ?_)
              clear hK K hHeld
              have hHeld := hHeld'
              clear hHeld'
              (try simp only [Act.put, List.getElem_toArray, List.getElem_cons_succ, List.getElem_cons_zero, List.setIfInBounds_toArray, List.set_cons_zero, List.set_cons_succ])
              refine wpAnyH_take (i := 9) (v := ?_) rfl (by kernel_rfl) (by kernel_rfl) (by kernel_rfl) (fun _ _ _ h => h) (Or.inl ⟨by kernel_rfl, ?_⟩) (by assumption) ?_
              rotate_left
              · intro w hSw; obtain ⟨s0, s1, s2, s3, s4, s5, s6⟩ := hSw; go_simp; (try with_reducible rfl)
              (try simp only [Act.put, List.getElem_toArray, List.getElem_cons_succ, List.getElem_cons_zero, List.setIfInBounds_toArray, List.set_cons_zero, List.set_cons_succ])
              (try clear X0 X1 X2 X3 X4 zX0 zX1 zX2 zX3 zX4 Xl)
              obtain ⟨X0, X1, X2, X3, X4, zX0, zX1, zX2, zX3, zX4, Xl⟩ := RI.all X10
              refine wpAnyH_ready (rs := [10]) (by kernel_rfl) (by simp) ?_
              refine AllReadyH.cons rfl (fun K hK => ?_) AllReadyH.nil
              go_simp
              refine hK.out _ _ IG.sds (fun hHeld' => ?_)
              clear hK K hHeld
              have hHeld := hHeld'
              clear hHeld'
              (try simp only [Act.put, List.getElem_toArray, List.getElem_cons_succ, List.getElem_cons_zero, List.setIfInBounds_toArray, List.set_cons_zero, List.set_cons_succ])
              refine wpAnyH_done (by kernel_rfl) ?_ _
              (try simp only [List.getElem_toArray, List.getElem_cons_succ, List.getElem_cons_zero, List.set_cons_zero, List.set_cons_succ])
              clear hHeld I8 I9 X10 H10 o10 b10 g10 b8 X0 X1 X2 X3 X4 zX0 zX1 zX2 zX3 zX4 Xl
              change Exit.inBlock _ _ _ _ (w10.setCell ⟨po, 2, none⟩ (.slice a10 n10 c10))
              generalize w10.setCell ⟨po, 2, none⟩ (.slice a10 n10 c10) = wz at IG ⊢
              have HZ := Lib.hid IG
              clear IG hn10
              go_wp2_with fail
              go_roundg gx'
              case measure => omega
              case rel => exact ⟨x + 1, _, L ++ [q], by omega, by go_num, by rw [List.length_append, HL.out]; rfl, HRX, HZ⟩
            · go_simp
              refine (HPX.out _).mono ?_
              rintro e w8 ⟨rfl, b8⟩
              have I8 := HX.out.below b8
              refine hK.out _ _ I8.sds (fun hHeld' => ?_)
              clear hK K hHeld
              have hHeld := hHeld'
              clear hHeld'
              (try simp only [Act.put, List.getElem_toArray, List.getElem_cons_succ, List.getElem_cons_zero, List.setIfInBounds_toArray, List.set_cons_zero, List.set_cons_succ])
              refine wpAnyH_ready (rs := [1, 7]) (by kernel_rfl) (by simp) ?_
              refine AllReadyH.cons rfl (fun K hK => ?_) (AllReadyH.cons rfl (fun K hK => ?_) AllReadyH.nil)
              · obtain ⟨X0, X1, X2, X3, X4, zX0, zX1, zX2, zX3, zX4, Xl⟩ := RI.all I8.X
                go_simp
                refine hK.out _ _ I8.sds (fun hHeld' => ?_)
                clear hK K hHeld
                have hHeld := hHeld'
                clear hHeld'
                (try simp only [Act.put, List.getElem_toArray, List.getElem_cons_succ, List.getElem_cons_zero, List.setIfInBounds_toArray, List.set_cons_zero, List.set_cons_succ])
                clear X0 X1 X2 X3 X4 zX0 zX1 zX2 zX3 zX4 Xl
                refine wpAnyH_ready (rs := [7]) (by kernel_rfl) (by simp) ?_
                refine AllReadyH.cons rfl (fun K hK => ?_) AllReadyH.nil
                go_simp
                have I9 := I8.alloc (.cells #[.int .u8 (q.r.toNat : Int), .int .u8 (q.g.toNat : Int), .int .u8 (q.b.toNat : Int), .int .u8 (q.a.toNat : Int)] 131)
                refine hK.out _ _ I9.sds (fun hHeld' => ?_)
                clear hK K hHeld
                have hHeld := hHeld'
                clear hHeld'
                (try simp only [Act.put, List.getElem_toArray, List.getElem_cons_succ, List.getElem_cons_zero, List.setIfInBounds_toArray, List.set_cons_zero, List.set_cons_succ])
                refine wpAnyH_ready (rs := [8]) (by kernel_rfl) (by simp) ?_
                refine AllReadyH.cons rfl (fun K hK => ?_) AllReadyH.nil
                refine oper_append_cols (.tmp 74) (.tmp 80) rfl w.heap.size v L rfl I9.O w8.heap.size 1 1 [q] rfl rfl (q_new w8 q) ?_ ?_ ?_
                · rw [HL.out]; simp; omega
                · have := I9.B.size; exact this
                intro v10 w10 o10 b10 g10
                have X10 : RI w10 po (W : Int) (H : Int) v 0 0 := Blk.grownQ I9.X I9.O (by decide) g10
                have H10 := Blk.grownQ I9.Hd I9.O (by decide) g10
                have IG := PdI.grow I9 o10 b10 g10
                obtain ⟨a10, c10, hv10⟩ := o10.slice
                generalize hn10 : (L ++ [q]).length = n10 at hv10
                subst hv10
                refine hK.out _ _ ⟨Blk.cell H10 0, Blk.cell H10 1, Blk.cell H10 2, Blk.cell H10 3, Blk.cell H10 4, Blk.cell H10 5, Blk.cell H10 6⟩ (fun hHeld' => ?_)
                clear hK K hHeld
                have hHeld := hHeld'
                clear hHeld'
                (try simp only [Act.put, List.getElem_toArray, List.getElem_cons_succ, List.getElem_cons_zero, List.setIfInBounds_toArray, List.set_cons_zero, List.set_cons_succ])
                refine wpAnyH_take (i := 9) (v := ?_) rfl (by kernel_rfl) (by kernel_rfl) (by kernel_rfl) (fun _ _ _ h => h) (Or.inl ⟨by kernel_rfl, ?_⟩) (by assumption) ?_
                rotate_left
                · intro w hSw; obtain ⟨s0, s1, s2, s3, s4, s5, s6⟩ := hSw; go_simp; (try with_reducible rfl)
                (try simp only [Act.put, List.getElem_toArray, List.getElem_cons_succ, List.getElem_cons_zero, List.setIfInBounds_toArray, List.set_cons_zero, List.set_cons_succ])
                (try clear X0 X1 X2 X3 X4 zX0 zX1 zX2 zX3 zX4 Xl)
                obtain ⟨X0, X1, X2, X3, X4, zX0, zX1, zX2, zX3, zX4, Xl⟩ := RI.all X10
                refine wpAnyH_ready (rs := [10]) (by kernel_rfl) (by simp) ?_
                refine AllReadyH.cons rfl (fun K hK => ?_) AllReadyH.nil
                go_simp
                refine hK.out _ _ IG.sds (fun hHeld' => ?_)
                clear hK K hHeld
                have hHeld := hHeld'
                clear hHeld'
                (try simp only [Act.put, List.getElem_toArray, List.getElem_cons_succ, List.getElem_cons_zero, List.setIfInBounds_toArray, List.set_cons_zero, List.set_cons_succ])
                refine wpAnyH_done (by kernel_rfl) ?_ _
                (try simp only [List.getElem_toArray, List.getElem_cons_succ, List.getElem_cons_zero, List.set_cons_zero, List.set_cons_succ])
                clear hHeld I8 I9 X10 H10 o10 b10 g10 b8 X0 X1 X2 X3 X4 zX0 zX1 zX2 zX3 zX4 Xl
                change Exit.inBlock _ _ _ _ (w10.setCell ⟨po, 2, none⟩ (.slice a10 n10 c10))
                generalize w10.setCell ⟨po, 2, none⟩ (.slice a10 n10 c10) = wz at IG ⊢
                have HZ := Lib.hid IG
                clear IG hn10
                go_wp2_with fail
                go_roundg gx'
                case measure => omega
                case rel => exact ⟨x + 1, _, L ++ [q], by omega, by go_num, by rw [List.length_append, HL.out]; rfl, HRX, HZ⟩
              · go_simp
                have I9 := I8.alloc (.cells #[.int .u8 (q.r.toNat : Int), .int .u8 (q.g.toNat : Int), .int .u8 (q.b.toNat : Int), .int .u8 (q.a.toNat : Int)] 131)
                refine hK.out _ _ I9.sds (fun hHeld' => ?_)
                clear hK K hHeld
                have hHeld := hHeld'
                clear hHeld'
                (try simp only [Act.put, List.getElem_toArray, List.getElem_cons_succ, List.getElem_cons_zero, List.setIfInBounds_toArray, List.set_cons_zero, List.set_cons_succ])
                refine wpAnyH_ready (rs := [1]) (by kernel_rfl) (by simp) ?_
                refine AllReadyH.cons rfl (fun K hK => ?_) AllReadyH.nil
                obtain ⟨X0, X1, X2, X3, X4, zX0, zX1, zX2, zX3, zX4, Xl⟩ := RI.all I9.X
                go_simp
                refine hK.out _ _ I9.sds (fun hHeld' => ?_)
                clear hK K hHeld
                have hHeld := hHeld'
                clear hHeld'
                (try simp only [Act.put, List.getElem_toArray, List.getElem_cons_succ, List.getElem_cons_zero, List.setIfInBounds_toArray, List.set_cons_zero, List.set_cons_succ])
                clear X0 X1 X2 X3 X4 zX0 zX1 zX2 zX3 zX4 Xl
                refine wpAnyH_ready (rs := [8]) (by kernel_rfl) (by simp) ?_
                refine AllReadyH.cons rfl (fun K hK => ?_) AllReadyH.nil
                refine oper_append_cols (.tmp 74) (.tmp 80) rfl w.heap.size v L rfl I9.O w8.heap.size 1 1 [q] rfl rfl (q_new w8 q) ?_ ?_ ?_
                · rw [HL.out]; simp; omega
                · have := I9.B.size; exact this
                intro v10 w10 o10 b10 g10
                have X10 : RI w10 po (W : Int) (H : Int) v 0 0 := Blk.grownQ I9.X I9.O (by decide) g10
                have H10 := Blk.grownQ I9.Hd I9.O (by decide) g10
                have IG := PdI.grow I9 o10 b10 g10
                obtain ⟨a10, c10, hv10⟩ := o10.slice
                generalize hn10 : (L ++ [q]).length = n10 at hv10
                subst hv10
                refine hK.out _ _ ⟨Blk.cell H10 0, Blk.cell H10 1, Blk.cell H10 2, Blk.cell H10 3, Blk.cell H10 4, Blk.cell H10 5, Blk.cell H10 6⟩ (fun hHeld' => ?_)
                clear hK K hHeld
                have hHeld := hHeld'
                clear hHeld'
                (try simp only [Act.put, List.getElem_toArray, List.getElem_cons_succ, List.getElem_cons_zero, List.setIfInBounds_toArray, List.set_cons_zero, List.set_cons_succ])
                refine wpAnyH_take (i := 9) (v := ?_) rfl (by kernel_rfl) (by kernel_rfl) (by kernel_rfl) (fun _ _ _ h => h) (Or.inl ⟨by kernel_rfl, ?_⟩) (by assumption) ?_
                rotate_left
                · intro w hSw; obtain ⟨s0, s1, s2, s3, s4, s5, s6⟩ := hSw; go_simp; (try with_reducible rfl)
                (try simp only [Act.put, List.getElem_toArray, List.getElem_cons_succ, List.getElem_cons_zero, List.setIfInBounds_toArray, List.set_cons_zero, List.set_cons_succ])
                (try clear X0 X1 X2 X3 X4 zX0 zX1 zX2 zX3 zX4 Xl)
                obtain ⟨X0, X1, X2, X3, X4, zX0, zX1, zX2, zX3, zX4, Xl⟩ := RI.all X10
                refine wpAnyH_ready (rs := [10]) (by kernel_rfl) (by simp) ?_
                refine AllReadyH.cons rfl (fun K hK => ?_) AllReadyH.nil
                go_simp
                refine hK.out _ _ IG.sds (fun hHeld' => ?_)
                clear hK K hHeld
                have hHeld := hHeld'
                clear hHeld'
                (try simp only [Act.put, List.getElem_toArray, List.getElem_cons_succ, List.getElem_cons_zero, List.setIfInBounds_toArray, List.set_cons_zero, List.set_cons_succ])
                refine wpAnyH_done (by kernel_rfl) ?_ _
                (try simp only [List.getElem_toArray, List.getElem_cons_succ, List.getElem_cons_zero, List.set_cons_zero, List.set_cons_succ])
                clear hHeld I8 I9 X10 H10 o10 b10 g10 b8 X0 X1 X2 X3 X4 zX0 zX1 zX2 zX3 zX4 Xl
                change Exit.inBlock _ _ _ _ (w10.setCell ⟨po, 2, none⟩ (.slice a10 n10 c10))
                generalize w10.setCell ⟨po, 2, none⟩ (.slice a10 n10 c10) = wz at IG ⊢
                have HZ := Lib.hid IG
                clear IG hn10
                go_wp2_with fail
                go_roundg gx'
                case measure => omega
                case rel => exact ⟨x + 1, _, L ++ [q], by omega, by go_num, by rw [List.length_append, HL.out]; rfl, HRX, HZ⟩
          · obtain rfl : x = W := by omega
            obtain rfl : gk = 0 := by omega
            have hxI : ¬ (x : Int) < (x : Int) := by omega
            have hLe : L = Le := HRX.out
            have HE : Hid (L = Le) := Lib.hid hLe
            have hWy1 : Wy + x = x * (y + 1) := by rw [Nat.mul_succ, hWy]
            have HWY := Lib.hid hWy1
            clear hLe hWy hWy1
            go_wp2_with fail
            go_roundg m
            case measure => omega
            case rel => exact ⟨y + 1, a', v, L, by omega, rfl, by go_num, ha', by rw [HL.out, HWY.out], Lib.hid (by rw [HE.out]; exact HR2.out), HI⟩
    · obtain rfl : y = H := by omega
      obtain rfl : gk = 0 := by omega
      have hyI : ¬ (y : Int) < (y : Int) := by omega
      have hrun := HRUN.out
      unfold pcxRef at hrun
      have HR2 := Lib.hid hrun
      obtain ⟨va, vc, hv⟩ := HI.out.O.slice
      generalize L.length = ll at hv
      subst hv
      obtain ⟨x0, x1, x2, x3, x4, zx0, zx1, zx2, zx3, zx4, xl⟩ := RI.all HI.out.A
      obtain ⟨X0, X1, X2, X3, X4, zX0, zX1, zX2, zX3, zX4, Xl⟩ := RI.all HI.out.X
      clear hrun HRUN
      go_wp2_with fail
      exact bodyPost_ret (v := .agg #[.int .i64 (W : Int), .int .i64 (y : Int), .slice va ll vc, .int .i64 0, .int .i64 0]) (by simp [results, Tryz.results31, go_sem, x0, x1, x2, x3, x4]) rfl (by rw [show D = DRes.img W y (flat L) from HR2.out.symm]; exact ⟨HI.out.outs.1, _, L, rfl, HI.out.outs.2, rfl, by rw [HL.out]⟩)
set_option maxRecDepth 100000 in
set_option maxHeartbeats 8000000 in
theorem refPcxDecN {s : ByteArray} {W H d p l te : Nat} {D : DRes} (hsm : s.size ≤ 1099511627776) (hs : 128 ≤ s.size) (ok : (⟨W, H, d, p, l⟩ : PcxHd).Ok) (hd : d = 8) (hp : p ≠ 1) (hte : te = s.size) (ht8 : 128 ≤ te) (hmp : (⟨W, H, d, p, l⟩ : PcxHd).Map → 897 ≤ s.size)
    (hR : pcxRdV s = hdP (W : Int) (H : Int) (d : Int) (p : Int) (l : Int) 0 0) (hD : pcxRef s ⟨W, H, d, p, l⟩ te H 128 [] = D) (w : World) : Calls Tryz.prog 31 #[.string s] w fun e w' => RefPost D w w' e := by
  obtain ⟨F0, B0⟩ := ri_new w
  have HR := Lib.hid (fun w => refPcxReadC hsm w)
  rw [hR] at HR
  unfold hdP at HR
  have HOK := Lib.hid ok
  have HMP := Lib.hid hmp
  have hW1 : 1 ≤ W := ok.w1
  have hW2 : W ≤ 16384 := ok.w2
  have hH1 : 1 ≤ H := ok.h1
  have hH2 : H ≤ 16384 := ok.h2
  have hl2 : l ≤ 65535 := by have a := ok.l2; have b := ok.pr; unfold PcxPair at b; simp only at a b; rcases b with ⟨rfl, _⟩ | ⟨rfl, _⟩ <;> omega
  have hp2 : p ≤ 4 := by have b := ok.pr; unfold PcxPair at b; simp only at b; omega
  have htes : te ≤ s.size := by omega
  obtain ⟨N, hN⟩ : ∃ N, p * l = N := ⟨_, rfl⟩
  have hNB : N ≤ 4 * 65535 := by rw [← hN]; exact Nat.mul_le_mul hp2 hl2
  have hNI : IntKind.i64.wrap ((p : Int) * (l : Int)) = (N : Int) := by rw [← Int.natCast_mul, hN]; exact IntWalk.i64_in _ (by omega)
  have HROW : Hid ((⟨W, H, d, p, l⟩ : PcxHd).row = N) := Lib.hid hN
  have hPB : W * H ≤ 16384 * 16384 := Nat.mul_le_mul hW2 hH2
  have hd8 : ((d : Int) == 8) = true := by rw [beq_iff_eq]; omega
  have hp1 : ((p : Int) == 1) = false := by rw [beq_eq_false_iff_ne]; omega
  clear hd hp
  have HD := Lib.hid hD
  have HTE := Lib.hid hte
  have hsB : (s.size : Int) ≤ 1099511627776 := by omega
  have F1 := Lib.hid F0
  have B1' := Lib.hid B0
  clear hR hD hN ok hmp hte F0 B0
  go_enter Tryz.func31, Tryz.ntmps31
  go_upto_region 7 with (first
    | (go_at_call 75; refine (HR.out _).mono ?_; rintro e w1 ⟨rfl, b1⟩; have A1 : RI (w1.alloc (.cells #[.int .i64 (W : Int), .int .i64 (H : Int), .int .i64 (d : Int), .int .i64 (p : Int), .int .i64 (l : Int), .int .i64 0, .int .i64 0] 141)) w.heap.size 0 0 (.slice none 0 0) 0 0 := Blk.alloc (Blk.below F1.out b1 (Blk.lt F1.out)) _; have H1 : Blk (w1.alloc (.cells #[.int .i64 (W : Int), .int .i64 (H : Int), .int .i64 (d : Int), .int .i64 (p : Int), .int .i64 (l : Int), .int .i64 0, .int .i64 0] 141)) w1.heap.size 141 #[.int .i64 (W : Int), .int .i64 (H : Int), .int .i64 (d : Int), .int .i64 (p : Int), .int .i64 (l : Int), .int .i64 0, .int .i64 0] := Blk.new _ _ _; have B1 : Below w.heap.size w (w1.alloc (.cells #[.int .i64 (W : Int), .int .i64 (H : Int), .int .i64 (d : Int), .int .i64 (p : Int), .int .i64 (l : Int), .int .i64 0, .int .i64 0] 141)) := (below_next B1'.out b1).alloc (below_next B1'.out b1).size _; have n1 : w.heap.size < (w1.alloc (.cells #[.int .i64 (W : Int), .int .i64 (H : Int), .int .i64 (d : Int), .int .i64 (p : Int), .int .i64 (l : Int), .int .i64 0, .int .i64 0] 141)).heap.size := (by have := (below_next B1'.out b1).size; simp; omega); have q0 : (w1.alloc (.cells #[.int .i64 (W : Int), .int .i64 (H : Int), .int .i64 (d : Int), .int .i64 (p : Int), .int .i64 (l : Int), .int .i64 0, .int .i64 0] 141)).cell? ⟨w1.heap.size, 0, none⟩ = some (.int .i64 (W : Int)) := Blk.cell H1 0; have q1 : (w1.alloc (.cells #[.int .i64 (W : Int), .int .i64 (H : Int), .int .i64 (d : Int), .int .i64 (p : Int), .int .i64 (l : Int), .int .i64 0, .int .i64 0] 141)).cell? ⟨w1.heap.size, 1, none⟩ = some (.int .i64 (H : Int)) := Blk.cell H1 1))
  generalize w1.alloc (.cells #[.int .i64 (W : Int), .int .i64 (H : Int), .int .i64 (d : Int), .int .i64 (p : Int), .int .i64 (l : Int), .int .i64 0, .int .i64 0] 141) = w4 at A1 H1 B1 n1 q0 q1 ⊢
  generalize w1.heap.size = ph at H1 q0 q1 ⊢
  go_upto_region 8 with fail
  have I0 : PdI w (w4.alloc (.cells #[.int .i64 (W : Int), .int .i64 (H : Int), .slice none 0 0, .int .i64 0, .int .i64 0] 42)) ph w4.heap.size W H d p l (.slice none 0 0) [] :=
    ⟨Blk.alloc A1 _, Blk.alloc H1 _, Blk.new _ _ _, World.ownsRow_nil _ _ _ _, B1.alloc B1.size _, n1⟩
  generalize w4.alloc (.cells #[.int .i64 (W : Int), .int .i64 (H : Int), .slice none 0 0, .int .i64 0, .int .i64 0] 42) = w5 at I0 ⊢
  generalize w4.heap.size = po at I0 ⊢
  have HI0 := Lib.hid I0
  clear I0 q0 q1 A1 H1 B1 n1 b1 HR F1 B1'
  obtain rfl : te = s.size := HTE.out
  go_wp2_with fail
  go_loopg [6, 7, 8, 9, 10, 11, 12] H (fun gh v6 v7 v8 v9 v10 v11 v12 wr => ∃ (y a : Nat) (v : Value) (L : List Qc), y + gh = H ∧ v6 = .int .i64 (a : Int) ∧ v7 = .int .i64 (y : Int) ∧ a ≤ s.size ∧ L.length = W * y ∧ Hid (pcxRef s ⟨W, H, d, p, l⟩ s.size gh a L = D) ∧ Hid (PdI w wr ph po W H d p l v L))
  case atStart => exact ⟨0, 128, _, [], by omega, rfl, rfl, ht8, rfl, HD, HI0⟩
  case round =>
    obtain ⟨y, a, v, L, hy, rfl, rfl, ha, hL, HRUN, HI⟩ := hrel
    clear HI0 HD
    obtain ⟨h0, h1, h2, h3, h4, h5, h6⟩ := HI.out.sds
    have HL := Lib.hid hL
    clear hL
    by_cases hyH : y < H
    · have hyI : (y : Int) < (H : Int) := by omega
      obtain ⟨m, rfl⟩ : ∃ m, gk = m + 1 := ⟨gk - 1, by omega⟩
      have hrun := HRUN.out
      unfold pcxRef at hrun
      rw [HROW.out] at hrun
      obtain ⟨r, hr⟩ : ∃ r, pcxGet s s.size N N a [] = r := ⟨_, rfl⟩
      have HRW := Lib.hid (fun w => refPcxRow hr hsm ha htes (by omega) w)
      rw [hr] at hrun
      cases r with
      | inl g =>
        obtain ⟨gk0, gp⟩ := g
        have hg := (pcxGet_bad _ _ _ hr).1
        simp only at hg hrun
        have hgI : ¬ (gk0 : Int) = 0 := by omega
        unfold pcxRowV at HRW
        simp only at HRW
        have HR2 := Lib.hid hrun
        clear hrun HRUN hr hg
        go_wp2_with (first
          | (go_at_call 78; refine (HRW.out _).mono ?_; rintro e w7 ⟨rfl, b7⟩; have I7 := HI.out.below b7)
          | (go_at_call 67; refine (refBadC _ _ _).mono ?_; rintro e wb ⟨rfl, bb⟩; have IB := I7.below bb; obtain ⟨x0, x1, x2, x3, x4, zx0, zx1, zx2, zx3, zx4, xl⟩ := RI.all IB.A))
        exact bodyPost_ret (v := .agg #[.int .i64 0, .int .i64 0, .slice none 0 0, .int .i64 (gk0 : Int), .int .i64 (gp : Int)]) (by simp [results, Tryz.results31, go_sem, x0, x1, x2, x3, x4]) rfl (by rw [show D = DRes.bad gk0 gp from HR2.out.symm]; exact ⟨Below.st5 IB.B (Nat.le_refl _), rfl⟩)
      | inr g =>
        obtain ⟨a', R⟩ := g
        obtain ⟨ha', hRN, hR8⟩ := pcxGet_ok _ _ _ hr ha (Nat.zero_le _) (by simp) (by simp)
        simp only at hrun
        unfold pcxRowV at HRW
        simp only at HRW
        have HPX0 : Hid (∀ x, x < W → ∀ w, Calls Tryz.prog 79 #[.string s, hdP (W : Int) (H : Int) (d : Int) (p : Int) (l : Int) 0 0, .string (strOf (pb8 R)), .int .i64 (x : Int)] w fun e w' => e = .returned (Qc.v (pcxQ s ⟨W, H, d, p, l⟩ R x)) ∧ Below w.heap.size w w') :=
          Lib.hid (fun x hx w => refPcxPixel (h := ⟨W, H, d, p, l⟩) HOK.out (by rw [HROW.out]; exact hRN) hx hR8 hsm hs HMP.out w)
        unfold hdP at HPX0
        obtain ⟨b, hb⟩ : ∃ b, strOf (pb8 R) = b := ⟨_, rfl⟩
        rw [hb] at HRW HPX0
        obtain ⟨Le, hLe⟩ : ∃ Le, pcxCols s ⟨W, H, d, p, l⟩ R W 0 L = Le := ⟨_, rfl⟩
        rw [show pcxCols s ⟨W, H, d, p, l⟩ R (⟨W, H, d, p, l⟩ : PcxHd).W 0 L = Le from hLe] at hrun
        have HR2 := Lib.hid hrun
        have HLE := Lib.hid hLe
        have hyW : W * y + W ≤ W * H := by rw [← Nat.mul_succ]; exact Nat.mul_le_mul (Nat.le_refl _) (by omega)
        clear hrun HRUN hr hb hLe hRN hR8
        go_wp2_with (go_at_call 78; refine (HRW.out _).mono ?_; rintro e w7 ⟨rfl, b7⟩; have HI7 := Lib.hid (HI.out.below b7))
        clear HI b7 h0 h1 h2 h3 h4 h5 h6
        obtain ⟨Wy, hWy⟩ : ∃ q, W * y = q := ⟨_, rfl⟩
        rw [hWy] at hyW HL
        go_loopg [12] W (fun gx v12 wx => ∃ (x : Nat) (v : Value) (L : List Qc), x + gx = W ∧ v12 = .int .i64 (x : Int) ∧ L.length = Wy + x ∧ Hid (pcxCols s ⟨W, H, d, p, l⟩ R gx x L = Le) ∧ Hid (PdI w wx ph po W H d p l v L))
        case atStart => exact ⟨0, v, L, by omega, rfl, HL.out, HLE, HI7⟩
        case round =>
          clear HI7 HLE HL
          obtain ⟨x, v, L, hx, rfl, hL, HRX, HI⟩ := hrel
          have HL := Lib.hid hL
          clear hL
          obtain ⟨h0, h1, h2, h3, h4, h5, h6⟩ := HI.out.sds
          by_cases hxW : x < W
          · have hxI : (x : Int) < (W : Int) := by omega
            obtain ⟨gx', rfl⟩ : ∃ m, gk = m + 1 := ⟨gk - 1, by omega⟩
            have HPX := Lib.hid (HPX0.out x hxW)
            have hrx := HRX.out
            unfold pcxCols at hrx
            generalize pcxQ s ⟨W, H, d, p, l⟩ R x = q at HPX hrx
            unfold Qc.v at HPX
            have HRX := Lib.hid hrx
            clear hrx
            go_upto_region 19 with fail
            clear h0 h1 h2 h3 h4 h5 h6
            refine pwp_gen (S := fun wx => PdI w wx ph po W H d p l v L) (by exact HI.out) (fun wx hX => ?_)
            have HX := Lib.hid hX.drew
            refine wp_region_held_drew (S := (PdS ph W H d p l)) (by kernel_rfl) HX.out.sds (fun hHeld => ?_)
            clear hX HI
            generalize wx.drew = wd at HX hHeld ⊢
            refine wpAnyH_take (i := 0) (v := ?_) rfl (by kernel_rfl) (by kernel_rfl) (by kernel_rfl) (fun _ _ _ h => h) (Or.inl ⟨by kernel_rfl, ?_⟩) (by assumption) ?_
            rotate_left
            · intro w hSw; obtain ⟨s0, s1, s2, s3, s4, s5, s6⟩ := hSw; go_simp; (try with_reducible rfl)
            (try simp only [Act.put, List.getElem_toArray, List.getElem_cons_succ, List.getElem_cons_zero, List.setIfInBounds_toArray, List.set_cons_zero, List.set_cons_succ])
            refine wpAnyH_take (i := 2) (v := ?_) rfl (by kernel_rfl) (by kernel_rfl) (by kernel_rfl) (fun _ _ _ h => h) (Or.inl ⟨by kernel_rfl, ?_⟩) (by assumption) ?_
            rotate_left
            · intro w hSw; obtain ⟨s0, s1, s2, s3, s4, s5, s6⟩ := hSw; go_simp; (try with_reducible rfl)
            (try simp only [Act.put, List.getElem_toArray, List.getElem_cons_succ, List.getElem_cons_zero, List.setIfInBounds_toArray, List.set_cons_zero, List.set_cons_succ])
            refine wpAnyH_take (i := 3) (v := ?_) rfl (by kernel_rfl) (by kernel_rfl) (by kernel_rfl) (fun _ _ _ h => h) (Or.inl ⟨by kernel_rfl, ?_⟩) (by assumption) ?_
            rotate_left
            · intro w hSw; obtain ⟨s0, s1, s2, s3, s4, s5, s6⟩ := hSw; go_simp; (try with_reducible rfl)
            (try simp only [Act.put, List.getElem_toArray, List.getElem_cons_succ, List.getElem_cons_zero, List.setIfInBounds_toArray, List.set_cons_zero, List.set_cons_succ])
            refine wpAnyH_take (i := 4) (v := ?_) rfl (by kernel_rfl) (by kernel_rfl) (by kernel_rfl) (fun _ _ _ h => h) (Or.inl ⟨by kernel_rfl, ?_⟩) (by assumption) ?_
            rotate_left
            · intro w hSw; obtain ⟨s0, s1, s2, s3, s4, s5, s6⟩ := hSw; go_simp; (try with_reducible rfl)
            (try simp only [Act.put, List.getElem_toArray, List.getElem_cons_succ, List.getElem_cons_zero, List.setIfInBounds_toArray, List.set_cons_zero, List.set_cons_succ])
            refine wpAnyH_take (i := 5) (v := ?_) rfl (by kernel_rfl) (by kernel_rfl) (by kernel_rfl) (fun _ _ _ h => h) (Or.inl ⟨by kernel_rfl, ?_⟩) (by assumption) ?_
            rotate_left
            · intro w hSw; obtain ⟨s0, s1, s2, s3, s4, s5, s6⟩ := hSw; go_simp; (try with_reducible rfl)
            (try simp only [Act.put, List.getElem_toArray, List.getElem_cons_succ, List.getElem_cons_zero, List.setIfInBounds_toArray, List.set_cons_zero, List.set_cons_succ])
            refine wpAnyH_ready (rs := [1, 6]) (by kernel_rfl) (by simp) ?_
            refine AllReadyH.cons rfl (fun K hK => ?_) (AllReadyH.cons rfl (fun K hK => ?_) AllReadyH.nil)
            · obtain ⟨X0, X1, X2, X3, X4, zX0, zX1, zX2, zX3, zX4, Xl⟩ := RI.all HX.out.X
              go_simp
              refine hK.out _ _ HX.out.sds (fun hHeld' => ?_)
              clear hK K hHeld
              have hHeld := hHeld'
              clear hHeld'
              (try simp only [Act.put, List.getElem_toArray, List.getElem_cons_succ, List.getElem_cons_zero, List.setIfInBounds_toArray, List.set_cons_zero, List.set_cons_succ])
              clear X0 X1 X2 X3 X4 zX0 zX1 zX2 zX3 zX4 Xl
              refine wpAnyH_ready (rs := [6]) (by kernel_rfl) (by simp) ?_
              refine AllReadyH.cons rfl (fun K hK => ?_) AllReadyH.nil
              go_simp
              refine (HPX.out _).mono ?_
              rintro e w8 ⟨rfl, b8⟩
              have I8 := HX.out.below b8
              refine hK.out _ _ I8.sds (fun hHeld' => ?_)
              clear hK K hHeld
              have hHeld := hHeld'
              clear hHeld'
              (try simp only [Act.put, List.getElem_toArray, List.getElem_cons_succ, List.getElem_cons_zero, List.setIfInBounds_toArray, List.set_cons_zero, List.set_cons_succ])
              refine wpAnyH_ready (rs := [7]) (by kernel_rfl) (by simp) ?_
              refine AllReadyH.cons rfl (fun K hK => ?_) AllReadyH.nil
              go_simp
              have I9 := I8.alloc (.cells #[.int .u8 (q.r.toNat : Int), .int .u8 (q.g.toNat : Int), .int .u8 (q.b.toNat : Int), .int .u8 (q.a.toNat : Int)] 131)
              refine hK.out _ _ I9.sds (fun hHeld' => ?_)
              clear hK K hHeld
              have hHeld := hHeld'
              clear hHeld'
              (try simp only [Act.put, List.getElem_toArray, List.getElem_cons_succ, List.getElem_cons_zero, List.setIfInBounds_toArray, List.set_cons_zero, List.set_cons_succ])
              refine wpAnyH_ready (rs := [8]) (by kernel_rfl) (by simp) ?_
              refine AllReadyH.cons rfl (fun K hK => ?_) AllReadyH.nil
              refine oper_append_cols (.tmp 74) (.tmp 80) rfl w.heap.size v L rfl I9.O w8.heap.size 1 1 [q] rfl rfl (q_new w8 q) ?_ ?_ ?_
              · rw [HL.out]; simp; omega
              · have := I9.B.size; exact this
              intro v10 w10 o10 b10 g10
              have X10 : RI w10 po (W : Int) (H : Int) v 0 0 := Blk.grownQ I9.X I9.O (by decide) g10
              have H10 := Blk.grownQ I9.Hd I9.O (by decide) g10
              have IG := PdI.grow I9 o10 b10 g10
              obtain ⟨a10, c10, hv10⟩ := o10.slice
              generalize hn10 : (L ++ [q]).length = n10 at hv10
              subst hv10
              refine hK.out _ _ ⟨Blk.cell H10 0, Blk.cell H10 1, Blk.cell H10 2, Blk.cell H10 3, Blk.cell H10 4, Blk.cell H10 5, Blk.cell H10 6⟩ (fun hHeld' => ?_)
              clear hK K hHeld
              have hHeld := hHeld'
              clear hHeld'
              (try simp only [Act.put, List.getElem_toArray, List.getElem_cons_succ, List.getElem_cons_zero, List.setIfInBounds_toArray, List.set_cons_zero, List.set_cons_succ])
              refine wpAnyH_take (i := 9) (v := ?_) rfl (by kernel_rfl) (by kernel_rfl) (by kernel_rfl) (fun _ _ _ h => h) (Or.inl ⟨by kernel_rfl, ?_⟩) (by assumption) ?_
              rotate_left
              · intro w hSw; obtain ⟨s0, s1, s2, s3, s4, s5, s6⟩ := hSw; go_simp; (try with_reducible rfl)
              (try simp only [Act.put, List.getElem_toArray, List.getElem_cons_succ, List.getElem_cons_zero, List.setIfInBounds_toArray, List.set_cons_zero, List.set_cons_succ])
              (try clear X0 X1 X2 X3 X4 zX0 zX1 zX2 zX3 zX4 Xl)
              obtain ⟨X0, X1, X2, X3, X4, zX0, zX1, zX2, zX3, zX4, Xl⟩ := RI.all X10
              refine wpAnyH_ready (rs := [10]) (by kernel_rfl) (by simp) ?_
              refine AllReadyH.cons rfl (fun K hK => ?_) AllReadyH.nil
              go_simp
              refine hK.out _ _ IG.sds (fun hHeld' => ?_)
              clear hK K hHeld
              have hHeld := hHeld'
              clear hHeld'
              (try simp only [Act.put, List.getElem_toArray, List.getElem_cons_succ, List.getElem_cons_zero, List.setIfInBounds_toArray, List.set_cons_zero, List.set_cons_succ])
              refine wpAnyH_done (by kernel_rfl) ?_ _
              (try simp only [List.getElem_toArray, List.getElem_cons_succ, List.getElem_cons_zero, List.set_cons_zero, List.set_cons_succ])
              clear hHeld I8 I9 X10 H10 o10 b10 g10 b8 X0 X1 X2 X3 X4 zX0 zX1 zX2 zX3 zX4 Xl
              change Exit.inBlock _ _ _ _ (w10.setCell ⟨po, 2, none⟩ (.slice a10 n10 c10))
              generalize w10.setCell ⟨po, 2, none⟩ (.slice a10 n10 c10) = wz at IG ⊢
              have HZ := Lib.hid IG
              clear IG hn10
              go_wp2_with fail
              go_roundg gx'
              case measure => omega
              case rel => exact ⟨x + 1, _, L ++ [q], by omega, by go_num, by rw [List.length_append, HL.out]; rfl, HRX, HZ⟩
            · go_simp
              refine (HPX.out _).mono ?_
              rintro e w8 ⟨rfl, b8⟩
              have I8 := HX.out.below b8
              refine hK.out _ _ I8.sds (fun hHeld' => ?_)
              clear hK K hHeld
              have hHeld := hHeld'
              clear hHeld'
              (try simp only [Act.put, List.getElem_toArray, List.getElem_cons_succ, List.getElem_cons_zero, List.setIfInBounds_toArray, List.set_cons_zero, List.set_cons_succ])
              refine wpAnyH_ready (rs := [1, 7]) (by kernel_rfl) (by simp) ?_
              refine AllReadyH.cons rfl (fun K hK => ?_) (AllReadyH.cons rfl (fun K hK => ?_) AllReadyH.nil)
              · obtain ⟨X0, X1, X2, X3, X4, zX0, zX1, zX2, zX3, zX4, Xl⟩ := RI.all I8.X
                go_simp
                refine hK.out _ _ I8.sds (fun hHeld' => ?_)
                clear hK K hHeld
                have hHeld := hHeld'
                clear hHeld'
                (try simp only [Act.put, List.getElem_toArray, List.getElem_cons_succ, List.getElem_cons_zero, List.setIfInBounds_toArray, List.set_cons_zero, List.set_cons_succ])
                clear X0 X1 X2 X3 X4 zX0 zX1 zX2 zX3 zX4 Xl
                refine wpAnyH_ready (rs := [7]) (by kernel_rfl) (by simp) ?_
                refine AllReadyH.cons rfl (fun K hK => ?_) AllReadyH.nil
                go_simp
                have I9 := I8.alloc (.cells #[.int .u8 (q.r.toNat : Int), .int .u8 (q.g.toNat : Int), .int .u8 (q.b.toNat : Int), .int .u8 (q.a.toNat : Int)] 131)
                refine hK.out _ _ I9.sds (fun hHeld' => ?_)
                clear hK K hHeld
                have hHeld := hHeld'
                clear hHeld'
                (try simp only [Act.put, List.getElem_toArray, List.getElem_cons_succ, List.getElem_cons_zero, List.setIfInBounds_toArray, List.set_cons_zero, List.set_cons_succ])
                refine wpAnyH_ready (rs := [8]) (by kernel_rfl) (by simp) ?_
                refine AllReadyH.cons rfl (fun K hK => ?_) AllReadyH.nil
                refine oper_append_cols (.tmp 74) (.tmp 80) rfl w.heap.size v L rfl I9.O w8.heap.size 1 1 [q] rfl rfl (q_new w8 q) ?_ ?_ ?_
                · rw [HL.out]; simp; omega
                · have := I9.B.size; exact this
                intro v10 w10 o10 b10 g10
                have X10 : RI w10 po (W : Int) (H : Int) v 0 0 := Blk.grownQ I9.X I9.O (by decide) g10
                have H10 := Blk.grownQ I9.Hd I9.O (by decide) g10
                have IG := PdI.grow I9 o10 b10 g10
                obtain ⟨a10, c10, hv10⟩ := o10.slice
                generalize hn10 : (L ++ [q]).length = n10 at hv10
                subst hv10
                refine hK.out _ _ ⟨Blk.cell H10 0, Blk.cell H10 1, Blk.cell H10 2, Blk.cell H10 3, Blk.cell H10 4, Blk.cell H10 5, Blk.cell H10 6⟩ (fun hHeld' => ?_)
                clear hK K hHeld
                have hHeld := hHeld'
                clear hHeld'
                (try simp only [Act.put, List.getElem_toArray, List.getElem_cons_succ, List.getElem_cons_zero, List.setIfInBounds_toArray, List.set_cons_zero, List.set_cons_succ])
                refine wpAnyH_take (i := 9) (v := ?_) rfl (by kernel_rfl) (by kernel_rfl) (by kernel_rfl) (fun _ _ _ h => h) (Or.inl ⟨by kernel_rfl, ?_⟩) (by assumption) ?_
                rotate_left
                · intro w hSw; obtain ⟨s0, s1, s2, s3, s4, s5, s6⟩ := hSw; go_simp; (try with_reducible rfl)
                (try simp only [Act.put, List.getElem_toArray, List.getElem_cons_succ, List.getElem_cons_zero, List.setIfInBounds_toArray, List.set_cons_zero, List.set_cons_succ])
                (try clear X0 X1 X2 X3 X4 zX0 zX1 zX2 zX3 zX4 Xl)
                obtain ⟨X0, X1, X2, X3, X4, zX0, zX1, zX2, zX3, zX4, Xl⟩ := RI.all X10
                refine wpAnyH_ready (rs := [10]) (by kernel_rfl) (by simp) ?_
                refine AllReadyH.cons rfl (fun K hK => ?_) AllReadyH.nil
                go_simp
                refine hK.out _ _ IG.sds (fun hHeld' => ?_)
                clear hK K hHeld
                have hHeld := hHeld'
                clear hHeld'
                (try simp only [Act.put, List.getElem_toArray, List.getElem_cons_succ, List.getElem_cons_zero, List.setIfInBounds_toArray, List.set_cons_zero, List.set_cons_succ])
                refine wpAnyH_done (by kernel_rfl) ?_ _
                (try simp only [List.getElem_toArray, List.getElem_cons_succ, List.getElem_cons_zero, List.set_cons_zero, List.set_cons_succ])
                clear hHeld I8 I9 X10 H10 o10 b10 g10 b8 X0 X1 X2 X3 X4 zX0 zX1 zX2 zX3 zX4 Xl
                change Exit.inBlock _ _ _ _ (w10.setCell ⟨po, 2, none⟩ (.slice a10 n10 c10))
                generalize w10.setCell ⟨po, 2, none⟩ (.slice a10 n10 c10) = wz at IG ⊢
                have HZ := Lib.hid IG
                clear IG hn10
                go_wp2_with fail
                go_roundg gx'
                case measure => omega
                case rel => exact ⟨x + 1, _, L ++ [q], by omega, by go_num, by rw [List.length_append, HL.out]; rfl, HRX, HZ⟩
              · go_simp
                have I9 := I8.alloc (.cells #[.int .u8 (q.r.toNat : Int), .int .u8 (q.g.toNat : Int), .int .u8 (q.b.toNat : Int), .int .u8 (q.a.toNat : Int)] 131)
                refine hK.out _ _ I9.sds (fun hHeld' => ?_)
                clear hK K hHeld
                have hHeld := hHeld'
                clear hHeld'
                (try simp only [Act.put, List.getElem_toArray, List.getElem_cons_succ, List.getElem_cons_zero, List.setIfInBounds_toArray, List.set_cons_zero, List.set_cons_succ])
                refine wpAnyH_ready (rs := [1]) (by kernel_rfl) (by simp) ?_
                refine AllReadyH.cons rfl (fun K hK => ?_) AllReadyH.nil
                obtain ⟨X0, X1, X2, X3, X4, zX0, zX1, zX2, zX3, zX4, Xl⟩ := RI.all I9.X
                go_simp
                refine hK.out _ _ I9.sds (fun hHeld' => ?_)
                clear hK K hHeld
                have hHeld := hHeld'
                clear hHeld'
                (try simp only [Act.put, List.getElem_toArray, List.getElem_cons_succ, List.getElem_cons_zero, List.setIfInBounds_toArray, List.set_cons_zero, List.set_cons_succ])
                clear X0 X1 X2 X3 X4 zX0 zX1 zX2 zX3 zX4 Xl
                refine wpAnyH_ready (rs := [8]) (by kernel_rfl) (by simp) ?_
                refine AllReadyH.cons rfl (fun K hK => ?_) AllReadyH.nil
                refine oper_append_cols (.tmp 74) (.tmp 80) rfl w.heap.size v L rfl I9.O w8.heap.size 1 1 [q] rfl rfl (q_new w8 q) ?_ ?_ ?_
                · rw [HL.out]; simp; omega
                · have := I9.B.size; exact this
                intro v10 w10 o10 b10 g10
                have X10 : RI w10 po (W : Int) (H : Int) v 0 0 := Blk.grownQ I9.X I9.O (by decide) g10
                have H10 := Blk.grownQ I9.Hd I9.O (by decide) g10
                have IG := PdI.grow I9 o10 b10 g10
                obtain ⟨a10, c10, hv10⟩ := o10.slice
                generalize hn10 : (L ++ [q]).length = n10 at hv10
                subst hv10
                refine hK.out _ _ ⟨Blk.cell H10 0, Blk.cell H10 1, Blk.cell H10 2, Blk.cell H10 3, Blk.cell H10 4, Blk.cell H10 5, Blk.cell H10 6⟩ (fun hHeld' => ?_)
                clear hK K hHeld
                have hHeld := hHeld'
                clear hHeld'
                (try simp only [Act.put, List.getElem_toArray, List.getElem_cons_succ, List.getElem_cons_zero, List.setIfInBounds_toArray, List.set_cons_zero, List.set_cons_succ])
                refine wpAnyH_take (i := 9) (v := ?_) rfl (by kernel_rfl) (by kernel_rfl) (by kernel_rfl) (fun _ _ _ h => h) (Or.inl ⟨by kernel_rfl, ?_⟩) (by assumption) ?_
                rotate_left
                · intro w hSw; obtain ⟨s0, s1, s2, s3, s4, s5, s6⟩ := hSw; go_simp; (try with_reducible rfl)
                (try simp only [Act.put, List.getElem_toArray, List.getElem_cons_succ, List.getElem_cons_zero, List.setIfInBounds_toArray, List.set_cons_zero, List.set_cons_succ])
                (try clear X0 X1 X2 X3 X4 zX0 zX1 zX2 zX3 zX4 Xl)
                obtain ⟨X0, X1, X2, X3, X4, zX0, zX1, zX2, zX3, zX4, Xl⟩ := RI.all X10
                refine wpAnyH_ready (rs := [10]) (by kernel_rfl) (by simp) ?_
                refine AllReadyH.cons rfl (fun K hK => ?_) AllReadyH.nil
                go_simp
                refine hK.out _ _ IG.sds (fun hHeld' => ?_)
                clear hK K hHeld
                have hHeld := hHeld'
                clear hHeld'
                (try simp only [Act.put, List.getElem_toArray, List.getElem_cons_succ, List.getElem_cons_zero, List.setIfInBounds_toArray, List.set_cons_zero, List.set_cons_succ])
                refine wpAnyH_done (by kernel_rfl) ?_ _
                (try simp only [List.getElem_toArray, List.getElem_cons_succ, List.getElem_cons_zero, List.set_cons_zero, List.set_cons_succ])
                clear hHeld I8 I9 X10 H10 o10 b10 g10 b8 X0 X1 X2 X3 X4 zX0 zX1 zX2 zX3 zX4 Xl
                change Exit.inBlock _ _ _ _ (w10.setCell ⟨po, 2, none⟩ (.slice a10 n10 c10))
                generalize w10.setCell ⟨po, 2, none⟩ (.slice a10 n10 c10) = wz at IG ⊢
                have HZ := Lib.hid IG
                clear IG hn10
                go_wp2_with fail
                go_roundg gx'
                case measure => omega
                case rel => exact ⟨x + 1, _, L ++ [q], by omega, by go_num, by rw [List.length_append, HL.out]; rfl, HRX, HZ⟩
          · obtain rfl : x = W := by omega
            obtain rfl : gk = 0 := by omega
            have hxI : ¬ (x : Int) < (x : Int) := by omega
            have hLe : L = Le := HRX.out
            have HE : Hid (L = Le) := Lib.hid hLe
            have hWy1 : Wy + x = x * (y + 1) := by rw [Nat.mul_succ, hWy]
            have HWY := Lib.hid hWy1
            clear hLe hWy hWy1
            go_wp2_with fail
            go_roundg m
            case measure => omega
            case rel => exact ⟨y + 1, a', v, L, by omega, rfl, by go_num, ha', by rw [HL.out, HWY.out], Lib.hid (by rw [HE.out]; exact HR2.out), HI⟩
    · obtain rfl : y = H := by omega
      obtain rfl : gk = 0 := by omega
      have hyI : ¬ (y : Int) < (y : Int) := by omega
      have hrun := HRUN.out
      unfold pcxRef at hrun
      have HR2 := Lib.hid hrun
      obtain ⟨va, vc, hv⟩ := HI.out.O.slice
      generalize L.length = ll at hv
      subst hv
      obtain ⟨x0, x1, x2, x3, x4, zx0, zx1, zx2, zx3, zx4, xl⟩ := RI.all HI.out.A
      obtain ⟨X0, X1, X2, X3, X4, zX0, zX1, zX2, zX3, zX4, Xl⟩ := RI.all HI.out.X
      clear hrun HRUN
      go_wp2_with fail
      exact bodyPost_ret (v := .agg #[.int .i64 (W : Int), .int .i64 (y : Int), .slice va ll vc, .int .i64 0, .int .i64 0]) (by simp [results, Tryz.results31, go_sem, x0, x1, x2, x3, x4]) rfl (by rw [show D = DRes.img W y (flat L) from HR2.out.symm]; exact ⟨HI.out.outs.1, _, L, rfl, HI.out.outs.2, rfl, by rw [HL.out]⟩)
set_option maxRecDepth 100000 in
set_option maxHeartbeats 8000000 in
theorem refPcxDecO {s : ByteArray} {W H d p l te : Nat} {D : DRes} (hsm : s.size ≤ 1099511627776) (hs : 128 ≤ s.size) (ok : (⟨W, H, d, p, l⟩ : PcxHd).Ok) (hd : d ≠ 8) (hte : te = s.size) (ht8 : 128 ≤ te) (hmp : (⟨W, H, d, p, l⟩ : PcxHd).Map → 897 ≤ s.size)
    (hR : pcxRdV s = hdP (W : Int) (H : Int) (d : Int) (p : Int) (l : Int) 0 0) (hD : pcxRef s ⟨W, H, d, p, l⟩ te H 128 [] = D) (w : World) : Calls Tryz.prog 31 #[.string s] w fun e w' => RefPost D w w' e := by
  obtain ⟨F0, B0⟩ := ri_new w
  have HR := Lib.hid (fun w => refPcxReadC hsm w)
  rw [hR] at HR
  unfold hdP at HR
  have HOK := Lib.hid ok
  have HMP := Lib.hid hmp
  have hW1 : 1 ≤ W := ok.w1
  have hW2 : W ≤ 16384 := ok.w2
  have hH1 : 1 ≤ H := ok.h1
  have hH2 : H ≤ 16384 := ok.h2
  have hl2 : l ≤ 65535 := by have a := ok.l2; have b := ok.pr; unfold PcxPair at b; simp only at a b; rcases b with ⟨rfl, _⟩ | ⟨rfl, _⟩ <;> omega
  have hp2 : p ≤ 4 := by have b := ok.pr; unfold PcxPair at b; simp only at b; omega
  have htes : te ≤ s.size := by omega
  obtain ⟨N, hN⟩ : ∃ N, p * l = N := ⟨_, rfl⟩
  have hNB : N ≤ 4 * 65535 := by rw [← hN]; exact Nat.mul_le_mul hp2 hl2
  have hNI : IntKind.i64.wrap ((p : Int) * (l : Int)) = (N : Int) := by rw [← Int.natCast_mul, hN]; exact IntWalk.i64_in _ (by omega)
  have HROW : Hid ((⟨W, H, d, p, l⟩ : PcxHd).row = N) := Lib.hid hN
  have hPB : W * H ≤ 16384 * 16384 := Nat.mul_le_mul hW2 hH2
  have hd8 : ((d : Int) == 8) = false := by rw [beq_eq_false_iff_ne]; omega
  clear hd
  have HD := Lib.hid hD
  have HTE := Lib.hid hte
  have hsB : (s.size : Int) ≤ 1099511627776 := by omega
  have F1 := Lib.hid F0
  have B1' := Lib.hid B0
  clear hR hD hN ok hmp hte F0 B0
  go_enter Tryz.func31, Tryz.ntmps31
  go_upto_region 7 with (first
    | (go_at_call 75; refine (HR.out _).mono ?_; rintro e w1 ⟨rfl, b1⟩; have A1 : RI (w1.alloc (.cells #[.int .i64 (W : Int), .int .i64 (H : Int), .int .i64 (d : Int), .int .i64 (p : Int), .int .i64 (l : Int), .int .i64 0, .int .i64 0] 141)) w.heap.size 0 0 (.slice none 0 0) 0 0 := Blk.alloc (Blk.below F1.out b1 (Blk.lt F1.out)) _; have H1 : Blk (w1.alloc (.cells #[.int .i64 (W : Int), .int .i64 (H : Int), .int .i64 (d : Int), .int .i64 (p : Int), .int .i64 (l : Int), .int .i64 0, .int .i64 0] 141)) w1.heap.size 141 #[.int .i64 (W : Int), .int .i64 (H : Int), .int .i64 (d : Int), .int .i64 (p : Int), .int .i64 (l : Int), .int .i64 0, .int .i64 0] := Blk.new _ _ _; have B1 : Below w.heap.size w (w1.alloc (.cells #[.int .i64 (W : Int), .int .i64 (H : Int), .int .i64 (d : Int), .int .i64 (p : Int), .int .i64 (l : Int), .int .i64 0, .int .i64 0] 141)) := (below_next B1'.out b1).alloc (below_next B1'.out b1).size _; have n1 : w.heap.size < (w1.alloc (.cells #[.int .i64 (W : Int), .int .i64 (H : Int), .int .i64 (d : Int), .int .i64 (p : Int), .int .i64 (l : Int), .int .i64 0, .int .i64 0] 141)).heap.size := (by have := (below_next B1'.out b1).size; simp; omega); have q0 : (w1.alloc (.cells #[.int .i64 (W : Int), .int .i64 (H : Int), .int .i64 (d : Int), .int .i64 (p : Int), .int .i64 (l : Int), .int .i64 0, .int .i64 0] 141)).cell? ⟨w1.heap.size, 0, none⟩ = some (.int .i64 (W : Int)) := Blk.cell H1 0; have q1 : (w1.alloc (.cells #[.int .i64 (W : Int), .int .i64 (H : Int), .int .i64 (d : Int), .int .i64 (p : Int), .int .i64 (l : Int), .int .i64 0, .int .i64 0] 141)).cell? ⟨w1.heap.size, 1, none⟩ = some (.int .i64 (H : Int)) := Blk.cell H1 1))
  generalize w1.alloc (.cells #[.int .i64 (W : Int), .int .i64 (H : Int), .int .i64 (d : Int), .int .i64 (p : Int), .int .i64 (l : Int), .int .i64 0, .int .i64 0] 141) = w4 at A1 H1 B1 n1 q0 q1 ⊢
  generalize w1.heap.size = ph at H1 q0 q1 ⊢
  go_upto_region 8 with fail
  have I0 : PdI w (w4.alloc (.cells #[.int .i64 (W : Int), .int .i64 (H : Int), .slice none 0 0, .int .i64 0, .int .i64 0] 42)) ph w4.heap.size W H d p l (.slice none 0 0) [] :=
    ⟨Blk.alloc A1 _, Blk.alloc H1 _, Blk.new _ _ _, World.ownsRow_nil _ _ _ _, B1.alloc B1.size _, n1⟩
  generalize w4.alloc (.cells #[.int .i64 (W : Int), .int .i64 (H : Int), .slice none 0 0, .int .i64 0, .int .i64 0] 42) = w5 at I0 ⊢
  generalize w4.heap.size = po at I0 ⊢
  have HI0 := Lib.hid I0
  clear I0 q0 q1 A1 H1 B1 n1 b1 HR F1 B1'
  obtain rfl : te = s.size := HTE.out
  go_wp2_with fail
  go_loopg [6, 7, 8, 9, 10, 11, 12] H (fun gh v6 v7 v8 v9 v10 v11 v12 wr => ∃ (y a : Nat) (v : Value) (L : List Qc), y + gh = H ∧ v6 = .int .i64 (a : Int) ∧ v7 = .int .i64 (y : Int) ∧ a ≤ s.size ∧ L.length = W * y ∧ Hid (pcxRef s ⟨W, H, d, p, l⟩ s.size gh a L = D) ∧ Hid (PdI w wr ph po W H d p l v L))
  case atStart => exact ⟨0, 128, _, [], by omega, rfl, rfl, ht8, rfl, HD, HI0⟩
  case round =>
    obtain ⟨y, a, v, L, hy, rfl, rfl, ha, hL, HRUN, HI⟩ := hrel
    clear HI0 HD
    obtain ⟨h0, h1, h2, h3, h4, h5, h6⟩ := HI.out.sds
    have HL := Lib.hid hL
    clear hL
    by_cases hyH : y < H
    · have hyI : (y : Int) < (H : Int) := by omega
      obtain ⟨m, rfl⟩ : ∃ m, gk = m + 1 := ⟨gk - 1, by omega⟩
      have hrun := HRUN.out
      unfold pcxRef at hrun
      rw [HROW.out] at hrun
      obtain ⟨r, hr⟩ : ∃ r, pcxGet s s.size N N a [] = r := ⟨_, rfl⟩
      have HRW := Lib.hid (fun w => refPcxRow hr hsm ha htes (by omega) w)
      rw [hr] at hrun
      cases r with
      | inl g =>
        obtain ⟨gk0, gp⟩ := g
        have hg := (pcxGet_bad _ _ _ hr).1
        simp only at hg hrun
        have hgI : ¬ (gk0 : Int) = 0 := by omega
        unfold pcxRowV at HRW
        simp only at HRW
        have HR2 := Lib.hid hrun
        clear hrun HRUN hr hg
        go_wp2_with (first
          | (go_at_call 78; refine (HRW.out _).mono ?_; rintro e w7 ⟨rfl, b7⟩; have I7 := HI.out.below b7)
          | (go_at_call 67; refine (refBadC _ _ _).mono ?_; rintro e wb ⟨rfl, bb⟩; have IB := I7.below bb; obtain ⟨x0, x1, x2, x3, x4, zx0, zx1, zx2, zx3, zx4, xl⟩ := RI.all IB.A))
        exact bodyPost_ret (v := .agg #[.int .i64 0, .int .i64 0, .slice none 0 0, .int .i64 (gk0 : Int), .int .i64 (gp : Int)]) (by simp [results, Tryz.results31, go_sem, x0, x1, x2, x3, x4]) rfl (by rw [show D = DRes.bad gk0 gp from HR2.out.symm]; exact ⟨Below.st5 IB.B (Nat.le_refl _), rfl⟩)
      | inr g =>
        obtain ⟨a', R⟩ := g
        obtain ⟨ha', hRN, hR8⟩ := pcxGet_ok _ _ _ hr ha (Nat.zero_le _) (by simp) (by simp)
        simp only at hrun
        unfold pcxRowV at HRW
        simp only at HRW
        have HPX0 : Hid (∀ x, x < W → ∀ w, Calls Tryz.prog 79 #[.string s, hdP (W : Int) (H : Int) (d : Int) (p : Int) (l : Int) 0 0, .string (strOf (pb8 R)), .int .i64 (x : Int)] w fun e w' => e = .returned (Qc.v (pcxQ s ⟨W, H, d, p, l⟩ R x)) ∧ Below w.heap.size w w') :=
          Lib.hid (fun x hx w => refPcxPixel (h := ⟨W, H, d, p, l⟩) HOK.out (by rw [HROW.out]; exact hRN) hx hR8 hsm hs HMP.out w)
        unfold hdP at HPX0
        obtain ⟨b, hb⟩ : ∃ b, strOf (pb8 R) = b := ⟨_, rfl⟩
        rw [hb] at HRW HPX0
        obtain ⟨Le, hLe⟩ : ∃ Le, pcxCols s ⟨W, H, d, p, l⟩ R W 0 L = Le := ⟨_, rfl⟩
        rw [show pcxCols s ⟨W, H, d, p, l⟩ R (⟨W, H, d, p, l⟩ : PcxHd).W 0 L = Le from hLe] at hrun
        have HR2 := Lib.hid hrun
        have HLE := Lib.hid hLe
        have hyW : W * y + W ≤ W * H := by rw [← Nat.mul_succ]; exact Nat.mul_le_mul (Nat.le_refl _) (by omega)
        clear hrun HRUN hr hb hLe hRN hR8
        go_wp2_with (go_at_call 78; refine (HRW.out _).mono ?_; rintro e w7 ⟨rfl, b7⟩; have HI7 := Lib.hid (HI.out.below b7))
        clear HI b7 h0 h1 h2 h3 h4 h5 h6
        obtain ⟨Wy, hWy⟩ : ∃ q, W * y = q := ⟨_, rfl⟩
        rw [hWy] at hyW HL
        go_loopg [12] W (fun gx v12 wx => ∃ (x : Nat) (v : Value) (L : List Qc), x + gx = W ∧ v12 = .int .i64 (x : Int) ∧ L.length = Wy + x ∧ Hid (pcxCols s ⟨W, H, d, p, l⟩ R gx x L = Le) ∧ Hid (PdI w wx ph po W H d p l v L))
        case atStart => exact ⟨0, v, L, by omega, rfl, HL.out, HLE, HI7⟩
        case round =>
          clear HI7 HLE HL
          obtain ⟨x, v, L, hx, rfl, hL, HRX, HI⟩ := hrel
          have HL := Lib.hid hL
          clear hL
          obtain ⟨h0, h1, h2, h3, h4, h5, h6⟩ := HI.out.sds
          by_cases hxW : x < W
          · have hxI : (x : Int) < (W : Int) := by omega
            obtain ⟨gx', rfl⟩ : ∃ m, gk = m + 1 := ⟨gk - 1, by omega⟩
            have HPX := Lib.hid (HPX0.out x hxW)
            have hrx := HRX.out
            unfold pcxCols at hrx
            generalize pcxQ s ⟨W, H, d, p, l⟩ R x = q at HPX hrx
            unfold Qc.v at HPX
            have HRX := Lib.hid hrx
            clear hrx
            go_upto_region 19 with fail
            clear h0 h1 h2 h3 h4 h5 h6
            refine pwp_gen (S := fun wx => PdI w wx ph po W H d p l v L) (by exact HI.out) (fun wx hX => ?_)
            have HX := Lib.hid hX.drew
            refine wp_region_held_drew (S := (PdS ph W H d p l)) (by kernel_rfl) HX.out.sds (fun hHeld => ?_)
            clear hX HI
            generalize wx.drew = wd at HX hHeld ⊢
            refine wpAnyH_take (i := 0) (v := ?_) rfl (by kernel_rfl) (by kernel_rfl) (by kernel_rfl) (fun _ _ _ h => h) (Or.inl ⟨by kernel_rfl, ?_⟩) (by assumption) ?_
            rotate_left
            · intro w hSw; obtain ⟨s0, s1, s2, s3, s4, s5, s6⟩ := hSw; go_simp; (try with_reducible rfl)
            (try simp only [Act.put, List.getElem_toArray, List.getElem_cons_succ, List.getElem_cons_zero, List.setIfInBounds_toArray, List.set_cons_zero, List.set_cons_succ])
            refine wpAnyH_take (i := 2) (v := ?_) rfl (by kernel_rfl) (by kernel_rfl) (by kernel_rfl) (fun _ _ _ h => h) (Or.inl ⟨by kernel_rfl, ?_⟩) (by assumption) ?_
            rotate_left
            · intro w hSw; obtain ⟨s0, s1, s2, s3, s4, s5, s6⟩ := hSw; go_simp; (try with_reducible rfl)
            (try simp only [Act.put, List.getElem_toArray, List.getElem_cons_succ, List.getElem_cons_zero, List.setIfInBounds_toArray, List.set_cons_zero, List.set_cons_succ])
            refine wpAnyH_take (i := 3) (v := ?_) rfl (by kernel_rfl) (by kernel_rfl) (by kernel_rfl) (fun _ _ _ h => h) (Or.inl ⟨by kernel_rfl, ?_⟩) (by assumption) ?_
            rotate_left
            · intro w hSw; obtain ⟨s0, s1, s2, s3, s4, s5, s6⟩ := hSw; go_simp; (try with_reducible rfl)
            (try simp only [Act.put, List.getElem_toArray, List.getElem_cons_succ, List.getElem_cons_zero, List.setIfInBounds_toArray, List.set_cons_zero, List.set_cons_succ])
            refine wpAnyH_take (i := 4) (v := ?_) rfl (by kernel_rfl) (by kernel_rfl) (by kernel_rfl) (fun _ _ _ h => h) (Or.inl ⟨by kernel_rfl, ?_⟩) (by assumption) ?_
            rotate_left
            · intro w hSw; obtain ⟨s0, s1, s2, s3, s4, s5, s6⟩ := hSw; go_simp; (try with_reducible rfl)
            (try simp only [Act.put, List.getElem_toArray, List.getElem_cons_succ, List.getElem_cons_zero, List.setIfInBounds_toArray, List.set_cons_zero, List.set_cons_succ])
            refine wpAnyH_take (i := 5) (v := ?_) rfl (by kernel_rfl) (by kernel_rfl) (by kernel_rfl) (fun _ _ _ h => h) (Or.inl ⟨by kernel_rfl, ?_⟩) (by assumption) ?_
            rotate_left
            · intro w hSw; obtain ⟨s0, s1, s2, s3, s4, s5, s6⟩ := hSw; go_simp; (try with_reducible rfl)
            (try simp only [Act.put, List.getElem_toArray, List.getElem_cons_succ, List.getElem_cons_zero, List.setIfInBounds_toArray, List.set_cons_zero, List.set_cons_succ])
            refine wpAnyH_ready (rs := [1, 6]) (by kernel_rfl) (by simp) ?_
            refine AllReadyH.cons rfl (fun K hK => ?_) (AllReadyH.cons rfl (fun K hK => ?_) AllReadyH.nil)
            · obtain ⟨X0, X1, X2, X3, X4, zX0, zX1, zX2, zX3, zX4, Xl⟩ := RI.all HX.out.X
              go_simp
              refine hK.out _ _ HX.out.sds (fun hHeld' => ?_)
              clear hK K hHeld
              have hHeld := hHeld'
              clear hHeld'
              (try simp only [Act.put, List.getElem_toArray, List.getElem_cons_succ, List.getElem_cons_zero, List.setIfInBounds_toArray, List.set_cons_zero, List.set_cons_succ])
              clear X0 X1 X2 X3 X4 zX0 zX1 zX2 zX3 zX4 Xl
              refine wpAnyH_ready (rs := [6]) (by kernel_rfl) (by simp) ?_
              refine AllReadyH.cons rfl (fun K hK => ?_) AllReadyH.nil
              go_simp
              refine (HPX.out _).mono ?_
              rintro e w8 ⟨rfl, b8⟩
              have I8 := HX.out.below b8
              refine hK.out _ _ I8.sds (fun hHeld' => ?_)
              clear hK K hHeld
              have hHeld := hHeld'
              clear hHeld'
              (try simp only [Act.put, List.getElem_toArray, List.getElem_cons_succ, List.getElem_cons_zero, List.setIfInBounds_toArray, List.set_cons_zero, List.set_cons_succ])
              refine wpAnyH_ready (rs := [7]) (by kernel_rfl) (by simp) ?_
              refine AllReadyH.cons rfl (fun K hK => ?_) AllReadyH.nil
              go_simp
              have I9 := I8.alloc (.cells #[.int .u8 (q.r.toNat : Int), .int .u8 (q.g.toNat : Int), .int .u8 (q.b.toNat : Int), .int .u8 (q.a.toNat : Int)] 131)
              refine hK.out _ _ I9.sds (fun hHeld' => ?_)
              clear hK K hHeld
              have hHeld := hHeld'
              clear hHeld'
              (try simp only [Act.put, List.getElem_toArray, List.getElem_cons_succ, List.getElem_cons_zero, List.setIfInBounds_toArray, List.set_cons_zero, List.set_cons_succ])
              refine wpAnyH_ready (rs := [8]) (by kernel_rfl) (by simp) ?_
              refine AllReadyH.cons rfl (fun K hK => ?_) AllReadyH.nil
              refine oper_append_cols (.tmp 74) (.tmp 80) rfl w.heap.size v L rfl I9.O w8.heap.size 1 1 [q] rfl rfl (q_new w8 q) ?_ ?_ ?_
              · rw [HL.out]; simp; omega
              · have := I9.B.size; exact this
              intro v10 w10 o10 b10 g10
              have X10 : RI w10 po (W : Int) (H : Int) v 0 0 := Blk.grownQ I9.X I9.O (by decide) g10
              have H10 := Blk.grownQ I9.Hd I9.O (by decide) g10
              have IG := PdI.grow I9 o10 b10 g10
              obtain ⟨a10, c10, hv10⟩ := o10.slice
              generalize hn10 : (L ++ [q]).length = n10 at hv10
              subst hv10
              refine hK.out _ _ ⟨Blk.cell H10 0, Blk.cell H10 1, Blk.cell H10 2, Blk.cell H10 3, Blk.cell H10 4, Blk.cell H10 5, Blk.cell H10 6⟩ (fun hHeld' => ?_)
              clear hK K hHeld
              have hHeld := hHeld'
              clear hHeld'
              (try simp only [Act.put, List.getElem_toArray, List.getElem_cons_succ, List.getElem_cons_zero, List.setIfInBounds_toArray, List.set_cons_zero, List.set_cons_succ])
              refine wpAnyH_take (i := 9) (v := ?_) rfl (by kernel_rfl) (by kernel_rfl) (by kernel_rfl) (fun _ _ _ h => h) (Or.inl ⟨by kernel_rfl, ?_⟩) (by assumption) ?_
              rotate_left
              · intro w hSw; obtain ⟨s0, s1, s2, s3, s4, s5, s6⟩ := hSw; go_simp; (try with_reducible rfl)
              (try simp only [Act.put, List.getElem_toArray, List.getElem_cons_succ, List.getElem_cons_zero, List.setIfInBounds_toArray, List.set_cons_zero, List.set_cons_succ])
              (try clear X0 X1 X2 X3 X4 zX0 zX1 zX2 zX3 zX4 Xl)
              obtain ⟨X0, X1, X2, X3, X4, zX0, zX1, zX2, zX3, zX4, Xl⟩ := RI.all X10
              refine wpAnyH_ready (rs := [10]) (by kernel_rfl) (by simp) ?_
              refine AllReadyH.cons rfl (fun K hK => ?_) AllReadyH.nil
              go_simp
              refine hK.out _ _ IG.sds (fun hHeld' => ?_)
              clear hK K hHeld
              have hHeld := hHeld'
              clear hHeld'
              (try simp only [Act.put, List.getElem_toArray, List.getElem_cons_succ, List.getElem_cons_zero, List.setIfInBounds_toArray, List.set_cons_zero, List.set_cons_succ])
              refine wpAnyH_done (by kernel_rfl) ?_ _
              (try simp only [List.getElem_toArray, List.getElem_cons_succ, List.getElem_cons_zero, List.set_cons_zero, List.set_cons_succ])
              clear hHeld I8 I9 X10 H10 o10 b10 g10 b8 X0 X1 X2 X3 X4 zX0 zX1 zX2 zX3 zX4 Xl
              change Exit.inBlock _ _ _ _ (w10.setCell ⟨po, 2, none⟩ (.slice a10 n10 c10))
              generalize w10.setCell ⟨po, 2, none⟩ (.slice a10 n10 c10) = wz at IG ⊢
              have HZ := Lib.hid IG
              clear IG hn10
              go_wp2_with fail
              go_roundg gx'
              case measure => omega
              case rel => exact ⟨x + 1, _, L ++ [q], by omega, by go_num, by rw [List.length_append, HL.out]; rfl, HRX, HZ⟩
            · go_simp
              refine (HPX.out _).mono ?_
              rintro e w8 ⟨rfl, b8⟩
              have I8 := HX.out.below b8
              refine hK.out _ _ I8.sds (fun hHeld' => ?_)
              clear hK K hHeld
              have hHeld := hHeld'
              clear hHeld'
              (try simp only [Act.put, List.getElem_toArray, List.getElem_cons_succ, List.getElem_cons_zero, List.setIfInBounds_toArray, List.set_cons_zero, List.set_cons_succ])
              refine wpAnyH_ready (rs := [1, 7]) (by kernel_rfl) (by simp) ?_
              refine AllReadyH.cons rfl (fun K hK => ?_) (AllReadyH.cons rfl (fun K hK => ?_) AllReadyH.nil)
              · obtain ⟨X0, X1, X2, X3, X4, zX0, zX1, zX2, zX3, zX4, Xl⟩ := RI.all I8.X
                go_simp
                refine hK.out _ _ I8.sds (fun hHeld' => ?_)
                clear hK K hHeld
                have hHeld := hHeld'
                clear hHeld'
                (try simp only [Act.put, List.getElem_toArray, List.getElem_cons_succ, List.getElem_cons_zero, List.setIfInBounds_toArray, List.set_cons_zero, List.set_cons_succ])
                clear X0 X1 X2 X3 X4 zX0 zX1 zX2 zX3 zX4 Xl
                refine wpAnyH_ready (rs := [7]) (by kernel_rfl) (by simp) ?_
                refine AllReadyH.cons rfl (fun K hK => ?_) AllReadyH.nil
                go_simp
                have I9 := I8.alloc (.cells #[.int .u8 (q.r.toNat : Int), .int .u8 (q.g.toNat : Int), .int .u8 (q.b.toNat : Int), .int .u8 (q.a.toNat : Int)] 131)
                refine hK.out _ _ I9.sds (fun hHeld' => ?_)
                clear hK K hHeld
                have hHeld := hHeld'
                clear hHeld'
                (try simp only [Act.put, List.getElem_toArray, List.getElem_cons_succ, List.getElem_cons_zero, List.setIfInBounds_toArray, List.set_cons_zero, List.set_cons_succ])
                refine wpAnyH_ready (rs := [8]) (by kernel_rfl) (by simp) ?_
                refine AllReadyH.cons rfl (fun K hK => ?_) AllReadyH.nil
                refine oper_append_cols (.tmp 74) (.tmp 80) rfl w.heap.size v L rfl I9.O w8.heap.size 1 1 [q] rfl rfl (q_new w8 q) ?_ ?_ ?_
                · rw [HL.out]; simp; omega
                · have := I9.B.size; exact this
                intro v10 w10 o10 b10 g10
                have X10 : RI w10 po (W : Int) (H : Int) v 0 0 := Blk.grownQ I9.X I9.O (by decide) g10
                have H10 := Blk.grownQ I9.Hd I9.O (by decide) g10
                have IG := PdI.grow I9 o10 b10 g10
                obtain ⟨a10, c10, hv10⟩ := o10.slice
                generalize hn10 : (L ++ [q]).length = n10 at hv10
                subst hv10
                refine hK.out _ _ ⟨Blk.cell H10 0, Blk.cell H10 1, Blk.cell H10 2, Blk.cell H10 3, Blk.cell H10 4, Blk.cell H10 5, Blk.cell H10 6⟩ (fun hHeld' => ?_)
                clear hK K hHeld
                have hHeld := hHeld'
                clear hHeld'
                (try simp only [Act.put, List.getElem_toArray, List.getElem_cons_succ, List.getElem_cons_zero, List.setIfInBounds_toArray, List.set_cons_zero, List.set_cons_succ])
                refine wpAnyH_take (i := 9) (v := ?_) rfl (by kernel_rfl) (by kernel_rfl) (by kernel_rfl) (fun _ _ _ h => h) (Or.inl ⟨by kernel_rfl, ?_⟩) (by assumption) ?_
                rotate_left
                · intro w hSw; obtain ⟨s0, s1, s2, s3, s4, s5, s6⟩ := hSw; go_simp; (try with_reducible rfl)
                (try simp only [Act.put, List.getElem_toArray, List.getElem_cons_succ, List.getElem_cons_zero, List.setIfInBounds_toArray, List.set_cons_zero, List.set_cons_succ])
                (try clear X0 X1 X2 X3 X4 zX0 zX1 zX2 zX3 zX4 Xl)
                obtain ⟨X0, X1, X2, X3, X4, zX0, zX1, zX2, zX3, zX4, Xl⟩ := RI.all X10
                refine wpAnyH_ready (rs := [10]) (by kernel_rfl) (by simp) ?_
                refine AllReadyH.cons rfl (fun K hK => ?_) AllReadyH.nil
                go_simp
                refine hK.out _ _ IG.sds (fun hHeld' => ?_)
                clear hK K hHeld
                have hHeld := hHeld'
                clear hHeld'
                (try simp only [Act.put, List.getElem_toArray, List.getElem_cons_succ, List.getElem_cons_zero, List.setIfInBounds_toArray, List.set_cons_zero, List.set_cons_succ])
                refine wpAnyH_done (by kernel_rfl) ?_ _
                (try simp only [List.getElem_toArray, List.getElem_cons_succ, List.getElem_cons_zero, List.set_cons_zero, List.set_cons_succ])
                clear hHeld I8 I9 X10 H10 o10 b10 g10 b8 X0 X1 X2 X3 X4 zX0 zX1 zX2 zX3 zX4 Xl
                change Exit.inBlock _ _ _ _ (w10.setCell ⟨po, 2, none⟩ (.slice a10 n10 c10))
                generalize w10.setCell ⟨po, 2, none⟩ (.slice a10 n10 c10) = wz at IG ⊢
                have HZ := Lib.hid IG
                clear IG hn10
                go_wp2_with fail
                go_roundg gx'
                case measure => omega
                case rel => exact ⟨x + 1, _, L ++ [q], by omega, by go_num, by rw [List.length_append, HL.out]; rfl, HRX, HZ⟩
              · go_simp
                have I9 := I8.alloc (.cells #[.int .u8 (q.r.toNat : Int), .int .u8 (q.g.toNat : Int), .int .u8 (q.b.toNat : Int), .int .u8 (q.a.toNat : Int)] 131)
                refine hK.out _ _ I9.sds (fun hHeld' => ?_)
                clear hK K hHeld
                have hHeld := hHeld'
                clear hHeld'
                (try simp only [Act.put, List.getElem_toArray, List.getElem_cons_succ, List.getElem_cons_zero, List.setIfInBounds_toArray, List.set_cons_zero, List.set_cons_succ])
                refine wpAnyH_ready (rs := [1]) (by kernel_rfl) (by simp) ?_
                refine AllReadyH.cons rfl (fun K hK => ?_) AllReadyH.nil
                obtain ⟨X0, X1, X2, X3, X4, zX0, zX1, zX2, zX3, zX4, Xl⟩ := RI.all I9.X
                go_simp
                refine hK.out _ _ I9.sds (fun hHeld' => ?_)
                clear hK K hHeld
                have hHeld := hHeld'
                clear hHeld'
                (try simp only [Act.put, List.getElem_toArray, List.getElem_cons_succ, List.getElem_cons_zero, List.setIfInBounds_toArray, List.set_cons_zero, List.set_cons_succ])
                clear X0 X1 X2 X3 X4 zX0 zX1 zX2 zX3 zX4 Xl
                refine wpAnyH_ready (rs := [8]) (by kernel_rfl) (by simp) ?_
                refine AllReadyH.cons rfl (fun K hK => ?_) AllReadyH.nil
                refine oper_append_cols (.tmp 74) (.tmp 80) rfl w.heap.size v L rfl I9.O w8.heap.size 1 1 [q] rfl rfl (q_new w8 q) ?_ ?_ ?_
                · rw [HL.out]; simp; omega
                · have := I9.B.size; exact this
                intro v10 w10 o10 b10 g10
                have X10 : RI w10 po (W : Int) (H : Int) v 0 0 := Blk.grownQ I9.X I9.O (by decide) g10
                have H10 := Blk.grownQ I9.Hd I9.O (by decide) g10
                have IG := PdI.grow I9 o10 b10 g10
                obtain ⟨a10, c10, hv10⟩ := o10.slice
                generalize hn10 : (L ++ [q]).length = n10 at hv10
                subst hv10
                refine hK.out _ _ ⟨Blk.cell H10 0, Blk.cell H10 1, Blk.cell H10 2, Blk.cell H10 3, Blk.cell H10 4, Blk.cell H10 5, Blk.cell H10 6⟩ (fun hHeld' => ?_)
                clear hK K hHeld
                have hHeld := hHeld'
                clear hHeld'
                (try simp only [Act.put, List.getElem_toArray, List.getElem_cons_succ, List.getElem_cons_zero, List.setIfInBounds_toArray, List.set_cons_zero, List.set_cons_succ])
                refine wpAnyH_take (i := 9) (v := ?_) rfl (by kernel_rfl) (by kernel_rfl) (by kernel_rfl) (fun _ _ _ h => h) (Or.inl ⟨by kernel_rfl, ?_⟩) (by assumption) ?_
                rotate_left
                · intro w hSw; obtain ⟨s0, s1, s2, s3, s4, s5, s6⟩ := hSw; go_simp; (try with_reducible rfl)
                (try simp only [Act.put, List.getElem_toArray, List.getElem_cons_succ, List.getElem_cons_zero, List.setIfInBounds_toArray, List.set_cons_zero, List.set_cons_succ])
                (try clear X0 X1 X2 X3 X4 zX0 zX1 zX2 zX3 zX4 Xl)
                obtain ⟨X0, X1, X2, X3, X4, zX0, zX1, zX2, zX3, zX4, Xl⟩ := RI.all X10
                refine wpAnyH_ready (rs := [10]) (by kernel_rfl) (by simp) ?_
                refine AllReadyH.cons rfl (fun K hK => ?_) AllReadyH.nil
                go_simp
                refine hK.out _ _ IG.sds (fun hHeld' => ?_)
                clear hK K hHeld
                have hHeld := hHeld'
                clear hHeld'
                (try simp only [Act.put, List.getElem_toArray, List.getElem_cons_succ, List.getElem_cons_zero, List.setIfInBounds_toArray, List.set_cons_zero, List.set_cons_succ])
                refine wpAnyH_done (by kernel_rfl) ?_ _
                (try simp only [List.getElem_toArray, List.getElem_cons_succ, List.getElem_cons_zero, List.set_cons_zero, List.set_cons_succ])
                clear hHeld I8 I9 X10 H10 o10 b10 g10 b8 X0 X1 X2 X3 X4 zX0 zX1 zX2 zX3 zX4 Xl
                change Exit.inBlock _ _ _ _ (w10.setCell ⟨po, 2, none⟩ (.slice a10 n10 c10))
                generalize w10.setCell ⟨po, 2, none⟩ (.slice a10 n10 c10) = wz at IG ⊢
                have HZ := Lib.hid IG
                clear IG hn10
                go_wp2_with fail
                go_roundg gx'
                case measure => omega
                case rel => exact ⟨x + 1, _, L ++ [q], by omega, by go_num, by rw [List.length_append, HL.out]; rfl, HRX, HZ⟩
          · obtain rfl : x = W := by omega
            obtain rfl : gk = 0 := by omega
            have hxI : ¬ (x : Int) < (x : Int) := by omega
            have hLe : L = Le := HRX.out
            have HE : Hid (L = Le) := Lib.hid hLe
            have hWy1 : Wy + x = x * (y + 1) := by rw [Nat.mul_succ, hWy]
            have HWY := Lib.hid hWy1
            clear hLe hWy hWy1
            go_wp2_with fail
            go_roundg m
            case measure => omega
            case rel => exact ⟨y + 1, a', v, L, by omega, rfl, by go_num, ha', by rw [HL.out, HWY.out], Lib.hid (by rw [HE.out]; exact HR2.out), HI⟩
    · obtain rfl : y = H := by omega
      obtain rfl : gk = 0 := by omega
      have hyI : ¬ (y : Int) < (y : Int) := by omega
      have hrun := HRUN.out
      unfold pcxRef at hrun
      have HR2 := Lib.hid hrun
      obtain ⟨va, vc, hv⟩ := HI.out.O.slice
      generalize L.length = ll at hv
      subst hv
      obtain ⟨x0, x1, x2, x3, x4, zx0, zx1, zx2, zx3, zx4, xl⟩ := RI.all HI.out.A
      obtain ⟨X0, X1, X2, X3, X4, zX0, zX1, zX2, zX3, zX4, Xl⟩ := RI.all HI.out.X
      clear hrun HRUN
      go_wp2_with fail
      exact bodyPost_ret (v := .agg #[.int .i64 (W : Int), .int .i64 (y : Int), .slice va ll vc, .int .i64 0, .int .i64 0]) (by simp [results, Tryz.results31, go_sem, x0, x1, x2, x3, x4]) rfl (by rw [show D = DRes.img W y (flat L) from HR2.out.symm]; exact ⟨HI.out.outs.1, _, L, rfl, HI.out.outs.2, rfl, by rw [HL.out]⟩)
end Go.Proofs.YtccldalagbfmhaaGreat
