/- The document's Line and bytes of a file of Sun's. The document's pixel of a file of Sun's. -/
import Derived.Test.YtccldalagbfmhaaGreatSunLaw
import Derived.Test.YtccldalagbfmhaaGreatSunP
import Derived.Test.YtccldalagbfmhaaGreatFfRef3
namespace Go.Proofs.YtccldalagbfmhaaGreat
open Go.RowKit
set_option linter.unusedVariables false
set_option linter.unusedSimpArgs false

set_option maxHeartbeats 2000000 in
theorem refSunLine {W H d t n : Nat} (hW : W ≤ 16384) (hd : d ≤ 32) (w : World) : Calls Tryz.prog 68 #[hdV (W : Int) (H : Int) (d : Int) (t : Int) (n : Int) 0 0] w fun e w' => e = .returned (.int .i64 (((W * d + 15) / 16 * 2 : Nat) : Int)) ∧ Below w.heap.size w w' := by
  unfold hdV hd7
  have hP1 : W * d ≤ 16384 * 32 := Nat.mul_le_mul hW hd
  obtain ⟨P, hP⟩ : ∃ P, W * d = P := ⟨_, rfl⟩
  rw [hP] at hP1
  have hPI : IntKind.i64.wrap ((W : Int) * (d : Int)) = (P : Int) := by rw [← Int.natCast_mul, hP]; exact IntWalk.i64_in _ (by omega)
  rw [hP]
  obtain ⟨r, hr⟩ : ∃ r, (P + 15) / 16 * 2 = r := ⟨_, rfl⟩
  rw [hr]
  have HR := Lib.hid hr
  have B0 := Lib.hid (((Below.refl w.heap.size w).alloc (Nat.le_refl _) (.cells #[.int .i64 (W : Int), .int .i64 (H : Int), .int .i64 (d : Int), .int .i64 (t : Int), .int .i64 (n : Int), .int .i64 0, .int .i64 0] 93)))
  clear hr hP
  go_enter Tryz.func68, Tryz.ntmps68
  go_wp2_with fail
  generalize w.alloc (.cells #[.int .i64 (W : Int), .int .i64 (H : Int), .int .i64 (d : Int), .int .i64 (t : Int), .int .i64 (n : Int), .int .i64 0, .int .i64 0] 93) = ws at B0 ⊢
  clear hPI
  go_loopg [3] ((P + 15) / 16 * 16 - P) (fun g v wr => ∃ m : Nat, m + g = (P + 15) / 16 * 16 ∧ P ≤ m ∧ m < P + 16 ∧ v = .int .i64 (m : Int) ∧ wr = ws)
  case atStart => exact ⟨P, by omega, by omega, by omega, rfl, rfl⟩
  case round =>
    obtain ⟨m, hm, hPm, hmP, rfl, rfl⟩ := hrel
    by_cases h0 : m % 16 = 0
    · have h0I : ((m : Int) % 16 != 0) = false := by rw [bne_eq_false_iff_eq]; omega
      have hq : (m : Int) / 8 = (r : Int) := by have := HR.out; omega
      go_wp2_with fail
      go_ret
      exact ⟨rfl, B0.out⟩
    · have h0I : ((m : Int) % 16 != 0) = true := by rw [bne_iff_ne]; omega
      go_wp2_with fail
      go_roundg ((P + 15) / 16 * 16 - (m + 1))
      case measure => omega
      case rel => exact ⟨m + 1, by omega, by omega, by omega, by go_num, rfl⟩
theorem infoInt2 : (Tryz.prog.info? 3).map (fun i => (i.zero, i.size, i.bytes)) = some (some (.int .i64 0), 1, 8) := by kernel_rfl
theorem Owns1.empty2 {w : World} {base : Nat} {e : TypeId} (h : base ≤ w.heap.size) : Owns1 (w.alloc (.cells #[] e)) base e (.slice (some ⟨w.heap.size, 0, none⟩) 0 0) [] :=
  World.ownsRow_lit w #[] 0 h (by unfold maxLen; omega) (by simp)
def zb8 (L : List (Nat × Nat)) : List UInt8 := L.map fun x => UInt8.ofNat x.1
def zpl (L : List (Nat × Nat)) : List Value := L.map fun x => .int .i64 (x.2 : Int)
theorem zb8_len (L : List (Nat × Nat)) : (zb8 L).length = L.length := by simp [zb8]
theorem zpl_len (L : List (Nat × Nat)) : (zpl L).length = L.length := by simp [zpl]
theorem zb8_snoc (L : List (Nat × Nat)) (v p : Nat) : zb8 (L ++ [(v, p)]) = zb8 L ++ [UInt8.ofNat v] := by simp [zb8]
theorem zpl_snoc (L : List (Nat × Nat)) (v p : Nat) : zpl (L ++ [(v, p)]) = zpl L ++ [.int .i64 (p : Int)] := by simp [zpl]
/-- the box of bytes that are not told yet -/
def BX (w : World) (b : Nat) : Prop := Blk w b 128 #[.string ⟨#[]⟩, .slice none 0 0, .bool false]
theorem BX.new (w : World) : BX (w.alloc (.cells #[.string ⟨#[]⟩, .slice none 0 0, .bool false] 128)) w.heap.size := Blk.new _ _ _
theorem BX.all {w : World} {b : Nat} (h : BX w b) : w.cell? ⟨b, 0, none⟩ = some (.string ⟨#[]⟩) ∧ w.cell? ⟨b, 1, none⟩ = some (.slice none 0 0) ∧ w.cell? ⟨b, 2, none⟩ = some (.bool false) ∧ w.frozen? ⟨b, 0, none⟩ = false ∧ w.frozen? ⟨b, 1, none⟩ = false ∧ w.frozen? ⟨b, 2, none⟩ = false ∧ b < w.heap.size :=
  ⟨Blk.cell h 0, Blk.cell h 1, Blk.cell h 2, Blk.frozen h 0, Blk.frozen h 1, Blk.frozen h 2, Blk.lt h⟩
theorem Owns1.turnS {S : List Nat} {w w' : World} {base : Nat} {e : TypeId} {v : Value} {l : List Value} (o : Owns1 w base e v l) (k : Turn S w w') (hS : ∀ i ∈ S, ∃ t cs, Blk w i t cs ∧ t ≠ e) : Owns1 w' base e v l := by
  refine ⟨o.1, ?_⟩
  rcases o.2 with h | ⟨r, cap, cur, hv, hb, hr, h4, h5, h6, h7⟩
  · exact .inl h
  · refine .inr ⟨r, cap, cur, hv, hb, ?_, h4, h5, h6, h7⟩
    exact Blk.turn hr k (fun hm => by obtain ⟨t, cs, hbk, hn⟩ := hS r hm; exact Blk.ne_ hbk hr hn rfl)
theorem Owns1.far3 {w : World} {base b : Nat} {t T : TypeId} {cs : Array Value} {v u0 u1 u2 : Value} {l : List Value} (o : Owns1 w base T v l) (h : Blk w b t cs) (ht : t ≠ T) : Owns1 (((w.setCell ⟨b, 0, none⟩ u0).setCell ⟨b, 1, none⟩ u1).setCell ⟨b, 2, none⟩ u2) base T v l :=
  o.turnS (S := [b]) ((((Turn.refl _ _).set_ 0 u0 (by simp)).set_ 1 u1 (by simp)).set_ 2 u2 (by simp)) (fun j hj => by rw [List.mem_singleton] at hj; subst hj; exact ⟨_, _, h, ht⟩)
theorem Owns1.grown8 {w w' : World} {base base' : Nat} {T : TypeId} {v u : Value} {L : List Value} {l : List UInt8} (h : Owns1 w base T v L) (o : Owns8 w base' u l) (hT : T ≠ 5) (hg : w.grownBy w' u.ownBlock) : Owns1 w' base T v L :=
  h.kept hg (by
    rcases h.2 with ⟨rfl, _⟩ | ⟨r, cap, cur, rfl, _, hr, _⟩
    · exact .inl rfl
    · refine .inr fun e => ?_
      rcases o.2 with ⟨rfl, _⟩ | ⟨r', cap', cur', rfl, _, hr', _⟩
      · cases e
      · have hk : r = r' := by simpa [Value.ownBlock] using e
        subst hk
        exact absurd rfl (Blk.ne_ hr hr' hT))
theorem Owns8.grown1 {w w' : World} {base base' : Nat} {T : TypeId} {v u : Value} {L : List Value} {l : List UInt8} (o : Owns8 w base' u l) (h : Owns1 w base T v L) (hT : T ≠ 5) (hg : w.grownBy w' v.ownBlock) : Owns8 w' base' u l :=
  World.ownsRow.kept o hg (by
    rcases o.2 with ⟨rfl, _⟩ | ⟨r, cap, cur, rfl, _, hr, _⟩
    · exact .inl rfl
    · refine .inr fun e => ?_
      rcases h.2 with ⟨rfl, _⟩ | ⟨r', cap', cur', rfl, _, hr', _⟩
      · cases e
      · have hk : r = r' := by simpa [Value.ownBlock] using e
        subst hk
        exact absurd rfl (Blk.ne_ hr hr' hT.symm))
theorem Blk.grownI {w w' : World} {g base : Nat} {t e : TypeId} {cs : Array Value} {v : Value} {l : List Value} (h : Blk w g t cs) (o : Owns1 w base e v l) (hne : t ≠ e) (hg : w.grownBy w' v.ownBlock) : Blk w' g t cs := by
  refine h.grown hg fun he => ?_
  rcases o.2 with ⟨rfl, _⟩ | ⟨r, cap, cur, rfl, _, hr, _⟩
  · cases he
  · simp only [Value.ownBlock, Option.some.injEq] at he
    subst he
    exact Blk.ne_ h hr hne rfl
theorem Owns1.sl {w : World} {base : Nat} {T : TypeId} {v : Value} {l : List Value} (h : Owns1 w base T v l) : ∃ a c, v = .slice a l.length c := by
  rcases h.form with ⟨rfl, rfl⟩ | ⟨g, cap, rfl, _⟩
  · exact ⟨none, 0, rfl⟩
  · exact ⟨_, _, rfl⟩
theorem Owns8.sl {w : World} {base : Nat} {v : Value} {l : List UInt8} (h : Owns8 w base v l) : ∃ a c, v = .slice a l.length c := by
  rcases h.2 with ⟨rfl, hn⟩ | ⟨r, cap, cur, rfl, _⟩
  · exact ⟨none, 0, by rw [hn]⟩
  · exact ⟨_, _, rfl⟩
/-- what holds of the two lists -/
structure BsI (w0 w : World) (v9 v10 : Value) (L : List (Nat × Nat)) : Prop where
  X : BX w w0.heap.size
  O : Owns8 w w0.heap.size v9 (zb8 L)
  P : Owns1 w w0.heap.size 3 v10 (zpl L)
  B : Below w0.heap.size w0 w
section
variable {w0 w w' : World} {v9 v10 u : Value} {L : List (Nat × Nat)}
theorem BsI.drew (h : BsI w0 w v9 v10 L) : BsI w0 w.drew v9 v10 L := ⟨Blk.drew h.X, h.O.drew, h.P.drew, h.B.drew⟩
theorem BsI.out (h : BsI w0 w v9 v10 L) {u0 u1 u2 : Value} : Owns1 (((w.setCell ⟨w0.heap.size, 0, none⟩ u0).setCell ⟨w0.heap.size, 1, none⟩ u1).setCell ⟨w0.heap.size, 2, none⟩ u2) w0.heap.size 3 v10 (zpl L) ∧ Below w0.heap.size w0 (((w.setCell ⟨w0.heap.size, 0, none⟩ u0).setCell ⟨w0.heap.size, 1, none⟩ u1).setCell ⟨w0.heap.size, 2, none⟩ u2) :=
  ⟨Owns1.far3 h.P h.X (by decide), below_set (below_set (below_set h.B (Nat.le_refl _)) (Nat.le_refl _)) (Nat.le_refl _)⟩
end
/-- what the document's bytes are -/
def BsPost (w w' : World) (e : Ending) (Z : List (Nat × Nat)) (short : Bool) : Prop :=
  ∃ v, e = .returned (.agg #[.string (strOf (zb8 Z)), v, .bool short]) ∧ Owns1 w' w.heap.size 3 v (zpl Z) ∧ Below w.heap.size w w'
set_option maxRecDepth 100000 in
set_option maxHeartbeats 8000000 in
theorem refSunBytes {s : ByteArray} {a n : Nat} {pk : Bool} {Z : List (Nat × Nat)} {sh : Bool} (hsm : s.size ≤ 1099511627776) (ha : a ≤ s.size) (hn : n ≤ 1099511627775) (hZ : sunExp s pk n ⟨a, 0, 0, 0⟩ = Z) (hsh : decide (Z.length < n) = sh) (w : World) :
    Calls Tryz.prog 69 #[.string s, .int .i64 (a : Int), .int .i64 (n : Int), .bool pk] w fun e w' => BsPost w w' e Z sh := by
  have X0 := BX.new w
  have B0 : Below w.heap.size w (w.alloc (.cells #[.string ⟨#[]⟩, .slice none 0 0, .bool false] 128)) := (Below.refl _ _).alloc (Nat.le_refl _) _
  have HS := Lib.hid hsh
  have HE := Lib.hid hZ
  have HSZ := Lib.hid hsm
  clear hsh hZ
  go_enter Tryz.func69, Tryz.ntmps69
  go_upto_block 0 with fail
  have I0 : BsI w (((w.alloc (.cells #[.string ⟨#[]⟩, .slice none 0 0, .bool false] 128)).alloc (.cells #[] 5)).alloc (.cells #[] 3)) (.slice (some ⟨w.heap.size + 1, 0, none⟩) 0 0) (.slice (some ⟨w.heap.size + 1 + 1, 0, none⟩) 0 0) [] := by
    have O1 := Owns8.empty (base := w.heap.size) B0.size
    have B1 := B0.alloc B0.size (.cells #[] 5)
    have P1 := Owns1.empty2 (e := 3) (base := w.heap.size) B1.size
    rw [show (w.alloc (.cells #[.string ⟨#[]⟩, .slice none 0 0, .bool false] 128)).heap.size = w.heap.size + 1 by simp] at O1
    rw [show ((w.alloc (.cells #[.string ⟨#[]⟩, .slice none 0 0, .bool false] 128)).alloc (.cells #[] 5)).heap.size = w.heap.size + 1 + 1 by simp] at P1
    exact ⟨Blk.alloc (Blk.alloc X0 _) _, O1.alloc _, P1, B1.alloc B1.size _⟩
  have HI0 := Lib.hid I0
  clear I0
  go_wp2_with fail
  go_loopg [1, 9, 10, 11, 12, 13, 14, 15] (s.size - a) (fun g v1 v9 v10 v11 v12 v13 v14 v15 wr => ∃ (k : Nat) (L : List (Nat × Nat)) (m : Nat) (a9 : Option Addr) (c9 : Nat) (a10 : Option Addr) (c10 : Nat), k + g = s.size ∧ L.length = m ∧ v1 = .int .i64 (k : Int) ∧ v9 = .slice a9 m c9 ∧ v10 = .slice a10 m c10 ∧ m ≤ n ∧ Hid (L ++ sunExp s pk (n - m) ⟨k, 0, 0, 0⟩ = Z) ∧ Hid (BsI w wr v9 v10 L))
  case atStart => exact ⟨a, [], 0, _, _, _, _, by omega, rfl, rfl, rfl, rfl, Nat.zero_le _, Lib.hid (by rw [Nat.sub_zero]; exact HE.out), HI0⟩
  case round =>
    obtain ⟨k, L, m, a9, c9, a10, c10, hk, hm, rfl, rfl, rfl, hmn, HT, HI⟩ := hrel
    clear X0 B0 HI0 HE
    have HM := Lib.hid hm
    clear hm
    by_cases hfull : n ≤ m
    · have hI : ¬ (m : Int) < (n : Int) := by omega
      have hZ : L = Z := by rw [← HT.out, show n - m = 0 by omega]; unfold sunExp; rw [List.append_nil]
      have hS : sh = false := by rw [← HS.out, ← hZ, HM.out]; exact decide_eq_false (by omega)
      have HZ := Lib.hid hZ
      obtain ⟨x0, x1, x2, f0, f1, f2, xl⟩ := BX.all HI.out.X
      clear hZ HT
      subst hS
      have hcv := run_convert_owned HI.out.O 9 Tryz.underlying9
      go_wp2_with fail
      exact bodyPost_ret (v := .agg #[.string (strOf (zb8 L)), .slice a10 m c10, .bool false]) (by simp [results, Tryz.results69, go_sem, x0, x1, x2]) rfl ⟨_, by rw [HZ.out], by rw [← HZ.out]; exact (HI.out.out).1, HI.out.out.2⟩
    · have hI : (m : Int) < (n : Int) := by omega
      by_cases hks : k < s.size
      · have hksI : ¬ (s.size : Int) ≤ (k : Int) := by omega
        have hksJ : (k : Int) < (s.size : Int) := by omega
        have hb0 := bat_eq hks
        have HU0 : Hid (UInt8.ofNat (bat s k) = s[k]) := Lib.hid (by rw [hb0]; simp)
        by_cases hpk1 : pk = true ∧ bat s k = 128
        · obtain ⟨rfl, h128⟩ := hpk1
          have h128I : (((s[k].toNat : Nat) : Int) == 128) = true := by rw [beq_iff_eq]; omega
          by_cases hk1 : k + 1 < s.size
          · have hk1I : ¬ (s.size : Int) ≤ (k : Int) + 1 := by omega
            have hk1J : (k : Int) + 1 < (s.size : Int) := by omega
            obtain ⟨k1, hke⟩ : ∃ q, k + 1 = q := ⟨_, rfl⟩
            have hkeI : (k : Int) + 1 = (k1 : Int) := by omega
            have hk1s : k1 < s.size := by omega
            have hb1 := bat_eq hk1s
            have hk1T : (k1 : Int) < (s.size : Int) := by omega
            have hk1U : ¬ (s.size : Int) ≤ (k1 : Int) := by omega
            have hk1V : ¬ s.size ≤ k1 := by omega
            by_cases hz0 : bat s k1 = 0
            · have hz0I : (((s[k1].toNat : Nat) : Int) != 0) = false := by rw [bne_eq_false_iff_eq]; omega
              have hfit : k + 2 ≤ s.size := by omega
              have hpk : sunPkt s true k = some (128, 1, 2) := by unfold sunPkt; rw [if_pos hks, if_pos ⟨rfl, h128⟩, if_pos hk1, hke, if_pos hz0]
              have HU : Hid (UInt8.ofNat 128 = s[k]) := Lib.hid (by rw [← h128]; exact HU0.out)
              clear hb0 hb1 HU0 h128 hz0 hke hk1 hk1I hk1J
              go_wp2_with fail
              go_region
              go_wp2_with fail
              have hnext : ∀ q, List.replicate (min 1 (n - m)) (128, k) ++ sunExp s true (n - m - 1) ⟨k + 2, 0, 0, 0⟩ = q → L ++ q = Z := fun q hq => by
                rw [← hq, ← HT.out]
                obtain ⟨r, hr⟩ : ∃ r, n - m = r + 1 := ⟨n - m - 1, by omega⟩
                rw [hr, sunExp_pkt, hpk]
              have HNX := Lib.hid hnext
              have HI1 : Hid (BsI w wr.drew (.slice a9 m c9) (.slice a10 m c10) (L ++ List.replicate 0 (128, k))) := Lib.hid (by rw [List.replicate_zero, List.append_nil]; exact HI.out.drew)
              clear hnext hpk HI
              generalize wr.drew = wd at HI1 ⊢
              go_loopg [9, 10, 15] (min 1 (n - m)) (fun g u9 u10 u15 wx => ∃ (i mi : Nat) (b9 : Option Addr) (d9 : Nat) (b10 : Option Addr) (d10 : Nat), i + g = min 1 (n - m) ∧ m + i = mi ∧ u15 = .int .i64 (i : Int) ∧ u9 = .slice b9 mi d9 ∧ u10 = .slice b10 mi d10 ∧ Hid (BsI w wx u9 u10 (L ++ List.replicate i (128, k))))
              case atStart => exact ⟨0, m, _, _, _, _, by omega, rfl, rfl, rfl, rfl, HI1⟩
              case round =>
                obtain ⟨i, mi, b9, d9, b10, d10, hi, hmi, rfl, rfl, rfl, HJ⟩ := hrel
                clear HI1
                by_cases hlt : i < min 1 (n - m)
                · have hi1 : (i : Int) < 1 := by omega
                  have hi2 : (mi : Int) < (n : Int) := by omega
                  have HL8 : (zb8 (L ++ List.replicate i (128, k))).length < 1099511627775 := by rw [zb8_len, List.length_append, List.length_replicate]; have := HM.out; omega
                  have HL1 : (zpl (L ++ List.replicate i (128, k))).length < 1099511627775 := by rw [zpl_len, List.length_append, List.length_replicate]; have := HM.out; omega
                  have HII := Lib.hid (And.intro hi hmi)
                  have hbs : w.heap.size ≤ wr.heap.size := HJ.out.B.size
                  clear hi hmi
                  go_wp2_with (first
                    | (at_builtin; refine wpList_append_one rfl (.tmp 87) (.tmp 89) 126 3 rfl (.int .i64 0) 8 Tryz.underlying126 infoInt2 rfl (by decide) w.heap.size _ (zpl (L ++ List.replicate i (128, k))) rfl o5 ⟨w4.heap.size, 0, none⟩ rfl (.int .i64 (k : Int)) (cell_new _ _ _ 0 _ rfl) rfl (by omega) hbs4 ?_; intro v6 w6 o6 b6 g6)
                    | (at_builtin; refine wpList_append_byte rfl (.tmp 83) (.tmp 85) rfl w.heap.size _ (zb8 (L ++ List.replicate i (128, k))) rfl (HJ.out.O.alloc _) _ rfl s[k] ?_ ?_ ?_ ?_; (exact cell_new _ _ _ 0 _ rfl); (omega); (simp; omega); intro v4 w4 o4 b4 g4; have hbs4 : w.heap.size ≤ (w4.alloc (.cells #[.int .i64 (k : Int)] 3)).heap.size := (by have := b4.size; simp at this ⊢; omega); have o5 : Owns1 (w4.alloc (.cells #[.int .i64 (k : Int)] 3)) w.heap.size 3 (.slice b10 mi d10) (zpl (L ++ List.replicate i (128, k))) := Owns1.alloc (Owns1.grown8 (HJ.out.P.alloc _) (HJ.out.O.alloc _) (by decide) g4) _))
                  have hu : UInt8.ofNat 128 = s[k] := HU.out
                  have J6 : BsI w w6 v4 v6 (L ++ List.replicate (i + 1) (128, k)) := by
                    rw [List.replicate_succ', ← List.append_assoc]
                    exact ⟨Blk.grownI (Blk.alloc (Blk.grown8 (Blk.alloc HJ.out.X _) (HJ.out.O.alloc _) (by decide) g4) _) o5 (by decide) g6, by rw [zb8_snoc, hu]; exact Owns8.grown1 (Owns8.alloc o4 _) o5 (by decide) g6, by rw [zpl_snoc]; exact o6, (((HJ.out.B.alloc HJ.out.B.size _).trans b4).alloc (by have := b4.size; simp at this; omega) _).trans b6⟩
                  obtain ⟨e9, f9, h9⟩ := J6.O.sl
                  obtain ⟨e10, f10, h10⟩ := J6.P.sl
                  rw [zb8_len, List.length_append, List.length_replicate, HM.out] at h9
                  rw [zpl_len, List.length_append, List.length_replicate, HM.out] at h10
                  have HJ6 := Lib.hid J6
                  clear o4 b4 g4 o5 o6 b6 g6 J6
                  go_roundg (min 1 (n - m) - (i + 1))
                  case measure => have := HII.out.1; omega
                  case rel => exact ⟨i + 1, m + (i + 1), e9, f9, e10, f10, by have := HII.out.1; omega, rfl, by go_num, h9, h10, HJ6⟩
                · have HII := Lib.hid (And.intro hi hmi)
                  have him : i = min 1 (n - m) := by omega
                  have HIM := Lib.hid him
                  have hk2 : (k : Int) + 2 = ((k + 2 : Nat) : Int) := by omega
                  obtain ⟨kz, hkz⟩ : ∃ q, k + 2 = q := ⟨_, rfl⟩
                  rw [hkz] at hk2
                  have HKZ := Lib.hid hkz
                  have hkzB : (kz : Int) ≤ 1099511627776 := by have := HSZ.out; omega
                  clear hkz
                  by_cases hic : i = 1
                  · have hi1 : ¬ (i : Int) < 1 := by omega
                    clear him hi hmi
                    go_wp2_with fail
                    go_roundg (s.size - kz)
                    case measure => have := HKZ.out; omega
                    case rel => exact ⟨kz, L ++ List.replicate i (128, k), mi, b9, d9, b10, d10, by have := HKZ.out; omega, by rw [List.length_append, List.length_replicate, HM.out]; exact HII.out.2, by go_num, rfl, rfl, by have := HII.out.2; have := HIM.out; omega, Lib.hid (by rw [List.append_assoc]; exact HNX.out _ (by rw [HIM.out, HKZ.out, ← HII.out.2, HIM.out]; congr 2; omega)), HJ⟩
                  · have hi1 : (i : Int) < 1 := by omega
                    have hi2 : ¬ (mi : Int) < (n : Int) := by omega
                    clear him hi hmi
                    go_wp2_with fail
                    go_roundg (s.size - kz)
                    case measure => have := HKZ.out; omega
                    case rel => exact ⟨kz, L ++ List.replicate i (128, k), mi, b9, d9, b10, d10, by have := HKZ.out; omega, by rw [List.length_append, List.length_replicate, HM.out]; exact HII.out.2, by go_num, rfl, rfl, by have := HII.out.2; have := HIM.out; omega, Lib.hid (by rw [List.append_assoc]; exact HNX.out _ (by rw [HIM.out, HKZ.out, ← HII.out.2, HIM.out]; congr 2; omega)), HJ⟩
            · have hz0I : (((s[k1].toNat : Nat) : Int) != 0) = true := by rw [bne_iff_ne]; omega
              by_cases hk2 : k + 2 < s.size
              · obtain ⟨k2, hke2⟩ : ∃ q, k + 2 = q := ⟨_, rfl⟩
                have hke2I : (k : Int) + 2 = (k2 : Int) := by omega
                have hk2s : k2 < s.size := by omega
                have hk2T : (k2 : Int) < (s.size : Int) := by omega
                have hk2U : ¬ (s.size : Int) ≤ (k2 : Int) := by omega
                have hk2V : ¬ s.size ≤ k2 := by omega
                have hb2 := bat_eq hk2s
                have hpk : sunPkt s true k = some (bat s k2, bat s k1 + 1, 3) := by unfold sunPkt; rw [if_pos hks, if_pos ⟨rfl, h128⟩, if_pos hk1, hke, if_neg hz0, if_pos hk2, hke2]
                obtain ⟨c, hc⟩ : ∃ c, bat s k1 + 1 = c := ⟨_, rfl⟩
                obtain ⟨X, hX⟩ : ∃ X, bat s k2 = X := ⟨_, rfl⟩
                rw [hc, hX] at hpk
                have HU : Hid (UInt8.ofNat X = s[k2]) := Lib.hid (by rw [← hX, hb2]; simp)
                have hcI : ((s[k1].toNat : Nat) : Int) + 1 = (c : Int) := by omega
                have hcB : c ≤ 256 := by have := bat_lt s k1; omega
                have hc1 : 1 ≤ c := by omega
                have hfit : k + 3 ≤ s.size := by omega
                clear hb0 hb1 hb2 HU0 h128 hz0 hke hk1 hk1I hk1J hc hX hke2 hk2
                go_wp2_with fail
                go_region
                go_wp2_with fail
                have hnext : ∀ q, List.replicate (min c (n - m)) (X, k) ++ sunExp s true (n - m - c) ⟨k + 3, 0, 0, 0⟩ = q → L ++ q = Z := fun q hq => by
                  rw [← hq, ← HT.out]
                  obtain ⟨r, hr⟩ : ∃ r, n - m = r + 1 := ⟨n - m - 1, by omega⟩
                  rw [hr, sunExp_pkt, hpk]
                have HNX := Lib.hid hnext
                have HI1 : Hid (BsI w wr.drew (.slice a9 m c9) (.slice a10 m c10) (L ++ List.replicate 0 (X, k))) := Lib.hid (by rw [List.replicate_zero, List.append_nil]; exact HI.out.drew)
                clear hnext hpk HI
                generalize wr.drew = wd at HI1 ⊢
                go_loopg [9, 10, 15] (min c (n - m)) (fun g u9 u10 u15 wx => ∃ (i mi : Nat) (b9 : Option Addr) (d9 : Nat) (b10 : Option Addr) (d10 : Nat), i + g = min c (n - m) ∧ m + i = mi ∧ u15 = .int .i64 (i : Int) ∧ u9 = .slice b9 mi d9 ∧ u10 = .slice b10 mi d10 ∧ Hid (BsI w wx u9 u10 (L ++ List.replicate i (X, k))))
                case atStart => exact ⟨0, m, _, _, _, _, by omega, rfl, rfl, rfl, rfl, HI1⟩
                case round =>
                  obtain ⟨i, mi, b9, d9, b10, d10, hi, hmi, rfl, rfl, rfl, HJ⟩ := hrel
                  clear HI1
                  by_cases hlt : i < min c (n - m)
                  · have hi1 : (i : Int) < (c : Int) := by omega
                    have hi2 : (mi : Int) < (n : Int) := by omega
                    have HL8 : (zb8 (L ++ List.replicate i (X, k))).length < 1099511627775 := by rw [zb8_len, List.length_append, List.length_replicate]; have := HM.out; omega
                    have HL1 : (zpl (L ++ List.replicate i (X, k))).length < 1099511627775 := by rw [zpl_len, List.length_append, List.length_replicate]; have := HM.out; omega
                    have HII := Lib.hid (And.intro hi hmi)
                    have hbs : w.heap.size ≤ wr.heap.size := HJ.out.B.size
                    clear hi hmi
                    go_wp2_with (first
                      | (at_builtin; refine wpList_append_one rfl (.tmp 87) (.tmp 89) 126 3 rfl (.int .i64 0) 8 Tryz.underlying126 infoInt2 rfl (by decide) w.heap.size _ (zpl (L ++ List.replicate i (X, k))) rfl o5 ⟨w4.heap.size, 0, none⟩ rfl (.int .i64 (k : Int)) (cell_new _ _ _ 0 _ rfl) rfl (by omega) hbs4 ?_; intro v6 w6 o6 b6 g6)
                      | (at_builtin; refine wpList_append_byte rfl (.tmp 83) (.tmp 85) rfl w.heap.size _ (zb8 (L ++ List.replicate i (X, k))) rfl (HJ.out.O.alloc _) _ rfl s[k2] ?_ ?_ ?_ ?_; (exact cell_new _ _ _ 0 _ rfl); (omega); (simp; omega); intro v4 w4 o4 b4 g4; have hbs4 : w.heap.size ≤ (w4.alloc (.cells #[.int .i64 (k : Int)] 3)).heap.size := (by have := b4.size; simp at this ⊢; omega); have o5 : Owns1 (w4.alloc (.cells #[.int .i64 (k : Int)] 3)) w.heap.size 3 (.slice b10 mi d10) (zpl (L ++ List.replicate i (X, k))) := Owns1.alloc (Owns1.grown8 (HJ.out.P.alloc _) (HJ.out.O.alloc _) (by decide) g4) _))
                    have hu : UInt8.ofNat X = s[k2] := HU.out
                    have J6 : BsI w w6 v4 v6 (L ++ List.replicate (i + 1) (X, k)) := by
                      rw [List.replicate_succ', ← List.append_assoc]
                      exact ⟨Blk.grownI (Blk.alloc (Blk.grown8 (Blk.alloc HJ.out.X _) (HJ.out.O.alloc _) (by decide) g4) _) o5 (by decide) g6, by rw [zb8_snoc, hu]; exact Owns8.grown1 (Owns8.alloc o4 _) o5 (by decide) g6, by rw [zpl_snoc]; exact o6, (((HJ.out.B.alloc HJ.out.B.size _).trans b4).alloc (by have := b4.size; simp at this; omega) _).trans b6⟩
                    obtain ⟨e9, f9, h9⟩ := J6.O.sl
                    obtain ⟨e10, f10, h10⟩ := J6.P.sl
                    rw [zb8_len, List.length_append, List.length_replicate, HM.out] at h9
                    rw [zpl_len, List.length_append, List.length_replicate, HM.out] at h10
                    have HJ6 := Lib.hid J6
                    clear o4 b4 g4 o5 o6 b6 g6 J6
                    go_roundg (min c (n - m) - (i + 1))
                    case measure => have := HII.out.1; omega
                    case rel => exact ⟨i + 1, m + (i + 1), e9, f9, e10, f10, by have := HII.out.1; omega, rfl, by go_num, h9, h10, HJ6⟩
                  · have HII := Lib.hid (And.intro hi hmi)
                    have him : i = min c (n - m) := by omega
                    have HIM := Lib.hid him
                    have hk2 : (k : Int) + 3 = ((k + 3 : Nat) : Int) := by omega
                    obtain ⟨kz, hkz⟩ : ∃ q, k + 3 = q := ⟨_, rfl⟩
                    rw [hkz] at hk2
                    have HKZ := Lib.hid hkz
                    have hkzB : (kz : Int) ≤ 1099511627776 := by have := HSZ.out; omega
                    clear hkz
                    by_cases hic : i = c
                    · have hi1 : ¬ (i : Int) < (c : Int) := by omega
                      clear him hi hmi
                      go_wp2_with fail
                      go_roundg (s.size - kz)
                      case measure => have := HKZ.out; omega
                      case rel => exact ⟨kz, L ++ List.replicate i (X, k), mi, b9, d9, b10, d10, by have := HKZ.out; omega, by rw [List.length_append, List.length_replicate, HM.out]; exact HII.out.2, by go_num, rfl, rfl, by have := HII.out.2; have := HIM.out; omega, Lib.hid (by rw [List.append_assoc]; exact HNX.out _ (by rw [HIM.out, HKZ.out, ← HII.out.2, HIM.out]; congr 2; omega)), HJ⟩
                    · have hi1 : (i : Int) < (c : Int) := by omega
                      have hi2 : ¬ (mi : Int) < (n : Int) := by omega
                      clear him hi hmi
                      go_wp2_with fail
                      go_roundg (s.size - kz)
                      case measure => have := HKZ.out; omega
                      case rel => exact ⟨kz, L ++ List.replicate i (X, k), mi, b9, d9, b10, d10, by have := HKZ.out; omega, by rw [List.length_append, List.length_replicate, HM.out]; exact HII.out.2, by go_num, rfl, rfl, by have := HII.out.2; have := HIM.out; omega, Lib.hid (by rw [List.append_assoc]; exact HNX.out _ (by rw [HIM.out, HKZ.out, ← HII.out.2, HIM.out]; congr 2; omega)), HJ⟩
              · have hke2 : k + 2 = k1 + 1 := by omega
                obtain ⟨k2, hke2⟩ : ∃ q, k + 2 = q := ⟨_, rfl⟩
                have hke2I : (k : Int) + 2 = (k2 : Int) := by omega
                have hk2U : (s.size : Int) ≤ (k2 : Int) := by omega
                have hpk : sunPkt s true k = none := by unfold sunPkt; rw [if_pos hks, if_pos ⟨rfl, h128⟩, if_pos hk1, hke, if_neg hz0, if_neg hk2]
                have hZ0 : L = Z := by
                  rw [← HT.out]
                  obtain ⟨r, hr⟩ : ∃ r, n - m = r + 1 := ⟨n - m - 1, by omega⟩
                  rw [hr, sunExp_pkt, hpk, List.append_nil]
                have HZ0 := Lib.hid hZ0
                have HD := Lib.hid HI.out.drew
                clear hb0 hb1 HU0 h128 hz0 hke hk1 hk1I hk1J hke2 hk2 hpk hZ0 HI
                go_wp2_with fail
                go_region
                generalize wr.drew = wd at HD ⊢
                have HI := HD
                clear HD
                have hZ : L = Z := HZ0.out
                have hS : sh = true := by rw [← HS.out, ← hZ, HM.out]; exact decide_eq_true (by omega)
                have HZ := Lib.hid hZ
                obtain ⟨x0, x1, x2, f0, f1, f2, xl⟩ := BX.all HI.out.X
                clear hZ HT
                subst hS
                have hcv := run_convert_owned HI.out.O 9 Tryz.underlying9
                go_wp2_with fail
                exact bodyPost_ret (v := .agg #[.string (strOf (zb8 L)), .slice a10 m c10, .bool true]) (by simp [results, Tryz.results69, go_sem, x0, x1, x2]) rfl ⟨_, by rw [HZ.out], by rw [← HZ.out]; exact (HI.out.out).1, HI.out.out.2⟩
          · have hk1I : (s.size : Int) ≤ (k : Int) + 1 := by omega
            have hpk : sunPkt s true k = none := by unfold sunPkt; rw [if_pos hks, if_pos ⟨rfl, h128⟩, if_neg hk1]
            have hZ0 : L = Z := by
              rw [← HT.out]
              obtain ⟨r, hr⟩ : ∃ r, n - m = r + 1 := ⟨n - m - 1, by omega⟩
              rw [hr, sunExp_pkt, hpk, List.append_nil]
            have HZ0 := Lib.hid hZ0
            have HD := Lib.hid HI.out.drew
            clear hb0 HU0 h128 hk1 hpk hZ0 HI
            go_wp2_with fail
            go_region
            generalize wr.drew = wd at HD ⊢
            have HI := HD
            clear HD
            have hZ : L = Z := HZ0.out
            have hS : sh = true := by rw [← HS.out, ← hZ, HM.out]; exact decide_eq_true (by omega)
            have HZ := Lib.hid hZ
            obtain ⟨x0, x1, x2, f0, f1, f2, xl⟩ := BX.all HI.out.X
            clear hZ HT
            subst hS
            have hcv := run_convert_owned HI.out.O 9 Tryz.underlying9
            go_wp2_with fail
            exact bodyPost_ret (v := .agg #[.string (strOf (zb8 L)), .slice a10 m c10, .bool true]) (by simp [results, Tryz.results69, go_sem, x0, x1, x2]) rfl ⟨_, by rw [HZ.out], by rw [← HZ.out]; exact (HI.out.out).1, HI.out.out.2⟩
        · have hpk : sunPkt s pk k = some (bat s k, 1, 1) := by unfold sunPkt; rw [if_pos hks, if_neg hpk1]
          obtain ⟨X, hX⟩ : ∃ X, bat s k = X := ⟨_, rfl⟩
          rw [hX] at hpk HU0
          have HU := HU0
          have hfit : k + 1 ≤ s.size := hks
          cases pk with
          | true =>
            have h128I : (((s[k].toNat : Nat) : Int) == 128) = false := by rw [beq_eq_false_iff_ne]; have : bat s k ≠ 128 := (fun e => hpk1 ⟨rfl, e⟩); omega
            clear hb0 HU0 hpk1 hX
            go_wp2_with fail
            go_region
            go_wp2_with fail
            have hnext : ∀ q, List.replicate (min 1 (n - m)) (X, k) ++ sunExp s true (n - m - 1) ⟨k + 1, 0, 0, 0⟩ = q → L ++ q = Z := fun q hq => by
              rw [← hq, ← HT.out]
              obtain ⟨r, hr⟩ : ∃ r, n - m = r + 1 := ⟨n - m - 1, by omega⟩
              rw [hr, sunExp_pkt, hpk]
            have HNX := Lib.hid hnext
            have HI1 : Hid (BsI w wr.drew (.slice a9 m c9) (.slice a10 m c10) (L ++ List.replicate 0 (X, k))) := Lib.hid (by rw [List.replicate_zero, List.append_nil]; exact HI.out.drew)
            clear hnext hpk HI
            generalize wr.drew = wd at HI1 ⊢
            go_loopg [9, 10, 15] (min 1 (n - m)) (fun g u9 u10 u15 wx => ∃ (i mi : Nat) (b9 : Option Addr) (d9 : Nat) (b10 : Option Addr) (d10 : Nat), i + g = min 1 (n - m) ∧ m + i = mi ∧ u15 = .int .i64 (i : Int) ∧ u9 = .slice b9 mi d9 ∧ u10 = .slice b10 mi d10 ∧ Hid (BsI w wx u9 u10 (L ++ List.replicate i (X, k))))
            case atStart => exact ⟨0, m, _, _, _, _, by omega, rfl, rfl, rfl, rfl, HI1⟩
            case round =>
              obtain ⟨i, mi, b9, d9, b10, d10, hi, hmi, rfl, rfl, rfl, HJ⟩ := hrel
              clear HI1
              by_cases hlt : i < min 1 (n - m)
              · have hi1 : (i : Int) < 1 := by omega
                have hi2 : (mi : Int) < (n : Int) := by omega
                have HL8 : (zb8 (L ++ List.replicate i (X, k))).length < 1099511627775 := by rw [zb8_len, List.length_append, List.length_replicate]; have := HM.out; omega
                have HL1 : (zpl (L ++ List.replicate i (X, k))).length < 1099511627775 := by rw [zpl_len, List.length_append, List.length_replicate]; have := HM.out; omega
                have HII := Lib.hid (And.intro hi hmi)
                have hbs : w.heap.size ≤ wr.heap.size := HJ.out.B.size
                clear hi hmi
                go_wp2_with (first
                  | (at_builtin; refine wpList_append_one rfl (.tmp 87) (.tmp 89) 126 3 rfl (.int .i64 0) 8 Tryz.underlying126 infoInt2 rfl (by decide) w.heap.size _ (zpl (L ++ List.replicate i (X, k))) rfl o5 ⟨w4.heap.size, 0, none⟩ rfl (.int .i64 (k : Int)) (cell_new _ _ _ 0 _ rfl) rfl (by omega) hbs4 ?_; intro v6 w6 o6 b6 g6)
                  | (at_builtin; refine wpList_append_byte rfl (.tmp 83) (.tmp 85) rfl w.heap.size _ (zb8 (L ++ List.replicate i (X, k))) rfl (HJ.out.O.alloc _) _ rfl s[k] ?_ ?_ ?_ ?_; (exact cell_new _ _ _ 0 _ rfl); (omega); (simp; omega); intro v4 w4 o4 b4 g4; have hbs4 : w.heap.size ≤ (w4.alloc (.cells #[.int .i64 (k : Int)] 3)).heap.size := (by have := b4.size; simp at this ⊢; omega); have o5 : Owns1 (w4.alloc (.cells #[.int .i64 (k : Int)] 3)) w.heap.size 3 (.slice b10 mi d10) (zpl (L ++ List.replicate i (X, k))) := Owns1.alloc (Owns1.grown8 (HJ.out.P.alloc _) (HJ.out.O.alloc _) (by decide) g4) _))
                have hu : UInt8.ofNat X = s[k] := HU.out
                have J6 : BsI w w6 v4 v6 (L ++ List.replicate (i + 1) (X, k)) := by
                  rw [List.replicate_succ', ← List.append_assoc]
                  exact ⟨Blk.grownI (Blk.alloc (Blk.grown8 (Blk.alloc HJ.out.X _) (HJ.out.O.alloc _) (by decide) g4) _) o5 (by decide) g6, by rw [zb8_snoc, hu]; exact Owns8.grown1 (Owns8.alloc o4 _) o5 (by decide) g6, by rw [zpl_snoc]; exact o6, (((HJ.out.B.alloc HJ.out.B.size _).trans b4).alloc (by have := b4.size; simp at this; omega) _).trans b6⟩
                obtain ⟨e9, f9, h9⟩ := J6.O.sl
                obtain ⟨e10, f10, h10⟩ := J6.P.sl
                rw [zb8_len, List.length_append, List.length_replicate, HM.out] at h9
                rw [zpl_len, List.length_append, List.length_replicate, HM.out] at h10
                have HJ6 := Lib.hid J6
                clear o4 b4 g4 o5 o6 b6 g6 J6
                go_roundg (min 1 (n - m) - (i + 1))
                case measure => have := HII.out.1; omega
                case rel => exact ⟨i + 1, m + (i + 1), e9, f9, e10, f10, by have := HII.out.1; omega, rfl, by go_num, h9, h10, HJ6⟩
              · have HII := Lib.hid (And.intro hi hmi)
                have him : i = min 1 (n - m) := by omega
                have HIM := Lib.hid him
                have hk2 : (k : Int) + 1 = ((k + 1 : Nat) : Int) := by omega
                obtain ⟨kz, hkz⟩ : ∃ q, k + 1 = q := ⟨_, rfl⟩
                rw [hkz] at hk2
                have HKZ := Lib.hid hkz
                have hkzB : (kz : Int) ≤ 1099511627776 := by have := HSZ.out; omega
                clear hkz
                by_cases hic : i = 1
                · have hi1 : ¬ (i : Int) < 1 := by omega
                  clear him hi hmi
                  go_wp2_with fail
                  go_roundg (s.size - kz)
                  case measure => have := HKZ.out; omega
                  case rel => exact ⟨kz, L ++ List.replicate i (X, k), mi, b9, d9, b10, d10, by have := HKZ.out; omega, by rw [List.length_append, List.length_replicate, HM.out]; exact HII.out.2, by go_num, rfl, rfl, by have := HII.out.2; have := HIM.out; omega, Lib.hid (by rw [List.append_assoc]; exact HNX.out _ (by rw [HIM.out, HKZ.out, ← HII.out.2, HIM.out]; congr 2; omega)), HJ⟩
                · have hi1 : (i : Int) < 1 := by omega
                  have hi2 : ¬ (mi : Int) < (n : Int) := by omega
                  clear him hi hmi
                  go_wp2_with fail
                  go_roundg (s.size - kz)
                  case measure => have := HKZ.out; omega
                  case rel => exact ⟨kz, L ++ List.replicate i (X, k), mi, b9, d9, b10, d10, by have := HKZ.out; omega, by rw [List.length_append, List.length_replicate, HM.out]; exact HII.out.2, by go_num, rfl, rfl, by have := HII.out.2; have := HIM.out; omega, Lib.hid (by rw [List.append_assoc]; exact HNX.out _ (by rw [HIM.out, HKZ.out, ← HII.out.2, HIM.out]; congr 2; omega)), HJ⟩
          | false =>
            clear hb0 HU0 hpk1 hX
            go_wp2_with fail
            go_region
            go_wp2_with fail
            have hnext : ∀ q, List.replicate (min 1 (n - m)) (X, k) ++ sunExp s false (n - m - 1) ⟨k + 1, 0, 0, 0⟩ = q → L ++ q = Z := fun q hq => by
              rw [← hq, ← HT.out]
              obtain ⟨r, hr⟩ : ∃ r, n - m = r + 1 := ⟨n - m - 1, by omega⟩
              rw [hr, sunExp_pkt, hpk]
            have HNX := Lib.hid hnext
            have HI1 : Hid (BsI w wr.drew (.slice a9 m c9) (.slice a10 m c10) (L ++ List.replicate 0 (X, k))) := Lib.hid (by rw [List.replicate_zero, List.append_nil]; exact HI.out.drew)
            clear hnext hpk HI
            generalize wr.drew = wd at HI1 ⊢
            go_loopg [9, 10, 15] (min 1 (n - m)) (fun g u9 u10 u15 wx => ∃ (i mi : Nat) (b9 : Option Addr) (d9 : Nat) (b10 : Option Addr) (d10 : Nat), i + g = min 1 (n - m) ∧ m + i = mi ∧ u15 = .int .i64 (i : Int) ∧ u9 = .slice b9 mi d9 ∧ u10 = .slice b10 mi d10 ∧ Hid (BsI w wx u9 u10 (L ++ List.replicate i (X, k))))
            case atStart => exact ⟨0, m, _, _, _, _, by omega, rfl, rfl, rfl, rfl, HI1⟩
            case round =>
              obtain ⟨i, mi, b9, d9, b10, d10, hi, hmi, rfl, rfl, rfl, HJ⟩ := hrel
              clear HI1
              by_cases hlt : i < min 1 (n - m)
              · have hi1 : (i : Int) < 1 := by omega
                have hi2 : (mi : Int) < (n : Int) := by omega
                have HL8 : (zb8 (L ++ List.replicate i (X, k))).length < 1099511627775 := by rw [zb8_len, List.length_append, List.length_replicate]; have := HM.out; omega
                have HL1 : (zpl (L ++ List.replicate i (X, k))).length < 1099511627775 := by rw [zpl_len, List.length_append, List.length_replicate]; have := HM.out; omega
                have HII := Lib.hid (And.intro hi hmi)
                have hbs : w.heap.size ≤ wr.heap.size := HJ.out.B.size
                clear hi hmi
                go_wp2_with (first
                  | (at_builtin; refine wpList_append_one rfl (.tmp 87) (.tmp 89) 126 3 rfl (.int .i64 0) 8 Tryz.underlying126 infoInt2 rfl (by decide) w.heap.size _ (zpl (L ++ List.replicate i (X, k))) rfl o5 ⟨w4.heap.size, 0, none⟩ rfl (.int .i64 (k : Int)) (cell_new _ _ _ 0 _ rfl) rfl (by omega) hbs4 ?_; intro v6 w6 o6 b6 g6)
                  | (at_builtin; refine wpList_append_byte rfl (.tmp 83) (.tmp 85) rfl w.heap.size _ (zb8 (L ++ List.replicate i (X, k))) rfl (HJ.out.O.alloc _) _ rfl s[k] ?_ ?_ ?_ ?_; (exact cell_new _ _ _ 0 _ rfl); (omega); (simp; omega); intro v4 w4 o4 b4 g4; have hbs4 : w.heap.size ≤ (w4.alloc (.cells #[.int .i64 (k : Int)] 3)).heap.size := (by have := b4.size; simp at this ⊢; omega); have o5 : Owns1 (w4.alloc (.cells #[.int .i64 (k : Int)] 3)) w.heap.size 3 (.slice b10 mi d10) (zpl (L ++ List.replicate i (X, k))) := Owns1.alloc (Owns1.grown8 (HJ.out.P.alloc _) (HJ.out.O.alloc _) (by decide) g4) _))
                have hu : UInt8.ofNat X = s[k] := HU.out
                have J6 : BsI w w6 v4 v6 (L ++ List.replicate (i + 1) (X, k)) := by
                  rw [List.replicate_succ', ← List.append_assoc]
                  exact ⟨Blk.grownI (Blk.alloc (Blk.grown8 (Blk.alloc HJ.out.X _) (HJ.out.O.alloc _) (by decide) g4) _) o5 (by decide) g6, by rw [zb8_snoc, hu]; exact Owns8.grown1 (Owns8.alloc o4 _) o5 (by decide) g6, by rw [zpl_snoc]; exact o6, (((HJ.out.B.alloc HJ.out.B.size _).trans b4).alloc (by have := b4.size; simp at this; omega) _).trans b6⟩
                obtain ⟨e9, f9, h9⟩ := J6.O.sl
                obtain ⟨e10, f10, h10⟩ := J6.P.sl
                rw [zb8_len, List.length_append, List.length_replicate, HM.out] at h9
                rw [zpl_len, List.length_append, List.length_replicate, HM.out] at h10
                have HJ6 := Lib.hid J6
                clear o4 b4 g4 o5 o6 b6 g6 J6
                go_roundg (min 1 (n - m) - (i + 1))
                case measure => have := HII.out.1; omega
                case rel => exact ⟨i + 1, m + (i + 1), e9, f9, e10, f10, by have := HII.out.1; omega, rfl, by go_num, h9, h10, HJ6⟩
              · have HII := Lib.hid (And.intro hi hmi)
                have him : i = min 1 (n - m) := by omega
                have HIM := Lib.hid him
                have hk2 : (k : Int) + 1 = ((k + 1 : Nat) : Int) := by omega
                obtain ⟨kz, hkz⟩ : ∃ q, k + 1 = q := ⟨_, rfl⟩
                rw [hkz] at hk2
                have HKZ := Lib.hid hkz
                have hkzB : (kz : Int) ≤ 1099511627776 := by have := HSZ.out; omega
                clear hkz
                by_cases hic : i = 1
                · have hi1 : ¬ (i : Int) < 1 := by omega
                  clear him hi hmi
                  go_wp2_with fail
                  go_roundg (s.size - kz)
                  case measure => have := HKZ.out; omega
                  case rel => exact ⟨kz, L ++ List.replicate i (X, k), mi, b9, d9, b10, d10, by have := HKZ.out; omega, by rw [List.length_append, List.length_replicate, HM.out]; exact HII.out.2, by go_num, rfl, rfl, by have := HII.out.2; have := HIM.out; omega, Lib.hid (by rw [List.append_assoc]; exact HNX.out _ (by rw [HIM.out, HKZ.out, ← HII.out.2, HIM.out]; congr 2; omega)), HJ⟩
                · have hi1 : (i : Int) < 1 := by omega
                  have hi2 : ¬ (mi : Int) < (n : Int) := by omega
                  clear him hi hmi
                  go_wp2_with fail
                  go_roundg (s.size - kz)
                  case measure => have := HKZ.out; omega
                  case rel => exact ⟨kz, L ++ List.replicate i (X, k), mi, b9, d9, b10, d10, by have := HKZ.out; omega, by rw [List.length_append, List.length_replicate, HM.out]; exact HII.out.2, by go_num, rfl, rfl, by have := HII.out.2; have := HIM.out; omega, Lib.hid (by rw [List.append_assoc]; exact HNX.out _ (by rw [HIM.out, HKZ.out, ← HII.out.2, HIM.out]; congr 2; omega)), HJ⟩
      · have hksI : (s.size : Int) ≤ (k : Int) := by omega
        have hpk : sunPkt s pk k = none := by unfold sunPkt; rw [if_neg hks]
        have hZ : L = Z := by rw [← HT.out]; obtain ⟨r, hr⟩ : ∃ r, n - m = r + 1 := ⟨n - m - 1, by omega⟩; rw [hr, sunExp_pkt, hpk, List.append_nil]
        have hS : sh = true := by rw [← HS.out, ← hZ, HM.out]; exact decide_eq_true (by omega)
        have HZ := Lib.hid hZ
        obtain ⟨x0, x1, x2, f0, f1, f2, xl⟩ := BX.all HI.out.X
        clear hZ HT
        subst hS
        have hcv := run_convert_owned HI.out.O 9 Tryz.underlying9
        go_wp2_with fail
        exact bodyPost_ret (v := .agg #[.string (strOf (zb8 L)), .slice a10 m c10, .bool true]) (by simp [results, Tryz.results69, go_sem, x0, x1, x2]) rfl ⟨_, by rw [HZ.out], by rw [← HZ.out]; exact (HI.out.out).1, HI.out.out.2⟩
end Go.Proofs.YtccldalagbfmhaaGreat
namespace Go.Proofs.YtccldalagbfmhaaGreat
open Go.RowKit
set_option linter.unusedVariables false
set_option linter.unusedSimpArgs false

/-- the box of a head, and of a colour that is not told yet -/
structure PxI (w0 w : World) (W H d t n : Nat) : Prop where
  A : Blk w w0.heap.size 93 (hd7 (W : Int) (H : Int) (d : Int) (t : Int) (n : Int) 0 0)
  C : Blk w (w0.heap.size + 1) 131 #[.int .u8 0, .int .u8 0, .int .u8 0, .int .u8 0]
  B : Below w0.heap.size w0 w
section
variable {w0 w w' : World} {W H d t n : Nat}
theorem PxI.new (w : World) (W H d t n : Nat) : PxI w ((w.alloc (.cells #[.int .i64 (W : Int), .int .i64 (H : Int), .int .i64 (d : Int), .int .i64 (t : Int), .int .i64 (n : Int), .int .i64 0, .int .i64 0] 93)).alloc (.cells #[.int .u8 0, .int .u8 0, .int .u8 0, .int .u8 0] 131)) W H d t n :=
  ⟨Blk.alloc (Blk.new _ _ _) _, Blk.new_at _ _ _ (by simp), ((Below.refl _ _).alloc (Nat.le_refl _) _).alloc (by simp) _⟩
theorem PxI.below (h : PxI w0 w W H d t n) (b : Below w.heap.size w w') : PxI w0 w' W H d t n := ⟨Blk.below h.A b (Blk.lt h.A), Blk.below h.C b (Blk.lt h.C), below_next h.B b⟩
theorem PxI.all (h : PxI w0 w W H d t n) : w.cell? ⟨w0.heap.size, 2, none⟩ = some (.int .i64 (d : Int)) ∧ w.cell? ⟨w0.heap.size, 3, none⟩ = some (.int .i64 (t : Int)) ∧ w.cell? ⟨w0.heap.size, 4, none⟩ = some (.int .i64 (n : Int)) ∧
    w.cell? ⟨w0.heap.size + 1, 0, none⟩ = some (.int .u8 0) ∧ w.cell? ⟨w0.heap.size + 1, 1, none⟩ = some (.int .u8 0) ∧ w.cell? ⟨w0.heap.size + 1, 2, none⟩ = some (.int .u8 0) ∧ w.cell? ⟨w0.heap.size + 1, 3, none⟩ = some (.int .u8 0) ∧
    w.frozen? ⟨w0.heap.size + 1, 0, none⟩ = false ∧ w.frozen? ⟨w0.heap.size + 1, 1, none⟩ = false ∧ w.frozen? ⟨w0.heap.size + 1, 2, none⟩ = false ∧ w.frozen? ⟨w0.heap.size + 1, 3, none⟩ = false ∧ w0.heap.size < w.heap.size ∧ w0.heap.size + 1 < w.heap.size :=
  ⟨Blk.cell h.A 2, Blk.cell h.A 3, Blk.cell h.A 4, Blk.cell h.C 0, Blk.cell h.C 1, Blk.cell h.C 2, Blk.cell h.C 3, Blk.frozen h.C 0, Blk.frozen h.C 1, Blk.frozen h.C 2, Blk.frozen h.C 3, Blk.lt h.A, Blk.lt h.C⟩
theorem PxI.fin (h : PxI w0 w W H d t n) {u0 u1 u2 u3 : Value} : Below w0.heap.size w0 ((((w.setCell ⟨w0.heap.size + 1, 0, none⟩ u0).setCell ⟨w0.heap.size + 1, 1, none⟩ u1).setCell ⟨w0.heap.size + 1, 2, none⟩ u2).setCell ⟨w0.heap.size + 1, 3, none⟩ u3) :=
  below_set (below_set (below_set (below_set h.B (by omega)) (by omega)) (by omega)) (by omega)
end
theorem refGrayC {v : Nat} (hv : v ≤ 255) (w : World) : Calls Tryz.prog 146 #[.int .i64 (v : Int)] w fun e w' => e = .returned (qgray v).v ∧ Below w.heap.size w w' := by
  have hvI : (v : Int) ≤ 255 := by omega
  have hu : ((UInt8.ofNat v).toNat : Int) = (v : Int) := by rw [UInt8.toNat_ofNat', Nat.mod_eq_of_lt (by omega)]
  have hw : (v : Int) % 256 = (v : Int) := by omega
  go_enter Tryz.func146, Tryz.ntmps146
  go_wp2_with fail
  exact bodyPost_ret (v := (qgray v).v) (by simp [results, Tryz.results146, go_sem, qgray, Qc.v, hu, hw]) rfl ⟨rfl, (Below.refl _ _).alloc (Nat.le_refl _) _⟩
set_option maxHeartbeats 2000000 in
theorem refSunPix24 {s b : ByteArray} {W H t n x : Nat} {u0 u1 u2 : UInt8} (hb : b.size = 3) (h0 : b[0]'(by omega) = u0) (h1 : b[1]'(by omega) = u1) (h2 : b[2]'(by omega) = u2) (w : World) :
    Calls Tryz.prog 70 #[.string s, hdV (W : Int) (H : Int) ((24 : Nat) : Int) (t : Int) (n : Int) 0 0, .string b, .int .i64 (x : Int)] w fun e w' => e = .returned (.tuple #[Qc.v (if t = 3 then ⟨u0, u1, u2, 255⟩ else ⟨u2, u1, u0, 255⟩), .bool true]) ∧ Below w.heap.size w w' := by
  have I0 := PxI.new w W H 24 t n
  unfold hdV hd7
  go_enter Tryz.func70, Tryz.ntmps70
  go_upto_region 1 with fail
  generalize hws : (w.alloc (.cells #[.int .i64 (W : Int), .int .i64 (H : Int), .int .i64 ((24 : Nat) : Int), .int .i64 (t : Int), .int .i64 (n : Int), .int .i64 0, .int .i64 0] 93)).alloc (.cells #[.int .u8 0, .int .u8 0, .int .u8 0, .int .u8 0] 131) = ws at I0 ⊢
  have HI := Lib.hid I0
  clear I0 hws
  obtain ⟨a2, a3, a4, c0, c1, c2, c3, z0, z1, z2, z3, al, cl⟩ := HI.out.all
  have hbI : (b.size : Int) = 3 := by omega
  by_cases ht : t = 3
  · have htI : (t : Int) = 3 := by omega
    go_wp2_with fail
    go_region
    go_wp2_with fail
    exact bodyPost_ret (v := .tuple #[Qc.v ⟨u0, u1, u2, 255⟩, .bool true]) (by simp [results, Tryz.results70, go_sem, Qc.v, c0, c1, c2, c3]) rfl ⟨by first | rfl | rw [if_pos ht], HI.out.fin.drew⟩
  · have htI : ¬ (t : Int) = 3 := by omega
    go_wp2_with fail
    go_region
    go_wp2_with fail
    exact bodyPost_ret (v := .tuple #[Qc.v ⟨u2, u1, u0, 255⟩, .bool true]) (by simp [results, Tryz.results70, go_sem, Qc.v, c0, c1, c2, c3]) rfl ⟨by first | rfl | rw [if_neg ht], HI.out.fin.drew⟩
set_option maxHeartbeats 2000000 in
theorem refSunPix32 {s b : ByteArray} {W H t n x : Nat} {u0 u1 u2 : UInt8} (hb : b.size = 4) (h0 : b[1]'(by omega) = u0) (h1 : b[2]'(by omega) = u1) (h2 : b[3]'(by omega) = u2) (w : World) :
    Calls Tryz.prog 70 #[.string s, hdV (W : Int) (H : Int) ((32 : Nat) : Int) (t : Int) (n : Int) 0 0, .string b, .int .i64 (x : Int)] w fun e w' => e = .returned (.tuple #[Qc.v (if t = 3 then ⟨u0, u1, u2, 255⟩ else ⟨u2, u1, u0, 255⟩), .bool true]) ∧ Below w.heap.size w w' := by
  have I0 := PxI.new w W H 32 t n
  unfold hdV hd7
  go_enter Tryz.func70, Tryz.ntmps70
  go_upto_region 1 with fail
  generalize hws : (w.alloc (.cells #[.int .i64 (W : Int), .int .i64 (H : Int), .int .i64 ((32 : Nat) : Int), .int .i64 (t : Int), .int .i64 (n : Int), .int .i64 0, .int .i64 0] 93)).alloc (.cells #[.int .u8 0, .int .u8 0, .int .u8 0, .int .u8 0] 131) = ws at I0 ⊢
  have HI := Lib.hid I0
  clear I0 hws
  obtain ⟨a2, a3, a4, c0, c1, c2, c3, z0, z1, z2, z3, al, cl⟩ := HI.out.all
  have hbI : (b.size : Int) = 4 := by omega
  have hb1 : (1 : Int) ≤ (b.size : Int) := by omega
  obtain ⟨b', hb'⟩ : ∃ b', b.extract 1 4 = b' := ⟨_, rfl⟩
  have hs' : b'.size = 3 := by rw [← hb', ByteArray.size_extract]; omega
  have k0 : b'[0]'(by omega) = u0 := by subst hb'; rw [← h0]; simp [ByteArray.getElem_extract]
  have k1 : b'[1]'(by omega) = u1 := by subst hb'; rw [← h1]; simp [ByteArray.getElem_extract]
  have k2 : b'[2]'(by omega) = u2 := by subst hb'; rw [← h2]; simp [ByteArray.getElem_extract]
  have hsI : (b'.size : Int) = 3 := by omega
  clear h0 h1 h2
  by_cases ht : t = 3
  · have htI : (t : Int) = 3 := by omega
    go_wp2_with fail
    go_region
    go_wp2_with fail
    exact bodyPost_ret (v := .tuple #[Qc.v ⟨u0, u1, u2, 255⟩, .bool true]) (by simp [results, Tryz.results70, go_sem, Qc.v, c0, c1, c2, c3, hb', k0, k1, k2]) rfl ⟨by first | rfl | rw [if_pos ht], HI.out.fin.drew⟩
  · have htI : ¬ (t : Int) = 3 := by omega
    go_wp2_with fail
    go_region
    go_wp2_with fail
    exact bodyPost_ret (v := .tuple #[Qc.v ⟨u2, u1, u0, 255⟩, .bool true]) (by simp [results, Tryz.results70, go_sem, Qc.v, c0, c1, c2, c3, hb', k0, k1, k2]) rfl ⟨by first | rfl | rw [if_neg ht], HI.out.fin.drew⟩
theorem b8_eq {s : ByteArray} {i : Nat} (h : i < s.size) : b8 s i = s[i] := by
  have := bat_eq h
  unfold b8
  rw [this]
  simp
set_option maxHeartbeats 2000000 in
theorem refSunPix8 {s b : ByteArray} {W H t n x v : Nat} (hb : b.size = 1) (hsm : s.size ≤ 1099511627776) (hn : n ≤ 256) (hs : 32 + 3 * n ≤ s.size) (hv : bat b 0 = v) (w : World) :
    Calls Tryz.prog 70 #[.string s, hdV (W : Int) (H : Int) ((8 : Nat) : Int) (t : Int) (n : Int) 0 0, .string b, .int .i64 (x : Int)] w fun e w' => e = .returned (.tuple #[Qc.v ((sunEnt s ⟨W, H, 8, t, n⟩ v).getD ⟨0, 0, 0, 0⟩), .bool (sunEnt s ⟨W, H, 8, t, n⟩ v).isSome]) ∧ Below w.heap.size w w' := by
  have I0 := PxI.new w W H 8 t n
  unfold hdV hd7
  go_enter Tryz.func70, Tryz.ntmps70
  go_upto_region 1 with fail
  generalize hws : (w.alloc (.cells #[.int .i64 (W : Int), .int .i64 (H : Int), .int .i64 ((8 : Nat) : Int), .int .i64 (t : Int), .int .i64 (n : Int), .int .i64 0, .int .i64 0] 93)).alloc (.cells #[.int .u8 0, .int .u8 0, .int .u8 0, .int .u8 0] 131) = ws at I0 ⊢
  have HI := Lib.hid I0
  clear I0 hws
  obtain ⟨a2, a3, a4, c0, c1, c2, c3, z0, z1, z2, z3, al, cl⟩ := HI.out.all
  have hbI : (b.size : Int) = 1 := by omega
  have hb0 := bat_eq (s := b) (i := 0) (by omega)
  have hvs : b[0].toNat = v := by rw [← hb0]; exact hv
  have hvl : v ≤ 255 := by have := bat_lt b 0; omega
  clear hb0 hv
  by_cases hn0 : n = 0
  · have hn0I : (n : Int) = 0 := by omega
    obtain ⟨g, hg⟩ : ∃ g, (if 8 = 1 then 255 * (1 - v) else v) = g := ⟨_, rfl⟩
    have he : sunEnt s ⟨W, H, 8, t, n⟩ v = some (qgray g) := by rw [← hg]; unfold sunEnt; exact if_pos hn0
    have hgl : g ≤ 255 := by simp at hg; omega
    have hgI : (v : Int) = (g : Int) := by simp at hg; omega
    have HG := Lib.hid (fun w => refGrayC hgl w)
    have HE := Lib.hid he
    unfold Qc.v qgray at HG
    clear he hg
    go_wp2_with (first | (go_at_call 146; refine (HG.out _).mono ?_; rintro e w2 ⟨rfl, b2⟩; have I2 := HI.out.below b2; clear a2 a3 a4 c0 c1 c2 c3 z0 z1 z2 z3 al cl; obtain ⟨a2, a3, a4, c0, c1, c2, c3, z0, z1, z2, z3, al, cl⟩ := I2.all) | fail)
    exact bodyPost_ret (v := .tuple #[Qc.v (qgray g), .bool true]) (by simp [results, Tryz.results70, go_sem, Qc.v, qgray, c0, c1, c2, c3]) rfl ⟨by rw [HE.out]; rfl, I2.fin⟩
  · have hn0I : ¬ (n : Int) = 0 := by omega
    by_cases hvn : v < n
    · have hvnI : ¬ (n : Int) ≤ (v : Int) := by omega
      have hvnN : ¬ n ≤ v := by omega
      have he : sunEnt s ⟨W, H, 8, t, n⟩ v = some ⟨b8 s (32 + v), b8 s (32 + n + v), b8 s (32 + 2 * n + v), 255⟩ := by unfold sunEnt; simp only; rw [if_neg hn0, if_pos hvn]
      have HE := Lib.hid he
      obtain ⟨i0, e0⟩ : ∃ i, 32 + v = i := ⟨_, rfl⟩
      obtain ⟨i1, e1⟩ : ∃ i, 32 + n + v = i := ⟨_, rfl⟩
      obtain ⟨i2, e2⟩ : ∃ i, 32 + 2 * n + v = i := ⟨_, rfl⟩
      rw [e0, e1, e2] at HE
      have q0 : 32 + (v : Int) = (i0 : Int) := by omega
      have q1 : 32 + (n : Int) + (v : Int) = (i1 : Int) := by omega
      have q2 : 32 + 2 * (n : Int) + (v : Int) = (i2 : Int) := by omega
      have l0 : i0 < s.size := by omega
      have l1 : i1 < s.size := by omega
      have l2 : i2 < s.size := by omega
      have l0I : (i0 : Int) < (s.size : Int) := by omega
      have l1I : (i1 : Int) < (s.size : Int) := by omega
      have l2I : (i2 : Int) < (s.size : Int) := by omega
      have t0 := b8_eq l0
      have t1 := b8_eq l1
      have t2 := b8_eq l2
      have HT := Lib.hid (And.intro t0 (And.intro t1 t2))
      clear he e0 e1 e2 t0 t1 t2
      go_wp2_with fail
      go_region
      go_wp2_with fail
      exact bodyPost_ret (v := .tuple #[Qc.v ⟨s[i0], s[i1], s[i2], 255⟩, .bool true]) (by simp [results, Tryz.results70, go_sem, Qc.v, c0, c1, c2, c3]) rfl ⟨by rw [HE.out, HT.out.1, HT.out.2.1, HT.out.2.2]; rfl, HI.out.fin.drew⟩
    · have hvnI : (n : Int) ≤ (v : Int) := by omega
      have hvnN : n ≤ v := by omega
      have he : sunEnt s ⟨W, H, 8, t, n⟩ v = none := by unfold sunEnt; simp only; rw [if_neg hn0, if_neg hvn]
      have HE := Lib.hid he
      clear he
      go_wp2_with fail
      exact bodyPost_ret (v := .tuple #[Qc.v ⟨0, 0, 0, 0⟩, .bool false]) (by simp [results, Tryz.results70, go_sem, Qc.v, c0, c1, c2, c3]) rfl ⟨by rw [HE.out]; rfl, HI.out.fin⟩
set_option maxHeartbeats 2000000 in
theorem refSunPix1 {s b : ByteArray} {W H t n x v : Nat} (hb : b.size = 1) (hsm : s.size ≤ 1099511627776) (hn : n ≤ 256) (hs : 32 + 3 * n ≤ s.size) (hv : bat b 0 / 2 ^ (7 - x % 8) % 2 = v) (w : World) :
    Calls Tryz.prog 70 #[.string s, hdV (W : Int) (H : Int) ((1 : Nat) : Int) (t : Int) (n : Int) 0 0, .string b, .int .i64 (x : Int)] w fun e w' => e = .returned (.tuple #[Qc.v ((sunEnt s ⟨W, H, 1, t, n⟩ v).getD ⟨0, 0, 0, 0⟩), .bool (sunEnt s ⟨W, H, 1, t, n⟩ v).isSome]) ∧ Below w.heap.size w w' := by
  have I0 := PxI.new w W H 1 t n
  unfold hdV hd7
  go_enter Tryz.func70, Tryz.ntmps70
  go_upto_region 1 with fail
  generalize hws : (w.alloc (.cells #[.int .i64 (W : Int), .int .i64 (H : Int), .int .i64 ((1 : Nat) : Int), .int .i64 (t : Int), .int .i64 (n : Int), .int .i64 0, .int .i64 0] 93)).alloc (.cells #[.int .u8 0, .int .u8 0, .int .u8 0, .int .u8 0] 131) = ws at I0 ⊢
  have HI := Lib.hid I0
  clear I0 hws
  obtain ⟨a2, a3, a4, c0, c1, c2, c3, z0, z1, z2, z3, al, cl⟩ := HI.out.all
  have hbI : (b.size : Int) = 1 := by omega
  have hb0 := bat_eq (s := b) (i := 0) (by omega)
  obtain ⟨X, hX⟩ : ∃ X, bat b 0 = X := ⟨_, rfl⟩
  have hXl : X < 256 := by rw [← hX]; exact bat_lt _ _
  have hXs : b[0].toNat = X := by rw [← hX, hb0]
  rw [hX] at hv
  obtain ⟨j, hj⟩ : ∃ j, 7 - x % 8 = j := ⟨_, rfl⟩
  have hjI : 7 - (x : Int) % 8 = (j : Int) := by omega
  obtain ⟨q, hq⟩ : ∃ q, 2 ^ j = q := ⟨_, rfl⟩
  have HPW := Lib.hid (fun w => refPower_any j w (by omega))
  rw [hq] at HPW
  have hq1 : 1 ≤ q := by rw [← hq]; exact Nat.one_le_two_pow
  have hqI : ¬ (q : Int) = 0 := by omega
  rw [hj, hq] at hv
  obtain ⟨y, hy⟩ : ∃ y, X / q = y := ⟨_, rfl⟩
  have hyI : (X : Int) / (q : Int) = (y : Int) := by rw [← Int.natCast_ediv, hy]
  have hyl : y ≤ X := by rw [← hy]; exact Nat.div_le_self _ _
  rw [hy] at hv
  have hvI : (y : Int) % 2 = (v : Int) := by omega
  have hvl : v ≤ 1 := by omega
  clear hb0 hX hj hq hy
  by_cases hn0 : n = 0
  · have hn0I : (n : Int) = 0 := by omega
    obtain ⟨g, hg⟩ : ∃ g, (if 1 = 1 then 255 * (1 - v) else v) = g := ⟨_, rfl⟩
    have he : sunEnt s ⟨W, H, 1, t, n⟩ v = some (qgray g) := by rw [← hg]; unfold sunEnt; exact if_pos hn0
    have hgl : g ≤ 255 := by simp at hg; omega
    have hgI : 255 * (1 - (v : Int)) = (g : Int) := by simp at hg; omega
    have HG := Lib.hid (fun w => refGrayC hgl w)
    have HE := Lib.hid he
    unfold Qc.v qgray at HG
    clear he hg
    go_wp2_with (first | (go_at_call 146; refine (HG.out _).mono ?_; rintro e w2 ⟨rfl, b2⟩; have I2 := HI.out.below b2; clear a2 a3 a4 c0 c1 c2 c3 z0 z1 z2 z3 al cl; obtain ⟨a2, a3, a4, c0, c1, c2, c3, z0, z1, z2, z3, al, cl⟩ := I2.all) | (go_at_call 145; refine (HPW.out _).mono ?_; rintro e w1 ⟨rfl, rfl⟩))
    exact bodyPost_ret (v := .tuple #[Qc.v (qgray g), .bool true]) (by simp [results, Tryz.results70, go_sem, Qc.v, qgray, c0, c1, c2, c3]) rfl ⟨by rw [HE.out]; rfl, I2.fin⟩
  · have hn0I : ¬ (n : Int) = 0 := by omega
    by_cases hvn : v < n
    · have hvnI : ¬ (n : Int) ≤ (v : Int) := by omega
      have hvnN : ¬ n ≤ v := by omega
      have he : sunEnt s ⟨W, H, 1, t, n⟩ v = some ⟨b8 s (32 + v), b8 s (32 + n + v), b8 s (32 + 2 * n + v), 255⟩ := by unfold sunEnt; simp only; rw [if_neg hn0, if_pos hvn]
      have HE := Lib.hid he
      obtain ⟨i0, e0⟩ : ∃ i, 32 + v = i := ⟨_, rfl⟩
      obtain ⟨i1, e1⟩ : ∃ i, 32 + n + v = i := ⟨_, rfl⟩
      obtain ⟨i2, e2⟩ : ∃ i, 32 + 2 * n + v = i := ⟨_, rfl⟩
      rw [e0, e1, e2] at HE
      have q0 : 32 + (v : Int) = (i0 : Int) := by omega
      have q1 : 32 + (n : Int) + (v : Int) = (i1 : Int) := by omega
      have q2 : 32 + 2 * (n : Int) + (v : Int) = (i2 : Int) := by omega
      have l0 : i0 < s.size := by omega
      have l1 : i1 < s.size := by omega
      have l2 : i2 < s.size := by omega
      have l0I : (i0 : Int) < (s.size : Int) := by omega
      have l1I : (i1 : Int) < (s.size : Int) := by omega
      have l2I : (i2 : Int) < (s.size : Int) := by omega
      have t0 := b8_eq l0
      have t1 := b8_eq l1
      have t2 := b8_eq l2
      have HT := Lib.hid (And.intro t0 (And.intro t1 t2))
      clear he e0 e1 e2 t0 t1 t2
      go_wp2_with (go_at_call 145; refine (HPW.out _).mono ?_; rintro e w1 ⟨rfl, rfl⟩)
      go_region
      go_wp2_with fail
      exact bodyPost_ret (v := .tuple #[Qc.v ⟨s[i0], s[i1], s[i2], 255⟩, .bool true]) (by simp [results, Tryz.results70, go_sem, Qc.v, c0, c1, c2, c3]) rfl ⟨by rw [HE.out, HT.out.1, HT.out.2.1, HT.out.2.2]; rfl, HI.out.fin.drew⟩
    · have hvnI : (n : Int) ≤ (v : Int) := by omega
      have hvnN : n ≤ v := by omega
      have he : sunEnt s ⟨W, H, 1, t, n⟩ v = none := by unfold sunEnt; simp only; rw [if_neg hn0, if_neg hvn]
      have HE := Lib.hid he
      clear he
      go_wp2_with (go_at_call 145; refine (HPW.out _).mono ?_; rintro e w1 ⟨rfl, rfl⟩)
      exact bodyPost_ret (v := .tuple #[Qc.v ⟨0, 0, 0, 0⟩, .bool false]) (by simp [results, Tryz.results70, go_sem, Qc.v, c0, c1, c2, c3]) rfl ⟨by rw [HE.out]; rfl, HI.out.fin⟩
end Go.Proofs.YtccldalagbfmhaaGreat
