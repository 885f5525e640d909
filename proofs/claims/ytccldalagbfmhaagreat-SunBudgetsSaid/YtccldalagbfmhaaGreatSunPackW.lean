/- sun.Pack and the reference's Pack: both are the packets of PackLaw. The walk of SunPacks. -/
import Derived.Test.YtccldalagbfmhaaGreatWrA
import Derived.Test.YtccldalagbfmhaaGreatPackLaw
namespace Go.Proofs.YtccldalagbfmhaaGreat
open Go.RowKit
set_option linter.unusedVariables false

set_option maxHeartbeats 1000000 in
theorem sunPack_any (s : ByteArray) (w : World) (hs : s.size ≤ 1073741824) :
    Calls Tryz.prog 57 #[.string s] w fun e w' => e = .returned (.string (strOf (sunPack s.data.toList))) ∧ Below w.heap.size w w' := by
  go_enter Tryz.func57, Tryz.ntmps57
  go_wp2_with fail
  go_loopg [0, 3, 4] s.size (fun g row out n wr => ∃ (r : ByteArray) (acc : List UInt8), row = .string r ∧ r.size = g ∧ r.size ≤ s.size ∧ acc.length + 2 * r.size ≤ 2 * s.size ∧ Owns8 wr w.heap.size out acc ∧ Hid (acc ++ sunPack r.data.toList = sunPack s.data.toList) ∧ Below w.heap.size w wr)
  case atStart => exact ⟨s, [], rfl, rfl, by omega, by simp, Owns8.nil _ _, Lib.hid rfl, Below.refl _ _⟩
  case round =>
    obtain ⟨r, acc, rfl, rfl, hr, hal, hown, hacc, hb⟩ := hrel
    by_cases h0 : 0 < r.size
    · go_upto_block 2 with fail
      go_cut [4] (fun n wc => ∃ k m : Nat, n = .int .i64 k ∧ IsRun 256 r.data.toList k ∧ wc = wr.drewN m)
      case first =>
        go_wp2_with fail
        go_loopg [4] 255 (fun g n w2 => ∃ k m : Nat, 256 = k + g ∧ 1 ≤ k ∧ k ≤ r.size ∧ k ≤ 256 ∧ n = .int .i64 k ∧ Hid (∀ j, j < k → r.data.toList[j]? = r.data.toList[0]?) ∧ w2 = wr.drewN m)
        case atStart => exact ⟨1, 0, by omega, by omega, by omega, by omega, rfl, Lib.hid (fun j hj => by rw [show j = 0 by omega]), rfl⟩
        case round =>
          obtain ⟨k, m, hg, hk1, hk2, hk3, rfl, hsame, rfl⟩ := hrel
          by_cases h63 : (256 : Int) < (r.size : Int)
          all_goals
            by_cases hlt : k < r.size ∧ k < 256
            · obtain ⟨l1, l2⟩ := hlt
              have l3 : (k : Int) < (r.size : Int) := by omega
              have l4 : (k : Int) < 256 := by omega
              have g1 := Lib.hid (get_list l1)
              have g0 := Lib.hid (get_list h0)
              cases hc : ((r[k].toNat : Int) == (r[0].toNat : Int))
              · go_wp2_with fail
                go_quiet (fail)
                go_wp2_with fail
                go_meet
                case rel =>
                  exact ⟨k, _, rfl, ⟨hk1, hk3, by rw [list_len]; omega, hsame.out, fun _ _ => by
                    rw [g1.out, g0.out]
                    intro e
                    have e' : r[k] = r[0] := Option.some.inj e
                    rw [e'] at hc
                    simp at hc⟩, World.drewN_drewN _ _ _⟩
              · go_wp2_with fail
                go_quiet (fail)
                go_wp2_with fail
                go_roundg (255 - k)
                case measure => omega
                case rel =>
                  exact ⟨k + 1, _, by omega, by omega, by omega, by omega, by go_num, Lib.hid (by
                    intro j hj
                    rcases Nat.lt_succ_iff_lt_or_eq.1 hj with h | rfl
                    · exact hsame.out j h
                    · rw [g1.out, g0.out]
                      have e' : (r[j].toNat : Int) = (r[0].toNat : Int) := by simpa using hc
                      have e2 : r[j] = r[0] := UInt8.toNat.inj (by omega)
                      rw [e2]), rfl⟩
            · have q1 : k = r.size ∨ k = 256 := by omega
              have q2 : decide ((k : Int) < 256) = false ∨ decide (k < r.size) = false := by
                rcases q1 with q | q
                · exact .inr (decide_eq_false (by omega))
                · exact .inl (decide_eq_false (by omega))
              have q3 : (k : Int) < 256 ∨ ¬ (k : Int) < 256 := by omega
              first
                | (have l4 : decide ((k : Int) < 256) = false := decide_eq_false (by omega)
                   go_wp2_with fail
                   go_quiet (fail)
                   go_wp2_with fail
                   go_meet
                   case rel => exact ⟨k, _, rfl, ⟨hk1, hk3, by rw [list_len]; omega, hsame.out, fun a b => by rw [list_len] at b; omega⟩, World.drewN_drewN _ _ _⟩)
                | (have l4 : decide (k < r.size) = false := decide_eq_false (by omega)
                   go_wp2_with fail
                   go_quiet (fail)
                   go_wp2_with fail
                   go_meet
                   case rel => exact ⟨k, _, rfl, ⟨hk1, hk3, by rw [list_len]; omega, hsame.out, fun a b => by rw [list_len] at b; omega⟩, World.drewN_drewN _ _ _⟩)
      case rest =>
        obtain ⟨k, m, rfl, hrun, rfl⟩ := hcut
        have k1 := hrun.pos
        have k2 := hrun.le
        have k3 := hrun.len
        rw [list_len] at k3
        have g0 := Lib.hid (get_list h0)
        have cons := Lib.hid (sunPack_cons hrun (get_list h0))
        have hz := hb.size
        have hd : (r.extract k r.size).size = r.size - k := by simp
        have hd2 := Lib.hid (extract_drop r k)
        obtain ⟨pb, pb1, pb2⟩ : ∃ b : UInt8, Hid (b = UInt8.ofNat (k - 1)) ∧ Hid ((b.toNat : Int) = (k : Int) - 1) := ⟨_, rfl, by show ((UInt8.ofNat (k - 1)).toNat : Int) = _; rw [ofNat8 (by omega)]; omega⟩
        have hs0 := Lib.hid (show (r.extract 0 k).size = k by simp; omega)
        have ht0 := Lib.hid (extract_take r k)
        have hrep := Lib.hid (run_take hrun (get_list h0))
        by_cases c1 : (2 : Int) < (k : Int)
        · have hh : Hid (sunPkHead k r[0] = [128, pb, r[0]]) := Lib.hid (by rw [sunPkHead, if_pos (by omega), pb1.out])
          go_wp2_with (at_builtin; refine wpList_append_lit rfl (.tmp 40) (.tmp 46) rfl w.heap.size _ acc rfl ((hown.drewN _).alloc _) _ 3 3 rfl [128, pb, r[0]] rfl _ (heap_alloc_new _ _) ?_ ?_ ?_ ?_; (show [Value.int .u8 128, Value.int .u8 ((k : Int) - 1), _] = [Value.int .u8 128, Value.int .u8 (pb.toNat : Int), _]; rw [pb2.out]); (omega); (simp; omega); intro v2 w2 own2 hb2 _; have hb2' := ((below_drewN hb m).alloc (by simp; omega) _).trans hb2)
          go_roundg (r.size - k)
          case measure => omega
          case rel =>
            refine ⟨_, _, rfl, hd, by omega, by simp; omega, own2, Lib.hid ?_, hb2'⟩
            rw [← hacc.out, cons.out, hh.out, hd2.out]
            simp
        have x8 : (r[0].toNat : Int) = 128 ↔ r[0] = 128 := ⟨fun h => UInt8.toNat.inj (by have e : (128 : UInt8).toNat = 128 := rfl; omega), fun h => by rw [h]; rfl⟩
        have x8' := Lib.hid x8
        clear x8
        cases hx : ((r[0].toNat : Int) == 128)
        · have hne : ¬ r[0] = 128 := fun h => by rw [h] at hx; simp at hx
          have hh : Hid (sunPkHead k r[0] = List.replicate k r[0]) := Lib.hid (by rw [sunPkHead, if_neg (by rintro (h | ⟨_, h⟩); omega; exact hne h), if_neg hne])
          have hx' := Lib.hid hne
          clear hne
          by_cases c2 : (1 : Int) < (k : Int)
          all_goals
            go_wp2_with (at_builtin; refine wpList_append_str rfl (.tmp 23) (.tmp 26) rfl w.heap.size _ acc rfl (hown.drewN _) (r.extract 0 k) rfl ?_ ?_ ?_; (rw [hs0.out]; omega); (simp; omega); intro v2 w2 own2 hb2 _; have hb2' := (below_drewN hb m).trans hb2)
            go_roundg (r.size - k)
            case measure => omega
            case rel =>
              refine ⟨_, _, rfl, hd, by omega, ?_, own2, Lib.hid ?_, hb2'⟩
              · rw [List.length_append, list_len, hs0.out]; omega
              · rw [← hacc.out, cons.out, hh.out, hd2.out, ht0.out, hrep.out]; simp
        · have heq : r[0] = 128 := x8'.out.1 (by simpa using hx)
          by_cases c2 : (1 : Int) < (k : Int)
          · have hh : Hid (sunPkHead k r[0] = [128, pb, r[0]]) := Lib.hid (by rw [sunPkHead, if_pos (.inr ⟨by omega, heq⟩), pb1.out])
            have heq' := Lib.hid heq
            clear heq
            go_wp2_with (at_builtin; refine wpList_append_lit rfl (.tmp 40) (.tmp 46) rfl w.heap.size _ acc rfl ((hown.drewN _).alloc _) _ 3 3 rfl [128, pb, r[0]] rfl _ (heap_alloc_new _ _) ?_ ?_ ?_ ?_; (show [Value.int .u8 128, Value.int .u8 ((k : Int) - 1), _] = [Value.int .u8 128, Value.int .u8 (pb.toNat : Int), _]; rw [pb2.out]); (omega); (simp; omega); intro v2 w2 own2 hb2 _; have hb2' := ((below_drewN hb m).alloc (by simp; omega) _).trans hb2)
            go_roundg (r.size - k)
            case measure => omega
            case rel =>
              refine ⟨_, _, rfl, hd, by omega, by simp; omega, own2, Lib.hid ?_, hb2'⟩
              rw [← hacc.out, cons.out, hh.out, hd2.out]
              simp
          · have hh : Hid (sunPkHead k r[0] = [128, 0]) := Lib.hid (by rw [sunPkHead, if_neg (by rintro (h | ⟨h, _⟩) <;> omega), if_pos heq])
            have heq' := Lib.hid heq
            clear heq
            go_wp2_with (at_builtin; refine wpList_append_lit rfl (.tmp 52) (.tmp 53) rfl w.heap.size _ acc rfl ((hown.drewN _).alloc _) _ 2 2 rfl [128, 0] rfl _ (heap_alloc_new _ _) rfl ?_ ?_ ?_; (omega); (simp; omega); intro v2 w2 own2 hb2 _; have hb2' := ((below_drewN hb m).alloc (by simp; omega) _).trans hb2)
            go_roundg (r.size - k)
            case measure => omega
            case rel =>
              refine ⟨_, _, rfl, hd, by omega, by simp; omega, own2, Lib.hid ?_, hb2'⟩
              rw [← hacc.out, cons.out, hh.out, hd2.out]
              simp
    · go_wp2_with (refine wpList_convert_owned rfl (.tmp 58) 9 Tryz.underlying9 rfl _ _ _ rfl hown ?_)
      go_ret
      have : r.data.toList = [] := List.eq_nil_of_length_eq_zero (by rw [list_len]; omega)
      have hacc' := hacc.out
      rw [this, sunPack_nil, List.append_nil] at hacc'
      exact ⟨ret1 (vstr (by rw [hacc'])), hb⟩


end Go.Proofs.YtccldalagbfmhaaGreat
namespace Go.Proofs.YtccldalagbfmhaaGreat
open Go.RowKit
set_option linter.unusedVariables false

theorem sunAwake (w : World) :
    Calls Tryz.prog 13 #[] w fun e w' => e = .returned (.bool true) ∧ Below w.heap.size w w' := by
  have e1 := Lib.hid sunPack_awake
  go_enter Tryz.func13, Tryz.ntmps13
  go_wp2_with fail
  refine (sunPack_any _ _ (by decide)).mono ?_
  rintro e w1 ⟨rfl, hb⟩
  rw [e1.out]
  go_wp2_with fail
  go_ret
  exact ⟨ret1 (vbool (by decide +kernel)), hb⟩

end Go.Proofs.YtccldalagbfmhaaGreat
