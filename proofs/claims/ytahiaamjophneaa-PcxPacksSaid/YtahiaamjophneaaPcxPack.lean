/- pcx.Pack and the reference's Pack: both are the packets of PackLaw. -/
import Derived.Test.YtahiaamjophneaaWords
import Derived.Test.YtahiaamjophneaaPackLaw
namespace Go.Proofs.Ytahiaamjophneaa
open Go.RowKit
set_option linter.unusedVariables false

set_option maxHeartbeats 1000000 in
theorem pcxPack_any (s : ByteArray) (w : World) (hs : s.size ≤ 1073741824) :
    Calls Try.prog 24 #[.string s] w fun e w' => e = .returned (.string (strOf (pcxPack s.data.toList))) ∧ Below w.heap.size w w' := by
  go_enter Try.func24, Try.ntmps24
  go_wp2_with fail
  go_loopg [0, 3, 4] s.size (fun g row out n wr => ∃ (r : ByteArray) (acc : List UInt8), row = .string r ∧ r.size = g ∧ r.size ≤ s.size ∧ acc.length + 2 * r.size ≤ 2 * s.size ∧ Owns8 wr w.heap.size out acc ∧ Hid (acc ++ pcxPack r.data.toList = pcxPack s.data.toList) ∧ Below w.heap.size w wr)
  case atStart => exact ⟨s, [], rfl, rfl, by omega, by simp, Owns8.nil _ _, Lib.hid rfl, Below.refl _ _⟩
  case round =>
    obtain ⟨r, acc, rfl, rfl, hr, hal, hown, hacc, hb⟩ := hrel
    by_cases h0 : 0 < r.size
    · go_upto_block 2 with fail
      go_cut [4] (fun n wc => ∃ k m : Nat, n = .int .i64 k ∧ IsRun 63 r.data.toList k ∧ wc = wr.drewN m)
      case first =>
        go_wp2_with fail
        go_loopg [4] 62 (fun g n w2 => ∃ k m : Nat, 63 = k + g ∧ 1 ≤ k ∧ k ≤ r.size ∧ k ≤ 63 ∧ n = .int .i64 k ∧ Hid (∀ j, j < k → r.data.toList[j]? = r.data.toList[0]?) ∧ w2 = wr.drewN m)
        case atStart => exact ⟨1, 0, by omega, by omega, by omega, by omega, rfl, Lib.hid (fun j hj => by rw [show j = 0 by omega]), rfl⟩
        case round =>
          obtain ⟨k, m, hg, hk1, hk2, hk3, rfl, hsame, rfl⟩ := hrel
          by_cases h63 : (63 : Int) < (r.size : Int)
          all_goals
            by_cases hlt : k < r.size ∧ k < 63
            · obtain ⟨l1, l2⟩ := hlt
              have l3 : (k : Int) < (r.size : Int) := by omega
              have l4 : (k : Int) < 63 := by omega
              have g1 := Lib.hid (get_list l1)
              have g0 := Lib.hid (get_list h0)
              cases hc : ((r[k].toNat : Int) == (r[0].toNat : Int))
              · go_wp2_with fail
                go_quiet (fail)
                go_wp2_with fail
                go_meet
                case rel =>
                  exact ⟨k, _, rfl, ⟨hk1, hk3, by rw [list_len]; omega, hsame.out, fun _ _ => by
                    rw [g1.out, g0.out]
                    intro e
                    have e' : r[k] = r[0] := Option.some.inj e
                    rw [e'] at hc
                    simp at hc⟩, World.drewN_drewN _ _ _⟩
              · go_wp2_with fail
                go_quiet (fail)
                go_wp2_with fail
                go_roundg (62 - k)
                case measure => omega
                case rel =>
                  exact ⟨k + 1, _, by omega, by omega, by omega, by omega, by go_num, Lib.hid (by
                    intro j hj
                    rcases Nat.lt_succ_iff_lt_or_eq.1 hj with h | rfl
                    · exact hsame.out j h
                    · rw [g1.out, g0.out]
                      have e' : (r[j].toNat : Int) = (r[0].toNat : Int) := by simpa using hc
                      have e2 : r[j] = r[0] := UInt8.toNat.inj (by omega)
                      rw [e2]), rfl⟩
            · have q1 : k = r.size ∨ k = 63 := by omega
              have q2 : decide ((k : Int) < 63) = false ∨ decide (k < r.size) = false := by
                rcases q1 with q | q
                · exact .inr (decide_eq_false (by omega))
                · exact .inl (decide_eq_false (by omega))
              have q3 : (k : Int) < 63 ∨ ¬ (k : Int) < 63 := by omega
              first
                | (have l4 : decide ((k : Int) < 63) = false := decide_eq_false (by omega)
                   go_wp2_with fail
                   go_quiet (fail)
                   go_wp2_with fail
                   go_meet
                   case rel => exact ⟨k, _, rfl, ⟨hk1, hk3, by rw [list_len]; omega, hsame.out, fun a b => by rw [list_len] at b; omega⟩, World.drewN_drewN _ _ _⟩)
                | (have l4 : decide (k < r.size) = false := decide_eq_false (by omega)
                   go_wp2_with fail
                   go_quiet (fail)
                   go_wp2_with fail
                   go_meet
                   case rel => exact ⟨k, _, rfl, ⟨hk1, hk3, by rw [list_len]; omega, hsame.out, fun a b => by rw [list_len] at b; omega⟩, World.drewN_drewN _ _ _⟩)
      case rest =>
        obtain ⟨k, m, rfl, hrun, rfl⟩ := hcut
        have k1 := hrun.pos
        have k2 := hrun.le
        have k3 := hrun.len
        rw [list_len] at k3
        have g0 := Lib.hid (get_list h0)
        have cons := Lib.hid (pcxPack_cons hrun (get_list h0))
        have hz := hb.size
        have hd : (r.extract k r.size).size = r.size - k := by simp
        have hd2 := Lib.hid (extract_drop r k)
        obtain ⟨pb, pb1, pb2⟩ : ∃ b : UInt8, Hid (b = UInt8.ofNat (192 + k)) ∧ Hid ((b.toNat : Int) = 192 + (k : Int)) := ⟨_, rfl, by show ((UInt8.ofNat (192 + k)).toNat : Int) = _; rw [ofNat8 (by omega)]; omega⟩
        by_cases cc : (1 : Int) < (k : Int) ∨ (192 : Int) ≤ (r[0].toNat : Int)
        · have hh : Hid (pcxHead k r[0] = [pb, r[0]]) := Lib.hid (by rw [pcxHead, if_pos (by omega), pb1.out])
          by_cases c1 : (1 : Int) < (k : Int)
          · clear cc
            go_wp2_with (first | (at_builtin; refine wpList_append_byte rfl (.tmp 30) (.tmp 34) rfl w.heap.size _ acc rfl ((hown.drewN _).alloc _) _ rfl pb ?_ ?_ ?_ ?_; (exact (cell_new _ _ _ 0 _ rfl).trans (by rw [pb2.out]; rfl)); (omega); (simp; omega); intro v1 w1 own1 hb1 _; have hb1' := ((below_drewN hb m).alloc (by simp; omega) _).trans hb1) | (at_builtin; refine wpList_append_byte rfl (.tmp 36) (.tmp 39) rfl w.heap.size _ _ rfl (own1.alloc _) _ rfl r[0] ?_ ?_ ?_ ?_; (exact cell_new _ _ _ 0 _ rfl); (simp; omega); (have := hb1'.size; simp; omega); intro v2 w2 own2 hb2 _; have hb2' := (hb1'.alloc hb1'.size _).trans hb2))
            go_roundg (r.size - k)
            case measure => omega
            case rel =>
              refine ⟨_, _, rfl, hd, by omega, by simp; omega, own2, Lib.hid ?_, hb2'⟩
              rw [← hacc.out, cons.out, hh.out, hd2.out]
              simp
          · have c2 : (192 : Int) ≤ (r[0].toNat : Int) := by omega
            clear cc
            go_wp2_with (first | (at_builtin; refine wpList_append_byte rfl (.tmp 30) (.tmp 34) rfl w.heap.size _ acc rfl ((hown.drewN _).alloc _) _ rfl pb ?_ ?_ ?_ ?_; (exact (cell_new _ _ _ 0 _ rfl).trans (by rw [pb2.out]; rfl)); (omega); (simp; omega); intro v1 w1 own1 hb1 _; have hb1' := ((below_drewN hb m).alloc (by simp; omega) _).trans hb1) | (at_builtin; refine wpList_append_byte rfl (.tmp 36) (.tmp 39) rfl w.heap.size _ _ rfl (own1.alloc _) _ rfl r[0] ?_ ?_ ?_ ?_; (exact cell_new _ _ _ 0 _ rfl); (simp; omega); (have := hb1'.size; simp; omega); intro v2 w2 own2 hb2 _; have hb2' := (hb1'.alloc hb1'.size _).trans hb2))
            go_roundg (r.size - k)
            case measure => omega
            case rel =>
              refine ⟨_, _, rfl, hd, by omega, by simp; omega, own2, Lib.hid ?_, hb2'⟩
              rw [← hacc.out, cons.out, hh.out, hd2.out]
              simp
        · have hh : Hid (pcxHead k r[0] = [r[0]]) := Lib.hid (by rw [pcxHead, if_neg (by omega)])
          have c1 : ¬ (1 : Int) < (k : Int) := by omega
          have c2 : ¬ (192 : Int) ≤ (r[0].toNat : Int) := by omega
          clear cc
          go_wp2_with ((at_builtin; refine wpList_append_byte rfl (.tmp 36) (.tmp 39) rfl w.heap.size _ acc rfl ((hown.drewN _).alloc _) _ rfl r[0] ?_ ?_ ?_ ?_; (exact cell_new _ _ _ 0 _ rfl); (omega); (simp; omega); intro v2 w2 own2 hb2 _; have hb2' := ((below_drewN hb m).alloc (by simp; omega) _).trans hb2))
          go_roundg (r.size - k)
          case measure => omega
          case rel =>
            refine ⟨_, _, rfl, hd, by omega, by simp; omega, own2, Lib.hid ?_, hb2'⟩
            rw [← hacc.out, cons.out, hh.out, hd2.out]
            simp
    · go_wp2_with (refine wpList_convert_owned rfl (.tmp 44) 9 Try.underlying9 rfl _ _ _ rfl hown ?_)
      go_ret
      have : r.data.toList = [] := List.eq_nil_of_length_eq_zero (by rw [list_len]; omega)
      have hacc' := hacc.out
      rw [this, pcxPack_nil, List.append_nil] at hacc'
      exact ⟨ret1 (vstr (by rw [hacc'])), hb⟩

set_option maxHeartbeats 1000000 in
theorem pcxRef_any (s : ByteArray) (w : World) (hs : s.size ≤ 1073741824) :
    Calls Try.prog 25 #[.string s] w fun e w' => e = .returned (.string (strOf (pcxPack s.data.toList))) ∧ Below w.heap.size w w' := by
  go_enter Try.func25, Try.ntmps25
  go_wp2_with fail
  go_loopg [3, 4, 5] s.size (fun g out i n wr => ∃ (q : Nat) (acc : List UInt8), out = .string (strOf acc) ∧ i = .int .i64 q ∧ q + g = s.size ∧ acc.length ≤ 2 * q ∧ Hid (acc ++ pcxPack (s.data.toList.drop q) = pcxPack s.data.toList) ∧ Below w.heap.size w wr)
  case atStart => exact ⟨0, [], rfl, rfl, by omega, by simp, Lib.hid rfl, Below.refl _ _⟩
  case round =>
    obtain ⟨q, acc, rfl, rfl, hq, hal, hacc, hb⟩ := hrel
    by_cases h0 : q < s.size
    · go_upto_block 2 with fail
      go_cut [5] (fun n wc => ∃ k m : Nat, n = .int .i64 k ∧ IsRun 63 (s.data.toList.drop q) k ∧ wc = wr.drewN m)
      case first =>
        go_wp2_with fail
        go_loopg [5] 62 (fun g n w2 => ∃ k m : Nat, 63 = k + g ∧ 1 ≤ k ∧ q + k ≤ s.size ∧ k ≤ 63 ∧ n = .int .i64 k ∧ Hid (∀ j, j < k → s.data.toList[q + j]? = s.data.toList[q]?) ∧ w2 = wr.drewN m)
        case atStart => exact ⟨1, 0, by omega, by omega, by omega, by omega, rfl, Lib.hid (fun j hj => by rw [show j = 0 by omega]; rfl), rfl⟩
        case round =>
          obtain ⟨k, m, hg, hk1, hk2, hk3, rfl, hsame, rfl⟩ := hrel
          have e1 := Lib.hid (IntWalk.i64_in ((q : Int) + (k : Int)) (by omega))
          have e2 : ((q : Int) + (k : Int)).toNat = q + k := by omega
          have e3 := Lib.hid e2
          have e4 : (0 : Int) ≤ (q : Int) + (k : Int) := by omega
          have ex : k = 63 ∨ q + k = s.size → IsRun 63 (s.data.toList.drop q) k := fun h => ⟨hk1, hk3, by rw [List.length_drop, list_len]; omega, fun j hj => by rw [List.getElem?_drop, List.getElem?_drop]; exact hsame.out j hj, fun a b => by rw [List.length_drop, list_len] at b; omega⟩
          have hex := Lib.hid ex
          clear e2 ex
          by_cases l4 : (k : Int) < 63
          · by_cases l1 : q + k < s.size
            · have l3 : (q : Int) + (k : Int) < (s.size : Int) := by omega
              have g1 := Lib.hid (get_list l1)
              have g0 := Lib.hid (get_list h0)
              cases hc : ((s[q + k].toNat : Int) == (s[q].toNat : Int))
              · have e1' := e1.out
                have e3' := e3.out
                go_wp2_with fail
                go_quiet (fail)
                clear e1'
                go_wp2_with fail
                go_meet
                case rel =>
                  exact ⟨k, _, rfl, ⟨hk1, hk3, by rw [List.length_drop, list_len]; omega, fun j hj => by rw [List.getElem?_drop, List.getElem?_drop]; exact hsame.out j hj, fun _ _ => by
                    rw [List.getElem?_drop, List.getElem?_drop, g1.out, Nat.add_zero, g0.out]
                    intro e
                    have e' : s[q + k] = s[q] := Option.some.inj e
                    rw [e'] at hc
                    simp at hc⟩, World.drewN_drewN _ _ _⟩
              · have e1' := e1.out
                have e3' := e3.out
                go_wp2_with fail
                go_quiet (fail)
                clear e1'
                go_wp2_with fail
                go_roundg (62 - k)
                case measure => omega
                case rel =>
                  exact ⟨k + 1, _, by omega, by omega, by omega, by omega, by go_num, Lib.hid (by
                    intro j hj
                    rcases Nat.lt_succ_iff_lt_or_eq.1 hj with h | rfl
                    · exact hsame.out j h
                    · rw [g1.out, g0.out]
                      have e' : (s[q + j].toNat : Int) = (s[q].toNat : Int) := by simpa using hc
                      have e2 : s[q + j] = s[q] := UInt8.toNat.inj (by omega)
                      rw [e2]), rfl⟩
            · have l3 : decide ((q : Int) + (k : Int) < (s.size : Int)) = false := decide_eq_false (by omega)
              have e1' := e1.out
              go_wp2_with fail
              go_quiet (fail)
              clear e1'
              go_wp2_with fail
              go_meet
              case rel => exact ⟨k, _, rfl, hex.out (by omega), World.drewN_drewN _ _ _⟩
          · have l5 : decide ((k : Int) < 63) = false := decide_eq_false (by omega)
            go_wp2_with fail
            go_quiet (fail)
            go_wp2_with fail
            go_meet
            case rel => exact ⟨k, _, rfl, hex.out (by omega), World.drewN_drewN _ _ _⟩
      case rest =>
        obtain ⟨k, m, rfl, hrun, rfl⟩ := hcut
        have k1 := hrun.pos
        have k2 := hrun.le
        have k3 := hrun.len
        rw [List.length_drop, list_len] at k3
        have cons := Lib.hid (pcxPack_cons hrun (x := s[q]) (by rw [List.getElem?_drop, Nat.add_zero]; exact get_list h0))
        have hz := hb.size
        have ho := Lib.hid (extract_one h0)
        have hsz : (strOf acc).size ≤ 2147483648 := by rw [strOf_size]; omega
        obtain ⟨pb, pb1, pb2⟩ : ∃ b : UInt8, Hid (b = UInt8.ofNat (192 + k)) ∧ Hid ((b.toNat : Int) = 192 + (k : Int)) := ⟨_, rfl, by show ((UInt8.ofNat (192 + k)).toNat : Int) = _; rw [ofNat8 (by omega)]; omega⟩
        have hsz1 : (strOf [pb]).size ≤ 1 := by rw [strOf_size]; simp
        by_cases cc : (1 : Int) < (k : Int) ∨ (192 : Int) ≤ (s[q].toNat : Int)
        · have hh : Hid (pcxHead k s[q] = [pb, s[q]]) := Lib.hid (by rw [pcxHead, if_pos (by omega), pb1.out])
          by_cases c1 : (1 : Int) < (k : Int)
          · clear cc
            go_wp2_with (refine wpList_convert_byte rfl (.tmp 45) 9 Try.underlying9 rfl _ 1 rfl pb ?_ ?_; (exact (cell_new _ _ _ 0 _ rfl).trans (by rw [pb2.out]; rfl)))
            go_roundg (gk - k)
            case measure => omega
            case rel =>
              refine ⟨q + k, acc ++ [pb, s[q]], ?_, by go_num, by omega, by simp; omega, Lib.hid ?_, ((below_drewN hb m).alloc (by simp; omega) _)⟩
              · rw [ho.out, strOf_append, strOf_append]; simp
              · rw [← hacc.out, cons.out, hh.out, List.drop_drop]; simp
          · have c2 : (192 : Int) ≤ (s[q].toNat : Int) := by omega
            clear cc
            go_wp2_with (refine wpList_convert_byte rfl (.tmp 45) 9 Try.underlying9 rfl _ 1 rfl pb ?_ ?_; (exact (cell_new _ _ _ 0 _ rfl).trans (by rw [pb2.out]; rfl)))
            go_roundg (gk - k)
            case measure => omega
            case rel =>
              refine ⟨q + k, acc ++ [pb, s[q]], ?_, by go_num, by omega, by simp; omega, Lib.hid ?_, ((below_drewN hb m).alloc (by simp; omega) _)⟩
              · rw [ho.out, strOf_append, strOf_append]; simp
              · rw [← hacc.out, cons.out, hh.out, List.drop_drop]; simp
        · have hh : Hid (pcxHead k s[q] = [s[q]]) := Lib.hid (by rw [pcxHead, if_neg (by omega)])
          have c1 : ¬ (1 : Int) < (k : Int) := by omega
          have c2 : ¬ (192 : Int) ≤ (s[q].toNat : Int) := by omega
          clear cc
          go_wp2_with fail
          go_roundg (gk - k)
          case measure => omega
          case rel =>
            refine ⟨q + k, acc ++ [s[q]], ?_, by go_num, by omega, by simp; omega, Lib.hid ?_, below_drewN hb m⟩
            · rw [ho.out, strOf_append]
            · rw [← hacc.out, cons.out, hh.out, List.drop_drop]; simp
    · go_wp2_with fail
      go_ret
      obtain rfl : q = s.size := by omega
      have hacc' := hacc.out
      rw [List.drop_of_length_le (by rw [list_len]; omega), pcxPack_nil, List.append_nil] at hacc'
      exact ⟨ret1 (vstr (by rw [hacc'])), hb⟩
end Go.Proofs.Ytahiaamjophneaa
