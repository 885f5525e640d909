/- tgahead.Bytes: a head's bytes, if it is right. -/
import Derived.Test.YtlehkgkomjojmaaGreatSq
import Derived.Test.YtlehkgkomjojmaaGreatGScaler
import Derived.Test.YtlehkgkomjojmaaGreatGTgaM
namespace Go.Proofs.YtlehkgkomjojmaaGreat
open Go.RowKit
set_option linter.unusedVariables false
set_option linter.unusedSimpArgs false

def tgaCs (L : List Nat) : Array Value := (L.map fun (v : Nat) => Value.int .u8 (v : Int)).toArray
/-- the bytes of a head without a map -/
def tgaBb (L : List Nat) : ByteArray := strOf (L.map UInt8.ofNat)
def tgaBl (m t W H q x : Nat) : List Nat := [m, 0, t, 0, 0, 0, 0, 0, 0, 0, 0, 0, W % 256, W / 256, H % 256, H / 256, q, x]
theorem tgaPutI {w : World} {k kb i j : Nat} {v : Nat} {I V : Int} {cs : Array Value} (K : Blk w kb 22 #[.slice (some ⟨k, 0, none⟩) 18 18]) (B : Blk w k 5 cs) (hI : I = (i : Int)) (hV : V = (v : Int)) (hcs : cs.size = 18) (hj : i + 1 = j) (hi : j < 18) (hv : v ≤ 65535) :
  Calls Tryz.prog 116 #[.int .i64 I, .int .i64 V, .pointer (some ⟨kb, 0, none⟩)] w fun e w' => e = .returned (.tuple #[]) ∧ Blk w' k 5 ((cs.setIfInBounds i (.int .u8 ((v % 256 : Nat) : Int))).setIfInBounds j (.int .u8 ((v / 256 : Nat) : Int))) ∧ Turn [k] w w' := by
 subst hI hV
 exact tgaByPut K B hcs hj hi hv
theorem byConv {w : World} {kx : Nat} {L : List Nat} (X : Blk w kx 5 (tgaCs L)) (h : ∀ v ∈ L, v < 256) (hl : L.length = 18) :
  (convert 22 9 (.slice (some ⟨kx, 0, none⟩) 18 18)).run Tryz.prog w = .ok (.string (tgaBb L)) w := by
 have e := run_convert_bytes_back (P := Tryz.prog) w 22 9 5 ⟨kx, 0, none⟩ 18 (L.map UInt8.ofNat) Tryz.underlying22 Tryz.underlying5 Tryz.underlying9 (fun j hj => by
  rw [show (⟨kx, 0, none⟩ : Addr).add j = ⟨kx, j, none⟩ by unfold Addr.add; split <;> simp_all]
  rw [Blk.cell X j]
  have hj' : j < L.length := by simpa using hj
  unfold tgaCs
  rw [List.getElem?_toArray, List.getElem?_map, List.getElem?_eq_getElem hj', List.getElem_map]
  show some (Value.int .u8 ((L[j] : Nat) : Int)) = some (Value.int .u8 (((UInt8.ofNat L[j]).toNat : Nat) : Int))
  rw [UInt8.toNat_ofNat_of_lt' (h _ (List.getElem_mem hj'))])
 rw [List.length_map, hl] at e
 exact e
structure ByI (w0 w : World) (kh kx kb : Nat) (C : Array Value) (L : List Nat) : Prop where
 H : Blk w kh 121 C
 X : Blk w kx 5 (tgaCs L)
 K : Blk w kb 22 #[.slice (some ⟨kx, 0, none⟩) 18 18]
 B : Below w0.heap.size w0 w
 g : w0.heap.size ≤ kx
theorem ByI.put {w0 w w' : World} {kh kx kb : Nat} {C : Array Value} {L L' : List Nat} {cs : Array Value} (I : ByI w0 w kh kx kb C L) (t : Turn [kx] w w') (X : Blk w' kx 5 cs) (e : cs = tgaCs L') : ByI w0 w' kh kx kb C L' :=
 ⟨Blk.turn I.H t (by rw [List.mem_singleton]; exact (Blk.ne_ I.H I.X (by decide))), X.eq_ e, Blk.turn I.K t (by rw [List.mem_singleton]; exact (Blk.ne_ I.K I.X (by decide))), Turn.belowNext I.B t (by simpa using I.g) I.B.size, I.g⟩
theorem ByI.below {w0 w w' : World} {kh kx kb : Nat} {C : Array Value} {L : List Nat} (I : ByI w0 w kh kx kb C L) (b : Below w.heap.size w w') : ByI w0 w' kh kx kb C L :=
 ⟨Blk.below I.H b (Blk.lt I.H), Blk.below I.X b (Blk.lt I.X), Blk.below I.K b (Blk.lt I.K), below_next I.B b, I.g⟩
theorem ByI.store {w0 w : World} {kh kx kb i : Nat} {v : Value} {C : Array Value} {L L' : List Nat} (I : ByI w0 w kh kx kb C L) (e : (tgaCs L).setIfInBounds i v = tgaCs L') : ByI w0 (w.setCell ⟨kx, i, none⟩ v) kh kx kb C L' :=
 ⟨Blk.far I.H (p := ⟨kx, i, none⟩) (Blk.ne_ I.H I.X (by decide)) v, (Blk.set_ I.X i v).eq_ e, Blk.far I.K (p := ⟨kx, i, none⟩) (Blk.ne_ I.K I.X (by decide)) v, below_set I.B I.g, I.g⟩
theorem ByI.drew {w0 w : World} {kh kx kb : Nat} {C : Array Value} {L : List Nat} (I : ByI w0 w kh kx kb C L) : ByI w0 w.drew kh kx kb C L := ⟨Blk.drew I.H, Blk.drew I.X, Blk.drew I.K, I.B.drew, I.g⟩
theorem tga_or16' : ∀ v : Fin 16, (v.1 ||| 16) = v.1 + 16 := by decide
theorem tga_or32' : ∀ v : Fin 32, (v.1 ||| 32) = v.1 + 32 := by decide
theorem or8u (a b : Nat) (ha : a < 256) (hb : b < 256) : bits .or .u8 (a : Int) (b : Int) = ((a ||| b : Nat) : Int) := by
 have hx : a ||| b < 2 ^ 8 := Nat.or_lt_two_pow (by omega) (by omega)
 show IntKind.u8.wrap ((BitVec.ofInt 8 (a : Int) ||| BitVec.ofInt 8 (b : Int)).toNat : Int) = _
 rw [BitVec.toNat_or, ofInt8_nat a ha, ofInt8_nat b hb]
 show ((a ||| b : Nat) : Int) % 256 = _
 omega
theorem tga_or16 {u x : Nat} (h : u < 16) (e : u + 16 = x) : bits .or .u8 (u : Int) 16 = (x : Int) := by
 rw [show (16 : Int) = ((16 : Nat) : Int) from rfl, or8u u 16 (by omega) (by decide), tga_or16' ⟨u, h⟩, e]
theorem tga_or32 {u x : Nat} (h : u < 32) (e : u + 32 = x) : bits .or .u8 (u : Int) 32 = (x : Int) := by
 rw [show (32 : Int) = ((32 : Nat) : Int) from rfl, or8u u 32 (by omega) (by decide), tga_or32' ⟨u, h⟩, e]
theorem tgaBb_bat {L : List Nat} (h : ∀ v ∈ L, v < 256) (i : Nat) : bat (tgaBb L) i = L.getD i 0 := by
 have e : (nats (tgaBb L)) = L := by
  show ((L.map UInt8.ofNat).toArray.toList).map UInt8.toNat = L
  rw [List.toList_toArray, List.map_map]
  conv => rhs; rw [← List.map_id L]
  exact List.map_congr_left fun v hv => UInt8.toNat_ofNat_of_lt' (h v hv)
 unfold bat
 rw [e]
theorem tgaBl_lt {m t W H q x : Nat} (hm : m < 256) (ht : t ≤ 255) (hW : W ≤ 65535) (hH : H ≤ 65535) (hq : q < 256) (hx : x < 256) : ∀ v ∈ tgaBl m t W H q x, v < 256 := by
 intro v hv
 simp only [tgaBl, List.mem_cons, List.not_mem_nil, or_false] at hv
 omega
theorem tgaBb_hd {m t W H q x u : Nat} {l p : Bool} (hm : m < 256) (ht : t ≤ 255) (hW : W ≤ 65535) (hH : H ≤ 65535) (hq : q < 256) (hu : u < 16) (hx : u + (if l then 16 else 0) + (if p then 32 else 0) = x) :
  tHdV (tgaHd (tgaBb (tgaBl m t W H q x))) = .agg #[.int .i64 (m : Int), .bool false, .int .i64 (t : Int), .int .i64 0, .int .i64 0, .int .i64 0, .int .i64 (W : Int), .int .i64 (H : Int), .int .i64 (q : Int), .int .i64 (u : Int), .bool l, .bool p] := by
 have hx8 : x < 256 := by rw [← hx]; split <;> split <;> omega
 have hb := tgaBb_bat (tgaBl_lt hm ht hW hH hq hx8)
 unfold tHdV tgaHd le2
 simp only [hb]
 have eW : W % 256 + 256 * (W / 256) = W := by omega
 have eH : H % 256 + 256 * (H / 256) = H := by omega
 have eu : x % 16 = u := by rw [← hx]; split <;> split <;> omega
 have el : decide (x / 16 % 2 = 1) = l := by
  rw [← hx]
  cases l <;> cases p <;> simp <;> omega
 have ep : decide (x / 32 % 2 = 1) = p := by
  rw [← hx]
  cases l <;> cases p <;> simp <;> omega
 simp only [tgaBl, List.getD_cons_zero, List.getD_cons_succ, eW, eH, eu, el, ep]
 rfl
theorem bwp_gen {c : Code} {Q : Exit → Act → World → Prop} {a : Act} {w : World} {S : World → Prop} (hS : S w) (h : ∀ wx, S wx → c.wp Tryz.prog Q a wx) : c.wp Tryz.prog Q a w := h w hS
def tgaByV (n d a : Int) (m t W H q u x : Nat) : Value := if firstBad (tgaChks 0 t 0 0 W H q x) = none ∧ n = (m : Int) ∧ d = (q : Int) ∧ a = (u : Int) then .tuple #[.string (tgaBb (tgaBl m t W H q x)), .int .i64 0] else .tuple #[.string ⟨#[]⟩, .int .i64 6]
set_option maxRecDepth 100000 in
set_option maxHeartbeats 4000000 in
theorem tgaBytes_ff {n d a : Int} {m t W H q u x : Nat} (hn : n % 256 = (m : Int)) (ht : t ≤ 255) (hW : W ≤ 65535) (hH : H ≤ 65535) (hd : d % 256 = (q : Int)) (ha : bits .and .i64 a 15 = (u : Int)) (hu : u < 16) (hx : u = x) (w : World) :
  Calls Tryz.prog 64 #[.agg #[.int .i64 n, .bool false, .int .i64 (t : Int), .int .i64 0, .int .i64 0, .int .i64 0, .int .i64 (W : Int), .int .i64 (H : Int), .int .i64 d, .int .i64 a, .bool false, .bool false]] w fun e w' => e = .returned (tgaByV n d a m t W H q u x) ∧ Below w.heap.size w w' := by
 have hmk := run_make_row' (P := Tryz.prog) 22 5 (.int .u8 0) 1 Tryz.underlying22 info8 rfl .i64 .i64 18 (by decide) (by decide)
 simp only [show (((18 : Nat) : Int)) = 18 from rfl] at hmk
 have hmf : ∀ (fn : Fn) (first cap : Array Value) (w : World), (Instr.makeFunc fn first cap).run Tryz.prog w = .ok (.func fn first cap) w := fun _ _ _ _ => rfl
 have hm8 : m < 256 := by omega
 have hq8 : q < 256 := by omega
 have I0 : ByI w (((w.alloc (.cells #[.int .i64 n, .bool false, .int .i64 (t : Int), .int .i64 0, .int .i64 0, .int .i64 0, .int .i64 (W : Int), .int .i64 (H : Int), .int .i64 d, .int .i64 a, .bool false, .bool false] 121)).alloc (.cells (madeCells #[.int .u8 0] 18) 5)).alloc (.cells #[.slice (some ⟨w.heap.size + 1, 0, none⟩) 18 18] 22)) w.heap.size (w.heap.size + 1) (w.heap.size + 1 + 1) #[.int .i64 n, .bool false, .int .i64 (t : Int), .int .i64 0, .int .i64 0, .int .i64 0, .int .i64 (W : Int), .int .i64 (H : Int), .int .i64 d, .int .i64 a, .bool false, .bool false] [0, 0, 0, 0, 0, 0, 0, 0, 0, 0, 0, 0, 0, 0, 0, 0, 0, 0] := ⟨Blk.alloc (Blk.alloc (Blk.new _ _ _) _) _, (Blk.alloc (Blk.new_at _ _ _ (by simp)) _).eq_ (by rw [made8]; rfl), Blk.new_at _ _ _ (by simp), (((Below.refl _ _).alloc (Nat.le_refl _) _).alloc (by simp) _).alloc (by simp; omega) _, by omega⟩
 have n1 : w.heap.size ≠ w.heap.size + 1 := by omega
 have n2 : w.heap.size + 1 + 1 ≠ w.heap.size + 1 := by omega
 have HX := Lib.hid hx
 have HN := Lib.hid hn
 have HD := Lib.hid hd
 have HA := Lib.hid ha
 have HW := Lib.hid hW
 have HH := Lib.hid hH
 have HT := Lib.hid ht
 have HI := Lib.hid I0
 clear hx hW hH I0
 go_enter Tryz.func64, Tryz.ntmps64
 go_upto_region 3 with fail
 generalize ((w.alloc (.cells #[.int .i64 n, .bool false, .int .i64 (t : Int), .int .i64 0, .int .i64 0, .int .i64 0, .int .i64 (W : Int), .int .i64 (H : Int), .int .i64 d, .int .i64 a, .bool false, .bool false] 121)).alloc (.cells (madeCells #[.int .u8 0] 18) 5)).alloc (.cells #[.slice (some ⟨w.heap.size + 1, 0, none⟩) 18 18] 22) = w1 at HI ⊢
 generalize w.heap.size + 1 + 1 = kb at HI n2 ⊢
 generalize w.heap.size + 1 = kx at HI n1 n2 ⊢
 generalize hkh : w.heap.size = kh at HI n1 ⊢
 have n1s := n1.symm
 have n2s := n2.symm
 clear hmk hmf
 have wn : IntKind.u8.wrap n = (m : Int) := by rw [IntKind.wrap_u8]; exact hn
 have wt : IntKind.u8.wrap (t : Int) = (t : Int) := by rw [IntKind.wrap_u8]; omega
 have wd : IntKind.u8.wrap d = (q : Int) := by rw [IntKind.wrap_u8]; exact hd
 have w0w : IntKind.u8.wrap 0 = 0 := rfl
 clear hn hd
 have HI := Lib.hid HI.out.drew
 refine wp_region_held_drew (S := (fun w9 => w9.cell? ⟨kb, 0, none⟩ = some (.slice (some ⟨kx, 0, none⟩) 18 18) ∧ w9.cell? ⟨kh, 0, none⟩ = some (.int .i64 n) ∧ w9.cell? ⟨kh, 2, none⟩ = some (.int .i64 (t : Int)) ∧ w9.cell? ⟨kh, 5, none⟩ = some (.int .i64 0) ∧ w9.cell? ⟨kh, 8, none⟩ = some (.int .i64 d))) (by kernel_rfl) ⟨Blk.cell HI.out.K 0, Blk.cell HI.out.H 0, Blk.cell HI.out.H 2, Blk.cell HI.out.H 5, Blk.cell HI.out.H 8⟩ (fun hHeld => ?_)
 generalize w1.drew = w2 at HI hHeld ⊢
 refine tk 0 ?_
 (try simp only [sps])
 refine tk 1 ?_
 (try simp only [sps])
 refine tk 2 ?_
 (try simp only [sps])
 refine tk 3 ?_
 (try simp only [sps])
 refine tk 4 ?_
 (try simp only [sps])
 refine tk 5 ?_
 (try simp only [sps])
 refine tk 6 ?_
 (try simp only [sps])
 refine tk 7 ?_
 (try simp only [sps])
 refine tk 8 ?_
 (try simp only [sps])
 refine tk 9 ?_
 (try simp only [sps])
 refine tk 10 ?_
 (try simp only [sps])
 refine tk 11 ?_
 (try simp only [sps])
 refine tk 12 ?_
 (try simp only [sps])
 refine tk 13 ?_
 (try simp only [sps])
 refine tk 14 ?_
 (try simp only [sps])
 refine tk 15 ?_
 (try simp only [sps])
 refine tk 16 ?_
 (try simp only [sps])
 have u0 : w2.cell? ⟨kx, 0, none⟩ = some (.int .u8 0) := Blk.cell HI.out.X 0
 have v0 := Blk.frozen HI.out.X 0
 have ul := Blk.lt HI.out.X
 refine rdy 17 (fun K hK => ?_)
 go_simp
 have HI := Lib.hid (ByI.store (i := 0) (v := .int .u8 (m : Int)) (L' := [m, 0, 0, 0, 0, 0, 0, 0, 0, 0, 0, 0, 0, 0, 0, 0, 0, 0]) HI.out (by rfl))
 clear u0 v0 ul
 generalize w2.setCell ⟨kx, 0, none⟩ (.int .u8 (m : Int)) = w3 at HI ⊢
 refine hK.out _ _ ⟨Blk.cell HI.out.K 0, Blk.cell HI.out.H 0, Blk.cell HI.out.H 2, Blk.cell HI.out.H 5, Blk.cell HI.out.H 8⟩ ?_
 clear hK K hHeld
 intro hHeld
 (try simp only [sps])
 refine tk 18 ?_
 (try simp only [sps])
 have u2 : w3.cell? ⟨kx, 2, none⟩ = some (.int .u8 0) := Blk.cell HI.out.X 2
 have v2 := Blk.frozen HI.out.X 2
 have ul := Blk.lt HI.out.X
 refine rdy 19 (fun K hK => ?_)
 go_simp
 have HI := Lib.hid (ByI.store (i := 2) (v := .int .u8 (t : Int)) (L' := [m, 0, t, 0, 0, 0, 0, 0, 0, 0, 0, 0, 0, 0, 0, 0, 0, 0]) HI.out (by rfl))
 clear u2 v2 ul
 generalize w3.setCell ⟨kx, 2, none⟩ (.int .u8 (t : Int)) = w4 at HI ⊢
 refine hK.out _ _ ⟨Blk.cell HI.out.K 0, Blk.cell HI.out.H 0, Blk.cell HI.out.H 2, Blk.cell HI.out.H 5, Blk.cell HI.out.H 8⟩ ?_
 clear hK K hHeld
 intro hHeld
 (try simp only [sps])
 refine tk 20 ?_
 (try simp only [sps])
 have u7 : w4.cell? ⟨kx, 7, none⟩ = some (.int .u8 0) := Blk.cell HI.out.X 7
 have v7 := Blk.frozen HI.out.X 7
 have ul := Blk.lt HI.out.X
 refine rdy 21 (fun K hK => ?_)
 go_simp
 have HI := Lib.hid (ByI.store (i := 7) (v := .int .u8 0) (L' := [m, 0, t, 0, 0, 0, 0, 0, 0, 0, 0, 0, 0, 0, 0, 0, 0, 0]) HI.out (by rfl))
 clear u7 v7 ul
 generalize w4.setCell ⟨kx, 7, none⟩ (.int .u8 0) = w5 at HI ⊢
 refine hK.out _ _ ⟨Blk.cell HI.out.K 0, Blk.cell HI.out.H 0, Blk.cell HI.out.H 2, Blk.cell HI.out.H 5, Blk.cell HI.out.H 8⟩ ?_
 clear hK K hHeld
 intro hHeld
 (try simp only [sps])
 refine tk 22 ?_
 (try simp only [sps])
 have u16 : w5.cell? ⟨kx, 16, none⟩ = some (.int .u8 0) := Blk.cell HI.out.X 16
 have v16 := Blk.frozen HI.out.X 16
 have ul := Blk.lt HI.out.X
 refine rdy 23 (fun K hK => ?_)
 go_simp
 have HI := Lib.hid (ByI.store (i := 16) (v := .int .u8 (q : Int)) (L' := [m, 0, t, 0, 0, 0, 0, 0, 0, 0, 0, 0, 0, 0, 0, 0, q, 0]) HI.out (by rfl))
 clear u16 v16 ul
 generalize w5.setCell ⟨kx, 16, none⟩ (.int .u8 (q : Int)) = w6 at HI ⊢
 refine hK.out _ _ ⟨Blk.cell HI.out.K 0, Blk.cell HI.out.H 0, Blk.cell HI.out.H 2, Blk.cell HI.out.H 5, Blk.cell HI.out.H 8⟩ ?_
 clear hK K hHeld
 intro hHeld
 (try simp only [sps])
 refine wpAnyH_done (by kernel_rfl) ?_ _
 (try simp only [sps])
 clear hHeld wn wt wd w0w
 have g1 : w6.cell? ⟨kh, 1, none⟩ = some (.bool false) := Blk.cell HI.out.H 1
 have hv : w6.cell? ⟨kh, 3, none⟩ = some (.int .i64 0) := Blk.cell HI.out.H 3
 go_upto_region 7 with (go_at_call 116; refine (tgaPutI (i := 3) (j := 4) (v := 0) HI.out.K HI.out.X (by rfl) (by rfl) (by rfl) (by rfl) (by decide) (by first | exact HW.out | exact HH.out | decide)).mono ?_; rintro e w7 ⟨rfl, x4, t4⟩; have HI := Lib.hid (HI.out.put (L' := [m, 0, t, 0, 0, 0, 0, 0, 0, 0, 0, 0, 0, 0, 0, 0, q, 0]) t4 x4 (by rfl)))
 clear hv x4 t4 g1
 have hv : w7.cell? ⟨kh, 4, none⟩ = some (.int .i64 0) := Blk.cell HI.out.H 4
 go_upto_region 8 with (go_at_call 116; refine (tgaPutI (i := 5) (j := 6) (v := 0) HI.out.K HI.out.X (by rfl) (by rfl) (by rfl) (by rfl) (by decide) (by first | exact HW.out | exact HH.out | decide)).mono ?_; rintro e w8 ⟨rfl, x4, t4⟩; have HI := Lib.hid (HI.out.put (L' := [m, 0, t, 0, 0, 0, 0, 0, 0, 0, 0, 0, 0, 0, 0, 0, q, 0]) t4 x4 (by rfl)))
 clear hv x4 t4
 have hv : w8.cell? ⟨kh, 6, none⟩ = some (.int .i64 (W : Int)) := Blk.cell HI.out.H 6
 go_upto_region 9 with (go_at_call 116; refine (tgaPutI (i := 12) (j := 13) (v := W) HI.out.K HI.out.X (by rfl) (by rfl) (by rfl) (by rfl) (by decide) (by first | exact HW.out | exact HH.out | decide)).mono ?_; rintro e w9 ⟨rfl, x4, t4⟩; have HI := Lib.hid (HI.out.put (L' := [m, 0, t, 0, 0, 0, 0, 0, 0, 0, 0, 0, W % 256, W / 256, 0, 0, q, 0]) t4 x4 (by rfl)))
 clear hv x4 t4
 have hv : w9.cell? ⟨kh, 7, none⟩ = some (.int .i64 (H : Int)) := Blk.cell HI.out.H 7
 go_upto_region 10 with (go_at_call 116; refine (tgaPutI (i := 14) (j := 15) (v := H) HI.out.K HI.out.X (by rfl) (by rfl) (by rfl) (by rfl) (by decide) (by first | exact HW.out | exact HH.out | decide)).mono ?_; rintro e w10 ⟨rfl, x4, t4⟩; have HI := Lib.hid (HI.out.put (L' := [m, 0, t, 0, 0, 0, 0, 0, 0, 0, 0, 0, W % 256, W / 256, H % 256, H / 256, q, 0]) t4 x4 (by rfl)))
 clear hv x4 t4
 have wu : IntKind.u8.wrap (u : Int) = (u : Int) := by rw [IntKind.wrap_u8]; omega
 have e9 : w10.cell? ⟨kh, 9, none⟩ = some (.int .i64 a) := Blk.cell HI.out.H 9
 have e10 : w10.cell? ⟨kh, 10, none⟩ = some (.bool false) := Blk.cell HI.out.H 10
 have e11 : w10.cell? ⟨kh, 11, none⟩ = some (.bool false) := Blk.cell HI.out.H 11
 have eb : w10.cell? ⟨kb, 0, none⟩ = some (.slice (some ⟨kx, 0, none⟩) 18 18) := Blk.cell HI.out.K 0
 have ex : w10.cell? ⟨kx, 17, none⟩ = some (.int .u8 0) := Blk.cell HI.out.X 17
 have ez : w10.frozen? ⟨kx, 17, none⟩ = false := Blk.frozen HI.out.X 17
 have el := Blk.lt HI.out.X
 go_upto_region 15 with fail
 obtain rfl := HX.out
 refine bwp_gen (S := fun wx => ByI w wx kh kx kb #[.int .i64 n, .bool false, .int .i64 (t : Int), .int .i64 0, .int .i64 0, .int .i64 0, .int .i64 (W : Int), .int .i64 (H : Int), .int .i64 d, .int .i64 a, .bool false, .bool false] (tgaBl m t W H q u)) (by exact (HI.out.store (i := 17) (v := .int .u8 (u : Int)) (L' := (tgaBl m t W H q u)) (by rfl))) (fun wx hXX => ?_)
 have hx8 : u < 256 := by have := HX.out; omega
 have HL8 := Lib.hid (tgaBl_lt hm8 HT.out HW.out HH.out hq8 hx8)
 have HHD := Lib.hid (tgaBb_hd (l := false) (p := false) (x := u) hm8 HT.out HW.out HH.out hq8 hu (by simp))
 have hbat := tgaBb_bat HL8.out
 have hcv := byConv hXX.X HL8.out rfl
 have hbs : (tgaBb (tgaBl m t W H q u)).size = 18 := rfl
 obtain ⟨bb, hbb⟩ : ∃ bb, tgaBb (tgaBl m t W H q u) = bb := ⟨_, rfl⟩
 rw [hbb] at hbat hcv hbs HHD
 have hlW : le2 bb 12 = W := by unfold le2; rw [hbat, hbat]; show W % 256 + 256 * (W / 256) = W; omega
 have hlH : le2 bb 14 = H := by unfold le2; rw [hbat, hbat]; show H % 256 + 256 * (H / 256) = H; omega
 have hl5 : le2 bb 5 = 0 := by unfold le2; rw [hbat, hbat]; rfl
 have HQC := Lib.hid (fun w => tgaChecksC (b := bb) hbs (hbat 1) (hbat 2) (hbat 17) (hbat 7) hl5 hlW hlH (hbat 16) w)
 have HRD0 := fun w => tgaHeadC (b := bb) hbs (hbat 0) (hbat 1) (hbat 2) hlW hlH (hbat 16) (hbat 17) w
 rw [HHD.out] at HRD0
 have HRD := Lib.hid HRD0
 have eb : wx.cell? ⟨kb, 0, none⟩ = some (.slice (some ⟨kx, 0, none⟩) 18 18) := Blk.cell hXX.K 0
 obtain ⟨L, hL⟩ : ∃ L, tgaChks 0 t 0 0 W H q u = L := ⟨_, rfl⟩
 have hlen : L.length = 12 := by rw [← hL]; rfl
 replace HQC : Hid (∀ w : World, Calls Tryz.prog 117 #[.string bb] w fun r w' => TgaChkPost w w' L r) := Lib.hid (by rw [← hL]; exact HQC.out)
 have HLD := Lib.hid hL
 have HBB := Lib.hid hbb
 have HI := Lib.hid hXX
 clear hL hbb hbat hbs hlW hlH hl5 HRD0 hXX HHD wu e9 e10 e11 ex ez el
 go_upto_region 16 with (go_at_call 117; refine (HQC.out _).mono ?_; rintro e w3 ⟨sb, rfl, hsb, b3, K3⟩; have HI3 := Lib.hid (And.intro (HI.out.below b3) K3); clear b3 K3 hsb)
 clear eb hcv
 go_loopg [7, 74] 12 (fun k v7 v74 wr => ∃ i : Nat, i + k = 12 ∧ v74 = .int .i64 (i : Int) ∧ Hid (∀ j, j < i → (L[j]?.map (·.1)) = some false) ∧ Hid (ByI w wr kh kx kb #[.int .i64 n, .bool false, .int .i64 (t : Int), .int .i64 0, .int .i64 0, .int .i64 0, .int .i64 (W : Int), .int .i64 (H : Int), .int .i64 d, .int .i64 a, .bool false, .bool false] (tgaBl m t W H q u) ∧ Blk wr sb 205 (chkW L).toArray))
 case atStart => exact ⟨0, rfl, rfl, Lib.hid (fun j hj => by omega), Lib.hid HI3.out⟩
 case round =>
  obtain ⟨i, hi, rfl, HOK, HY⟩ := hrel
  clear HI3 HI
  by_cases hi9 : i < 12
  ·have hi9I : (i : Int) < 12 := by omega
   obtain ⟨xx, hx⟩ : ∃ x, L[i]? = some x := ⟨L[i]'(by omega), List.getElem?_eq_getElem (by omega)⟩
   obtain ⟨k0, k1', k2', k3'⟩ := chkW_at hx
   have c0 := (Blk.cell HY.out.2 (i * 4)).trans ((List.getElem?_toArray).trans k0)
   have c1 := (Blk.cell HY.out.2 (i * 4 + 1)).trans ((List.getElem?_toArray).trans k1')
   have c2 := (Blk.cell HY.out.2 (i * 4 + 2)).trans ((List.getElem?_toArray).trans k2')
   have c3 := (Blk.cell HY.out.2 (i * 4 + 3)).trans ((List.getElem?_toArray).trans k3')
   have hsl := Blk.lt HY.out.2
   have HXX := Lib.hid hx
   have hII := Lib.hid hi
   obtain ⟨bo, kk, aa⟩ := xx
   obtain ⟨lo, hlo⟩ : ∃ lo, tgaLoose (bo, kk, aa) = lo := ⟨_, rfl⟩
   rw [hlo] at c3
   clear k0 k1' k2' k3' hx hi hlo
   cases bo with
   | false =>
    go_wp2_with fail
    go_roundg (12 - (i + 1))
    case measure => have := hII.out; omega
    case rel =>
     refine ⟨i + 1, by omega, by go_num, Lib.hid (fun j hj => ?_), Lib.hid ⟨HY.out.1.below ((Below.refl _ _).alloc (Nat.le_refl _) _), Blk.alloc HY.out.2 _⟩⟩
     by_cases e : j = i
     ·rw [e, HXX.out]; rfl
     ·exact HOK.out j (by omega)
   | true =>
    have hfb := firstBad_at HOK.out HXX.out
    have HFB := Lib.hid hfb
    clear hfb
    go_wp2_with fail
    exact bodyPost_ret (v := .tuple #[.string ⟨#[]⟩, .int .i64 6]) (by simp [results, Tryz.results64, go_sem]) rfl ⟨by unfold tgaByV; rw [HLD.out, if_neg (fun e => by rw [HFB.out] at e; exact absurd e.1 (by simp))], by rw [← hkh]; exact HY.out.1.B.alloc HY.out.1.B.size _⟩
  ·obtain rfl : i = 12 := by omega
   have hn : firstBad L = none := firstBad_all (fun x hx => by
    obtain ⟨j, hj, rfl⟩ := List.getElem_of_mem hx
    have := HOK.out j (by omega)
    rw [List.getElem?_eq_getElem hj] at this
    simpa using this)
   have HFN := Lib.hid hn
   clear hn
   have hnI : ¬ ((12 : Nat) : Int) < 12 := by omega
   go_upto_region 21 with fail
   have HY9 := Lib.hid HY.out.1.drew
   refine wp_region_held_drew (S := (fun w9 => ByI w w9 kh kx kb #[.int .i64 n, .bool false, .int .i64 (t : Int), .int .i64 0, .int .i64 0, .int .i64 0, .int .i64 (W : Int), .int .i64 (H : Int), .int .i64 d, .int .i64 a, .bool false, .bool false] (tgaBl m t W H q u))) (by kernel_rfl) (by exact HY9.out) (fun hHeld => ?_)
   generalize wr.drew = w8 at HY9 hHeld ⊢
   refine wpAnyH_take (i := 0) (v := ?_) rfl (by kernel_rfl) (by kernel_rfl) (by kernel_rfl) (fun _ _ _ h => h) (Or.inl ⟨by kernel_rfl, ?_⟩) (by assumption) ?_
   rotate_left
   ·intro w9 hSw; (try dsimp only at hSw); have s0 : w9.cell? ⟨kb, 0, none⟩ = some (.slice (some ⟨kx, 0, none⟩) 18 18) := Blk.cell hSw.K 0; go_simp; (try with_reducible rfl)
   (try simp only [sps])
   refine wpAnyH_take (i := 1) (v := ?_) rfl (by kernel_rfl) (by kernel_rfl) (by kernel_rfl) (fun _ _ _ h => h) (Or.inl ⟨by kernel_rfl, ?_⟩) (by assumption) ?_
   rotate_left
   ·intro w9 hSw; (try dsimp only at hSw); have s1 := byConv hSw.X HL8.out rfl; rw [HBB.out] at s1; go_simp; (try with_reducible rfl)
   (try simp only [sps])
   refine wpAnyH_take (i := 3) (v := ?_) rfl (by kernel_rfl) (by kernel_rfl) (by kernel_rfl) (fun _ _ _ h => h) (Or.inl ⟨by kernel_rfl, ?_⟩) (by assumption) ?_
   rotate_left
   ·intro w9 hSw; (try dsimp only at hSw); have s0 : w9.cell? ⟨kh, 0, none⟩ = some (.int .i64 n) := Blk.cell hSw.H 0; have s1 : w9.cell? ⟨kh, 1, none⟩ = some (.bool false) := Blk.cell hSw.H 1; have s2 : w9.cell? ⟨kh, 2, none⟩ = some (.int .i64 (t : Int)) := Blk.cell hSw.H 2; have s3 : w9.cell? ⟨kh, 3, none⟩ = some (.int .i64 0) := Blk.cell hSw.H 3; have s4 : w9.cell? ⟨kh, 4, none⟩ = some (.int .i64 0) := Blk.cell hSw.H 4; have s5 : w9.cell? ⟨kh, 5, none⟩ = some (.int .i64 0) := Blk.cell hSw.H 5; have s6 : w9.cell? ⟨kh, 6, none⟩ = some (.int .i64 (W : Int)) := Blk.cell hSw.H 6; have s7 : w9.cell? ⟨kh, 7, none⟩ = some (.int .i64 (H : Int)) := Blk.cell hSw.H 7; have s8 : w9.cell? ⟨kh, 8, none⟩ = some (.int .i64 d) := Blk.cell hSw.H 8; have s9 : w9.cell? ⟨kh, 9, none⟩ = some (.int .i64 a) := Blk.cell hSw.H 9; have s10 : w9.cell? ⟨kh, 10, none⟩ = some (.bool false) := Blk.cell hSw.H 10; have s11 : w9.cell? ⟨kh, 11, none⟩ = some (.bool false) := Blk.cell hSw.H 11; go_simp; (try with_reducible rfl)
   (try simp only [sps])
   refine rdy 2 (fun K hK => ?_)
   go_simp
   refine (HRD.out _).mono ?_
   rintro e w7 ⟨rfl, b7⟩
   have HI7 := Lib.hid (HY9.out.below b7)
   refine hK.out _ _ HI7.out ?_
   clear hK K hHeld
   intro hHeld
   (try simp only [sps])
   by_cases hn1 : n = (m : Int)
   ·subst hn1
    by_cases hd1 : d = (q : Int)
    ·subst hd1
     by_cases ha1 : a = (u : Int)
     ·subst ha1
      refine wpAnyH_take (i := 4) (v := .bool false) rfl (by kernel_rfl) (by kernel_rfl) (by kernel_rfl) (fun _ _ _ h => h) (Or.inl ⟨by kernel_rfl, ?_⟩) (by assumption) ?_
      ·intro w9 hSw; clear hSw; go_simp; (try with_reducible rfl)
      (try simp only [sps])
      refine wpAnyH_done (by kernel_rfl) ?_ _
      (try simp only [sps])
      have eb : w7.cell? ⟨kb, 0, none⟩ = some (.slice (some ⟨kx, 0, none⟩) 18 18) := Blk.cell HI7.out.K 0
      have hcv := byConv HI7.out.X HL8.out rfl
      rw [HBB.out] at hcv
      go_wp2_with fail
      exact bodyPost_ret (v := .tuple #[.string bb, .int .i64 0]) (by simp [results, Tryz.results64, go_sem]) rfl ⟨by unfold tgaByV; rw [HLD.out, HFN.out, if_pos ⟨rfl, rfl, rfl, rfl⟩, HBB.out], by rw [← hkh]; exact HI7.out.B⟩
     ·have ha2 : ¬ (u : Int) = a := fun e => ha1 e.symm
      have HNE := Lib.hid ha1
      refine wpAnyH_take (i := 4) (v := .bool true) rfl (by kernel_rfl) (by kernel_rfl) (by kernel_rfl) (fun _ _ _ h => h) (Or.inl ⟨by kernel_rfl, ?_⟩) (by assumption) ?_
      ·intro w9 hSw; clear hSw; go_simp; (try with_reducible rfl)
      (try simp only [sps])
      refine wpAnyH_done (by kernel_rfl) ?_ _
      (try simp only [sps])
      go_wp2_with fail
      exact bodyPost_ret (v := .tuple #[.string ⟨#[]⟩, .int .i64 6]) (by simp [results, Tryz.results64, go_sem]) rfl ⟨by unfold tgaByV; rw [if_neg (fun e => HNE.out e.2.2.2)], by rw [← hkh]; exact HI7.out.B⟩
    ·have hd2 : ¬ (q : Int) = d := fun e => hd1 e.symm
     have HNE := Lib.hid hd1
     refine wpAnyH_take (i := 4) (v := .bool true) rfl (by kernel_rfl) (by kernel_rfl) (by kernel_rfl) (fun _ _ _ h => h) (Or.inl ⟨by kernel_rfl, ?_⟩) (by assumption) ?_
     ·intro w9 hSw; clear hSw; go_simp; (try with_reducible rfl)
     (try simp only [sps])
     refine wpAnyH_done (by kernel_rfl) ?_ _
     (try simp only [sps])
     go_wp2_with fail
     exact bodyPost_ret (v := .tuple #[.string ⟨#[]⟩, .int .i64 6]) (by simp [results, Tryz.results64, go_sem]) rfl ⟨by unfold tgaByV; rw [if_neg (fun e => HNE.out e.2.2.1)], by rw [← hkh]; exact HI7.out.B⟩
   ·have hn2 : ¬ (m : Int) = n := fun e => hn1 e.symm
    have HNE := Lib.hid hn1
    refine wpAnyH_take (i := 4) (v := .bool true) rfl (by kernel_rfl) (by kernel_rfl) (by kernel_rfl) (fun _ _ _ h => h) (Or.inl ⟨by kernel_rfl, ?_⟩) (by assumption) ?_
    ·intro w9 hSw; clear hSw; go_simp; (try with_reducible rfl)
    (try simp only [sps])
    refine wpAnyH_done (by kernel_rfl) ?_ _
    (try simp only [sps])
    go_wp2_with fail
    exact bodyPost_ret (v := .tuple #[.string ⟨#[]⟩, .int .i64 6]) (by simp [results, Tryz.results64, go_sem]) rfl ⟨by unfold tgaByV; rw [if_neg (fun e => HNE.out e.2.1)], by rw [← hkh]; exact HI7.out.B⟩
set_option maxRecDepth 100000 in
set_option maxHeartbeats 4000000 in
theorem tgaBytes_tf {n d a : Int} {m t W H q u x : Nat} (hn : n % 256 = (m : Int)) (ht : t ≤ 255) (hW : W ≤ 65535) (hH : H ≤ 65535) (hd : d % 256 = (q : Int)) (ha : bits .and .i64 a 15 = (u : Int)) (hu : u < 16) (hx : u + 16 = x) (w : World) :
  Calls Tryz.prog 64 #[.agg #[.int .i64 n, .bool false, .int .i64 (t : Int), .int .i64 0, .int .i64 0, .int .i64 0, .int .i64 (W : Int), .int .i64 (H : Int), .int .i64 d, .int .i64 a, .bool true, .bool false]] w fun e w' => e = .returned (tgaByV n d a m t W H q u x) ∧ Below w.heap.size w w' := by
 have hmk := run_make_row' (P := Tryz.prog) 22 5 (.int .u8 0) 1 Tryz.underlying22 info8 rfl .i64 .i64 18 (by decide) (by decide)
 simp only [show (((18 : Nat) : Int)) = 18 from rfl] at hmk
 have hmf : ∀ (fn : Fn) (first cap : Array Value) (w : World), (Instr.makeFunc fn first cap).run Tryz.prog w = .ok (.func fn first cap) w := fun _ _ _ _ => rfl
 have hm8 : m < 256 := by omega
 have hq8 : q < 256 := by omega
 have I0 : ByI w (((w.alloc (.cells #[.int .i64 n, .bool false, .int .i64 (t : Int), .int .i64 0, .int .i64 0, .int .i64 0, .int .i64 (W : Int), .int .i64 (H : Int), .int .i64 d, .int .i64 a, .bool true, .bool false] 121)).alloc (.cells (madeCells #[.int .u8 0] 18) 5)).alloc (.cells #[.slice (some ⟨w.heap.size + 1, 0, none⟩) 18 18] 22)) w.heap.size (w.heap.size + 1) (w.heap.size + 1 + 1) #[.int .i64 n, .bool false, .int .i64 (t : Int), .int .i64 0, .int .i64 0, .int .i64 0, .int .i64 (W : Int), .int .i64 (H : Int), .int .i64 d, .int .i64 a, .bool true, .bool false] [0, 0, 0, 0, 0, 0, 0, 0, 0, 0, 0, 0, 0, 0, 0, 0, 0, 0] := ⟨Blk.alloc (Blk.alloc (Blk.new _ _ _) _) _, (Blk.alloc (Blk.new_at _ _ _ (by simp)) _).eq_ (by rw [made8]; rfl), Blk.new_at _ _ _ (by simp), (((Below.refl _ _).alloc (Nat.le_refl _) _).alloc (by simp) _).alloc (by simp; omega) _, by omega⟩
 have n1 : w.heap.size ≠ w.heap.size + 1 := by omega
 have n2 : w.heap.size + 1 + 1 ≠ w.heap.size + 1 := by omega
 have HX := Lib.hid hx
 have HN := Lib.hid hn
 have HD := Lib.hid hd
 have HA := Lib.hid ha
 have HW := Lib.hid hW
 have HH := Lib.hid hH
 have HT := Lib.hid ht
 have HI := Lib.hid I0
 clear hx hW hH I0
 go_enter Tryz.func64, Tryz.ntmps64
 go_upto_region 3 with fail
 generalize ((w.alloc (.cells #[.int .i64 n, .bool false, .int .i64 (t : Int), .int .i64 0, .int .i64 0, .int .i64 0, .int .i64 (W : Int), .int .i64 (H : Int), .int .i64 d, .int .i64 a, .bool true, .bool false] 121)).alloc (.cells (madeCells #[.int .u8 0] 18) 5)).alloc (.cells #[.slice (some ⟨w.heap.size + 1, 0, none⟩) 18 18] 22) = w1 at HI ⊢
 generalize w.heap.size + 1 + 1 = kb at HI n2 ⊢
 generalize w.heap.size + 1 = kx at HI n1 n2 ⊢
 generalize hkh : w.heap.size = kh at HI n1 ⊢
 have n1s := n1.symm
 have n2s := n2.symm
 clear hmk hmf
 have wn : IntKind.u8.wrap n = (m : Int) := by rw [IntKind.wrap_u8]; exact hn
 have wt : IntKind.u8.wrap (t : Int) = (t : Int) := by rw [IntKind.wrap_u8]; omega
 have wd : IntKind.u8.wrap d = (q : Int) := by rw [IntKind.wrap_u8]; exact hd
 have w0w : IntKind.u8.wrap 0 = 0 := rfl
 clear hn hd
 have HI := Lib.hid HI.out.drew
 refine wp_region_held_drew (S := (fun w9 => w9.cell? ⟨kb, 0, none⟩ = some (.slice (some ⟨kx, 0, none⟩) 18 18) ∧ w9.cell? ⟨kh, 0, none⟩ = some (.int .i64 n) ∧ w9.cell? ⟨kh, 2, none⟩ = some (.int .i64 (t : Int)) ∧ w9.cell? ⟨kh, 5, none⟩ = some (.int .i64 0) ∧ w9.cell? ⟨kh, 8, none⟩ = some (.int .i64 d))) (by kernel_rfl) ⟨Blk.cell HI.out.K 0, Blk.cell HI.out.H 0, Blk.cell HI.out.H 2, Blk.cell HI.out.H 5, Blk.cell HI.out.H 8⟩ (fun hHeld => ?_)
 generalize w1.drew = w2 at HI hHeld ⊢
 refine tk 0 ?_
 (try simp only [sps])
 refine tk 1 ?_
 (try simp only [sps])
 refine tk 2 ?_
 (try simp only [sps])
 refine tk 3 ?_
 (try simp only [sps])
 refine tk 4 ?_
 (try simp only [sps])
 refine tk 5 ?_
 (try simp only [sps])
 refine tk 6 ?_
 (try simp only [sps])
 refine tk 7 ?_
 (try simp only [sps])
 refine tk 8 ?_
 (try simp only [sps])
 refine tk 9 ?_
 (try simp only [sps])
 refine tk 10 ?_
 (try simp only [sps])
 refine tk 11 ?_
 (try simp only [sps])
 refine tk 12 ?_
 (try simp only [sps])
 refine tk 13 ?_
 (try simp only [sps])
 refine tk 14 ?_
 (try simp only [sps])
 refine tk 15 ?_
 (try simp only [sps])
 refine tk 16 ?_
 (try simp only [sps])
 have u0 : w2.cell? ⟨kx, 0, none⟩ = some (.int .u8 0) := Blk.cell HI.out.X 0
 have v0 := Blk.frozen HI.out.X 0
 have ul := Blk.lt HI.out.X
 refine rdy 17 (fun K hK => ?_)
 go_simp
 have HI := Lib.hid (ByI.store (i := 0) (v := .int .u8 (m : Int)) (L' := [m, 0, 0, 0, 0, 0, 0, 0, 0, 0, 0, 0, 0, 0, 0, 0, 0, 0]) HI.out (by rfl))
 clear u0 v0 ul
 generalize w2.setCell ⟨kx, 0, none⟩ (.int .u8 (m : Int)) = w3 at HI ⊢
 refine hK.out _ _ ⟨Blk.cell HI.out.K 0, Blk.cell HI.out.H 0, Blk.cell HI.out.H 2, Blk.cell HI.out.H 5, Blk.cell HI.out.H 8⟩ ?_
 clear hK K hHeld
 intro hHeld
 (try simp only [sps])
 refine tk 18 ?_
 (try simp only [sps])
 have u2 : w3.cell? ⟨kx, 2, none⟩ = some (.int .u8 0) := Blk.cell HI.out.X 2
 have v2 := Blk.frozen HI.out.X 2
 have ul := Blk.lt HI.out.X
 refine rdy 19 (fun K hK => ?_)
 go_simp
 have HI := Lib.hid (ByI.store (i := 2) (v := .int .u8 (t : Int)) (L' := [m, 0, t, 0, 0, 0, 0, 0, 0, 0, 0, 0, 0, 0, 0, 0, 0, 0]) HI.out (by rfl))
 clear u2 v2 ul
 generalize w3.setCell ⟨kx, 2, none⟩ (.int .u8 (t : Int)) = w4 at HI ⊢
 refine hK.out _ _ ⟨Blk.cell HI.out.K 0, Blk.cell HI.out.H 0, Blk.cell HI.out.H 2, Blk.cell HI.out.H 5, Blk.cell HI.out.H 8⟩ ?_
 clear hK K hHeld
 intro hHeld
 (try simp only [sps])
 refine tk 20 ?_
 (try simp only [sps])
 have u7 : w4.cell? ⟨kx, 7, none⟩ = some (.int .u8 0) := Blk.cell HI.out.X 7
 have v7 := Blk.frozen HI.out.X 7
 have ul := Blk.lt HI.out.X
 refine rdy 21 (fun K hK => ?_)
 go_simp
 have HI := Lib.hid (ByI.store (i := 7) (v := .int .u8 0) (L' := [m, 0, t, 0, 0, 0, 0, 0, 0, 0, 0, 0, 0, 0, 0, 0, 0, 0]) HI.out (by rfl))
 clear u7 v7 ul
 generalize w4.setCell ⟨kx, 7, none⟩ (.int .u8 0) = w5 at HI ⊢
 refine hK.out _ _ ⟨Blk.cell HI.out.K 0, Blk.cell HI.out.H 0, Blk.cell HI.out.H 2, Blk.cell HI.out.H 5, Blk.cell HI.out.H 8⟩ ?_
 clear hK K hHeld
 intro hHeld
 (try simp only [sps])
 refine tk 22 ?_
 (try simp only [sps])
 have u16 : w5.cell? ⟨kx, 16, none⟩ = some (.int .u8 0) := Blk.cell HI.out.X 16
 have v16 := Blk.frozen HI.out.X 16
 have ul := Blk.lt HI.out.X
 refine rdy 23 (fun K hK => ?_)
 go_simp
 have HI := Lib.hid (ByI.store (i := 16) (v := .int .u8 (q : Int)) (L' := [m, 0, t, 0, 0, 0, 0, 0, 0, 0, 0, 0, 0, 0, 0, 0, q, 0]) HI.out (by rfl))
 clear u16 v16 ul
 generalize w5.setCell ⟨kx, 16, none⟩ (.int .u8 (q : Int)) = w6 at HI ⊢
 refine hK.out _ _ ⟨Blk.cell HI.out.K 0, Blk.cell HI.out.H 0, Blk.cell HI.out.H 2, Blk.cell HI.out.H 5, Blk.cell HI.out.H 8⟩ ?_
 clear hK K hHeld
 intro hHeld
 (try simp only [sps])
 refine wpAnyH_done (by kernel_rfl) ?_ _
 (try simp only [sps])
 clear hHeld wn wt wd w0w
 have g1 : w6.cell? ⟨kh, 1, none⟩ = some (.bool false) := Blk.cell HI.out.H 1
 have hv : w6.cell? ⟨kh, 3, none⟩ = some (.int .i64 0) := Blk.cell HI.out.H 3
 go_upto_region 7 with (go_at_call 116; refine (tgaPutI (i := 3) (j := 4) (v := 0) HI.out.K HI.out.X (by rfl) (by rfl) (by rfl) (by rfl) (by decide) (by first | exact HW.out | exact HH.out | decide)).mono ?_; rintro e w7 ⟨rfl, x4, t4⟩; have HI := Lib.hid (HI.out.put (L' := [m, 0, t, 0, 0, 0, 0, 0, 0, 0, 0, 0, 0, 0, 0, 0, q, 0]) t4 x4 (by rfl)))
 clear hv x4 t4 g1
 have hv : w7.cell? ⟨kh, 4, none⟩ = some (.int .i64 0) := Blk.cell HI.out.H 4
 go_upto_region 8 with (go_at_call 116; refine (tgaPutI (i := 5) (j := 6) (v := 0) HI.out.K HI.out.X (by rfl) (by rfl) (by rfl) (by rfl) (by decide) (by first | exact HW.out | exact HH.out | decide)).mono ?_; rintro e w8 ⟨rfl, x4, t4⟩; have HI := Lib.hid (HI.out.put (L' := [m, 0, t, 0, 0, 0, 0, 0, 0, 0, 0, 0, 0, 0, 0, 0, q, 0]) t4 x4 (by rfl)))
 clear hv x4 t4
 have hv : w8.cell? ⟨kh, 6, none⟩ = some (.int .i64 (W : Int)) := Blk.cell HI.out.H 6
 go_upto_region 9 with (go_at_call 116; refine (tgaPutI (i := 12) (j := 13) (v := W) HI.out.K HI.out.X (by rfl) (by rfl) (by rfl) (by rfl) (by decide) (by first | exact HW.out | exact HH.out | decide)).mono ?_; rintro e w9 ⟨rfl, x4, t4⟩; have HI := Lib.hid (HI.out.put (L' := [m, 0, t, 0, 0, 0, 0, 0, 0, 0, 0, 0, W % 256, W / 256, 0, 0, q, 0]) t4 x4 (by rfl)))
 clear hv x4 t4
 have hv : w9.cell? ⟨kh, 7, none⟩ = some (.int .i64 (H : Int)) := Blk.cell HI.out.H 7
 go_upto_region 10 with (go_at_call 116; refine (tgaPutI (i := 14) (j := 15) (v := H) HI.out.K HI.out.X (by rfl) (by rfl) (by rfl) (by rfl) (by decide) (by first | exact HW.out | exact HH.out | decide)).mono ?_; rintro e w10 ⟨rfl, x4, t4⟩; have HI := Lib.hid (HI.out.put (L' := [m, 0, t, 0, 0, 0, 0, 0, 0, 0, 0, 0, W % 256, W / 256, H % 256, H / 256, q, 0]) t4 x4 (by rfl)))
 clear hv x4 t4
 have wu : IntKind.u8.wrap (u : Int) = (u : Int) := by rw [IntKind.wrap_u8]; omega
 have o1 : bits .or .u8 (u : Int) 16 = (x : Int) := tga_or16 hu HX.out
 have e9 : w10.cell? ⟨kh, 9, none⟩ = some (.int .i64 a) := Blk.cell HI.out.H 9
 have e10 : w10.cell? ⟨kh, 10, none⟩ = some (.bool true) := Blk.cell HI.out.H 10
 have e11 : w10.cell? ⟨kh, 11, none⟩ = some (.bool false) := Blk.cell HI.out.H 11
 have eb : w10.cell? ⟨kb, 0, none⟩ = some (.slice (some ⟨kx, 0, none⟩) 18 18) := Blk.cell HI.out.K 0
 have ex : w10.cell? ⟨kx, 17, none⟩ = some (.int .u8 0) := Blk.cell HI.out.X 17
 have ez : w10.frozen? ⟨kx, 17, none⟩ = false := Blk.frozen HI.out.X 17
 have el := Blk.lt HI.out.X
 go_upto_region 15 with fail
 refine bwp_gen (S := fun wx => ByI w wx kh kx kb #[.int .i64 n, .bool false, .int .i64 (t : Int), .int .i64 0, .int .i64 0, .int .i64 0, .int .i64 (W : Int), .int .i64 (H : Int), .int .i64 d, .int .i64 a, .bool true, .bool false] (tgaBl m t W H q x)) (by exact ((HI.out.store (i := 17) (v := .int .u8 (u : Int)) (L' := tgaBl m t W H q u) (by rfl)).store (i := 17) (v := .int .u8 (x : Int)) (L' := (tgaBl m t W H q x)) (by rfl))) (fun wx hXX => ?_)
 have hx8 : x < 256 := by have := HX.out; omega
 have HL8 := Lib.hid (tgaBl_lt hm8 HT.out HW.out HH.out hq8 hx8)
 have HHD := Lib.hid (tgaBb_hd (l := true) (p := false) (x := x) hm8 HT.out HW.out HH.out hq8 hu (by have := HX.out; simpa using this))
 have hbat := tgaBb_bat HL8.out
 have hcv := byConv hXX.X HL8.out rfl
 have hbs : (tgaBb (tgaBl m t W H q x)).size = 18 := rfl
 obtain ⟨bb, hbb⟩ : ∃ bb, tgaBb (tgaBl m t W H q x) = bb := ⟨_, rfl⟩
 rw [hbb] at hbat hcv hbs HHD
 have hlW : le2 bb 12 = W := by unfold le2; rw [hbat, hbat]; show W % 256 + 256 * (W / 256) = W; omega
 have hlH : le2 bb 14 = H := by unfold le2; rw [hbat, hbat]; show H % 256 + 256 * (H / 256) = H; omega
 have hl5 : le2 bb 5 = 0 := by unfold le2; rw [hbat, hbat]; rfl
 have HQC := Lib.hid (fun w => tgaChecksC (b := bb) hbs (hbat 1) (hbat 2) (hbat 17) (hbat 7) hl5 hlW hlH (hbat 16) w)
 have HRD0 := fun w => tgaHeadC (b := bb) hbs (hbat 0) (hbat 1) (hbat 2) hlW hlH (hbat 16) (hbat 17) w
 rw [HHD.out] at HRD0
 have HRD := Lib.hid HRD0
 have eb : wx.cell? ⟨kb, 0, none⟩ = some (.slice (some ⟨kx, 0, none⟩) 18 18) := Blk.cell hXX.K 0
 obtain ⟨L, hL⟩ : ∃ L, tgaChks 0 t 0 0 W H q x = L := ⟨_, rfl⟩
 have hlen : L.length = 12 := by rw [← hL]; rfl
 replace HQC : Hid (∀ w : World, Calls Tryz.prog 117 #[.string bb] w fun r w' => TgaChkPost w w' L r) := Lib.hid (by rw [← hL]; exact HQC.out)
 have HLD := Lib.hid hL
 have HBB := Lib.hid hbb
 have HI := Lib.hid hXX
 clear hL hbb hbat hbs hlW hlH hl5 HRD0 hXX HHD wu e9 e10 e11 ex ez el o1
 go_upto_region 16 with (go_at_call 117; refine (HQC.out _).mono ?_; rintro e w3 ⟨sb, rfl, hsb, b3, K3⟩; have HI3 := Lib.hid (And.intro (HI.out.below b3) K3); clear b3 K3 hsb)
 clear eb hcv
 go_loopg [7, 74] 12 (fun k v7 v74 wr => ∃ i : Nat, i + k = 12 ∧ v74 = .int .i64 (i : Int) ∧ Hid (∀ j, j < i → (L[j]?.map (·.1)) = some false) ∧ Hid (ByI w wr kh kx kb #[.int .i64 n, .bool false, .int .i64 (t : Int), .int .i64 0, .int .i64 0, .int .i64 0, .int .i64 (W : Int), .int .i64 (H : Int), .int .i64 d, .int .i64 a, .bool true, .bool false] (tgaBl m t W H q x) ∧ Blk wr sb 205 (chkW L).toArray))
 case atStart => exact ⟨0, rfl, rfl, Lib.hid (fun j hj => by omega), Lib.hid HI3.out⟩
 case round =>
  obtain ⟨i, hi, rfl, HOK, HY⟩ := hrel
  clear HI3 HI
  by_cases hi9 : i < 12
  ·have hi9I : (i : Int) < 12 := by omega
   obtain ⟨xx, hx⟩ : ∃ x, L[i]? = some x := ⟨L[i]'(by omega), List.getElem?_eq_getElem (by omega)⟩
   obtain ⟨k0, k1', k2', k3'⟩ := chkW_at hx
   have c0 := (Blk.cell HY.out.2 (i * 4)).trans ((List.getElem?_toArray).trans k0)
   have c1 := (Blk.cell HY.out.2 (i * 4 + 1)).trans ((List.getElem?_toArray).trans k1')
   have c2 := (Blk.cell HY.out.2 (i * 4 + 2)).trans ((List.getElem?_toArray).trans k2')
   have c3 := (Blk.cell HY.out.2 (i * 4 + 3)).trans ((List.getElem?_toArray).trans k3')
   have hsl := Blk.lt HY.out.2
   have HXX := Lib.hid hx
   have hII := Lib.hid hi
   obtain ⟨bo, kk, aa⟩ := xx
   obtain ⟨lo, hlo⟩ : ∃ lo, tgaLoose (bo, kk, aa) = lo := ⟨_, rfl⟩
   rw [hlo] at c3
   clear k0 k1' k2' k3' hx hi hlo
   cases bo with
   | false =>
    go_wp2_with fail
    go_roundg (12 - (i + 1))
    case measure => have := hII.out; omega
    case rel =>
     refine ⟨i + 1, by omega, by go_num, Lib.hid (fun j hj => ?_), Lib.hid ⟨HY.out.1.below ((Below.refl _ _).alloc (Nat.le_refl _) _), Blk.alloc HY.out.2 _⟩⟩
     by_cases e : j = i
     ·rw [e, HXX.out]; rfl
     ·exact HOK.out j (by omega)
   | true =>
    have hfb := firstBad_at HOK.out HXX.out
    have HFB := Lib.hid hfb
    clear hfb
    go_wp2_with fail
    exact bodyPost_ret (v := .tuple #[.string ⟨#[]⟩, .int .i64 6]) (by simp [results, Tryz.results64, go_sem]) rfl ⟨by unfold tgaByV; rw [HLD.out, if_neg (fun e => by rw [HFB.out] at e; exact absurd e.1 (by simp))], by rw [← hkh]; exact HY.out.1.B.alloc HY.out.1.B.size _⟩
  ·obtain rfl : i = 12 := by omega
   have hn : firstBad L = none := firstBad_all (fun x hx => by
    obtain ⟨j, hj, rfl⟩ := List.getElem_of_mem hx
    have := HOK.out j (by omega)
    rw [List.getElem?_eq_getElem hj] at this
    simpa using this)
   have HFN := Lib.hid hn
   clear hn
   have hnI : ¬ ((12 : Nat) : Int) < 12 := by omega
   go_upto_region 21 with fail
   have HY9 := Lib.hid HY.out.1.drew
   refine wp_region_held_drew (S := (fun w9 => ByI w w9 kh kx kb #[.int .i64 n, .bool false, .int .i64 (t : Int), .int .i64 0, .int .i64 0, .int .i64 0, .int .i64 (W : Int), .int .i64 (H : Int), .int .i64 d, .int .i64 a, .bool true, .bool false] (tgaBl m t W H q x))) (by kernel_rfl) (by exact HY9.out) (fun hHeld => ?_)
   generalize wr.drew = w8 at HY9 hHeld ⊢
   refine wpAnyH_take (i := 0) (v := ?_) rfl (by kernel_rfl) (by kernel_rfl) (by kernel_rfl) (fun _ _ _ h => h) (Or.inl ⟨by kernel_rfl, ?_⟩) (by assumption) ?_
   rotate_left
   ·intro w9 hSw; (try dsimp only at hSw); have s0 : w9.cell? ⟨kb, 0, none⟩ = some (.slice (some ⟨kx, 0, none⟩) 18 18) := Blk.cell hSw.K 0; go_simp; (try with_reducible rfl)
   (try simp only [sps])
   refine wpAnyH_take (i := 1) (v := ?_) rfl (by kernel_rfl) (by kernel_rfl) (by kernel_rfl) (fun _ _ _ h => h) (Or.inl ⟨by kernel_rfl, ?_⟩) (by assumption) ?_
   rotate_left
   ·intro w9 hSw; (try dsimp only at hSw); have s1 := byConv hSw.X HL8.out rfl; rw [HBB.out] at s1; go_simp; (try with_reducible rfl)
   (try simp only [sps])
   refine wpAnyH_take (i := 3) (v := ?_) rfl (by kernel_rfl) (by kernel_rfl) (by kernel_rfl) (fun _ _ _ h => h) (Or.inl ⟨by kernel_rfl, ?_⟩) (by assumption) ?_
   rotate_left
   ·intro w9 hSw; (try dsimp only at hSw); have s0 : w9.cell? ⟨kh, 0, none⟩ = some (.int .i64 n) := Blk.cell hSw.H 0; have s1 : w9.cell? ⟨kh, 1, none⟩ = some (.bool false) := Blk.cell hSw.H 1; have s2 : w9.cell? ⟨kh, 2, none⟩ = some (.int .i64 (t : Int)) := Blk.cell hSw.H 2; have s3 : w9.cell? ⟨kh, 3, none⟩ = some (.int .i64 0) := Blk.cell hSw.H 3; have s4 : w9.cell? ⟨kh, 4, none⟩ = some (.int .i64 0) := Blk.cell hSw.H 4; have s5 : w9.cell? ⟨kh, 5, none⟩ = some (.int .i64 0) := Blk.cell hSw.H 5; have s6 : w9.cell? ⟨kh, 6, none⟩ = some (.int .i64 (W : Int)) := Blk.cell hSw.H 6; have s7 : w9.cell? ⟨kh, 7, none⟩ = some (.int .i64 (H : Int)) := Blk.cell hSw.H 7; have s8 : w9.cell? ⟨kh, 8, none⟩ = some (.int .i64 d) := Blk.cell hSw.H 8; have s9 : w9.cell? ⟨kh, 9, none⟩ = some (.int .i64 a) := Blk.cell hSw.H 9; have s10 : w9.cell? ⟨kh, 10, none⟩ = some (.bool true) := Blk.cell hSw.H 10; have s11 : w9.cell? ⟨kh, 11, none⟩ = some (.bool false) := Blk.cell hSw.H 11; go_simp; (try with_reducible rfl)
   (try simp only [sps])
   refine rdy 2 (fun K hK => ?_)
   go_simp
   refine (HRD.out _).mono ?_
   rintro e w7 ⟨rfl, b7⟩
   have HI7 := Lib.hid (HY9.out.below b7)
   refine hK.out _ _ HI7.out ?_
   clear hK K hHeld
   intro hHeld
   (try simp only [sps])
   by_cases hn1 : n = (m : Int)
   ·subst hn1
    by_cases hd1 : d = (q : Int)
    ·subst hd1
     by_cases ha1 : a = (u : Int)
     ·subst ha1
      refine wpAnyH_take (i := 4) (v := .bool false) rfl (by kernel_rfl) (by kernel_rfl) (by kernel_rfl) (fun _ _ _ h => h) (Or.inl ⟨by kernel_rfl, ?_⟩) (by assumption) ?_
      ·intro w9 hSw; clear hSw; go_simp; (try with_reducible rfl)
      (try simp only [sps])
      refine wpAnyH_done (by kernel_rfl) ?_ _
      (try simp only [sps])
      have eb : w7.cell? ⟨kb, 0, none⟩ = some (.slice (some ⟨kx, 0, none⟩) 18 18) := Blk.cell HI7.out.K 0
      have hcv := byConv HI7.out.X HL8.out rfl
      rw [HBB.out] at hcv
      go_wp2_with fail
      exact bodyPost_ret (v := .tuple #[.string bb, .int .i64 0]) (by simp [results, Tryz.results64, go_sem]) rfl ⟨by unfold tgaByV; rw [HLD.out, HFN.out, if_pos ⟨rfl, rfl, rfl, rfl⟩, HBB.out], by rw [← hkh]; exact HI7.out.B⟩
     ·have ha2 : ¬ (u : Int) = a := fun e => ha1 e.symm
      have HNE := Lib.hid ha1
      refine wpAnyH_take (i := 4) (v := .bool true) rfl (by kernel_rfl) (by kernel_rfl) (by kernel_rfl) (fun _ _ _ h => h) (Or.inl ⟨by kernel_rfl, ?_⟩) (by assumption) ?_
      ·intro w9 hSw; clear hSw; go_simp; (try with_reducible rfl)
      (try simp only [sps])
      refine wpAnyH_done (by kernel_rfl) ?_ _
      (try simp only [sps])
      go_wp2_with fail
      exact bodyPost_ret (v := .tuple #[.string ⟨#[]⟩, .int .i64 6]) (by simp [results, Tryz.results64, go_sem]) rfl ⟨by unfold tgaByV; rw [if_neg (fun e => HNE.out e.2.2.2)], by rw [← hkh]; exact HI7.out.B⟩
    ·have hd2 : ¬ (q : Int) = d := fun e => hd1 e.symm
     have HNE := Lib.hid hd1
     refine wpAnyH_take (i := 4) (v := .bool true) rfl (by kernel_rfl) (by kernel_rfl) (by kernel_rfl) (fun _ _ _ h => h) (Or.inl ⟨by kernel_rfl, ?_⟩) (by assumption) ?_
     ·intro w9 hSw; clear hSw; go_simp; (try with_reducible rfl)
     (try simp only [sps])
     refine wpAnyH_done (by kernel_rfl) ?_ _
     (try simp only [sps])
     go_wp2_with fail
     exact bodyPost_ret (v := .tuple #[.string ⟨#[]⟩, .int .i64 6]) (by simp [results, Tryz.results64, go_sem]) rfl ⟨by unfold tgaByV; rw [if_neg (fun e => HNE.out e.2.2.1)], by rw [← hkh]; exact HI7.out.B⟩
   ·have hn2 : ¬ (m : Int) = n := fun e => hn1 e.symm
    have HNE := Lib.hid hn1
    refine wpAnyH_take (i := 4) (v := .bool true) rfl (by kernel_rfl) (by kernel_rfl) (by kernel_rfl) (fun _ _ _ h => h) (Or.inl ⟨by kernel_rfl, ?_⟩) (by assumption) ?_
    ·intro w9 hSw; clear hSw; go_simp; (try with_reducible rfl)
    (try simp only [sps])
    refine wpAnyH_done (by kernel_rfl) ?_ _
    (try simp only [sps])
    go_wp2_with fail
    exact bodyPost_ret (v := .tuple #[.string ⟨#[]⟩, .int .i64 6]) (by simp [results, Tryz.results64, go_sem]) rfl ⟨by unfold tgaByV; rw [if_neg (fun e => HNE.out e.2.1)], by rw [← hkh]; exact HI7.out.B⟩
set_option maxRecDepth 100000 in
set_option maxHeartbeats 4000000 in
theorem tgaBytes_ft {n d a : Int} {m t W H q u x : Nat} (hn : n % 256 = (m : Int)) (ht : t ≤ 255) (hW : W ≤ 65535) (hH : H ≤ 65535) (hd : d % 256 = (q : Int)) (ha : bits .and .i64 a 15 = (u : Int)) (hu : u < 16) (hx : u + 32 = x) (w : World) :
  Calls Tryz.prog 64 #[.agg #[.int .i64 n, .bool false, .int .i64 (t : Int), .int .i64 0, .int .i64 0, .int .i64 0, .int .i64 (W : Int), .int .i64 (H : Int), .int .i64 d, .int .i64 a, .bool false, .bool true]] w fun e w' => e = .returned (tgaByV n d a m t W H q u x) ∧ Below w.heap.size w w' := by
 have hmk := run_make_row' (P := Tryz.prog) 22 5 (.int .u8 0) 1 Tryz.underlying22 info8 rfl .i64 .i64 18 (by decide) (by decide)
 simp only [show (((18 : Nat) : Int)) = 18 from rfl] at hmk
 have hmf : ∀ (fn : Fn) (first cap : Array Value) (w : World), (Instr.makeFunc fn first cap).run Tryz.prog w = .ok (.func fn first cap) w := fun _ _ _ _ => rfl
 have hm8 : m < 256 := by omega
 have hq8 : q < 256 := by omega
 have I0 : ByI w (((w.alloc (.cells #[.int .i64 n, .bool false, .int .i64 (t : Int), .int .i64 0, .int .i64 0, .int .i64 0, .int .i64 (W : Int), .int .i64 (H : Int), .int .i64 d, .int .i64 a, .bool false, .bool true] 121)).alloc (.cells (madeCells #[.int .u8 0] 18) 5)).alloc (.cells #[.slice (some ⟨w.heap.size + 1, 0, none⟩) 18 18] 22)) w.heap.size (w.heap.size + 1) (w.heap.size + 1 + 1) #[.int .i64 n, .bool false, .int .i64 (t : Int), .int .i64 0, .int .i64 0, .int .i64 0, .int .i64 (W : Int), .int .i64 (H : Int), .int .i64 d, .int .i64 a, .bool false, .bool true] [0, 0, 0, 0, 0, 0, 0, 0, 0, 0, 0, 0, 0, 0, 0, 0, 0, 0] := ⟨Blk.alloc (Blk.alloc (Blk.new _ _ _) _) _, (Blk.alloc (Blk.new_at _ _ _ (by simp)) _).eq_ (by rw [made8]; rfl), Blk.new_at _ _ _ (by simp), (((Below.refl _ _).alloc (Nat.le_refl _) _).alloc (by simp) _).alloc (by simp; omega) _, by omega⟩
 have n1 : w.heap.size ≠ w.heap.size + 1 := by omega
 have n2 : w.heap.size + 1 + 1 ≠ w.heap.size + 1 := by omega
 have HX := Lib.hid hx
 have HN := Lib.hid hn
 have HD := Lib.hid hd
 have HA := Lib.hid ha
 have HW := Lib.hid hW
 have HH := Lib.hid hH
 have HT := Lib.hid ht
 have HI := Lib.hid I0
 clear hx hW hH I0
 go_enter Tryz.func64, Tryz.ntmps64
 go_upto_region 3 with fail
 generalize ((w.alloc (.cells #[.int .i64 n, .bool false, .int .i64 (t : Int), .int .i64 0, .int .i64 0, .int .i64 0, .int .i64 (W : Int), .int .i64 (H : Int), .int .i64 d, .int .i64 a, .bool false, .bool true] 121)).alloc (.cells (madeCells #[.int .u8 0] 18) 5)).alloc (.cells #[.slice (some ⟨w.heap.size + 1, 0, none⟩) 18 18] 22) = w1 at HI ⊢
 generalize w.heap.size + 1 + 1 = kb at HI n2 ⊢
 generalize w.heap.size + 1 = kx at HI n1 n2 ⊢
 generalize hkh : w.heap.size = kh at HI n1 ⊢
 have n1s := n1.symm
 have n2s := n2.symm
 clear hmk hmf
 have wn : IntKind.u8.wrap n = (m : Int) := by rw [IntKind.wrap_u8]; exact hn
 have wt : IntKind.u8.wrap (t : Int) = (t : Int) := by rw [IntKind.wrap_u8]; omega
 have wd : IntKind.u8.wrap d = (q : Int) := by rw [IntKind.wrap_u8]; exact hd
 have w0w : IntKind.u8.wrap 0 = 0 := rfl
 clear hn hd
 have HI := Lib.hid HI.out.drew
 refine wp_region_held_drew (S := (fun w9 => w9.cell? ⟨kb, 0, none⟩ = some (.slice (some ⟨kx, 0, none⟩) 18 18) ∧ w9.cell? ⟨kh, 0, none⟩ = some (.int .i64 n) ∧ w9.cell? ⟨kh, 2, none⟩ = some (.int .i64 (t : Int)) ∧ w9.cell? ⟨kh, 5, none⟩ = some (.int .i64 0) ∧ w9.cell? ⟨kh, 8, none⟩ = some (.int .i64 d))) (by kernel_rfl) ⟨Blk.cell HI.out.K 0, Blk.cell HI.out.H 0, Blk.cell HI.out.H 2, Blk.cell HI.out.H 5, Blk.cell HI.out.H 8⟩ (fun hHeld => ?_)
 generalize w1.drew = w2 at HI hHeld ⊢
 refine tk 0 ?_
 (try simp only [sps])
 refine tk 1 ?_
 (try simp only [sps])
 refine tk 2 ?_
 (try simp only [sps])
 refine tk 3 ?_
 (try simp only [sps])
 refine tk 4 ?_
 (try simp only [sps])
 refine tk 5 ?_
 (try simp only [sps])
 refine tk 6 ?_
 (try simp only [sps])
 refine tk 7 ?_
 (try simp only [sps])
 refine tk 8 ?_
 (try simp only [sps])
 refine tk 9 ?_
 (try simp only [sps])
 refine tk 10 ?_
 (try simp only [sps])
 refine tk 11 ?_
 (try simp only [sps])
 refine tk 12 ?_
 (try simp only [sps])
 refine tk 13 ?_
 (try simp only [sps])
 refine tk 14 ?_
 (try simp only [sps])
 refine tk 15 ?_
 (try simp only [sps])
 refine tk 16 ?_
 (try simp only [sps])
 have u0 : w2.cell? ⟨kx, 0, none⟩ = some (.int .u8 0) := Blk.cell HI.out.X 0
 have v0 := Blk.frozen HI.out.X 0
 have ul := Blk.lt HI.out.X
 refine rdy 17 (fun K hK => ?_)
 go_simp
 have HI := Lib.hid (ByI.store (i := 0) (v := .int .u8 (m : Int)) (L' := [m, 0, 0, 0, 0, 0, 0, 0, 0, 0, 0, 0, 0, 0, 0, 0, 0, 0]) HI.out (by rfl))
 clear u0 v0 ul
 generalize w2.setCell ⟨kx, 0, none⟩ (.int .u8 (m : Int)) = w3 at HI ⊢
 refine hK.out _ _ ⟨Blk.cell HI.out.K 0, Blk.cell HI.out.H 0, Blk.cell HI.out.H 2, Blk.cell HI.out.H 5, Blk.cell HI.out.H 8⟩ ?_
 clear hK K hHeld
 intro hHeld
 (try simp only [sps])
 refine tk 18 ?_
 (try simp only [sps])
 have u2 : w3.cell? ⟨kx, 2, none⟩ = some (.int .u8 0) := Blk.cell HI.out.X 2
 have v2 := Blk.frozen HI.out.X 2
 have ul := Blk.lt HI.out.X
 refine rdy 19 (fun K hK => ?_)
 go_simp
 have HI := Lib.hid (ByI.store (i := 2) (v := .int .u8 (t : Int)) (L' := [m, 0, t, 0, 0, 0, 0, 0, 0, 0, 0, 0, 0, 0, 0, 0, 0, 0]) HI.out (by rfl))
 clear u2 v2 ul
 generalize w3.setCell ⟨kx, 2, none⟩ (.int .u8 (t : Int)) = w4 at HI ⊢
 refine hK.out _ _ ⟨Blk.cell HI.out.K 0, Blk.cell HI.out.H 0, Blk.cell HI.out.H 2, Blk.cell HI.out.H 5, Blk.cell HI.out.H 8⟩ ?_
 clear hK K hHeld
 intro hHeld
 (try simp only [sps])
 refine tk 20 ?_
 (try simp only [sps])
 have u7 : w4.cell? ⟨kx, 7, none⟩ = some (.int .u8 0) := Blk.cell HI.out.X 7
 have v7 := Blk.frozen HI.out.X 7
 have ul := Blk.lt HI.out.X
 refine rdy 21 (fun K hK => ?_)
 go_simp
 have HI := Lib.hid (ByI.store (i := 7) (v := .int .u8 0) (L' := [m, 0, t, 0, 0, 0, 0, 0, 0, 0, 0, 0, 0, 0, 0, 0, 0, 0]) HI.out (by rfl))
 clear u7 v7 ul
 generalize w4.setCell ⟨kx, 7, none⟩ (.int .u8 0) = w5 at HI ⊢
 refine hK.out _ _ ⟨Blk.cell HI.out.K 0, Blk.cell HI.out.H 0, Blk.cell HI.out.H 2, Blk.cell HI.out.H 5, Blk.cell HI.out.H 8⟩ ?_
 clear hK K hHeld
 intro hHeld
 (try simp only [sps])
 refine tk 22 ?_
 (try simp only [sps])
 have u16 : w5.cell? ⟨kx, 16, none⟩ = some (.int .u8 0) := Blk.cell HI.out.X 16
 have v16 := Blk.frozen HI.out.X 16
 have ul := Blk.lt HI.out.X
 refine rdy 23 (fun K hK => ?_)
 go_simp
 have HI := Lib.hid (ByI.store (i := 16) (v := .int .u8 (q : Int)) (L' := [m, 0, t, 0, 0, 0, 0, 0, 0, 0, 0, 0, 0, 0, 0, 0, q, 0]) HI.out (by rfl))
 clear u16 v16 ul
 generalize w5.setCell ⟨kx, 16, none⟩ (.int .u8 (q : Int)) = w6 at HI ⊢
 refine hK.out _ _ ⟨Blk.cell HI.out.K 0, Blk.cell HI.out.H 0, Blk.cell HI.out.H 2, Blk.cell HI.out.H 5, Blk.cell HI.out.H 8⟩ ?_
 clear hK K hHeld
 intro hHeld
 (try simp only [sps])
 refine wpAnyH_done (by kernel_rfl) ?_ _
 (try simp only [sps])
 clear hHeld wn wt wd w0w
 have g1 : w6.cell? ⟨kh, 1, none⟩ = some (.bool false) := Blk.cell HI.out.H 1
 have hv : w6.cell? ⟨kh, 3, none⟩ = some (.int .i64 0) := Blk.cell HI.out.H 3
 go_upto_region 7 with (go_at_call 116; refine (tgaPutI (i := 3) (j := 4) (v := 0) HI.out.K HI.out.X (by rfl) (by rfl) (by rfl) (by rfl) (by decide) (by first | exact HW.out | exact HH.out | decide)).mono ?_; rintro e w7 ⟨rfl, x4, t4⟩; have HI := Lib.hid (HI.out.put (L' := [m, 0, t, 0, 0, 0, 0, 0, 0, 0, 0, 0, 0, 0, 0, 0, q, 0]) t4 x4 (by rfl)))
 clear hv x4 t4 g1
 have hv : w7.cell? ⟨kh, 4, none⟩ = some (.int .i64 0) := Blk.cell HI.out.H 4
 go_upto_region 8 with (go_at_call 116; refine (tgaPutI (i := 5) (j := 6) (v := 0) HI.out.K HI.out.X (by rfl) (by rfl) (by rfl) (by rfl) (by decide) (by first | exact HW.out | exact HH.out | decide)).mono ?_; rintro e w8 ⟨rfl, x4, t4⟩; have HI := Lib.hid (HI.out.put (L' := [m, 0, t, 0, 0, 0, 0, 0, 0, 0, 0, 0, 0, 0, 0, 0, q, 0]) t4 x4 (by rfl)))
 clear hv x4 t4
 have hv : w8.cell? ⟨kh, 6, none⟩ = some (.int .i64 (W : Int)) := Blk.cell HI.out.H 6
 go_upto_region 9 with (go_at_call 116; refine (tgaPutI (i := 12) (j := 13) (v := W) HI.out.K HI.out.X (by rfl) (by rfl) (by rfl) (by rfl) (by decide) (by first | exact HW.out | exact HH.out | decide)).mono ?_; rintro e w9 ⟨rfl, x4, t4⟩; have HI := Lib.hid (HI.out.put (L' := [m, 0, t, 0, 0, 0, 0, 0, 0, 0, 0, 0, W % 256, W / 256, 0, 0, q, 0]) t4 x4 (by rfl)))
 clear hv x4 t4
 have hv : w9.cell? ⟨kh, 7, none⟩ = some (.int .i64 (H : Int)) := Blk.cell HI.out.H 7
 go_upto_region 10 with (go_at_call 116; refine (tgaPutI (i := 14) (j := 15) (v := H) HI.out.K HI.out.X (by rfl) (by rfl) (by rfl) (by rfl) (by decide) (by first | exact HW.out | exact HH.out | decide)).mono ?_; rintro e w10 ⟨rfl, x4, t4⟩; have HI := Lib.hid (HI.out.put (L' := [m, 0, t, 0, 0, 0, 0, 0, 0, 0, 0, 0, W % 256, W / 256, H % 256, H / 256, q, 0]) t4 x4 (by rfl)))
 clear hv x4 t4
 have wu : IntKind.u8.wrap (u : Int) = (u : Int) := by rw [IntKind.wrap_u8]; omega
 have o2 : bits .or .u8 (u : Int) 32 = (x : Int) := tga_or32 (by omega) HX.out
 have e9 : w10.cell? ⟨kh, 9, none⟩ = some (.int .i64 a) := Blk.cell HI.out.H 9
 have e10 : w10.cell? ⟨kh, 10, none⟩ = some (.bool false) := Blk.cell HI.out.H 10
 have e11 : w10.cell? ⟨kh, 11, none⟩ = some (.bool true) := Blk.cell HI.out.H 11
 have eb : w10.cell? ⟨kb, 0, none⟩ = some (.slice (some ⟨kx, 0, none⟩) 18 18) := Blk.cell HI.out.K 0
 have ex : w10.cell? ⟨kx, 17, none⟩ = some (.int .u8 0) := Blk.cell HI.out.X 17
 have ez : w10.frozen? ⟨kx, 17, none⟩ = false := Blk.frozen HI.out.X 17
 have el := Blk.lt HI.out.X
 go_upto_region 15 with fail
 refine bwp_gen (S := fun wx => ByI w wx kh kx kb #[.int .i64 n, .bool false, .int .i64 (t : Int), .int .i64 0, .int .i64 0, .int .i64 0, .int .i64 (W : Int), .int .i64 (H : Int), .int .i64 d, .int .i64 a, .bool false, .bool true] (tgaBl m t W H q x)) (by exact ((HI.out.store (i := 17) (v := .int .u8 (u : Int)) (L' := tgaBl m t W H q u) (by rfl)).store (i := 17) (v := .int .u8 (x : Int)) (L' := (tgaBl m t W H q x)) (by rfl))) (fun wx hXX => ?_)
 have hx8 : x < 256 := by have := HX.out; omega
 have HL8 := Lib.hid (tgaBl_lt hm8 HT.out HW.out HH.out hq8 hx8)
 have HHD := Lib.hid (tgaBb_hd (l := false) (p := true) (x := x) hm8 HT.out HW.out HH.out hq8 hu (by have := HX.out; simpa using this))
 have hbat := tgaBb_bat HL8.out
 have hcv := byConv hXX.X HL8.out rfl
 have hbs : (tgaBb (tgaBl m t W H q x)).size = 18 := rfl
 obtain ⟨bb, hbb⟩ : ∃ bb, tgaBb (tgaBl m t W H q x) = bb := ⟨_, rfl⟩
 rw [hbb] at hbat hcv hbs HHD
 have hlW : le2 bb 12 = W := by unfold le2; rw [hbat, hbat]; show W % 256 + 256 * (W / 256) = W; omega
 have hlH : le2 bb 14 = H := by unfold le2; rw [hbat, hbat]; show H % 256 + 256 * (H / 256) = H; omega
 have hl5 : le2 bb 5 = 0 := by unfold le2; rw [hbat, hbat]; rfl
 have HQC := Lib.hid (fun w => tgaChecksC (b := bb) hbs (hbat 1) (hbat 2) (hbat 17) (hbat 7) hl5 hlW hlH (hbat 16) w)
 have HRD0 := fun w => tgaHeadC (b := bb) hbs (hbat 0) (hbat 1) (hbat 2) hlW hlH (hbat 16) (hbat 17) w
 rw [HHD.out] at HRD0
 have HRD := Lib.hid HRD0
 have eb : wx.cell? ⟨kb, 0, none⟩ = some (.slice (some ⟨kx, 0, none⟩) 18 18) := Blk.cell hXX.K 0
 obtain ⟨L, hL⟩ : ∃ L, tgaChks 0 t 0 0 W H q x = L := ⟨_, rfl⟩
 have hlen : L.length = 12 := by rw [← hL]; rfl
 replace HQC : Hid (∀ w : World, Calls Tryz.prog 117 #[.string bb] w fun r w' => TgaChkPost w w' L r) := Lib.hid (by rw [← hL]; exact HQC.out)
 have HLD := Lib.hid hL
 have HBB := Lib.hid hbb
 have HI := Lib.hid hXX
 clear hL hbb hbat hbs hlW hlH hl5 HRD0 hXX HHD wu e9 e10 e11 ex ez el o2
 go_upto_region 16 with (go_at_call 117; refine (HQC.out _).mono ?_; rintro e w3 ⟨sb, rfl, hsb, b3, K3⟩; have HI3 := Lib.hid (And.intro (HI.out.below b3) K3); clear b3 K3 hsb)
 clear eb hcv
 go_loopg [7, 74] 12 (fun k v7 v74 wr => ∃ i : Nat, i + k = 12 ∧ v74 = .int .i64 (i : Int) ∧ Hid (∀ j, j < i → (L[j]?.map (·.1)) = some false) ∧ Hid (ByI w wr kh kx kb #[.int .i64 n, .bool false, .int .i64 (t : Int), .int .i64 0, .int .i64 0, .int .i64 0, .int .i64 (W : Int), .int .i64 (H : Int), .int .i64 d, .int .i64 a, .bool false, .bool true] (tgaBl m t W H q x) ∧ Blk wr sb 205 (chkW L).toArray))
 case atStart => exact ⟨0, rfl, rfl, Lib.hid (fun j hj => by omega), Lib.hid HI3.out⟩
 case round =>
  obtain ⟨i, hi, rfl, HOK, HY⟩ := hrel
  clear HI3 HI
  by_cases hi9 : i < 12
  ·have hi9I : (i : Int) < 12 := by omega
   obtain ⟨xx, hx⟩ : ∃ x, L[i]? = some x := ⟨L[i]'(by omega), List.getElem?_eq_getElem (by omega)⟩
   obtain ⟨k0, k1', k2', k3'⟩ := chkW_at hx
   have c0 := (Blk.cell HY.out.2 (i * 4)).trans ((List.getElem?_toArray).trans k0)
   have c1 := (Blk.cell HY.out.2 (i * 4 + 1)).trans ((List.getElem?_toArray).trans k1')
   have c2 := (Blk.cell HY.out.2 (i * 4 + 2)).trans ((List.getElem?_toArray).trans k2')
   have c3 := (Blk.cell HY.out.2 (i * 4 + 3)).trans ((List.getElem?_toArray).trans k3')
   have hsl := Blk.lt HY.out.2
   have HXX := Lib.hid hx
   have hII := Lib.hid hi
   obtain ⟨bo, kk, aa⟩ := xx
   obtain ⟨lo, hlo⟩ : ∃ lo, tgaLoose (bo, kk, aa) = lo := ⟨_, rfl⟩
   rw [hlo] at c3
   clear k0 k1' k2' k3' hx hi hlo
   cases bo with
   | false =>
    go_wp2_with fail
    go_roundg (12 - (i + 1))
    case measure => have := hII.out; omega
    case rel =>
     refine ⟨i + 1, by omega, by go_num, Lib.hid (fun j hj => ?_), Lib.hid ⟨HY.out.1.below ((Below.refl _ _).alloc (Nat.le_refl _) _), Blk.alloc HY.out.2 _⟩⟩
     by_cases e : j = i
     ·rw [e, HXX.out]; rfl
     ·exact HOK.out j (by omega)
   | true =>
    have hfb := firstBad_at HOK.out HXX.out
    have HFB := Lib.hid hfb
    clear hfb
    go_wp2_with fail
    exact bodyPost_ret (v := .tuple #[.string ⟨#[]⟩, .int .i64 6]) (by simp [results, Tryz.results64, go_sem]) rfl ⟨by unfold tgaByV; rw [HLD.out, if_neg (fun e => by rw [HFB.out] at e; exact absurd e.1 (by simp))], by rw [← hkh]; exact HY.out.1.B.alloc HY.out.1.B.size _⟩
  ·obtain rfl : i = 12 := by omega
   have hn : firstBad L = none := firstBad_all (fun x hx => by
    obtain ⟨j, hj, rfl⟩ := List.getElem_of_mem hx
    have := HOK.out j (by omega)
    rw [List.getElem?_eq_getElem hj] at this
    simpa using this)
   have HFN := Lib.hid hn
   clear hn
   have hnI : ¬ ((12 : Nat) : Int) < 12 := by omega
   go_upto_region 21 with fail
   have HY9 := Lib.hid HY.out.1.drew
   refine wp_region_held_drew (S := (fun w9 => ByI w w9 kh kx kb #[.int .i64 n, .bool false, .int .i64 (t : Int), .int .i64 0, .int .i64 0, .int .i64 0, .int .i64 (W : Int), .int .i64 (H : Int), .int .i64 d, .int .i64 a, .bool false, .bool true] (tgaBl m t W H q x))) (by kernel_rfl) (by exact HY9.out) (fun hHeld => ?_)
   generalize wr.drew = w8 at HY9 hHeld ⊢
   refine wpAnyH_take (i := 0) (v := ?_) rfl (by kernel_rfl) (by kernel_rfl) (by kernel_rfl) (fun _ _ _ h => h) (Or.inl ⟨by kernel_rfl, ?_⟩) (by assumption) ?_
   rotate_left
   ·intro w9 hSw; (try dsimp only at hSw); have s0 : w9.cell? ⟨kb, 0, none⟩ = some (.slice (some ⟨kx, 0, none⟩) 18 18) := Blk.cell hSw.K 0; go_simp; (try with_reducible rfl)
   (try simp only [sps])
   refine wpAnyH_take (i := 1) (v := ?_) rfl (by kernel_rfl) (by kernel_rfl) (by kernel_rfl) (fun _ _ _ h => h) (Or.inl ⟨by kernel_rfl, ?_⟩) (by assumption) ?_
   rotate_left
   ·intro w9 hSw; (try dsimp only at hSw); have s1 := byConv hSw.X HL8.out rfl; rw [HBB.out] at s1; go_simp; (try with_reducible rfl)
   (try simp only [sps])
   refine wpAnyH_take (i := 3) (v := ?_) rfl (by kernel_rfl) (by kernel_rfl) (by kernel_rfl) (fun _ _ _ h => h) (Or.inl ⟨by kernel_rfl, ?_⟩) (by assumption) ?_
   rotate_left
   ·intro w9 hSw; (try dsimp only at hSw); have s0 : w9.cell? ⟨kh, 0, none⟩ = some (.int .i64 n) := Blk.cell hSw.H 0; have s1 : w9.cell? ⟨kh, 1, none⟩ = some (.bool false) := Blk.cell hSw.H 1; have s2 : w9.cell? ⟨kh, 2, none⟩ = some (.int .i64 (t : Int)) := Blk.cell hSw.H 2; have s3 : w9.cell? ⟨kh, 3, none⟩ = some (.int .i64 0) := Blk.cell hSw.H 3; have s4 : w9.cell? ⟨kh, 4, none⟩ = some (.int .i64 0) := Blk.cell hSw.H 4; have s5 : w9.cell? ⟨kh, 5, none⟩ = some (.int .i64 0) := Blk.cell hSw.H 5; have s6 : w9.cell? ⟨kh, 6, none⟩ = some (.int .i64 (W : Int)) := Blk.cell hSw.H 6; have s7 : w9.cell? ⟨kh, 7, none⟩ = some (.int .i64 (H : Int)) := Blk.cell hSw.H 7; have s8 : w9.cell? ⟨kh, 8, none⟩ = some (.int .i64 d) := Blk.cell hSw.H 8; have s9 : w9.cell? ⟨kh, 9, none⟩ = some (.int .i64 a) := Blk.cell hSw.H 9; have s10 : w9.cell? ⟨kh, 10, none⟩ = some (.bool false) := Blk.cell hSw.H 10; have s11 : w9.cell? ⟨kh, 11, none⟩ = some (.bool true) := Blk.cell hSw.H 11; go_simp; (try with_reducible rfl)
   (try simp only [sps])
   refine rdy 2 (fun K hK => ?_)
   go_simp
   refine (HRD.out _).mono ?_
   rintro e w7 ⟨rfl, b7⟩
   have HI7 := Lib.hid (HY9.out.below b7)
   refine hK.out _ _ HI7.out ?_
   clear hK K hHeld
   intro hHeld
   (try simp only [sps])
   by_cases hn1 : n = (m : Int)
   ·subst hn1
    by_cases hd1 : d = (q : Int)
    ·subst hd1
     by_cases ha1 : a = (u : Int)
     ·subst ha1
      refine wpAnyH_take (i := 4) (v := .bool false) rfl (by kernel_rfl) (by kernel_rfl) (by kernel_rfl) (fun _ _ _ h => h) (Or.inl ⟨by kernel_rfl, ?_⟩) (by assumption) ?_
      ·intro w9 hSw; clear hSw; go_simp; (try with_reducible rfl)
      (try simp only [sps])
      refine wpAnyH_done (by kernel_rfl) ?_ _
      (try simp only [sps])
      have eb : w7.cell? ⟨kb, 0, none⟩ = some (.slice (some ⟨kx, 0, none⟩) 18 18) := Blk.cell HI7.out.K 0
      have hcv := byConv HI7.out.X HL8.out rfl
      rw [HBB.out] at hcv
      go_wp2_with fail
      exact bodyPost_ret (v := .tuple #[.string bb, .int .i64 0]) (by simp [results, Tryz.results64, go_sem]) rfl ⟨by unfold tgaByV; rw [HLD.out, HFN.out, if_pos ⟨rfl, rfl, rfl, rfl⟩, HBB.out], by rw [← hkh]; exact HI7.out.B⟩
     ·have ha2 : ¬ (u : Int) = a := fun e => ha1 e.symm
      have HNE := Lib.hid ha1
      refine wpAnyH_take (i := 4) (v := .bool true) rfl (by kernel_rfl) (by kernel_rfl) (by kernel_rfl) (fun _ _ _ h => h) (Or.inl ⟨by kernel_rfl, ?_⟩) (by assumption) ?_
      ·intro w9 hSw; clear hSw; go_simp; (try with_reducible rfl)
      (try simp only [sps])
      refine wpAnyH_done (by kernel_rfl) ?_ _
      (try simp only [sps])
      go_wp2_with fail
      exact bodyPost_ret (v := .tuple #[.string ⟨#[]⟩, .int .i64 6]) (by simp [results, Tryz.results64, go_sem]) rfl ⟨by unfold tgaByV; rw [if_neg (fun e => HNE.out e.2.2.2)], by rw [← hkh]; exact HI7.out.B⟩
    ·have hd2 : ¬ (q : Int) = d := fun e => hd1 e.symm
     have HNE := Lib.hid hd1
     refine wpAnyH_take (i := 4) (v := .bool true) rfl (by kernel_rfl) (by kernel_rfl) (by kernel_rfl) (fun _ _ _ h => h) (Or.inl ⟨by kernel_rfl, ?_⟩) (by assumption) ?_
     ·intro w9 hSw; clear hSw; go_simp; (try with_reducible rfl)
     (try simp only [sps])
     refine wpAnyH_done (by kernel_rfl) ?_ _
     (try simp only [sps])
     go_wp2_with fail
     exact bodyPost_ret (v := .tuple #[.string ⟨#[]⟩, .int .i64 6]) (by simp [results, Tryz.results64, go_sem]) rfl ⟨by unfold tgaByV; rw [if_neg (fun e => HNE.out e.2.2.1)], by rw [← hkh]; exact HI7.out.B⟩
   ·have hn2 : ¬ (m : Int) = n := fun e => hn1 e.symm
    have HNE := Lib.hid hn1
    refine wpAnyH_take (i := 4) (v := .bool true) rfl (by kernel_rfl) (by kernel_rfl) (by kernel_rfl) (fun _ _ _ h => h) (Or.inl ⟨by kernel_rfl, ?_⟩) (by assumption) ?_
    ·intro w9 hSw; clear hSw; go_simp; (try with_reducible rfl)
    (try simp only [sps])
    refine wpAnyH_done (by kernel_rfl) ?_ _
    (try simp only [sps])
    go_wp2_with fail
    exact bodyPost_ret (v := .tuple #[.string ⟨#[]⟩, .int .i64 6]) (by simp [results, Tryz.results64, go_sem]) rfl ⟨by unfold tgaByV; rw [if_neg (fun e => HNE.out e.2.1)], by rw [← hkh]; exact HI7.out.B⟩
set_option maxRecDepth 100000 in
set_option maxHeartbeats 4000000 in
theorem tgaBytes_tt {n d a : Int} {m t W H q u x : Nat} (hn : n % 256 = (m : Int)) (ht : t ≤ 255) (hW : W ≤ 65535) (hH : H ≤ 65535) (hd : d % 256 = (q : Int)) (ha : bits .and .i64 a 15 = (u : Int)) (hu : u < 16) (hx : u + 16 + 32 = x) (w : World) :
  Calls Tryz.prog 64 #[.agg #[.int .i64 n, .bool false, .int .i64 (t : Int), .int .i64 0, .int .i64 0, .int .i64 0, .int .i64 (W : Int), .int .i64 (H : Int), .int .i64 d, .int .i64 a, .bool true, .bool true]] w fun e w' => e = .returned (tgaByV n d a m t W H q u x) ∧ Below w.heap.size w w' := by
 have hmk := run_make_row' (P := Tryz.prog) 22 5 (.int .u8 0) 1 Tryz.underlying22 info8 rfl .i64 .i64 18 (by decide) (by decide)
 simp only [show (((18 : Nat) : Int)) = 18 from rfl] at hmk
 have hmf : ∀ (fn : Fn) (first cap : Array Value) (w : World), (Instr.makeFunc fn first cap).run Tryz.prog w = .ok (.func fn first cap) w := fun _ _ _ _ => rfl
 have hm8 : m < 256 := by omega
 have hq8 : q < 256 := by omega
 have I0 : ByI w (((w.alloc (.cells #[.int .i64 n, .bool false, .int .i64 (t : Int), .int .i64 0, .int .i64 0, .int .i64 0, .int .i64 (W : Int), .int .i64 (H : Int), .int .i64 d, .int .i64 a, .bool true, .bool true] 121)).alloc (.cells (madeCells #[.int .u8 0] 18) 5)).alloc (.cells #[.slice (some ⟨w.heap.size + 1, 0, none⟩) 18 18] 22)) w.heap.size (w.heap.size + 1) (w.heap.size + 1 + 1) #[.int .i64 n, .bool false, .int .i64 (t : Int), .int .i64 0, .int .i64 0, .int .i64 0, .int .i64 (W : Int), .int .i64 (H : Int), .int .i64 d, .int .i64 a, .bool true, .bool true] [0, 0, 0, 0, 0, 0, 0, 0, 0, 0, 0, 0, 0, 0, 0, 0, 0, 0] := ⟨Blk.alloc (Blk.alloc (Blk.new _ _ _) _) _, (Blk.alloc (Blk.new_at _ _ _ (by simp)) _).eq_ (by rw [made8]; rfl), Blk.new_at _ _ _ (by simp), (((Below.refl _ _).alloc (Nat.le_refl _) _).alloc (by simp) _).alloc (by simp; omega) _, by omega⟩
 have n1 : w.heap.size ≠ w.heap.size + 1 := by omega
 have n2 : w.heap.size + 1 + 1 ≠ w.heap.size + 1 := by omega
 have HX := Lib.hid hx
 have HN := Lib.hid hn
 have HD := Lib.hid hd
 have HA := Lib.hid ha
 have HW := Lib.hid hW
 have HH := Lib.hid hH
 have HT := Lib.hid ht
 have HI := Lib.hid I0
 clear hx hW hH I0
 go_enter Tryz.func64, Tryz.ntmps64
 go_upto_region 3 with fail
 generalize ((w.alloc (.cells #[.int .i64 n, .bool false, .int .i64 (t : Int), .int .i64 0, .int .i64 0, .int .i64 0, .int .i64 (W : Int), .int .i64 (H : Int), .int .i64 d, .int .i64 a, .bool true, .bool true] 121)).alloc (.cells (madeCells #[.int .u8 0] 18) 5)).alloc (.cells #[.slice (some ⟨w.heap.size + 1, 0, none⟩) 18 18] 22) = w1 at HI ⊢
 generalize w.heap.size + 1 + 1 = kb at HI n2 ⊢
 generalize w.heap.size + 1 = kx at HI n1 n2 ⊢
 generalize hkh : w.heap.size = kh at HI n1 ⊢
 have n1s := n1.symm
 have n2s := n2.symm
 clear hmk hmf
 have wn : IntKind.u8.wrap n = (m : Int) := by rw [IntKind.wrap_u8]; exact hn
 have wt : IntKind.u8.wrap (t : Int) = (t : Int) := by rw [IntKind.wrap_u8]; omega
 have wd : IntKind.u8.wrap d = (q : Int) := by rw [IntKind.wrap_u8]; exact hd
 have w0w : IntKind.u8.wrap 0 = 0 := rfl
 clear hn hd
 have HI := Lib.hid HI.out.drew
 refine wp_region_held_drew (S := (fun w9 => w9.cell? ⟨kb, 0, none⟩ = some (.slice (some ⟨kx, 0, none⟩) 18 18) ∧ w9.cell? ⟨kh, 0, none⟩ = some (.int .i64 n) ∧ w9.cell? ⟨kh, 2, none⟩ = some (.int .i64 (t : Int)) ∧ w9.cell? ⟨kh, 5, none⟩ = some (.int .i64 0) ∧ w9.cell? ⟨kh, 8, none⟩ = some (.int .i64 d))) (by kernel_rfl) ⟨Blk.cell HI.out.K 0, Blk.cell HI.out.H 0, Blk.cell HI.out.H 2, Blk.cell HI.out.H 5, Blk.cell HI.out.H 8⟩ (fun hHeld => ?_)
 generalize w1.drew = w2 at HI hHeld ⊢
 refine tk 0 ?_
 (try simp only [sps])
 refine tk 1 ?_
 (try simp only [sps])
 refine tk 2 ?_
 (try simp only [sps])
 refine tk 3 ?_
 (try simp only [sps])
 refine tk 4 ?_
 (try simp only [sps])
 refine tk 5 ?_
 (try simp only [sps])
 refine tk 6 ?_
 (try simp only [sps])
 refine tk 7 ?_
 (try simp only [sps])
 refine tk 8 ?_
 (try simp only [sps])
 refine tk 9 ?_
 (try simp only [sps])
 refine tk 10 ?_
 (try simp only [sps])
 refine tk 11 ?_
 (try simp only [sps])
 refine tk 12 ?_
 (try simp only [sps])
 refine tk 13 ?_
 (try simp only [sps])
 refine tk 14 ?_
 (try simp only [sps])
 refine tk 15 ?_
 (try simp only [sps])
 refine tk 16 ?_
 (try simp only [sps])
 have u0 : w2.cell? ⟨kx, 0, none⟩ = some (.int .u8 0) := Blk.cell HI.out.X 0
 have v0 := Blk.frozen HI.out.X 0
 have ul := Blk.lt HI.out.X
 refine rdy 17 (fun K hK => ?_)
 go_simp
 have HI := Lib.hid (ByI.store (i := 0) (v := .int .u8 (m : Int)) (L' := [m, 0, 0, 0, 0, 0, 0, 0, 0, 0, 0, 0, 0, 0, 0, 0, 0, 0]) HI.out (by rfl))
 clear u0 v0 ul
 generalize w2.setCell ⟨kx, 0, none⟩ (.int .u8 (m : Int)) = w3 at HI ⊢
 refine hK.out _ _ ⟨Blk.cell HI.out.K 0, Blk.cell HI.out.H 0, Blk.cell HI.out.H 2, Blk.cell HI.out.H 5, Blk.cell HI.out.H 8⟩ ?_
 clear hK K hHeld
 intro hHeld
 (try simp only [sps])
 refine tk 18 ?_
 (try simp only [sps])
 have u2 : w3.cell? ⟨kx, 2, none⟩ = some (.int .u8 0) := Blk.cell HI.out.X 2
 have v2 := Blk.frozen HI.out.X 2
 have ul := Blk.lt HI.out.X
 refine rdy 19 (fun K hK => ?_)
 go_simp
 have HI := Lib.hid (ByI.store (i := 2) (v := .int .u8 (t : Int)) (L' := [m, 0, t, 0, 0, 0, 0, 0, 0, 0, 0, 0, 0, 0, 0, 0, 0, 0]) HI.out (by rfl))
 clear u2 v2 ul
 generalize w3.setCell ⟨kx, 2, none⟩ (.int .u8 (t : Int)) = w4 at HI ⊢
 refine hK.out _ _ ⟨Blk.cell HI.out.K 0, Blk.cell HI.out.H 0, Blk.cell HI.out.H 2, Blk.cell HI.out.H 5, Blk.cell HI.out.H 8⟩ ?_
 clear hK K hHeld
 intro hHeld
 (try simp only [sps])
 refine tk 20 ?_
 (try simp only [sps])
 have u7 : w4.cell? ⟨kx, 7, none⟩ = some (.int .u8 0) := Blk.cell HI.out.X 7
 have v7 := Blk.frozen HI.out.X 7
 have ul := Blk.lt HI.out.X
 refine rdy 21 (fun K hK => ?_)
 go_simp
 have HI := Lib.hid (ByI.store (i := 7) (v := .int .u8 0) (L' := [m, 0, t, 0, 0, 0, 0, 0, 0, 0, 0, 0, 0, 0, 0, 0, 0, 0]) HI.out (by rfl))
 clear u7 v7 ul
 generalize w4.setCell ⟨kx, 7, none⟩ (.int .u8 0) = w5 at HI ⊢
 refine hK.out _ _ ⟨Blk.cell HI.out.K 0, Blk.cell HI.out.H 0, Blk.cell HI.out.H 2, Blk.cell HI.out.H 5, Blk.cell HI.out.H 8⟩ ?_
 clear hK K hHeld
 intro hHeld
 (try simp only [sps])
 refine tk 22 ?_
 (try simp only [sps])
 have u16 : w5.cell? ⟨kx, 16, none⟩ = some (.int .u8 0) := Blk.cell HI.out.X 16
 have v16 := Blk.frozen HI.out.X 16
 have ul := Blk.lt HI.out.X
 refine rdy 23 (fun K hK => ?_)
 go_simp
 have HI := Lib.hid (ByI.store (i := 16) (v := .int .u8 (q : Int)) (L' := [m, 0, t, 0, 0, 0, 0, 0, 0, 0, 0, 0, 0, 0, 0, 0, q, 0]) HI.out (by rfl))
 clear u16 v16 ul
 generalize w5.setCell ⟨kx, 16, none⟩ (.int .u8 (q : Int)) = w6 at HI ⊢
 refine hK.out _ _ ⟨Blk.cell HI.out.K 0, Blk.cell HI.out.H 0, Blk.cell HI.out.H 2, Blk.cell HI.out.H 5, Blk.cell HI.out.H 8⟩ ?_
 clear hK K hHeld
 intro hHeld
 (try simp only [sps])
 refine wpAnyH_done (by kernel_rfl) ?_ _
 (try simp only [sps])
 clear hHeld wn wt wd w0w
 have g1 : w6.cell? ⟨kh, 1, none⟩ = some (.bool false) := Blk.cell HI.out.H 1
 have hv : w6.cell? ⟨kh, 3, none⟩ = some (.int .i64 0) := Blk.cell HI.out.H 3
 go_upto_region 7 with (go_at_call 116; refine (tgaPutI (i := 3) (j := 4) (v := 0) HI.out.K HI.out.X (by rfl) (by rfl) (by rfl) (by rfl) (by decide) (by first | exact HW.out | exact HH.out | decide)).mono ?_; rintro e w7 ⟨rfl, x4, t4⟩; have HI := Lib.hid (HI.out.put (L' := [m, 0, t, 0, 0, 0, 0, 0, 0, 0, 0, 0, 0, 0, 0, 0, q, 0]) t4 x4 (by rfl)))
 clear hv x4 t4 g1
 have hv : w7.cell? ⟨kh, 4, none⟩ = some (.int .i64 0) := Blk.cell HI.out.H 4
 go_upto_region 8 with (go_at_call 116; refine (tgaPutI (i := 5) (j := 6) (v := 0) HI.out.K HI.out.X (by rfl) (by rfl) (by rfl) (by rfl) (by decide) (by first | exact HW.out | exact HH.out | decide)).mono ?_; rintro e w8 ⟨rfl, x4, t4⟩; have HI := Lib.hid (HI.out.put (L' := [m, 0, t, 0, 0, 0, 0, 0, 0, 0, 0, 0, 0, 0, 0, 0, q, 0]) t4 x4 (by rfl)))
 clear hv x4 t4
 have hv : w8.cell? ⟨kh, 6, none⟩ = some (.int .i64 (W : Int)) := Blk.cell HI.out.H 6
 go_upto_region 9 with (go_at_call 116; refine (tgaPutI (i := 12) (j := 13) (v := W) HI.out.K HI.out.X (by rfl) (by rfl) (by rfl) (by rfl) (by decide) (by first | exact HW.out | exact HH.out | decide)).mono ?_; rintro e w9 ⟨rfl, x4, t4⟩; have HI := Lib.hid (HI.out.put (L' := [m, 0, t, 0, 0, 0, 0, 0, 0, 0, 0, 0, W % 256, W / 256, 0, 0, q, 0]) t4 x4 (by rfl)))
 clear hv x4 t4
 have hv : w9.cell? ⟨kh, 7, none⟩ = some (.int .i64 (H : Int)) := Blk.cell HI.out.H 7
 go_upto_region 10 with (go_at_call 116; refine (tgaPutI (i := 14) (j := 15) (v := H) HI.out.K HI.out.X (by rfl) (by rfl) (by rfl) (by rfl) (by decide) (by first | exact HW.out | exact HH.out | decide)).mono ?_; rintro e w10 ⟨rfl, x4, t4⟩; have HI := Lib.hid (HI.out.put (L' := [m, 0, t, 0, 0, 0, 0, 0, 0, 0, 0, 0, W % 256, W / 256, H % 256, H / 256, q, 0]) t4 x4 (by rfl)))
 clear hv x4 t4
 have wu : IntKind.u8.wrap (u : Int) = (u : Int) := by rw [IntKind.wrap_u8]; omega
 obtain ⟨y, hy⟩ : ∃ y, u + 16 = y := ⟨_, rfl⟩
 have o1 : bits .or .u8 (u : Int) 16 = (y : Int) := tga_or16 hu hy
 have o2 : bits .or .u8 (y : Int) 32 = (x : Int) := tga_or32 (by omega) (by rw [← hy]; exact HX.out)
 have wy : IntKind.u8.wrap (y : Int) = (y : Int) := by rw [IntKind.wrap_u8]; omega
 have e9 : w10.cell? ⟨kh, 9, none⟩ = some (.int .i64 a) := Blk.cell HI.out.H 9
 have e10 : w10.cell? ⟨kh, 10, none⟩ = some (.bool true) := Blk.cell HI.out.H 10
 have e11 : w10.cell? ⟨kh, 11, none⟩ = some (.bool true) := Blk.cell HI.out.H 11
 have eb : w10.cell? ⟨kb, 0, none⟩ = some (.slice (some ⟨kx, 0, none⟩) 18 18) := Blk.cell HI.out.K 0
 have ex : w10.cell? ⟨kx, 17, none⟩ = some (.int .u8 0) := Blk.cell HI.out.X 17
 have ez : w10.frozen? ⟨kx, 17, none⟩ = false := Blk.frozen HI.out.X 17
 have el := Blk.lt HI.out.X
 go_upto_region 15 with fail
 refine bwp_gen (S := fun wx => ByI w wx kh kx kb #[.int .i64 n, .bool false, .int .i64 (t : Int), .int .i64 0, .int .i64 0, .int .i64 0, .int .i64 (W : Int), .int .i64 (H : Int), .int .i64 d, .int .i64 a, .bool true, .bool true] (tgaBl m t W H q x)) (by exact (((HI.out.store (i := 17) (v := .int .u8 (u : Int)) (L' := tgaBl m t W H q u) (by rfl)).store (i := 17) (v := .int .u8 (y : Int)) (L' := tgaBl m t W H q y) (by rfl)).store (i := 17) (v := .int .u8 (x : Int)) (L' := (tgaBl m t W H q x)) (by rfl))) (fun wx hXX => ?_)
 have hx8 : x < 256 := by have := HX.out; omega
 have HL8 := Lib.hid (tgaBl_lt hm8 HT.out HW.out HH.out hq8 hx8)
 have HHD := Lib.hid (tgaBb_hd (l := true) (p := true) (x := x) hm8 HT.out HW.out HH.out hq8 hu (by have := HX.out; simpa using this))
 have hbat := tgaBb_bat HL8.out
 have hcv := byConv hXX.X HL8.out rfl
 have hbs : (tgaBb (tgaBl m t W H q x)).size = 18 := rfl
 obtain ⟨bb, hbb⟩ : ∃ bb, tgaBb (tgaBl m t W H q x) = bb := ⟨_, rfl⟩
 rw [hbb] at hbat hcv hbs HHD
 have hlW : le2 bb 12 = W := by unfold le2; rw [hbat, hbat]; show W % 256 + 256 * (W / 256) = W; omega
 have hlH : le2 bb 14 = H := by unfold le2; rw [hbat, hbat]; show H % 256 + 256 * (H / 256) = H; omega
 have hl5 : le2 bb 5 = 0 := by unfold le2; rw [hbat, hbat]; rfl
 have HQC := Lib.hid (fun w => tgaChecksC (b := bb) hbs (hbat 1) (hbat 2) (hbat 17) (hbat 7) hl5 hlW hlH (hbat 16) w)
 have HRD0 := fun w => tgaHeadC (b := bb) hbs (hbat 0) (hbat 1) (hbat 2) hlW hlH (hbat 16) (hbat 17) w
 rw [HHD.out] at HRD0
 have HRD := Lib.hid HRD0
 have eb : wx.cell? ⟨kb, 0, none⟩ = some (.slice (some ⟨kx, 0, none⟩) 18 18) := Blk.cell hXX.K 0
 obtain ⟨L, hL⟩ : ∃ L, tgaChks 0 t 0 0 W H q x = L := ⟨_, rfl⟩
 have hlen : L.length = 12 := by rw [← hL]; rfl
 replace HQC : Hid (∀ w : World, Calls Tryz.prog 117 #[.string bb] w fun r w' => TgaChkPost w w' L r) := Lib.hid (by rw [← hL]; exact HQC.out)
 have HLD := Lib.hid hL
 have HBB := Lib.hid hbb
 have HI := Lib.hid hXX
 clear hL hbb hbat hbs hlW hlH hl5 HRD0 hXX HHD wu e9 e10 e11 ex ez el o1 o2 wy
 go_upto_region 16 with (go_at_call 117; refine (HQC.out _).mono ?_; rintro e w3 ⟨sb, rfl, hsb, b3, K3⟩; have HI3 := Lib.hid (And.intro (HI.out.below b3) K3); clear b3 K3 hsb)
 clear eb hcv
 go_loopg [7, 74] 12 (fun k v7 v74 wr => ∃ i : Nat, i + k = 12 ∧ v74 = .int .i64 (i : Int) ∧ Hid (∀ j, j < i → (L[j]?.map (·.1)) = some false) ∧ Hid (ByI w wr kh kx kb #[.int .i64 n, .bool false, .int .i64 (t : Int), .int .i64 0, .int .i64 0, .int .i64 0, .int .i64 (W : Int), .int .i64 (H : Int), .int .i64 d, .int .i64 a, .bool true, .bool true] (tgaBl m t W H q x) ∧ Blk wr sb 205 (chkW L).toArray))
 case atStart => exact ⟨0, rfl, rfl, Lib.hid (fun j hj => by omega), Lib.hid HI3.out⟩
 case round =>
  obtain ⟨i, hi, rfl, HOK, HY⟩ := hrel
  clear HI3 HI
  by_cases hi9 : i < 12
  ·have hi9I : (i : Int) < 12 := by omega
   obtain ⟨xx, hx⟩ : ∃ x, L[i]? = some x := ⟨L[i]'(by omega), List.getElem?_eq_getElem (by omega)⟩
   obtain ⟨k0, k1', k2', k3'⟩ := chkW_at hx
   have c0 := (Blk.cell HY.out.2 (i * 4)).trans ((List.getElem?_toArray).trans k0)
   have c1 := (Blk.cell HY.out.2 (i * 4 + 1)).trans ((List.getElem?_toArray).trans k1')
   have c2 := (Blk.cell HY.out.2 (i * 4 + 2)).trans ((List.getElem?_toArray).trans k2')
   have c3 := (Blk.cell HY.out.2 (i * 4 + 3)).trans ((List.getElem?_toArray).trans k3')
   have hsl := Blk.lt HY.out.2
   have HXX := Lib.hid hx
   have hII := Lib.hid hi
   obtain ⟨bo, kk, aa⟩ := xx
   obtain ⟨lo, hlo⟩ : ∃ lo, tgaLoose (bo, kk, aa) = lo := ⟨_, rfl⟩
   rw [hlo] at c3
   clear k0 k1' k2' k3' hx hi hlo
   cases bo with
   | false =>
    go_wp2_with fail
    go_roundg (12 - (i + 1))
    case measure => have := hII.out; omega
    case rel =>
     refine ⟨i + 1, by omega, by go_num, Lib.hid (fun j hj => ?_), Lib.hid ⟨HY.out.1.below ((Below.refl _ _).alloc (Nat.le_refl _) _), Blk.alloc HY.out.2 _⟩⟩
     by_cases e : j = i
     ·rw [e, HXX.out]; rfl
     ·exact HOK.out j (by omega)
   | true =>
    have hfb := firstBad_at HOK.out HXX.out
    have HFB := Lib.hid hfb
    clear hfb
    go_wp2_with fail
    exact bodyPost_ret (v := .tuple #[.string ⟨#[]⟩, .int .i64 6]) (by simp [results, Tryz.results64, go_sem]) rfl ⟨by unfold tgaByV; rw [HLD.out, if_neg (fun e => by rw [HFB.out] at e; exact absurd e.1 (by simp))], by rw [← hkh]; exact HY.out.1.B.alloc HY.out.1.B.size _⟩
  ·obtain rfl : i = 12 := by omega
   have hn : firstBad L = none := firstBad_all (fun x hx => by
    obtain ⟨j, hj, rfl⟩ := List.getElem_of_mem hx
    have := HOK.out j (by omega)
    rw [List.getElem?_eq_getElem hj] at this
    simpa using this)
   have HFN := Lib.hid hn
   clear hn
   have hnI : ¬ ((12 : Nat) : Int) < 12 := by omega
   go_upto_region 21 with fail
   have HY9 := Lib.hid HY.out.1.drew
   refine wp_region_held_drew (S := (fun w9 => ByI w w9 kh kx kb #[.int .i64 n, .bool false, .int .i64 (t : Int), .int .i64 0, .int .i64 0, .int .i64 0, .int .i64 (W : Int), .int .i64 (H : Int), .int .i64 d, .int .i64 a, .bool true, .bool true] (tgaBl m t W H q x))) (by kernel_rfl) (by exact HY9.out) (fun hHeld => ?_)
   generalize wr.drew = w8 at HY9 hHeld ⊢
   refine wpAnyH_take (i := 0) (v := ?_) rfl (by kernel_rfl) (by kernel_rfl) (by kernel_rfl) (fun _ _ _ h => h) (Or.inl ⟨by kernel_rfl, ?_⟩) (by assumption) ?_
   rotate_left
   ·intro w9 hSw; (try dsimp only at hSw); have s0 : w9.cell? ⟨kb, 0, none⟩ = some (.slice (some ⟨kx, 0, none⟩) 18 18) := Blk.cell hSw.K 0; go_simp; (try with_reducible rfl)
   (try simp only [sps])
   refine wpAnyH_take (i := 1) (v := ?_) rfl (by kernel_rfl) (by kernel_rfl) (by kernel_rfl) (fun _ _ _ h => h) (Or.inl ⟨by kernel_rfl, ?_⟩) (by assumption) ?_
   rotate_left
   ·intro w9 hSw; (try dsimp only at hSw); have s1 := byConv hSw.X HL8.out rfl; rw [HBB.out] at s1; go_simp; (try with_reducible rfl)
   (try simp only [sps])
   refine wpAnyH_take (i := 3) (v := ?_) rfl (by kernel_rfl) (by kernel_rfl) (by kernel_rfl) (fun _ _ _ h => h) (Or.inl ⟨by kernel_rfl, ?_⟩) (by assumption) ?_
   rotate_left
   ·intro w9 hSw; (try dsimp only at hSw); have s0 : w9.cell? ⟨kh, 0, none⟩ = some (.int .i64 n) := Blk.cell hSw.H 0; have s1 : w9.cell? ⟨kh, 1, none⟩ = some (.bool false) := Blk.cell hSw.H 1; have s2 : w9.cell? ⟨kh, 2, none⟩ = some (.int .i64 (t : Int)) := Blk.cell hSw.H 2; have s3 : w9.cell? ⟨kh, 3, none⟩ = some (.int .i64 0) := Blk.cell hSw.H 3; have s4 : w9.cell? ⟨kh, 4, none⟩ = some (.int .i64 0) := Blk.cell hSw.H 4; have s5 : w9.cell? ⟨kh, 5, none⟩ = some (.int .i64 0) := Blk.cell hSw.H 5; have s6 : w9.cell? ⟨kh, 6, none⟩ = some (.int .i64 (W : Int)) := Blk.cell hSw.H 6; have s7 : w9.cell? ⟨kh, 7, none⟩ = some (.int .i64 (H : Int)) := Blk.cell hSw.H 7; have s8 : w9.cell? ⟨kh, 8, none⟩ = some (.int .i64 d) := Blk.cell hSw.H 8; have s9 : w9.cell? ⟨kh, 9, none⟩ = some (.int .i64 a) := Blk.cell hSw.H 9; have s10 : w9.cell? ⟨kh, 10, none⟩ = some (.bool true) := Blk.cell hSw.H 10; have s11 : w9.cell? ⟨kh, 11, none⟩ = some (.bool true) := Blk.cell hSw.H 11; go_simp; (try with_reducible rfl)
   (try simp only [sps])
   refine rdy 2 (fun K hK => ?_)
   go_simp
   refine (HRD.out _).mono ?_
   rintro e w7 ⟨rfl, b7⟩
   have HI7 := Lib.hid (HY9.out.below b7)
   refine hK.out _ _ HI7.out ?_
   clear hK K hHeld
   intro hHeld
   (try simp only [sps])
   by_cases hn1 : n = (m : Int)
   ·subst hn1
    by_cases hd1 : d = (q : Int)
    ·subst hd1
     by_cases ha1 : a = (u : Int)
     ·subst ha1
      refine wpAnyH_take (i := 4) (v := .bool false) rfl (by kernel_rfl) (by kernel_rfl) (by kernel_rfl) (fun _ _ _ h => h) (Or.inl ⟨by kernel_rfl, ?_⟩) (by assumption) ?_
      ·intro w9 hSw; clear hSw; go_simp; (try with_reducible rfl)
      (try simp only [sps])
      refine wpAnyH_done (by kernel_rfl) ?_ _
      (try simp only [sps])
      have eb : w7.cell? ⟨kb, 0, none⟩ = some (.slice (some ⟨kx, 0, none⟩) 18 18) := Blk.cell HI7.out.K 0
      have hcv := byConv HI7.out.X HL8.out rfl
      rw [HBB.out] at hcv
      go_wp2_with fail
      exact bodyPost_ret (v := .tuple #[.string bb, .int .i64 0]) (by simp [results, Tryz.results64, go_sem]) rfl ⟨by unfold tgaByV; rw [HLD.out, HFN.out, if_pos ⟨rfl, rfl, rfl, rfl⟩, HBB.out], by rw [← hkh]; exact HI7.out.B⟩
     ·have ha2 : ¬ (u : Int) = a := fun e => ha1 e.symm
      have HNE := Lib.hid ha1
      refine wpAnyH_take (i := 4) (v := .bool true) rfl (by kernel_rfl) (by kernel_rfl) (by kernel_rfl) (fun _ _ _ h => h) (Or.inl ⟨by kernel_rfl, ?_⟩) (by assumption) ?_
      ·intro w9 hSw; clear hSw; go_simp; (try with_reducible rfl)
      (try simp only [sps])
      refine wpAnyH_done (by kernel_rfl) ?_ _
      (try simp only [sps])
      go_wp2_with fail
      exact bodyPost_ret (v := .tuple #[.string ⟨#[]⟩, .int .i64 6]) (by simp [results, Tryz.results64, go_sem]) rfl ⟨by unfold tgaByV; rw [if_neg (fun e => HNE.out e.2.2.2)], by rw [← hkh]; exact HI7.out.B⟩
    ·have hd2 : ¬ (q : Int) = d := fun e => hd1 e.symm
     have HNE := Lib.hid hd1
     refine wpAnyH_take (i := 4) (v := .bool true) rfl (by kernel_rfl) (by kernel_rfl) (by kernel_rfl) (fun _ _ _ h => h) (Or.inl ⟨by kernel_rfl, ?_⟩) (by assumption) ?_
     ·intro w9 hSw; clear hSw; go_simp; (try with_reducible rfl)
     (try simp only [sps])
     refine wpAnyH_done (by kernel_rfl) ?_ _
     (try simp only [sps])
     go_wp2_with fail
     exact bodyPost_ret (v := .tuple #[.string ⟨#[]⟩, .int .i64 6]) (by simp [results, Tryz.results64, go_sem]) rfl ⟨by unfold tgaByV; rw [if_neg (fun e => HNE.out e.2.2.1)], by rw [← hkh]; exact HI7.out.B⟩
   ·have hn2 : ¬ (m : Int) = n := fun e => hn1 e.symm
    have HNE := Lib.hid hn1
    refine wpAnyH_take (i := 4) (v := .bool true) rfl (by kernel_rfl) (by kernel_rfl) (by kernel_rfl) (fun _ _ _ h => h) (Or.inl ⟨by kernel_rfl, ?_⟩) (by assumption) ?_
    ·intro w9 hSw; clear hSw; go_simp; (try with_reducible rfl)
    (try simp only [sps])
    refine wpAnyH_done (by kernel_rfl) ?_ _
    (try simp only [sps])
    go_wp2_with fail
    exact bodyPost_ret (v := .tuple #[.string ⟨#[]⟩, .int .i64 6]) (by simp [results, Tryz.results64, go_sem]) rfl ⟨by unfold tgaByV; rw [if_neg (fun e => HNE.out e.2.1)], by rw [← hkh]; exact HI7.out.B⟩
theorem tgaBytesC {n d a : Int} {m t W H q u x : Nat} {l p : Bool} (hn : n % 256 = (m : Int)) (ht : t ≤ 255) (hW : W ≤ 65535) (hH : H ≤ 65535) (hd : d % 256 = (q : Int)) (ha : bits .and .i64 a 15 = (u : Int)) (hu : u < 16) (hx : u + (if l then 16 else 0) + (if p then 32 else 0) = x) (w : World) :
  Calls Tryz.prog 64 #[.agg #[.int .i64 n, .bool false, .int .i64 (t : Int), .int .i64 0, .int .i64 0, .int .i64 0, .int .i64 (W : Int), .int .i64 (H : Int), .int .i64 d, .int .i64 a, .bool l, .bool p]] w fun e w' => e = .returned (tgaByV n d a m t W H q u x) ∧ Below w.heap.size w w' := by
 cases l with
 | false => cases p with
  | false => exact tgaBytes_ff hn ht hW hH hd ha hu (by simpa using hx) w
  | true => exact tgaBytes_ft hn ht hW hH hd ha hu (by simpa using hx) w
 | true => cases p with
  | false => exact tgaBytes_tf hn ht hW hH hd ha hu (by simpa using hx) w
  | true => exact tgaBytes_tt hn ht hW hH hd ha hu (by simpa using hx) w
end Go.Proofs.YtlehkgkomjojmaaGreat
