/- Plain: what the head of a PNM file asks of a budget, number by number. -/
import Derived.Test.YthljhebbblhakaaGreatDoorEPnmHead
import Derived.Test.YthljhebbblhakaaGreatDoorETok
namespace Go.Proofs.YthljhebbblhakaaGreatDoor
set_option linter.unusedVariables false

/-- so many steps, each one place further -/
def stepsD (z : Nat) : Nat → Nat → Dec → Dec
  | _, 0, k => k
  | a, n + 1, k => .work 1 z a (stepsD z (a + 1) n k)
def badD (z kd pl : Nat) : Dec := .give z (.fin (.bad kd pl))
theorem stepsD_yes {x : Led} (hx : x.reason = 0) {z : Nat} {k : Dec} : ∀ (n a j : Nat), x.steps + j + n ≤ x.S → (stepsD z a n k).run (x.used j) = k.run (x.used (j + n))
  | 0, a, j, h => rfl
  | n + 1, a, j, h => by
    unfold stepsD
    rw [run_work_yes (Led.used_yes hx (by omega)), stepsD_yes hx n (a + 1) (j + 1) (by omega), show j + 1 + n = j + (n + 1) by omega]
theorem stepsD_no {x : Led} (hx : x.reason = 0) {z : Nat} {k : Dec} : ∀ (n a j r : Nat), x.steps + j + r = x.S → r < n → (stepsD z a n k).run (x.used j) = ((((x.used (j + r)).refused 3 1).give (z : Int)).1, .bad 4 (a + r))
  | 0, _, _, _, _, h => by omega
  | n + 1, a, j, 0, hs, _ => by
    unfold stepsD
    rw [run_work_no (Led.used_no hx (by omega))]
    rfl
  | n + 1, a, j, r + 1, hs, h => by
    unfold stepsD
    rw [run_work_yes (Led.used_yes hx (by omega)), stepsD_no hx n (a + 1) (j + 1) r (by omega) (by omega), show j + 1 + r = j + (r + 1) by omega, show a + 1 + r = a + (r + 1) by omega]
theorem stepsD_told {z : Nat} {k : Dec} : ∀ (n a : Nat), (stepsD z a n k).told = k.told
  | 0, _ => rfl
  | n + 1, a => stepsD_told n (a + 1)
theorem stepsD_cost {z : Nat} {k : Dec} : ∀ (n a : Nat), (stepsD z a n k).cost = n + k.cost
  | 0, _ => by simp [stepsD]
  | n + 1, a => by
    unfold stepsD
    show (1 : Int).toNat + (stepsD z (a + 1) n k).cost = _
    rw [stepsD_cost n (a + 1)]
    show 1 + (n + k.cost) = n + 1 + k.cost
    omega
theorem badD_bal {z e b kd pl : Nat} (hz : z = b) (hk : kd ≠ 4) (hp : pl ≤ e) : (badD z kd pl).bal e b := ⟨by omega, by omega, hk, hp⟩

/-- what holds of steps and of faults -/
structure DP (s : ByteArray) (z : Nat) (P : Dec → Prop) : Prop where
  work : ∀ a k, a ≤ s.size → P k → P (.work 1 z a k)
  bad : ∀ kd pl, kd ≠ 4 → pl ≤ s.size → P (badD z kd pl)
theorem DP.bal (s : ByteArray) (z : Nat) : DP s z fun d => d.bal s.size z := ⟨fun a k h hk => ⟨rfl, h, hk⟩, fun kd pl h1 h2 => badD_bal rfl h1 h2⟩
theorem DP.may (s : ByteArray) (z : Nat) (B w h : Int) : DP s z fun d => d.may B w h := ⟨fun a k _ hk => ⟨by decide, hk⟩, fun _ _ _ _ => trivial⟩
theorem DP.steps {s : ByteArray} {z : Nat} {P : Dec → Prop} (hP : DP s z P) {k : Dec} (hk : P k) : ∀ (n a : Nat), a + n ≤ s.size + 1 → P (stepsD z a n k)
  | 0, _, _ => hk
  | n + 1, a, h => hP.work a _ (by omega) (hP.steps hk n (a + 1) (by omega))

/-- what was read goes on, or is told -/
def gotD (z : Nat) (g : Got) (k : Nat × Nat × Nat → Dec) : Dec := if g.Kind ≠ 0 then badD z g.Kind g.Place else k (g.V, g.At, g.Next)
/-- the steps behind the blanks -/
def nRest (l : List Nat) (f : Nat) : Nat := if f < l.length then (if isDigit (l.getD f 0) = true then digN (l.drop f) + (if f + digN (l.drop f) < l.length then 1 else 0) else 1) else 1
def nFirst (l : List Nat) (a : Nat) : Nat := a + overN false (l.drop a)
def numD (s : ByteArray) (a z : Nat) (k : Nat × Nat × Nat → Dec) : Dec :=
  stepsD z a (overN false ((nats s).drop a) + 1) (stepsD z (nFirst (nats s) a) (nRest (nats s) (nFirst (nats s) a)) (gotD z (numberAt (nats s) a) k))
def digD (s : ByteArray) (a z : Nat) (k : Nat × Nat × Nat → Dec) : Dec :=
  stepsD z a (overN false ((nats s).drop a) + 1) (stepsD z (nFirst (nats s) a) 1 (gotD z (digitAt (nats s) a) k))
/-- one byte -/
def byteD (s : ByteArray) (a z : Nat) (k : Nat → Dec) : Dec := .work 1 z a (if a < s.size then k (bat s a) else badD z 1 s.size)
def oneD (s : ByteArray) (a z : Nat) (k : Nat → Dec) : Dec := byteD s a z fun b => if isBlank b = true then k (a + 1) else badD z 2 a
def kindD (s : ByteArray) (z : Nat) (k : Nat → Dec) : Dec := byteD s 0 z fun b => if b = 80 then byteD s 1 z fun c => if 49 ≤ c ∧ c ≤ 54 then k (c - 48) else badD z 2 1 else badD z 2 0
def hnumD (s : ByteArray) (a most above z : Nat) (k : Nat × Nat → Dec) : Dec := numD s a z fun v => if v.1 = 0 then badD z 2 v.2.1 else if most < v.1 then badD z above v.2.1 else k (v.1, v.2.2)
def hendD (s : ByteArray) (K a z : Nat) (k : Nat → Dec) : Dec := if 4 ≤ K then oneD s a z k else k a
def hmostD (s : ByteArray) (K a z : Nat) (k : Nat × Nat → Dec) : Dec := if K = 1 ∨ K = 4 then k (1, a) else hnumD s a 65535 2 z k
def headD (s : ByteArray) (z : Nat) (k : HeadR → Dec) : Dec :=
  kindD s z fun K => hnumD s 2 16384 3 z fun W => hnumD s W.2 16384 3 z fun H => hmostD s K H.2 z fun M => hendD s K M.2 z fun n => k ⟨K, W.1, H.1, M.1, n, 0, 0⟩

section
variable {s : ByteArray} {a z e b most above : Nat} {B w h : Int}
theorem nFirst_le (ha : a ≤ s.size) : nFirst (nats s) a ≤ s.size ∧ a ≤ nFirst (nats s) a := by
  have h1 := overN_le false ((nats s).drop a)
  rw [List.length_drop, nats_len] at h1
  unfold nFirst
  omega
theorem nRest_le {f : Nat} (hf : f ≤ s.size) : f + nRest (nats s) f ≤ s.size + 1 := by
  have h2 := digN_le ((nats s).drop f)
  rw [List.length_drop, nats_len] at h2
  unfold nRest
  rw [nats_len]
  split
  · split
    · split <;> omega
    · omega
  · omega
theorem gotD_told {g : Got} {k : Nat × Nat × Nat → Dec} : (gotD z g k).told = if g.Kind ≠ 0 then .bad g.Kind g.Place else (k (g.V, g.At, g.Next)).told := by
  unfold gotD
  split <;> rfl
theorem numD_told {k : Nat × Nat × Nat → Dec} : (numD s a z k).told = (gotD z (numberAt (nats s) a) k).told := by
  unfold numD
  rw [stepsD_told, stepsD_told]
theorem digD_told {k : Nat × Nat × Nat → Dec} : (digD s a z k).told = (gotD z (digitAt (nats s) a) k).told := by
  unfold digD
  rw [stepsD_told, stepsD_told]
theorem digitAt_or (l : List Nat) (a : Nat) (ha : a ≤ l.length) : (∃ kd pl, digitAt l a = ⟨0, 0, 0, kd, pl⟩ ∧ kd ≠ 0 ∧ kd ≤ 2 ∧ pl ≤ l.length) ∨ (∃ V f, digitAt l a = ⟨V, f, f + 1, 0, 0⟩ ∧ f < l.length ∧ V ≤ 1 ∧ a ≤ f) := by
  unfold digitAt
  simp only
  have h1 := overN_le false (l.drop a)
  rw [List.length_drop] at h1
  split
  · exact .inl ⟨1, l.length, rfl, by decide, by decide, Nat.le_refl _⟩
  · split
    · rename_i h
      exact .inr ⟨_, _, rfl, by omega, by omega, by omega⟩
    · exact .inl ⟨2, _, rfl, by decide, by decide, by omega⟩
section
variable {P : Dec → Prop} (hP : DP s z P)
include hP
theorem gotD_all {g : Got} {k : Nat × Nat × Nat → Dec} (hg : g.Kind ≤ 2) (hp : g.Place ≤ s.size) (hk : g.Kind = 0 → P (k (g.V, g.At, g.Next))) : P (gotD z g k) := by
  unfold gotD
  split
  · exact hP.bad _ _ (by omega) hp
  · exact hk (by omega)
theorem numD_all {k : Nat × Nat × Nat → Dec} (ha : a ≤ s.size) (hk : ∀ V f n, numberAt (nats s) a = ⟨V, f, n, 0, 0⟩ → n ≤ s.size → f ≤ s.size → a ≤ n → P (k (V, f, n))) : P (numD s a z k) := by
  obtain ⟨f1, f2⟩ := nFirst_le ha
  unfold numD
  refine hP.steps (hP.steps ?_ _ _ (nRest_le f1)) _ _ (by unfold nFirst at f1; omega)
  rcases numberAt_or (nats s) a (by rw [nats_len]; exact ha) with ⟨kd, pl, e1, h0, h2, hp⟩ | ⟨V, f, n, e1, hn, hV, han, hf⟩
  · rw [nats_len] at hp
    rw [e1]
    exact gotD_all hP h2 hp (fun h => absurd h h0)
  · rw [nats_len] at hn
    rw [e1]
    exact gotD_all hP (Nat.zero_le _) (Nat.zero_le _) (fun _ => hk V f n e1 hn (by omega) han)
theorem digD_all {k : Nat × Nat × Nat → Dec} (ha : a ≤ s.size) (hk : ∀ V f, digitAt (nats s) a = ⟨V, f, f + 1, 0, 0⟩ → f < s.size → V ≤ 1 → a ≤ f → P (k (V, f, f + 1))) : P (digD s a z k) := by
  obtain ⟨f1, f2⟩ := nFirst_le ha
  unfold digD
  refine hP.steps (hP.steps ?_ _ _ (by omega)) _ _ (by unfold nFirst at f1; omega)
  rcases digitAt_or (nats s) a (by rw [nats_len]; exact ha) with ⟨kd, pl, e1, h0, h2, hp⟩ | ⟨V, f, e1, hn, hV, han⟩
  · rw [nats_len] at hp
    rw [e1]
    exact gotD_all hP h2 hp (fun h => absurd h h0)
  · rw [nats_len] at hn
    rw [e1]
    exact gotD_all hP (Nat.zero_le _) (Nat.zero_le _) (fun _ => hk V f e1 hn hV han)
theorem byteD_all {k : Nat → Dec} (ha : a ≤ s.size) (hk : a < s.size → P (k (bat s a))) : P (byteD s a z k) := by
  refine hP.work _ _ ha ?_
  split
  · exact hk (by assumption)
  · exact hP.bad _ _ (by decide) (Nat.le_refl _)
theorem hnumD_all {k : Nat × Nat → Dec} (ha : a ≤ s.size) (hab : above ≠ 4) (hk : ∀ V n, hnum (nats s) a most above = ⟨V, 0, n, 0, 0⟩ → V ≠ 0 → V ≤ most → n ≤ s.size → a ≤ n → P (k (V, n))) : P (hnumD s a most above z k) := by
  refine numD_all hP ha fun V f n e1 hn hf han => ?_
  by_cases h0 : V = 0
  · rw [if_pos h0]; exact hP.bad _ _ (by decide) hf
  · rw [if_neg h0]
    by_cases h1 : most < V
    · rw [if_pos h1]; exact hP.bad _ _ hab hf
    · rw [if_neg h1]
      exact hk V n (by unfold hnum; simp only [e1]; rw [if_neg (by simp), if_neg h0, if_neg h1]) h0 (by omega) hn han
end
theorem hnumD_told {k : Nat × Nat → Dec} (ha : a ≤ s.size) (hab : above ≠ 0) : (hnumD s a most above z k).told = if (hnum (nats s) a most above).Kind ≠ 0 then .bad (hnum (nats s) a most above).Kind (hnum (nats s) a most above).Place else (k ((hnum (nats s) a most above).V, (hnum (nats s) a most above).Next)).told := by
  unfold hnumD
  rw [numD_told, gotD_told]
  rcases hnum_or (nats s) a most above (by rw [nats_len]; exact ha) with ⟨kd, pl, h, q, h0, h2, hp⟩ | ⟨f, n, h, q, hp⟩ | ⟨V, f, n, h, q, h0, hmV, hp, hV⟩ | ⟨V, f, n, h, q, h0, hmV, hn, han, hp⟩
  · simp only [h, q]
    rw [if_pos h0, if_pos h0]
  · simp only [h, q]
    rfl
  · simp only [h, q]
    rw [if_neg (by simp), if_pos hab, if_neg h0, if_pos hmV]
    rfl
  · simp only [h, q, ne_eq, not_true_eq_false, if_false]
    rw [if_neg h0, if_neg (Nat.not_lt.2 hmV)]
theorem byteD_told {k : Nat → Dec} : (byteD s a z k).told = if a < s.size then (k (bat s a)).told else .bad 1 s.size := by
  show (if a < s.size then k (bat s a) else badD z 1 s.size).told = _
  split <;> rfl
theorem oneD_told {k : Nat → Dec} : (oneD s a z k).told = if a < s.size then (if isBlank (bat s a) = true then (k (a + 1)).told else .bad 2 a) else .bad 1 s.size := by
  unfold oneD
  rw [byteD_told]
  split
  · split <;> rfl
  · rfl
theorem hendD_told {K W H M : Nat} {k : HeadR → Dec} : (hendD s K a z fun n => k ⟨K, W, H, M, n, 0, 0⟩).told = if (hfin (nats s) K W H M a).Kind ≠ 0 then .bad (hfin (nats s) K W H M a).Kind (hfin (nats s) K W H M a).Place else (k (hfin (nats s) K W H M a)).told := by
  unfold hendD
  by_cases h4 : 4 ≤ K
  · rw [if_pos h4, oneD_told]
    by_cases ha : a < s.size
    · rw [if_pos ha]
      by_cases hb : isBlank (bat s a) = true
      · have e : hfin (nats s) K W H M a = ⟨K, W, H, M, a + 1, 0, 0⟩ := by
          unfold hfin
          rw [if_pos h4, nats_len, if_neg (Nat.not_le.2 ha), if_pos (show isBlank ((nats s).getD a 0) = true from hb)]
        rw [e, if_pos hb]
        rfl
      · have e : hfin (nats s) K W H M a = hbad 2 a := by
          unfold hfin
          rw [if_pos h4, nats_len, if_neg (Nat.not_le.2 ha), if_neg (show ¬ isBlank ((nats s).getD a 0) = true from hb)]
        rw [e, if_neg hb]
        rfl
    · have e : hfin (nats s) K W H M a = hbad 1 s.size := by
        unfold hfin
        rw [if_pos h4, nats_len, if_pos (Nat.not_lt.1 ha)]
      rw [e, if_neg ha]
      rfl
  · have e : hfin (nats s) K W H M a = ⟨K, W, H, M, a, 0, 0⟩ := by
      unfold hfin
      rw [if_neg h4]
    rw [e, if_neg h4]
    rfl
theorem headD_told {k : HeadR → Dec} : (headD s z k).told = if (headAt (nats s)).Kind ≠ 0 then .bad (headAt (nats s)).Kind (headAt (nats s)).Place else (k (headAt (nats s))).told := by
  unfold headD kindD
  rw [byteD_told]
  by_cases h0 : 0 < s.size
  · rw [if_pos h0]
    by_cases h80 : bat s 0 = 80
    · rw [if_pos h80, byteD_told]
      by_cases h1 : 1 < s.size
      · rw [if_pos h1]
        by_cases hk : 49 ≤ bat s 1 ∧ bat s 1 ≤ 54
        · have e : headAt (nats s) = hsides (nats s) (bat s 1 - 48) := by
            unfold headAt
            rw [nats_len, if_neg (Nat.not_lt.2 h0), if_neg (show ¬ (nats s).getD 0 0 ≠ 80 from fun h => h h80), if_neg (Nat.not_lt.2 h1), if_neg (show ¬ ((nats s).getD 1 0 < 49 ∨ 54 < (nats s).getD 1 0) from fun h => by have e : bat s 1 = (nats s).getD 1 0 := rfl; omega)]
            rfl
          rw [e, if_pos hk]
          generalize bat s 1 - 48 = K
          unfold hsides hrest1
          rw [hnumD_told (by omega) (by decide)]
          simp only
          rcases hnum_or (nats s) 2 16384 3 (by rw [nats_len]; omega) with ⟨kd, pl, h, q, h0, h2, hp⟩ | ⟨f, n, h, q, hp⟩ | ⟨V, f, n, h, q, h0, hmV, hp, hV⟩ | ⟨W, f, n1, h, q, h0, hmV, hn1, han, hp⟩
          · simp only [q]; rw [if_pos h0, if_pos h0]; simp [hbad, h0]
          · simp only [q]; rfl
          · simp only [q]; rfl
          simp only [q, ne_eq, not_true_eq_false, if_false]
          rw [nats_len] at hn1
          unfold hrest2
          rw [hnumD_told hn1 (by decide)]
          simp only
          rcases hnum_or (nats s) n1 16384 3 (by rw [nats_len]; exact hn1) with ⟨kd, pl, h, q, h0, h2, hp⟩ | ⟨f, n, h, q, hp⟩ | ⟨V, f, n, h, q, h0, hmV, hp, hV⟩ | ⟨H, f, n2, h, q, h0, hmV, hn2, han, hp⟩
          · simp only [q]; rw [if_pos h0, if_pos h0]; simp [hbad, h0]
          · simp only [q]; rfl
          · simp only [q]; rfl
          simp only [q, ne_eq, not_true_eq_false, if_false]
          rw [nats_len] at hn2
          unfold hmostD hmost
          by_cases hb : K = 1 ∨ K = 4
          · rw [if_pos hb, if_pos hb]
            have := hendD_told (s := s) (z := z) (a := n2) (K := K) (W := W) (H := H) (M := 1) (k := k)
            simp only [ne_eq] at this
            exact this
          · rw [if_neg hb, if_neg hb, hnumD_told hn2 (by decide)]
            simp only
            rcases hnum_or (nats s) n2 65535 2 (by rw [nats_len]; exact hn2) with ⟨kd, pl, h, q, h0, h2, hp⟩ | ⟨f, n, h, q, hp⟩ | ⟨V, f, n, h, q, h0, hmV, hp, hV⟩ | ⟨M, f, n3, h, q, h0, hmV, hn3, han, hp⟩
            · simp only [q]; rw [if_pos h0, if_pos h0]; simp [hbad, h0]
            · simp only [q]; rfl
            · simp only [q]; rfl
            simp only [q, ne_eq, not_true_eq_false, if_false]
            have := hendD_told (s := s) (z := z) (a := n3) (K := K) (W := W) (H := H) (M := M) (k := k)
            simp only [ne_eq] at this
            exact this
        · have e : headAt (nats s) = hbad 2 1 := by
            unfold headAt
            rw [nats_len, if_neg (Nat.not_lt.2 h0), if_neg (show ¬ (nats s).getD 0 0 ≠ 80 from fun h => h h80), if_neg (Nat.not_lt.2 h1), if_pos (show (nats s).getD 1 0 < 49 ∨ 54 < (nats s).getD 1 0 from by have e : bat s 1 = (nats s).getD 1 0 := rfl; omega)]
          rw [e, if_neg hk]
          rfl
      · have e : headAt (nats s) = hbad 1 1 := by
          unfold headAt
          rw [nats_len, if_neg (Nat.not_lt.2 h0), if_neg (show ¬ (nats s).getD 0 0 ≠ 80 from fun h => h h80), if_pos (by omega)]
        rw [e, if_neg h1]
        show DRes.bad 1 s.size = .bad 1 1
        rw [show s.size = 1 by omega]
    · have e : headAt (nats s) = hbad 2 0 := by
        unfold headAt
        rw [nats_len, if_neg (Nat.not_lt.2 h0), if_pos (show (nats s).getD 0 0 ≠ 80 from h80)]
      rw [e, if_neg h80]
      rfl
  · have e : headAt (nats s) = hbad 1 0 := by
      unfold headAt
      rw [nats_len, if_pos (by omega)]
    rw [e, if_neg h0]
    show DRes.bad 1 s.size = .bad 1 0
    rw [show s.size = 0 by omega]
/-- a head is read: within its limits it goes on -/
theorem headD_all {P : Dec → Prop} (hP : DP s z P) {k : HeadR → Dec} (hk : ∀ h : HeadR, h.Kind = 0 → 1 ≤ h.K ∧ h.K ≤ 6 → 1 ≤ h.W ∧ h.W ≤ 16384 → 1 ≤ h.H ∧ h.H ≤ 16384 → 1 ≤ h.M ∧ h.M ≤ 65535 → h.At ≤ s.size → headAt (nats s) = h → P (k h)) : P (headD s z k) := by
  unfold headD kindD
  refine byteD_all hP (Nat.zero_le _) fun h0 => ?_
  by_cases h80 : bat s 0 = 80
  · rw [if_pos h80]
    refine byteD_all hP (by omega) fun h1 => ?_
    by_cases hK : 49 ≤ bat s 1 ∧ bat s 1 ≤ 54
    · rw [if_pos hK]
      refine hnumD_all hP (by omega) (by decide) fun W n1 q1 w1 w2 hn1 _ => ?_
      refine hnumD_all hP hn1 (by decide) fun H n2 q2 g1 g2 hn2 _ => ?_
      have e0 : headAt (nats s) = hmost (nats s) (bat s 1 - 48) W H n2 := by
        unfold headAt
        rw [nats_len, if_neg (by omega), if_neg (show ¬ (nats s).getD 0 0 ≠ 80 from fun h => h h80), if_neg (by omega), if_neg (show ¬ ((nats s).getD 1 0 < 49 ∨ 54 < (nats s).getD 1 0) from fun h => by have e : bat s 1 = (nats s).getD 1 0 := rfl; omega)]
        show hsides (nats s) (bat s 1 - 48) = _
        unfold hsides hrest1
        simp only [q1]
        rw [if_neg (by simp)]
        unfold hrest2
        simp only [q2]
        rw [if_neg (by simp)]
      generalize hKe : bat s 1 - 48 = K at e0 ⊢
      have hK1 : 1 ≤ K ∧ K ≤ 6 := by omega
      have fin : ∀ M n3, 1 ≤ M ∧ M ≤ 65535 → n3 ≤ s.size → headAt (nats s) = hfin (nats s) K W H M n3 → P (hendD s K n3 z fun n => k ⟨K, W, H, M, n, 0, 0⟩) := by
        intro M n3 hM hn3 e1
        unfold hendD
        by_cases h4 : 4 ≤ K
        · rw [if_pos h4]
          unfold oneD
          refine byteD_all hP hn3 fun h3 => ?_
          by_cases hb : isBlank (bat s n3) = true
          · rw [if_pos hb]
            refine hk _ rfl hK1 ⟨by show 1 ≤ W; omega, by show W ≤ 16384; omega⟩ ⟨by show 1 ≤ H; omega, by show H ≤ 16384; omega⟩ hM (by show n3 + 1 ≤ s.size; omega) ?_
            rw [e1]
            unfold hfin
            rw [if_pos h4, nats_len, if_neg (by omega), if_pos (show isBlank ((nats s).getD n3 0) = true from hb)]
          · rw [if_neg hb]
            exact hP.bad _ _ (by decide) hn3
        · rw [if_neg h4]
          refine hk _ rfl hK1 ⟨by show 1 ≤ W; omega, by show W ≤ 16384; omega⟩ ⟨by show 1 ≤ H; omega, by show H ≤ 16384; omega⟩ hM hn3 ?_
          rw [e1]
          unfold hfin
          rw [if_neg h4]
      unfold hmostD
      unfold hmost at e0
      by_cases hb : K = 1 ∨ K = 4
      · rw [if_pos hb]
        rw [if_pos hb] at e0
        exact fin 1 n2 ⟨by decide, by decide⟩ hn2 e0
      · rw [if_neg hb]
        rw [if_neg hb] at e0
        refine hnumD_all hP hn2 (by decide) fun M n3 q3 m1 m2 hn3 _ => ?_
        simp only [q3] at e0
        rw [if_neg (by simp)] at e0
        exact fin M n3 ⟨by omega, m2⟩ hn3 e0
    · rw [if_neg hK]
      exact hP.bad _ _ (by decide) (by omega)
  · rw [if_neg h80]
    exact hP.bad _ _ (by decide) (Nat.zero_le _)
/-! ### steps -/
theorem numD_pot {T : Nat} {k : Nat × Nat × Nat → Dec} (ha : a ≤ s.size) (hT : s.size ≤ T) (hk : ∀ V f n, numberAt (nats s) a = ⟨V, f, n, 0, 0⟩ → n ≤ s.size → a ≤ n → (k (V, f, n)).cost + n ≤ T) : (numD s a z k).cost + a ≤ T + 2 := by
  obtain ⟨f1, f2⟩ := nFirst_le ha
  unfold numD
  rw [stepsD_cost, stepsD_cost]
  have hn0 := nRest_le f1
  rcases numberAt_or (nats s) a (by rw [nats_len]; exact ha) with ⟨kd, pl, e1, h0, h2, hp⟩ | ⟨V, f, n, e1, hn, hV, han, hf⟩
  · rw [e1]
    have e : (gotD z ⟨0, 0, 0, kd, pl⟩ k).cost = 0 := by unfold gotD; rw [if_pos h0]; rfl
    rw [e]
    have ef : nFirst (nats s) a = a + overN false ((nats s).drop a) := rfl
    omega
  · rw [nats_len] at hn
    have hk' := hk V f n e1 hn han
    rw [e1]
    have e : (gotD z ⟨V, f, n, 0, 0⟩ k).cost = (k (V, f, n)).cost := by unfold gotD; rw [if_neg (by simp)]
    rw [e]
    have ef : nFirst (nats s) a = a + overN false ((nats s).drop a) := rfl
    have er : nFirst (nats s) a + nRest (nats s) (nFirst (nats s) a) ≤ n + 1 := by
      unfold numberAt at e1
      simp only at e1
      rw [← ef] at e1
      split at e1
      · cases e1
      · split at e1
        · rename_i hd
          injection e1 with _ _ e3
          unfold nRest
          rw [if_pos (by omega), if_pos hd]
          split <;> omega
        · cases e1
    omega
theorem digD_pot {T : Nat} {k : Nat × Nat × Nat → Dec} (ha : a ≤ s.size) (hT : s.size ≤ T) (hk : ∀ V f, digitAt (nats s) a = ⟨V, f, f + 1, 0, 0⟩ → f < s.size → a ≤ f → (k (V, f, f + 1)).cost + (f + 1) ≤ T) : (digD s a z k).cost + a ≤ T + 2 := by
  obtain ⟨f1, f2⟩ := nFirst_le ha
  unfold digD
  rw [stepsD_cost, stepsD_cost]
  have ef : nFirst (nats s) a = a + overN false ((nats s).drop a) := rfl
  rcases digitAt_or (nats s) a (by rw [nats_len]; exact ha) with ⟨kd, pl, e1, h0, h2, hp⟩ | ⟨V, f, e1, hn, hV, han⟩
  · rw [e1]
    have e : (gotD z ⟨0, 0, 0, kd, pl⟩ k).cost = 0 := by unfold gotD; rw [if_pos h0]; rfl
    rw [e]
    omega
  · rw [nats_len] at hn
    have hk' := hk V f e1 hn han
    rw [e1]
    have e : (gotD z ⟨V, f, f + 1, 0, 0⟩ k).cost = (k (V, f, f + 1)).cost := by unfold gotD; rw [if_neg (by simp)]
    rw [e]
    have eff : nFirst (nats s) a = f := by
      unfold digitAt at e1
      simp only at e1
      rw [← ef] at e1
      split at e1
      · cases e1
      · split at e1
        · injection e1
        · cases e1
    omega
theorem byteD_pot {T : Nat} {k : Nat → Dec} (ha : a ≤ s.size) (hT : s.size ≤ T) (hk : a < s.size → (k (bat s a)).cost + (a + 1) ≤ T) : (byteD s a z k).cost + a ≤ T + 1 := by
  show (1 : Int).toNat + (if a < s.size then k (bat s a) else badD z 1 s.size).cost + a ≤ T + 1
  have e1 : (1 : Int).toNat = 1 := rfl
  rw [e1]
  split
  · have := hk (by assumption); omega
  · show 1 + 0 + a ≤ T + 1
    omega
theorem hnumD_pot {T : Nat} {k : Nat × Nat → Dec} (ha : a ≤ s.size) (hT : s.size ≤ T) (hk : ∀ V n, hnum (nats s) a most above = ⟨V, 0, n, 0, 0⟩ → n ≤ s.size → (k (V, n)).cost + n ≤ T) : (hnumD s a most above z k).cost + a ≤ T + 2 := by
  refine numD_pot ha hT fun V f n e1 hn han => ?_
  by_cases h0 : V = 0
  · simp only [if_pos h0]
    show 0 + n ≤ T
    omega
  · by_cases h1 : most < V
    · simp only [if_neg h0, if_pos h1]
      show 0 + n ≤ T
      omega
    · simp only [if_neg h0, if_neg h1]
      exact hk V n (by unfold hnum; simp only [e1]; rw [if_neg (by simp), if_neg h0, if_neg h1]) hn
theorem headD_pot {T : Nat} {k : HeadR → Dec} (hT : s.size ≤ T) (hk : ∀ K W H M n, headAt (nats s) = ⟨K, W, H, M, n, 0, 0⟩ → n ≤ s.size → (k ⟨K, W, H, M, n, 0, 0⟩).cost + n ≤ T) : (headD s z k).cost ≤ T + 9 := by
  unfold headD kindD
  have big : ∀ K, (0 < s.size ∧ bat s 0 = 80) → (1 < s.size ∧ 49 ≤ bat s 1 ∧ bat s 1 ≤ 54) → bat s 1 - 48 = K → (hnumD s 2 16384 3 z fun W => hnumD s W.2 16384 3 z fun H => hmostD s K H.2 z fun M => hendD s K M.2 z fun n => k ⟨K, W.1, H.1, M.1, n, 0, 0⟩).cost + 2 ≤ T + 7 := by
    intro K h0 h1 hKe
    refine Nat.le_trans (hnumD_pot (T := T + 5) (by omega) (by omega) fun W n1 q1 hn1 => ?_) (by omega)
    refine Nat.le_trans (hnumD_pot (T := T + 3) hn1 (by omega) fun H n2 q2 hn2 => ?_) (by omega)
    have e0 : headAt (nats s) = hmost (nats s) K W H n2 := by
      unfold headAt
      rw [nats_len, if_neg (by omega), if_neg (show ¬ (nats s).getD 0 0 ≠ 80 from fun h => h h0.2), if_neg (by omega), if_neg (show ¬ ((nats s).getD 1 0 < 49 ∨ 54 < (nats s).getD 1 0) from fun h => by have e : bat s 1 = (nats s).getD 1 0 := rfl; omega)]
      show hsides (nats s) (bat s 1 - 48) = _
      rw [hKe]
      unfold hsides hrest1
      simp only [q1]
      rw [if_neg (by simp)]
      unfold hrest2
      simp only [q2]
      rw [if_neg (by simp)]
    have fin : ∀ M n3, n3 ≤ s.size → headAt (nats s) = hfin (nats s) K W H M n3 → (hendD s K n3 z fun n => k ⟨K, W, H, M, n, 0, 0⟩).cost + n3 ≤ T + 1 := by
      intro M n3 hn3 e1
      unfold hendD
      unfold hfin at e1
      by_cases h4 : 4 ≤ K
      · rw [if_pos h4]
        rw [if_pos h4, nats_len] at e1
        unfold oneD
        refine byteD_pot hn3 hT fun h3 => ?_
        by_cases hb : isBlank (bat s n3) = true
        · simp only [if_pos hb]
          refine hk K W H M _ ?_ (by omega)
          rw [e1, if_neg (by omega), if_pos (show isBlank ((nats s).getD n3 0) = true from hb)]
        · simp only [if_neg hb]
          show 0 + (n3 + 1) ≤ T
          omega
      · rw [if_neg h4]
        rw [if_neg h4] at e1
        exact Nat.le_trans (hk K W H M n3 e1 hn3) (by omega)
    unfold hmostD
    unfold hmost at e0
    by_cases hb : K = 1 ∨ K = 4
    · simp only [if_pos hb]
      rw [if_pos hb] at e0
      exact Nat.le_trans (fin 1 n2 hn2 e0) (by omega)
    · simp only [if_neg hb]
      rw [if_neg hb] at e0
      refine Nat.le_trans (hnumD_pot (T := T + 1) hn2 (by omega) fun M n3 q3 hn3 => ?_) (by omega)
      simp only [q3] at e0
      rw [if_neg (by simp)] at e0
      exact fin M n3 hn3 e0
  have h1 : ∀ (k2 : Nat → Dec), (1 < s.size → (k2 (bat s 1)).cost + (1 + 1) ≤ T + 7) → (byteD s 1 z k2).cost + (0 + 1) ≤ T + 8 ∨ ¬ 1 ≤ s.size := fun k2 h => by
    by_cases hs : 1 ≤ s.size
    · exact .inl (byteD_pot (T := T + 7) hs (by omega) h)
    · exact .inr hs
  rw [← Nat.add_zero (Dec.cost _)]
  show _ ≤ T + 8 + 1
  refine byteD_pot (s := s) (T := T + 8) (a := 0) (Nat.zero_le _) (by omega) fun hs0 => ?_
  by_cases h80 : bat s 0 = 80
  · simp only [if_pos h80]
    rcases h1 (fun c => if 49 ≤ c ∧ c ≤ 54 then (fun K => hnumD s 2 16384 3 z fun W => hnumD s W.2 16384 3 z fun H => hmostD s K H.2 z fun M => hendD s K M.2 z fun n => k ⟨K, W.1, H.1, M.1, n, 0, 0⟩) (c - 48) else badD z 2 1) (fun hs1 => by
      by_cases hK : 49 ≤ bat s 1 ∧ bat s 1 ≤ 54
      · simp only [if_pos hK]
        exact big _ ⟨hs0, h80⟩ ⟨hs1, hK⟩ rfl
      · simp only [if_neg hK]
        show 0 + 2 ≤ T + 7
        omega) with h | h
    · exact h
    · omega
  · simp only [if_neg h80]
    show 0 + (0 + 1) ≤ T + 8
    omega
end
end Go.Proofs.YthljhebbblhakaaGreatDoor
