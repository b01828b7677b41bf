/- What the plain functions of the program's picks come to: Next, Steps, Round, Ints, Fair and Wait, each as a closed word. -/
import Derived.Test.YtbjkcplbilopeaaOPlain
import Derived.Test.YtbjkcplbilopeaaOSx8
namespace Go.Proofs.Ytbjkcplbilopeaa.Pure
open Go.RowKit Go.Proofs.Ytbjkcplbilopeaa.OS Go.Proofs.YtbjkcplbilopeaaW.PrintWords Go.Proofs.YtbjkcplbilopeaaW.PrintLast Go.Proofs.YtbjkcplbilopeaaW.PrintMore

theorem small_60 : pantrylaw20_small.f 60 = some true := by kernel_rfl
theorem small_at {k : Nat} (hk : 60 ≤ k) : pantrylaw20_small.f k = some true := at_rounds (fun k => pantrylaw20_small.mono k) hk small_60
theorem ev_at {α : Type} {g : Nat → Option α} {r : α} (hg : ∀ k, LeO (g k) (g (k + 1))) (h : ∃ k, g k = some r) : ∃ K, ∀ k, K ≤ k → g k = some r := by
  obtain ⟨k, hk⟩ := h
  exact ⟨k, fun _ hk' => at_rounds hg hk' hk⟩

/-! ### Ints -/
theorem ints_self (a : List Int) (ha : a.length ≤ 70000) (k : Nat) (hk : a.length + 1 ≤ k) : pantryref03_Ints.f k a a = some true := by
  have H : ∀ (n k : Nat) (i : Int), 0 ≤ i → i ≤ a.length → (a.length : Int) - i = n → n + 1 ≤ k → pantryref03_Ints.l0 k a a i = some true := by
    intro n
    induction n with
    | zero =>
      intro k i h0 h1 hn hk
      obtain ⟨k, rfl⟩ : ∃ m, k = m + 1 := ⟨k - 1, by omega⟩
      rw [pantryref03_Ints.l0]
      rw [if_neg (by omega)]
    | succ n ih =>
      intro k i h0 h1 hn hk
      obtain ⟨k, rfl⟩ : ∃ m, k = m + 1 := ⟨k - 1, by omega⟩
      rw [pantryref03_Ints.l0]
      rw [if_pos (by omega), if_pos h0, if_pos (by omega), if_pos rfl, wrap_up h0 (by omega)]
      exact ih k (i + 1) (by omega) (by omega) (by omega) (by omega)
  unfold pantryref03_Ints.f
  rw [if_pos rfl]
  exact H a.length k 0 (by omega) (by omega) (by omega) (by omega)

/-! ### Next -/
/-- Who goes next, from the first place on, d places to be asked. -/
def nextV (left : List Bool) (first : Int) : Nat → Int
  | 0 => -1
  | d + 1 => if rdOf false left ((first + ((left.length : Int) - (d + 1 : Nat))) % (left.length : Int)) = true then (first + ((left.length : Int) - (d + 1 : Nat))) % (left.length : Int) else nextV left first d
theorem tmod_pos {a b : Int} (h : 0 ≤ a) : Int.tmod a b = a % b := Int.tmod_eq_emod_of_nonneg h
theorem first_is (p n : Int) (h0 : 0 < n) (h1 : n ≤ 1000) : Int.tmod (wrap64 (Int.tmod p n + n)) n = p % n := by
  have a := Int.tmod_lt_of_pos p h0
  have b := Int.lt_tmod_of_pos p h0
  rw [wrap_in (by omega) (by omega), tmod_pos (by omega), Int.add_emod_right]
  rw [Int.tmod_eq_emod]
  split
  · simp
  · rw [show ((n.natAbs : Nat) : Int) = n from by omega, Int.sub_emod_right, Int.emod_emod]
theorem next_is (p : Int) (left : List Bool) (h : left.length ≤ 200) (k : Nat) (hk : left.length + 1 ≤ k) : picks_Next.f k p left = some (nextV left (p % (left.length : Int)) left.length) := by
  have H : ∀ (d k : Nat) (i : Int), 0 < left.length → 0 ≤ i → (left.length : Int) - i = d → d + 1 ≤ k →
      picks_Next.l0 k left left.length (p % (left.length : Int)) left.length i = some (nextV left (p % (left.length : Int)) d) := by
    intro d
    induction d with
    | zero =>
      intro k i hp h0 hd hk
      obtain ⟨k, rfl⟩ : ∃ m, k = m + 1 := ⟨k - 1, by omega⟩
      rw [picks_Next.l0]
      rw [if_neg (by omega)]; rfl
    | succ d ih =>
      intro k i hp h0 hd hk
      obtain ⟨k, rfl⟩ : ∃ m, k = m + 1 := ⟨k - 1, by omega⟩
      have m0 := Int.emod_nonneg p (b := (left.length : Int)) (by omega)
      have m1 := Int.emod_lt_of_pos p (b := (left.length : Int)) (by omega)
      rw [picks_Next.l0]
      rw [if_pos (by omega), if_neg (by omega)]
      rw [wrap_in (by omega) (by omega), tmod_pos (by omega)]
      have e : i = (left.length : Int) - ((d + 1 : Nat) : Int) := by omega
      subst e
      have n0 := Int.emod_nonneg (p % (left.length : Int) + ((left.length : Int) - ((d + 1 : Nat) : Int))) (b := (left.length : Int)) (by omega)
      have n1 := Int.emod_lt_of_pos (p % (left.length : Int) + ((left.length : Int) - ((d + 1 : Nat) : Int))) (b := (left.length : Int)) (by omega)
      rw [if_pos n0, if_pos n1]
      by_cases hb : rdOf false left ((p % (left.length : Int) + ((left.length : Int) - ((d + 1 : Nat) : Int))) % (left.length : Int)) = true
      · rw [if_pos hb, nextV, if_pos hb]
      · rw [if_neg hb, wrap_up (by omega) (by omega), ih k _ hp (by omega) (by omega) (by omega)]
        rw [nextV, if_neg hb]
  unfold picks_Next.f
  by_cases h0 : left.length = 0
  · rw [if_pos (by omega)]
    rw [h0]; rfl
  · rw [if_neg (by omega), first_is _ _ (by omega) (by omega)]
    exact H left.length k 0 (by omega) (by omega) (by omega) (by omega)
/-- Next finds one that has something left, or there is none. -/
theorem nextV_finds (left : List Bool) (first : Int) (hp : 0 < left.length) : ∀ d : Nat, d ≤ left.length →
    (nextV left first d = -1 ∧ ∀ i : Int, (left.length : Int) - d ≤ i → i < (left.length : Int) → rdOf false left ((first + i) % (left.length : Int)) = false) ∨
    (0 ≤ nextV left first d ∧ nextV left first d < (left.length : Int) ∧ rdOf false left (nextV left first d) = true) := by
  intro d
  induction d with
  | zero => intro _; exact .inl ⟨rfl, fun i h0 h1 => by omega⟩
  | succ d ih =>
    intro hd
    unfold nextV
    by_cases hb : rdOf false left ((first + ((left.length : Int) - ((d + 1 : Nat) : Int))) % (left.length : Int)) = true
    · rw [if_pos hb]
      exact .inr ⟨Int.emod_nonneg _ (by omega), Int.emod_lt_of_pos _ (by omega), hb⟩
    · rw [if_neg hb]
      rcases ih (by omega) with ⟨h1, h2⟩ | h
      · refine .inl ⟨h1, fun i i0 i1 => ?_⟩
        by_cases ei : i = (left.length : Int) - ((d + 1 : Nat) : Int)
        · subst ei; simpa using hb
        · exact h2 i (by omega) i1
      · exact .inr h
/-- The place asked first, if it has something left. -/
theorem nextV_first (left : List Bool) (first : Int) (h0 : 0 ≤ first) (h1 : first < (left.length : Int)) (h : rdOf false left first = true) : nextV left first left.length = first := by
  obtain ⟨n, hn⟩ : ∃ n, left.length = n + 1 := ⟨left.length - 1, by omega⟩
  have e : (first + ((left.length : Int) - ((n + 1 : Nat) : Int))) % (left.length : Int) = first := by
    rw [show first + ((left.length : Int) - ((n + 1 : Nat) : Int)) = first from by omega]
    exact Int.emod_eq_of_lt h0 h1
  have : nextV left first (n + 1) = first := by
    unfold nextV
    rw [e, if_pos h]
  rw [hn]; exact this
/-- None is found just if none has anything left. -/
theorem nextV_none (left : List Bool) (first : Int) (h : nextV left first left.length = -1) (i : Int) (h0 : 0 ≤ i) (h1 : i < (left.length : Int)) : rdOf false left i = false := by
  rcases nextV_finds left first (by omega) left.length (Nat.le_refl _) with ⟨_, h2⟩ | ⟨h2, _⟩
  · have hn : ((i - first) % (left.length : Int)) < (left.length : Int) := Int.emod_lt_of_pos _ (by omega)
    have := h2 ((i - first) % (left.length : Int)) (by have := Int.emod_nonneg (i - first) (b := (left.length : Int)) (by omega); omega) hn
    rw [Int.add_emod_emod, show first + (i - first) = i from by omega, Int.emod_eq_of_lt h0 h1] at this
    exact this
  · omega

/-! ### Steps -/
/-- How often t stands among the first k. -/
def cntAt (l : List Int) (t : Int) : Nat → Int
  | 0 => 0
  | k + 1 => cntAt l t k + if rd l (k : Int) = t then 1 else 0
theorem cntAt_is (l : List Int) (t : Int) : ∀ k : Nat, 0 ≤ cntAt l t k ∧ cntAt l t k ≤ (k : Int) := by
  intro k
  induction k with
  | zero => simp [cntAt]
  | succ k ih => unfold cntAt; split <;> omega
def row (n : Nat) (f : Nat → Int) : List Int := (List.range n).map f
theorem row_length (n : Nat) (f : Nat → Int) : (row n f).length = n := by simp [row]
theorem row_rd (n : Nat) (f : Nat → Int) (i : Int) (h0 : 0 ≤ i) (_h1 : i < (n : Int)) : rd (row n f) i = f i.toNat := by
  have h : i.toNat < n := by omega
  unfold rd row
  rw [List.getD_eq_getElem?_getD, List.getElem?_map, List.getElem?_range h]; rfl
theorem row_set (n : Nat) (f : Nat → Int) (j : Nat) (v : Int) : (row n f).set j v = row n (fun t => if t = j then v else f t) := by
  apply List.ext_getElem
  · simp [row]
  · intro i h1 h2
    simp only [row, List.getElem_set, List.getElem_map, List.getElem_range]
    by_cases e : j = i
    · subst e; simp
    · rw [if_neg e, if_neg (fun h => e h.symm)]
theorem row_congr (n : Nat) (f g : Nat → Int) (h : ∀ t, t < n → f t = g t) : row n f = row n g := by
  unfold row
  exact List.map_congr_left fun t ht => h t (List.mem_range.1 ht)
theorem row_zero (n : Nat) : List.replicate n (0 : Int) = row n (fun _ => 0) := by
  unfold row; rw [List.map_const', List.length_range]
/-- Steps' own word. -/
def stepsV (l : List Int) (th : Int) : List Int := row th.toNat fun t => cntAt l (t : Int) l.length
theorem stepsV_length (l : List Int) (th : Int) (h : 0 ≤ th) : ((stepsV l th).length : Int) = th := by unfold stepsV; rw [row_length]; omega
theorem stepsV_rd (l : List Int) (th i : Int) (h0 : 0 ≤ i) (_h1 : i < th) : rd (stepsV l th) i = cntAt l i l.length := by
  unfold stepsV; rw [row_rd _ _ _ h0 (by omega), Int.toNat_of_nonneg h0]
theorem row_bump (l : List Int) (th : Int) (j : Nat) (h0 : 0 ≤ rd l (j : Int)) (_h1 : rd l (j : Int) < th) :
    (row th.toNat fun t => cntAt l (t : Int) j).set (rd l (j : Int)).toNat (cntAt l (rd l (j : Int)) j + 1) = row th.toNat fun t => cntAt l (t : Int) (j + 1) := by
  rw [row_set]
  refine row_congr _ _ _ fun t ht => ?_
  by_cases e : t = (rd l (j : Int)).toNat
  · subst e
    rw [if_pos rfl, Int.toNat_of_nonneg h0, cntAt, if_pos rfl]
  · rw [if_neg e, cntAt, if_neg (by omega)]; omega
theorem row_stay (l : List Int) (th : Int) (j : Nat) (h : rd l (j : Int) < 0 ∨ th ≤ rd l (j : Int)) :
    (row th.toNat fun t => cntAt l (t : Int) j) = row th.toNat fun t => cntAt l (t : Int) (j + 1) := by
  refine row_congr _ _ _ fun t ht => ?_
  rw [cntAt, if_neg (by omega)]; omega
theorem steps_is (l : List Int) (th : Int) (hl : l.length ≤ 1000) (h0 : 1 ≤ th) (h1 : th ≤ 4096) (k : Nat) (hk : l.length + 2 ≤ k) : picks_Steps.f k l th = some (stepsV l th) := by
  have H : ∀ (n k : Nat) (j : Nat), l.length - j = n → j ≤ l.length → n + 1 ≤ k →
      picks_Steps.l0 k th (row th.toNat fun t => cntAt l (t : Int) j) l l.length (j : Int) = some (stepsV l th) := by
    intro n
    induction n with
    | zero =>
      intro k j hn hj hk
      obtain ⟨k, rfl⟩ : ∃ m, k = m + 1 := ⟨k - 1, by omega⟩
      rw [picks_Steps.l0]
      rw [if_neg (by omega)]
      obtain rfl : j = l.length := by omega
      rfl
    | succ n ih =>
      intro k j hn hj hk
      obtain ⟨k, rfl⟩ : ∃ m, k = m + 1 := ⟨k - 1, by omega⟩
      rw [picks_Steps.l0]
      have wj : wrap64 ((j : Int) + 1) = ((j + 1 : Nat) : Int) := wrap_up (by omega) (by omega)
      rw [if_pos (by omega), if_pos (by omega), if_pos (by omega), wj]
      by_cases c0 : rd l (j : Int) ≥ 0
      · rw [if_pos c0]
        by_cases c1 : rd l (j : Int) < th
        · have hc := cntAt_is l (rd l (j : Int)) j
          rw [if_pos c1, if_pos c0, if_pos (by rw [row_length]; omega), row_rd _ _ _ c0 (by omega), Int.toNat_of_nonneg c0, wrap_up (by omega) (by omega), row_bump l th j c0 c1]
          exact ih k (j + 1) (by omega) (by omega) (by omega)
        · rw [if_neg c1, row_stay l th j (by omega)]
          exact ih k (j + 1) (by omega) (by omega) (by omega)
      · rw [if_neg c0, row_stay l th j (by omega)]
        exact ih k (j + 1) (by omega) (by omega) (by omega)
  obtain ⟨k, rfl⟩ : ∃ m, k = m + 1 := ⟨k - 1, by omega⟩
  unfold picks_Steps.f
  rw [if_neg (by omega), decide_eq_false (by omega)]
  rw [picks_Steps.j0]
  rw [if_neg (by decide), if_pos (by omega), if_pos (by omega), row_zero]
  exact H l.length k 0 (by omega) (by omega) (by omega)
/-- Steps of too few, or too many, threads. -/
theorem steps_none (l : List Int) (th : Int) (h : th < 1 ∨ th > 4096) (k : Nat) (hk : 1 ≤ k) : picks_Steps.f k l th = some [] := by
  obtain ⟨k, rfl⟩ : ∃ m, k = m + 1 := ⟨k - 1, by omega⟩
  unfold picks_Steps.f
  rcases h with h | h
  · rw [if_pos h]; rfl
  · by_cases h1 : th < 1
    · rw [if_pos h1]; rfl
    · rw [if_neg h1, decide_eq_true h]; rfl

/-! ### Round -/
def roundV (th turns : Int) : List Int := row (th.toNat * turns.toNat) fun i => ((i % th.toNat : Nat) : Int)
theorem row_snoc (n : Nat) (f : Nat → Int) : row n f ++ [f n] = row (n + 1) f := by unfold row; rw [List.range_succ, List.map_append]; rfl
theorem round_is (th turns : Int) (h0 : 1 ≤ th) (h1 : 1 ≤ turns) (h2 : th ≤ 4096) (h3 : turns ≤ 4096) (h4 : th.toNat * turns.toNat ≤ 65536) : ∃ k, picks_Round.f k th turns = some (roundV th turns) := by
  obtain ⟨T, rfl⟩ : ∃ T : Nat, th = (T : Int) := ⟨th.toNat, by omega⟩
  obtain ⟨R, rfl⟩ : ∃ R : Nat, turns = (R : Int) := ⟨turns.toNat, by omega⟩
  simp only [Int.toNat_natCast] at h4
  have E : roundV (T : Int) (R : Int) = row (T * R) fun i => ((i % T : Nat) : Int) := by unfold roundV; simp only [Int.toNat_natCast]
  have hsz : ∀ j t : Nat, j < R → t ≤ T → T * j + t ≤ 65536 := by
    intro j t hj ht
    have : T * (j + 1) ≤ T * R := Nat.mul_le_mul_left T hj
    rw [Nat.mul_succ] at this
    omega
  have H1 : ∀ (j : Nat), j < R → (∃ k, picks_Round.l0 k T (row (T * (j + 1)) fun i => ((i % T : Nat) : Int)) R ((j + 1 : Nat) : Int) = some (row (T * R) fun i => ((i % T : Nat) : Int))) → ∀ (d t : Nat), T - t = d → t ≤ T →
      ∃ k, picks_Round.l1 k T (row (T * j + t) fun i => ((i % T : Nat) : Int)) R (j : Int) T (t : Int) = some (row (T * R) fun i => ((i % T : Nat) : Int)) := by
    intro j hj hnext d
    induction d with
    | zero =>
      intro t hd ht
      obtain ⟨k, hk⟩ := hnext
      obtain rfl : t = T := by omega
      refine ⟨k + 1, ?_⟩
      rw [picks_Round.l1]
      rw [if_neg (by omega), wrap_up (by omega) (by omega)]
      rw [Nat.mul_succ] at hk
      exact hk
    | succ d ih =>
      intro t hd ht
      obtain ⟨k, hk⟩ := ih (t + 1) (by omega) (by omega)
      refine ⟨k + 1, ?_⟩
      have hb := hsz j t hj ht
      rw [picks_Round.l1]
      rw [if_pos (by omega), if_pos (by rw [row_length]; omega), wrap_up (by omega) (by omega)]
      have e : ((t : Nat) : Int) = (fun i => ((i % T : Nat) : Int)) (T * j + t) := by
        show ((t : Nat) : Int) = (((T * j + t) % T : Nat) : Int)
        rw [Nat.mul_add_mod, Nat.mod_eq_of_lt (by omega)]
      have e2 : (row (T * j + t) fun i => ((i % T : Nat) : Int)) ++ [((t : Nat) : Int)] = row (T * j + (t + 1)) fun i => ((i % T : Nat) : Int) := by
        conv => lhs; rw [e]
        exact row_snoc (T * j + t) _
      rw [e2]
      exact hk
  have H0 : ∀ (d j : Nat), R - j = d → j ≤ R → ∃ k, picks_Round.l0 k T (row (T * j) fun i => ((i % T : Nat) : Int)) R (j : Int) = some (row (T * R) fun i => ((i % T : Nat) : Int)) := by
    intro d
    induction d with
    | zero =>
      intro j hd hj
      obtain rfl : j = R := by omega
      refine ⟨1, ?_⟩
      rw [picks_Round.l0]
      rw [if_neg (by omega)]
    | succ d ih =>
      intro j hd hj
      obtain ⟨k, hk⟩ := H1 j (by omega) (ih (j + 1) (by omega) (by omega)) T 0 (by omega) (by omega)
      refine ⟨k + 1, ?_⟩
      rw [picks_Round.l0]
      rw [if_pos (by omega)]
      exact hk
  obtain ⟨k, hk⟩ := H0 R 0 (by omega) (by omega)
  refine ⟨k + 1, ?_⟩
  rw [E]
  unfold picks_Round.f
  have hdiv : ¬ ((T : Int) > wrap64 (65536 / (R : Int))) := by
    have hq : (T : Int) ≤ 65536 / (R : Int) := by
      rw [Int.le_ediv_iff_mul_le (by omega)]
      have : ((T * R : Nat) : Int) ≤ 65536 := by omega
      rw [Int.natCast_mul] at this
      exact this
    have hq1 : 65536 / (R : Int) ≤ 65536 := Int.ediv_le_self _ (by omega)
    have hq0 : 0 ≤ 65536 / (R : Int) := Int.ediv_nonneg (by omega) (by omega)
    rw [wrap_in (by omega) (by omega)]
    omega
  rw [if_neg (by omega), if_neg (by omega), if_neg (by omega), decide_eq_false hdiv]
  rw [picks_Round.j0]
  rw [if_neg (by decide)]
  exact hk

/-! ### Fair, Wait -/
theorem longest_is (l : List Int) (th : Int) (hl : l.length ≤ 1000) (h0 : 1 ≤ th) (h1 : th ≤ 4096) : picks_longest.f l th = some (longV l th) := by
  unfold picks_longest.f
  rw [if_pos ⟨h0, h1, by omega⟩]
open Classical in
theorem fair_is (l : List Int) (th W : Int) (hl : l.length ≤ 1000) (h0 : 1 ≤ th) (h1 : th ≤ 4096) : picks_Fair.f l th W = some (decide (1 ≤ W ∧ Covers l th W)) := by
  unfold picks_Fair.f
  rw [if_neg (by omega)]
  by_cases hW : W < 1
  · rw [if_pos hW, decide_eq_false (by omega)]
  · rw [if_neg hW]
    by_cases hW2 : W > (l.length : Int)
    · rw [if_pos hW2, decide_eq_true ⟨by omega, fun s s0 s1 => by omega⟩]
    · rw [if_neg hW2, longest_is l th hl h0 h1]
      simp only [Option.bind_some]
      have := longV_lt l th W h0 (by omega) (by omega)
      by_cases hc : Covers l th W
      · rw [decide_eq_true (this.2 hc), decide_eq_true ⟨by omega, hc⟩]
      · rw [decide_eq_false (fun h => hc (this.1 h)), decide_eq_false (fun h => hc h.2)]
theorem wait_is (l : List Int) (th : Int) (hl : l.length ≤ 1000) (h0 : 1 ≤ th) (h1 : th ≤ 4096) : picks_Wait.f l th = some (longV l th + 1) := by
  have := longV_is l th
  unfold picks_Wait.f
  rw [if_neg (by omega), longest_is l th hl h0 h1]
  simp only [Option.bind_some]
  rw [wrap_up (by omega) (by omega)]

end Go.Proofs.Ytbjkcplbilopeaa.Pure
