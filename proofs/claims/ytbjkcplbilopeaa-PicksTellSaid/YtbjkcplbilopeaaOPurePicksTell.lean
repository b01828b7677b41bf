/- Who goes next, how often each thread comes, and rounds, are as the document's reference says (within the bounds that the statement cuts at). No conditions. -/
import Derived.Test.YtbjkcplbilopeaaOSx12
import Derived.Test.YtbjkcplbilopeaaOPlainB
namespace Go.Proofs.Ytbjkcplbilopeaa.Pure
open Go.RowKit Go.Proofs.Ytbjkcplbilopeaa.OS Go.Proofs.YtbjkcplbilopeaaW.PrintWords Go.Proofs.YtbjkcplbilopeaaW.PrintLast Go.Proofs.YtbjkcplbilopeaaW.PrintMore

theorem tmod_neg (p n : Int) (h0 : 0 < n) (h : Int.tmod p n < 0) : Int.tmod p n + n = p % n := by
  rw [Int.tmod_eq_emod] at h ⊢
  split at h
  · have := Int.emod_nonneg p (b := n) (by omega); omega
  · rename_i hc
    rw [if_neg hc]; omega
theorem tmod_not (p n : Int) (h0 : 0 < n) (h : ¬ Int.tmod p n < 0) : Int.tmod p n = p % n := by
  rw [Int.tmod_eq_emod] at h ⊢
  split at h
  · rename_i hc; rw [if_pos hc]; simp
  · have := Int.emod_lt_of_pos p h0; omega
theorem ref_next_is (p : Int) (left : List Bool) (h : left.length ≤ 200) (k : Nat) (hk : left.length + 1 ≤ k) : pantryref20_Next.f k p left = some (nextV left (p % (left.length : Int)) left.length) := by
  have H : ∀ (d k : Nat) (i : Int), 0 ≤ i → (left.length : Int) - i = d → d + 1 ≤ k →
      pantryref20_Next.l0 k p left left.length i = some (nextV left (p % (left.length : Int)) d) := by
    intro d
    induction d with
    | zero =>
      intro k i h0 hd hk
      obtain ⟨k, rfl⟩ : ∃ m, k = m + 1 := ⟨k - 1, by omega⟩
      rw [pantryref20_Next.l0]
      rw [if_neg (by omega)]; rfl
    | succ d ih =>
      intro k i h0 hd hk
      obtain ⟨k, rfl⟩ : ∃ m, k = m + 1 := ⟨k - 1, by omega⟩
      have hn : 0 < (left.length : Int) := by omega
      have m0 := Int.emod_nonneg p (b := (left.length : Int)) (by omega)
      have m1 := Int.emod_lt_of_pos p hn
      have a := Int.tmod_lt_of_pos p hn
      have b := Int.lt_tmod_of_pos p hn
      have e : i = (left.length : Int) - ((d + 1 : Nat) : Int) := by omega
      subst e
      have n0 := Int.emod_nonneg (p % (left.length : Int) + ((left.length : Int) - ((d + 1 : Nat) : Int))) (b := (left.length : Int)) (by omega)
      have n1 := Int.emod_lt_of_pos (p % (left.length : Int) + ((left.length : Int) - ((d + 1 : Nat) : Int))) hn
      rw [pantryref20_Next.l0]
      rw [if_pos (by omega), if_neg (by omega)]
      have step : (if 0 ≤ Int.tmod (wrap64 (p % (left.length : Int) + ((left.length : Int) - ((d + 1 : Nat) : Int)))) (left.length : Int) then (if Int.tmod (wrap64 (p % (left.length : Int) + ((left.length : Int) - ((d + 1 : Nat) : Int)))) (left.length : Int) < (left.length : Int) then (if rdOf false left (Int.tmod (wrap64 (p % (left.length : Int) + ((left.length : Int) - ((d + 1 : Nat) : Int)))) (left.length : Int)) = true then (some (Int.tmod (wrap64 (p % (left.length : Int) + ((left.length : Int) - ((d + 1 : Nat) : Int)))) (left.length : Int))) else (pantryref20_Next.l0 k p left left.length (wrap64 ((left.length : Int) - ((d + 1 : Nat) : Int) + 1)))) else none) else none) = some (nextV left (p % (left.length : Int)) (d + 1)) := by
        rw [wrap_in (i := p % (left.length : Int) + ((left.length : Int) - ((d + 1 : Nat) : Int))) (by omega) (by omega), tmod_pos (by omega), if_pos n0, if_pos n1]
        by_cases hb : rdOf false left ((p % (left.length : Int) + ((left.length : Int) - ((d + 1 : Nat) : Int))) % (left.length : Int)) = true
        · rw [if_pos hb, nextV, if_pos hb]
        · rw [if_neg hb, wrap_up (by omega) (by omega), ih k _ (by omega) (by omega) (by omega)]
          rw [nextV, if_neg hb]
      by_cases hneg : Int.tmod p (left.length : Int) < 0
      · rw [if_pos hneg, wrap_in (i := Int.tmod p (left.length : Int) + (left.length : Int)) (by omega) (by omega), tmod_neg _ _ hn hneg]
        exact step
      · rw [if_neg hneg, tmod_not _ _ hn hneg]
        exact step
  unfold pantryref20_Next.f
  exact H left.length k 0 (by omega) (by omega) (by omega)

theorem ref_steps_is (l : List Int) (th : Int) (hl : l.length ≤ 1000) (h0 : 1 ≤ th) (h1 : th ≤ 4096) (k : Nat) (hk : l.length + 2 ≤ k) : pantryref20_Steps.f k l th = some (stepsV l th) := by
  have H : ∀ (n k : Nat) (j : Nat), l.length - j = n → j ≤ l.length → n + 1 ≤ k →
      pantryref20_Steps.l0 k l th (row th.toNat fun t => cntAt l (t : Int) j) (j : Int) = some (stepsV l th) := by
    intro n
    induction n with
    | zero =>
      intro k j hn hj hk
      obtain ⟨k, rfl⟩ : ∃ m, k = m + 1 := ⟨k - 1, by omega⟩
      rw [pantryref20_Steps.l0]
      rw [if_neg (by omega)]
      obtain rfl : j = l.length := by omega
      rfl
    | succ n ih =>
      intro k j hn hj hk
      obtain ⟨k, rfl⟩ : ∃ m, k = m + 1 := ⟨k - 1, by omega⟩
      rw [pantryref20_Steps.l0]
      have wj : wrap64 ((j : Int) + 1) = ((j + 1 : Nat) : Int) := wrap_up (by omega) (by omega)
      rw [if_pos (by omega), if_pos (by omega), wj]
      by_cases c0 : rd l (j : Int) ≥ 0
      · rw [if_pos c0]
        by_cases c1 : rd l (j : Int) < th
        · have hc := cntAt_is l (rd l (j : Int)) j
          rw [if_pos c1, if_pos c0, if_pos (by rw [row_length]; omega), row_rd _ _ _ c0 (by omega), Int.toNat_of_nonneg c0, wrap_up (by omega) (by omega), row_bump l th j c0 c1]
          exact ih k (j + 1) (by omega) (by omega) (by omega)
        · rw [if_neg c1, row_stay l th j (by omega)]
          exact ih k (j + 1) (by omega) (by omega) (by omega)
      · rw [if_neg c0, row_stay l th j (by omega)]
        exact ih k (j + 1) (by omega) (by omega) (by omega)
  obtain ⟨k, rfl⟩ : ∃ m, k = m + 1 := ⟨k - 1, by omega⟩
  unfold pantryref20_Steps.f
  rw [if_neg (by omega), decide_eq_false (by omega)]
  rw [pantryref20_Steps.j0]
  rw [if_neg (by decide), if_pos (by omega), if_pos (by omega), row_zero]
  exact H l.length k 0 (by omega) (by omega) (by omega)
theorem ref_steps_none (l : List Int) (th : Int) (h : th < 1 ∨ th > 4096) (k : Nat) (hk : 1 ≤ k) : pantryref20_Steps.f k l th = some [] := by
  obtain ⟨k, rfl⟩ : ∃ m, k = m + 1 := ⟨k - 1, by omega⟩
  unfold pantryref20_Steps.f
  rcases h with h | h
  · rw [if_pos h]; rfl
  · by_cases h1 : th < 1
    · rw [if_pos h1]; rfl
    · rw [if_neg h1, decide_eq_true h]; rfl

theorem ref_round_is (th turns : Int) (h0 : 1 ≤ th) (h1 : 1 ≤ turns) (h2 : th ≤ 4096) (h3 : turns ≤ 4096) (h4 : th.toNat * turns.toNat ≤ 65536) : ∃ k, pantryref20_Round.f k th turns = some (roundV th turns) := by
  obtain ⟨T, rfl⟩ : ∃ T : Nat, th = (T : Int) := ⟨th.toNat, by omega⟩
  obtain ⟨R, rfl⟩ : ∃ R : Nat, turns = (R : Int) := ⟨turns.toNat, by omega⟩
  simp only [Int.toNat_natCast] at h4
  have E : roundV (T : Int) (R : Int) = row (T * R) fun i => ((i % T : Nat) : Int) := by unfold roundV; simp only [Int.toNat_natCast]
  have hsz : ∀ j t : Nat, j < R → t ≤ T → T * j + t ≤ 65536 := by
    intro j t hj ht
    have : T * (j + 1) ≤ T * R := Nat.mul_le_mul_left T hj
    rw [Nat.mul_succ] at this
    omega
  have H1 : ∀ (j : Nat), j < R → (∃ k, pantryref20_Round.l0 k T R (row (T * (j + 1)) fun i => ((i % T : Nat) : Int)) ((j + 1 : Nat) : Int) = some (row (T * R) fun i => ((i % T : Nat) : Int))) → ∀ (d t : Nat), T - t = d → t ≤ T →
      ∃ k, pantryref20_Round.l1 k T R (row (T * j + t) fun i => ((i % T : Nat) : Int)) (j : Int) (t : Int) = some (row (T * R) fun i => ((i % T : Nat) : Int)) := by
    intro j hj hnext d
    induction d with
    | zero =>
      intro t hd ht
      obtain ⟨k, hk⟩ := hnext
      obtain rfl : t = T := by omega
      refine ⟨k + 1, ?_⟩
      rw [pantryref20_Round.l1]
      rw [if_neg (by omega), wrap_up (by omega) (by omega)]
      rw [Nat.mul_succ] at hk
      exact hk
    | succ d ih =>
      intro t hd ht
      obtain ⟨k, hk⟩ := ih (t + 1) (by omega) (by omega)
      refine ⟨k + 1, ?_⟩
      have hb := hsz j t hj ht
      rw [pantryref20_Round.l1]
      rw [if_pos (by omega), if_pos (by rw [row_length]; omega), wrap_up (by omega) (by omega)]
      have e : ((t : Nat) : Int) = (fun i => ((i % T : Nat) : Int)) (T * j + t) := by
        show ((t : Nat) : Int) = (((T * j + t) % T : Nat) : Int)
        rw [Nat.mul_add_mod, Nat.mod_eq_of_lt (by omega)]
      have e2 : (row (T * j + t) fun i => ((i % T : Nat) : Int)) ++ [((t : Nat) : Int)] = row (T * j + (t + 1)) fun i => ((i % T : Nat) : Int) := by
        conv => lhs; rw [e]
        exact row_snoc (T * j + t) _
      rw [e2]
      exact hk
  have H0 : ∀ (d j : Nat), R - j = d → j ≤ R → ∃ k, pantryref20_Round.l0 k T R (row (T * j) fun i => ((i % T : Nat) : Int)) (j : Int) = some (row (T * R) fun i => ((i % T : Nat) : Int)) := by
    intro d
    induction d with
    | zero =>
      intro j hd hj
      obtain rfl : j = R := by omega
      refine ⟨1, ?_⟩
      rw [pantryref20_Round.l0]
      rw [if_neg (by omega)]
    | succ d ih =>
      intro j hd hj
      obtain ⟨k, hk⟩ := H1 j (by omega) (ih (j + 1) (by omega) (by omega)) T 0 (by omega) (by omega)
      refine ⟨k + 1, ?_⟩
      rw [pantryref20_Round.l0]
      rw [if_pos (by omega)]
      exact hk
  obtain ⟨k, hk⟩ := H0 R 0 (by omega) (by omega)
  refine ⟨k + 1, ?_⟩
  rw [E]
  unfold pantryref20_Round.f
  have hdiv : ¬ (wrap64 ((T : Int) * (R : Int)) > 65536) := by
    rw [← Int.natCast_mul, wrap_in (by omega) (by omega)]; omega
  rw [if_neg (by omega), if_neg (by omega), if_neg (by omega), if_neg (by omega), decide_eq_false hdiv]
  rw [pantryref20_Round.j0]
  rw [if_neg (by decide)]
  exact hk

/-- No round: too few, or too many. -/
theorem round_none (th turns : Int) (h : th < 1 ∨ turns < 1 ∨ (1 ≤ th ∧ 1 ≤ turns ∧ 65536 / turns < th)) (k : Nat) (hk : 1 ≤ k) : picks_Round.f k th turns = some [] := by
  obtain ⟨k, rfl⟩ : ∃ m, k = m + 1 := ⟨k - 1, by omega⟩
  have done : picks_Round.j0 (k + 1) th turns true = some [] := by rw [picks_Round.j0]; rfl
  unfold picks_Round.f
  by_cases h1 : th < 1
  · rw [if_pos h1, done]
  rw [if_neg h1]
  by_cases h2 : turns < 1
  · rw [if_pos h2, done]
  rw [if_neg h2, if_neg (by omega)]
  have hq1 : 65536 / turns ≤ 65536 := Int.ediv_le_self _ (by omega)
  have hq0 : 0 ≤ 65536 / turns := Int.ediv_nonneg (by omega) (by omega)
  rw [wrap_in (by omega) (by omega), decide_eq_true (by omega), done]
theorem ref_round_none (th turns : Int) (h : th < 1 ∨ turns < 1 ∨ th > 65536 ∨ turns > 65536 ∨ (1 ≤ th ∧ 1 ≤ turns ∧ th ≤ 65536 ∧ turns ≤ 65536 ∧ th.toNat * turns.toNat > 65536)) (k : Nat) (hk : 1 ≤ k) : pantryref20_Round.f k th turns = some [] := by
  obtain ⟨k, rfl⟩ : ∃ m, k = m + 1 := ⟨k - 1, by omega⟩
  have done : pantryref20_Round.j0 (k + 1) th turns true = some [] := by rw [pantryref20_Round.j0]; rfl
  unfold pantryref20_Round.f
  by_cases h1 : th < 1
  · rw [if_pos h1, done]
  rw [if_neg h1]
  by_cases h2 : turns < 1
  · rw [if_pos h2, done]
  rw [if_neg h2]
  by_cases h3 : th > 65536
  · rw [if_pos h3, done]
  rw [if_neg h3]
  by_cases h4 : turns > 65536
  · rw [if_pos h4, done]
  rw [if_neg h4]
  obtain ⟨_, _, _, _, h5⟩ : 1 ≤ th ∧ 1 ≤ turns ∧ th ≤ 65536 ∧ turns ≤ 65536 ∧ th.toNat * turns.toNat > 65536 := by
    rcases h with h | h | h | h | h
    · omega
    · omega
    · omega
    · omega
    · exact h
  obtain ⟨T, rfl⟩ : ∃ T : Nat, th = (T : Int) := ⟨th.toNat, by omega⟩
  obtain ⟨R, rfl⟩ : ∃ R : Nat, turns = (R : Int) := ⟨turns.toNat, by omega⟩
  simp only [Int.toNat_natCast] at h5
  have hle : T * R ≤ 65536 * 65536 := Nat.mul_le_mul (by omega) (by omega)
  rw [← Int.natCast_mul, wrap_in (by omega) (by omega), decide_eq_true (by omega), done]

/-- Both rounds, wherever the statement asks. -/
theorem rounds_alike (th turns : Int) (h1 : th ≤ 4096 ∨ 1099511627776 ≤ th) (h2 : turns ≤ 4096 ∨ 1099511627776 ≤ turns) : ∃ (v : List Int) (K : Nat), v.length ≤ 65536 ∧ ∀ k, K ≤ k → picks_Round.f k th turns = some v ∧ pantryref20_Round.f k th turns = some v := by
  by_cases a : th < 1
  · exact ⟨[], 1, by simp, fun k hk => ⟨round_none th turns (.inl a) k hk, ref_round_none th turns (.inl a) k hk⟩⟩
  by_cases b : turns < 1
  · exact ⟨[], 1, by simp, fun k hk => ⟨round_none th turns (.inr (.inl b)) k hk, ref_round_none th turns (.inr (.inl b)) k hk⟩⟩
  by_cases c : th > 4096
  · refine ⟨[], 1, by simp, fun k hk => ⟨round_none th turns (.inr (.inr ⟨by omega, by omega, ?_⟩)) k hk, ref_round_none th turns (.inr (.inr (.inl (by omega)))) k hk⟩⟩
    have hq1 : 65536 / turns ≤ 65536 := Int.ediv_le_self _ (by omega)
    omega
  by_cases d : turns > 4096
  · refine ⟨[], 1, by simp, fun k hk => ⟨round_none th turns (.inr (.inr ⟨by omega, by omega, ?_⟩)) k hk, ref_round_none th turns (.inr (.inr (.inr (.inl (by omega))))) k hk⟩⟩
    rw [Int.ediv_eq_zero_of_lt (by omega) (by omega)]; omega
  by_cases e : th.toNat * turns.toNat ≤ 65536
  · obtain ⟨K1, hK1⟩ := ev_at (fun k => picks_Round.mono th turns k) (round_is th turns (by omega) (by omega) (by omega) (by omega) e)
    obtain ⟨K2, hK2⟩ := ev_at (fun k => pantryref20_Round.mono th turns k) (ref_round_is th turns (by omega) (by omega) (by omega) (by omega) e)
    exact ⟨roundV th turns, K1 + K2, by unfold roundV; rw [row_length]; exact e, fun k hk => ⟨hK1 k (by omega), hK2 k (by omega)⟩⟩
  · refine ⟨[], 1, by simp, fun k hk => ⟨round_none th turns (.inr (.inr ⟨by omega, by omega, ?_⟩)) k hk, ref_round_none th turns (.inr (.inr (.inr (.inr ⟨by omega, by omega, by omega, by omega, by omega⟩)))) k hk⟩⟩
    obtain ⟨T, rfl⟩ : ∃ T : Nat, th = (T : Int) := ⟨th.toNat, by omega⟩
    obtain ⟨R, rfl⟩ : ∃ R : Nat, turns = (R : Int) := ⟨turns.toNat, by omega⟩
    simp only [Int.toNat_natCast] at e
    apply Classical.byContradiction
    intro hn
    have : (T : Int) ≤ 65536 / (R : Int) := by omega
    rw [Int.le_ediv_iff_mul_le (by omega), ← Int.natCast_mul] at this
    omega
theorem steps_alike (l : List Int) (th : Int) (hl : l.length ≤ 1000) : ∃ v : List Int, v.length ≤ 4096 ∧ ∀ k, l.length + 2 ≤ k → picks_Steps.f k l th = some v ∧ pantryref20_Steps.f k l th = some v := by
  by_cases h : th < 1 ∨ th > 4096
  · exact ⟨[], by simp, fun k hk => ⟨steps_none l th h k (by omega), ref_steps_none l th h k (by omega)⟩⟩
  · exact ⟨stepsV l th, by unfold stepsV; rw [row_length]; omega, fun k hk => ⟨steps_is l th hl (by omega) (by omega) k hk, ref_steps_is l th hl (by omega) (by omega) k hk⟩⟩

theorem PicksTell (p : Int) (left : List Bool) (l : List Int) (th turns : Int) : ∃ k, pantrylaw20_PicksTell.f k p left l th turns = some true := by
  have hstop : ∀ k : Nat, pantrylaw20_PicksTell.j0 (k + 1) p left l th turns true true = some true := by intro k; rw [pantrylaw20_PicksTell.j0]; rfl
  by_cases h1 : (left.length : Int) > 200
  · exact ⟨61, by unfold pantrylaw20_PicksTell.f; rw [small_at (by omega)]; simp only [Option.bind_some]; rw [if_pos h1, hstop]⟩
  by_cases h2 : (l.length : Int) > 200
  · exact ⟨61, by unfold pantrylaw20_PicksTell.f; rw [small_at (by omega)]; simp only [Option.bind_some]; rw [if_neg h1, if_pos h2, hstop]⟩
  by_cases h3 : th > 4096 ∧ th < 1099511627776
  · exact ⟨61, by unfold pantrylaw20_PicksTell.f; rw [small_at (by omega)]; simp only [Option.bind_some]; rw [if_neg h1, if_neg h2, if_pos h3.1, if_pos h3.2, hstop]⟩
  by_cases h4 : turns > 4096 ∧ turns < 1099511627776
  · refine ⟨61, ?_⟩
    unfold pantrylaw20_PicksTell.f; rw [small_at (by omega)]; simp only [Option.bind_some]; rw [if_neg h1, if_neg h2]
    by_cases h5 : th > 4096
    · rw [if_pos h5, if_neg (by omega), if_pos h4.1, decide_eq_true h4.2, hstop]
    · rw [if_neg h5, if_pos h4.1, decide_eq_true h4.2, hstop]
  obtain ⟨v, K, hv, hK⟩ := rounds_alike th turns (by omega) (by omega)
  obtain ⟨u, hu, hS⟩ := steps_alike l th (by omega)
  have go : ∀ k, K + 66000 ≤ k → pantrylaw20_PicksTell.j0 (k + 1) p left l th turns true false = some true := by
    intro k hk
    rw [pantrylaw20_PicksTell.j0]
    rw [if_neg (by decide)]
    simp only [Option.bind_some]
    rw [if_pos (by simp; omega)]
    simp only [List.nil_append, if_true]
    rw [next_is p left (by omega) k (by omega), ref_next_is p left (by omega) k (by omega)]
    simp only [Option.bind_some, if_true]
    rw [(hS k (by omega)).1, (hS k (by omega)).2]
    simp only [Option.bind_some]
    rw [ints_self u (by omega) k (by omega)]
    simp only [Option.bind_some, if_true]
    rw [(hK k (by omega)).1, (hK k (by omega)).2]
    simp only [Option.bind_some]
    rw [ints_self v (by omega) k (by omega)]
    simp only [Option.bind_some, if_true]
    rw [ints_self l (by omega) k (by omega)]
    rfl
  refine ⟨K + 66001, ?_⟩
  unfold pantrylaw20_PicksTell.f; rw [small_at (by omega)]; simp only [Option.bind_some]; rw [if_neg h1, if_neg h2]
  have tail : (if turns > 4096 then pantrylaw20_PicksTell.j0 (K + 66001) p left l th turns true (decide (turns < 1099511627776)) else pantrylaw20_PicksTell.j0 (K + 66001) p left l th turns true false) = some true := by
    by_cases h6 : turns > 4096
    · rw [if_pos h6, decide_eq_false (by omega)]; exact go _ (by omega)
    · rw [if_neg h6]; exact go _ (by omega)
  by_cases h5 : th > 4096
  · rw [if_pos h5, if_neg (by omega)]; exact tail
  · rw [if_neg h5]; exact tail

end Go.Proofs.Ytbjkcplbilopeaa.Pure
