/- How runs hang together: plain facts. -/
import Derived.Test.YtgcknekhimpfkaaDoorQM
namespace Go.Proofs.YtgcknekhimpfkaaDoor
open Go Go.RowKit Go.Lib Go.Proofs.YtgcknekhimpfkaaDoor.Pl
set_option linter.unusedVariables false
set_option linter.unusedSimpArgs false
theorem runG (cut : Int) (n : Nat) (cs : Array Value) (x : BS) (d : Nat) : runM cut n cs x true d = ⟨7, 0, 0, d, cs, x, true⟩ := by cases n <;> rfl
theorem runZ (cut : Int) (cs : Array Value) (x : BS) (d : Nat) : runM cut 0 cs x false d = ⟨1, 0, 0, d, cs, x, false⟩ := rfl
theorem runS {cut : Int} {n : Nat} {cs : Array Value} {x : BS} {d : Nat} {k t a : Int} {s : Nat} {x' : BS} (h : stepM cs x = .stop k t a s x') : runM cut (n + 1) cs x false d = ⟨k, t, a, d + s, cs, x', false⟩ := by
  show (match stepM cs x with
    | .stop k t a s x' => (⟨k, t, a, d + s, cs, x', false⟩ : MRes)
    | .go cs' x' lk => runM cut n cs' x' (lk && lookV cut x'.ws.length) (d + 1)) = _
  rw [h]
theorem runO {cut : Int} {n : Nat} {cs : Array Value} {x : BS} {d : Nat} {cs' : Array Value} {x' : BS} {lk : Bool} (h : stepM cs x = .go cs' x' lk) : runM cut (n + 1) cs x false d = runM cut n cs' x' (lk && lookV cut x'.ws.length) (d + 1) := by
  show (match stepM cs x with
    | .stop k t a s x' => (⟨k, t, a, d + s, cs, x', false⟩ : MRes)
    | .go cs' x' lk => runM cut n cs' x' (lk && lookV cut x'.ws.length) (d + 1)) = _
  rw [h]
/-- How a step may stop. -/
theorem stop_is {cs : Array Value} {x : BS} {k t a : Int} {s : Nat} {x' : BS} (h : stepM cs x = .stop k t a s x') :
    (k = 2 ∧ t = 0 ∧ a = 0 ∧ s = 0) ∨ (k = 3 ∧ t = 0 ∧ a = 0 ∧ s = 1) ∨ (k = 4 ∧ t ≠ 0 ∧ a = pcOf cs ∧ s = 1) ∨ (k = 5 ∧ t = 0 ∧ a = pcOf cs ∧ s = 0) ∨ (k = 6 ∧ t = 0 ∧ a = pcOf cs ∧ s = 0) := by
  unfold stepM at h
  split at h
  · split at h
    · unfold doneM at h
      split at h
      · cases h; simp
      split at h
      · cases h; simp
      split at h
      · unfold trapM at h
        split at h
        · cases h; simp
        split at h
        · rename_i h1 _
          cases h
          simp [h1]
        · cases h
      · cases h
    · cases h; simp
  · cases h; simp
/-- What every run's end says. -/
theorem run_says (cut : Int) : ∀ (n : Nat) (cs : Array Value) (x : BS) (g : Bool) (d : Nat), let Z := runM cut n cs x g d
    1 ≤ Z.k ∧ Z.k ≤ 7 ∧ d ≤ Z.did ∧ Z.did ≤ d + n ∧ (Z.k = 1 → Z.did = d + n) ∧ ((Z.k = 4 ∨ Z.k = 5 ∨ Z.k = 6) → Z.a = pcOf Z.cs) ∧ (¬ (Z.k = 4 ∨ Z.k = 5 ∨ Z.k = 6) → Z.a = 0) ∧ (Z.k ≠ 4 → Z.t = 0) ∧ (Z.k = 4 → Z.t ≠ 0)
  | n, cs, x, true, d => by simp only [runG]; simp
  | 0, cs, x, false, d => by simp only [runZ]; simp
  | n + 1, cs, x, false, d => by
    cases h : stepM cs x with
    | stop k t a s x' =>
      simp only [runS h]
      rcases stop_is h with ⟨rfl, rfl, rfl, rfl⟩ | ⟨rfl, rfl, rfl, rfl⟩ | ⟨rfl, ht, rfl, rfl⟩ | ⟨rfl, rfl, rfl, rfl⟩ | ⟨rfl, rfl, rfl, rfl⟩ <;> simp <;> assumption
    | go cs' x' lk =>
      simp only [runO h]
      have := run_says cut n cs' x' (lk && lookV cut x'.ws.length) (d + 1)
      simp only at this
      obtain ⟨h1, h2, h3, h4, h5, h6⟩ := this
      exact ⟨h1, h2, by omega, by omega, fun h => by have := h5 h; omega, h6⟩
/-! An access that is not done leaves the bus as it was. -/
theorem act_same (x : BS) (k a y : Int) (h : (x.act k a y).2.1 ≠ 0) : (x.act k a y).2.2 = x := by
  unfold BS.act at h ⊢
  split
  · rfl
  split
  · rfl
  split
  · rename_i h1 h2 h3; rw [if_neg h1, if_neg h2, if_pos h3] at h; exact absurd rfl h
  split
  · split <;> rfl
  split
  · rename_i h1 h2 h3 h4 h5
    rw [if_neg h1, if_neg h2, if_neg h3, if_neg h4, if_pos h5] at h
    split
    · rename_i h6; rw [if_pos h6] at h; exact absurd rfl h
    · rfl
  split
  · rename_i h1 h2 h3 h4 h5 h6
    rw [if_neg h1, if_neg h2, if_neg h3, if_neg h4, if_neg h5, if_pos h6] at h
    unfold BS.load at h ⊢
    split
    · rfl
    split
    · rename_i g1 g2
      rw [if_neg g1, if_pos g2] at h
      cases hq : x.q with
      | nil => rfl
      | cons c r => rw [hq] at h; exact absurd rfl h
    split
    · split <;> rfl
    split
    · rfl
    split
    · rfl
    split
    · rfl
    split <;> rfl
  split
  · rename_i h1 h2 h3 h4 h5 h6 h7
    rw [if_neg h1, if_neg h2, if_neg h3, if_neg h4, if_neg h5, if_neg h6, if_pos h7] at h
    unfold BS.store at h ⊢
    split
    · rename_i g1; rw [if_pos g1] at h; exact absurd rfl h
    split
    · rename_i g1 g2; rw [if_neg g1, if_pos g2] at h; exact absurd rfl h
    split
    · rename_i g1 g2 g3; rw [if_neg g1, if_neg g2, if_pos g3] at h; exact absurd rfl h
    split
    · rename_i g1 g2 g3 g4; rw [if_neg g1, if_neg g2, if_neg g3, if_pos g4] at h; exact absurd rfl h
    · rfl
  · rfl
/-- A step that stops leaves the bus as it was. -/
theorem stop_same {cs : Array Value} {x : BS} {k t a : Int} {s : Nat} {x' : BS} (h : stepM cs x = .stop k t a s x') (hs : s = 0) : x' = x := by
  unfold stepM at h
  split at h
  · split at h
    · unfold doneM at h
      split at h
      · rename_i h1
        cases h
        exact act_same _ _ _ _ (by rw [h1]; decide)
      split at h
      · rename_i h1
        cases h
        exact act_same _ _ _ _ (by rw [h1]; decide)
      split at h
      · unfold trapM at h
        split at h
        · cases h; cases hs
        split at h
        · cases h; cases hs
        · cases h
      · cases h
    · cases h; rfl
  · cases h; rfl
/-! Without a cut. -/
theorem lookV_off (n : Nat) : lookV (-1) n = false := rfl
/-- A run again, of as many steps as it came to. -/
theorem run_again : ∀ (n : Nat) (cs : Array Value) (x : BS) (d : Nat), let Z := runM (-1) n cs x false d
    let Y := runM (-1) (Z.did - d) cs x false d
    Y.did = Z.did ∧ Y.cs = Z.cs ∧ Y.x = Z.x
  | 0, cs, x, d => by simp [runZ]
  | n + 1, cs, x, d => by
    cases h : stepM cs x with
    | stop k t a s x' =>
      simp only [runS h]
      rcases Nat.eq_zero_or_pos s with hs | hs
      · subst hs
        rw [stop_same h rfl]
        simp [runZ]
      · rw [show d + s - d = (s - 1) + 1 from by omega, runS h]
        simp
    | go cs' x' lk =>
      simp only [runO h, lookV_off, Bool.and_false]
      have hd := run_says (-1) n cs' x' false (d + 1)
      have := run_again n cs' x' (d + 1)
      simp only at hd this
      rw [show (runM (-1) n cs' x' false (d + 1)).did - d = ((runM (-1) n cs' x' false (d + 1)).did - (d + 1)) + 1 from by omega, runO h]
      simp only [lookV_off, Bool.and_false]
      exact this
/-- A run in two pieces. -/
theorem run_two : ∀ (n j : Nat) (cs : Array Value) (x : BS) (d : Nat), (runM (-1) n cs x false d).k = 1 →
    runM (-1) (n + j) cs x false d = runM (-1) j (runM (-1) n cs x false d).cs (runM (-1) n cs x false d).x false (d + n)
  | 0, j, cs, x, d, h => by rw [Nat.zero_add]; rfl
  | n + 1, j, cs, x, d, h => by
    rw [show n + 1 + j = (n + j) + 1 from by omega]
    cases hs : stepM cs x with
    | stop k t a s x' =>
      rw [runS hs] at h
      rcases stop_is hs with ⟨rfl, _⟩ | ⟨rfl, _⟩ | ⟨rfl, _⟩ | ⟨rfl, _⟩ | ⟨rfl, _⟩ <;> simp at h
    | go cs' x' lk =>
      rw [runO hs] at h ⊢
      simp only [lookV_off, Bool.and_false] at h ⊢
      rw [run_two n j cs' x' (d + 1) h, runO hs]
      simp only [lookV_off, Bool.and_false]
      congr 1
      omega
/-- The count of steps is but a count. -/
theorem run_shift (cut : Int) : ∀ (n : Nat) (cs : Array Value) (x : BS) (g : Bool) (d e : Nat), let Z := runM cut n cs x g d
    runM cut n cs x g (d + e) = { Z with did := Z.did + e }
  | n, cs, x, true, d, e => by simp only [runG]
  | 0, cs, x, false, d, e => by simp only [runZ]
  | n + 1, cs, x, false, d, e => by
    cases h : stepM cs x with
    | stop k t a s x' => simp only [runS h]; congr 1; omega
    | go cs' x' lk =>
      simp only [runO h]
      have := run_shift cut n cs' x' (lk && lookV cut x'.ws.length) (d + 1) e
      simp only at this
      rw [show d + e + 1 = d + 1 + e from by omega]
      exact this
/-! With a cut: the disk's writes. -/
theorem cmd_ws (x : BS) (w : Int) : (x.cmd w).ws.length ≤ x.ws.length + 1 ∧ x.ws.length ≤ (x.cmd w).ws.length := by
  unfold BS.cmd BS.fail
  split
  · split
    · simp
    split
    · split
      · simp
      · simp
    · simp
  · simp
theorem act_ws (x : BS) (k a y : Int) : (x.act k a y).2.2.ws.length ≤ x.ws.length + 1 ∧ x.ws.length ≤ (x.act k a y).2.2.ws.length ∧ (¬ (k = 3 ∧ a = 4294967252) → (x.act k a y).2.2.ws = x.ws) := by
  unfold BS.act
  split
  · simp
  split
  · simp
  split
  · simp
  split
  · split <;> simp
  split
  · split <;> simp
  split
  · unfold BS.load
    split
    · simp
    split
    · split <;> simp
    split
    · split <;> simp
    split
    · simp
    split
    · simp
    split
    · simp
    split <;> simp
  split
  · rename_i hk
    unfold BS.store
    split
    · unfold BS.put
      split <;> simp
    split
    · simp
    split
    · simp
    split
    · rename_i ha
      exact ⟨(cmd_ws x y).1, (cmd_ws x y).2, fun h => absurd ⟨hk, ha⟩ h⟩
    · simp
  · simp
theorem ex_trap {i : In8} {cs : Array Value} {l : Int} (h : (i.ex cs l).2.2 = true) : i.k = 0 := by
  unfold In8.k accK
  rw [if_neg]
  rintro ⟨hf, _⟩
  unfold In8.ex exV at h
  split at h
  · cases h
  · cases h
theorem go_ws {cs cs' : Array Value} {x x' : BS} {lk : Bool} (h : stepM cs x = .go cs' x' lk) : x'.ws.length ≤ x.ws.length + 1 ∧ x.ws.length ≤ x'.ws.length ∧ (lk = false → x'.ws.length = x.ws.length) := by
  unfold stepM at h
  split at h
  · split at h
    · have hw := act_ws x (inOf (getV x.M (pcOf cs).toNat)).k ((inOf (getV x.M (pcOf cs).toNat)).ad cs) ((inOf (getV x.M (pcOf cs).toNat)).val cs)
      unfold doneM at h
      split at h
      · cases h
      split at h
      · cases h
      split at h
      · unfold trapM at h
        split at h
        · cases h
        split at h
        · cases h
        · rename_i hx _ _
          cases h
          refine ⟨hw.1, hw.2.1, fun _ => ?_⟩
          by_cases hk : (inOf (getV x.M (pcOf cs).toNat)).k = 3 ∧ ((inOf (getV x.M (pcOf cs).toNat)).ad cs) = 4294967252
          · have := ex_trap hx; omega
          · exact congrArg List.length (hw.2.2 hk)
      · cases h
        refine ⟨hw.1, hw.2.1, fun hl => ?_⟩
        refine congrArg List.length (hw.2.2 fun hk => ?_)
        simp [hk] at hl
    · cases h
  · cases h
end Go.Proofs.YtgcknekhimpfkaaDoor
