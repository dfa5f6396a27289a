/- Runs with a cut: plain facts. -/
import Derived.Test.YtgcknekhimpfkaaDoorMachK
namespace Go.Proofs.YtgcknekhimpfkaaDoor
open Go Go.RowKit Go.Lib Go.Proofs.YtgcknekhimpfkaaDoor.Pl
set_option linter.unusedVariables false
set_option linter.unusedSimpArgs false
theorem lookV_on {cut : Int} (h : 0 ≤ cut) (n : Nat) : lookV cut n = decide (cut ≤ (n : Int)) := by
  unfold lookV
  simp [h]
theorem act_none (x : BS) (a y : Int) : (x.act 0 a y).2.2 = x := by
  unfold BS.act
  rw [if_pos rfl]
/-- A step that ends the run leaves the disk as it was. -/
theorem stop_ws {cs : Array Value} {x : BS} {k t a : Int} {s : Nat} {x' : BS} (h : stepM cs x = .stop k t a s x') : x'.ws = x.ws := by
  rcases Nat.eq_zero_or_pos s with hs | hs
  · rw [stop_same h hs]
  · unfold stepM at h
    split at h
    · split at h
      · unfold doneM at h
        split at h
        · cases h; omega
        split at h
        · cases h; omega
        split at h
        · rename_i hx
          have hk := ex_trap hx
          unfold trapM at h
          split at h
          · cases h; rw [hk, act_none]
          split at h
          · cases h; rw [hk, act_none]
          · cases h
        · cases h
      · cases h; rfl
    · cases h; rfl
/-- The power goes just behind that write. -/
theorem run_cut (cut : Int) (hc : 0 ≤ cut) : ∀ (n : Nat) (cs : Array Value) (x : BS) (d : Nat), (x.ws.length : Int) ≤ cut →
    let Z := runM cut n cs x (lookV cut x.ws.length) d
    (Z.k = 7 → (Z.x.ws.length : Int) = cut) ∧ (Z.k ≠ 7 → (Z.x.ws.length : Int) < cut)
  | n, cs, x, d, hx => by
    by_cases hg : cut ≤ (x.ws.length : Int)
    · rw [lookV_on hc, decide_eq_true hg]
      simp only [runG]
      exact ⟨fun _ => by omega, fun h => absurd rfl h⟩
    · rw [lookV_on hc, decide_eq_false hg]
      cases n with
      | zero => simp only [runZ]; exact ⟨fun h => absurd h (by decide), fun _ => by omega⟩
      | succ n =>
        cases h : stepM cs x with
        | stop k t a s x' =>
          simp only [runS h]
          have hw := stop_ws h
          refine ⟨fun hk => ?_, fun _ => by rw [hw]; omega⟩
          rcases stop_is h with ⟨rfl, _⟩ | ⟨rfl, _⟩ | ⟨rfl, _⟩ | ⟨rfl, _⟩ | ⟨rfl, _⟩ <;> exact absurd hk (by decide)
        | go cs' x' lk =>
          simp only [runO h]
          obtain ⟨h1, h2, h3⟩ := go_ws h
          have key : (lk && lookV cut x'.ws.length) = lookV cut x'.ws.length := by
            cases lk with
            | true => rfl
            | false => rw [Bool.false_and, lookV_on hc, h3 rfl]; exact (decide_eq_false hg).symm
          rw [key]
          exact run_cut cut hc n cs' x' (d + 1) (by omega)
/-- Without the cut, so many steps come to the same. -/
theorem run_uncut (cut : Int) : ∀ (n : Nat) (cs : Array Value) (x : BS) (g : Bool) (d : Nat), let Z := runM cut n cs x g d
    Z.k = 7 → let Y := runM (-1) (Z.did - d) cs x false d
    Y.did = Z.did ∧ Y.cs = Z.cs ∧ Y.x = Z.x
  | n, cs, x, true, d => by simp only [runG, Nat.sub_self, runZ]; simp
  | 0, cs, x, false, d => by simp only [runZ]; intro h; exact absurd h (by decide)
  | n + 1, cs, x, false, d => by
    cases h : stepM cs x with
    | stop k t a s x' =>
      simp only [runS h]
      intro hk
      rcases stop_is h with ⟨rfl, _⟩ | ⟨rfl, _⟩ | ⟨rfl, _⟩ | ⟨rfl, _⟩ | ⟨rfl, _⟩ <;> exact absurd hk (by decide)
    | go cs' x' lk =>
      simp only [runO h]
      intro hk
      have hd := run_says cut n cs' x' (lk && lookV cut x'.ws.length) (d + 1)
      have ih := run_uncut cut n cs' x' (lk && lookV cut x'.ws.length) (d + 1)
      simp only at hd ih
      rw [show (runM cut n cs' x' (lk && lookV cut x'.ws.length) (d + 1)).did - d = ((runM cut n cs' x' (lk && lookV cut x'.ws.length) (d + 1)).did - (d + 1)) + 1 from by omega, runO h]
      simp only [lookV_off, Bool.and_false]
      exact ih hk
/-- The pieces of a run. -/
theorem run_piece (j k : Nat) (cs : Array Value) (x : BS) (h : (runM (-1) j cs x false 0).k = 1) :
    let R := runM (-1) j cs x false 0
    let Z := runM (-1) k R.cs R.x false 0
    let Y := runM (-1) (j + k) cs x false 0
    Y.k = Z.k ∧ Y.did = j + Z.did ∧ Y.cs = Z.cs ∧ Y.x = Z.x := by
  have h2 := run_two j k cs x 0 h
  have h3 := run_shift (-1) k (runM (-1) j cs x false 0).cs (runM (-1) j cs x false 0).x false 0 j
  simp only [Nat.zero_add] at h2 h3 ⊢
  rw [h2, h3]
  exact ⟨rfl, Nat.add_comm _ _, rfl, rfl⟩
theorem run_st (j : Nat) (cs : Array Value) (x : BS) (h : (runM (-1) j cs x false 0).k = 1) : (runM (-1) j cs x false 0).did = j := by
  have := run_says (-1) j cs x false 0
  simp only at this
  have := this.2.2.2.2.1 h
  omega
/-- A run is never gone that has no cut. -/
theorem run_gone : ∀ (n : Nat) (cs : Array Value) (x : BS) (d : Nat), (runM (-1) n cs x false d).gone = false ∧ (runM (-1) n cs x false d).k ≠ 7
  | 0, cs, x, d => by simp [runZ]
  | n + 1, cs, x, d => by
    cases h : stepM cs x with
    | stop k t a s x' =>
      rw [runS h]
      refine ⟨rfl, ?_⟩
      rcases stop_is h with ⟨rfl, _⟩ | ⟨rfl, _⟩ | ⟨rfl, _⟩ | ⟨rfl, _⟩ | ⟨rfl, _⟩ <;> simp
    | go cs' x' lk =>
      rw [runO h]
      simp only [lookV_off, Bool.and_false]
      exact run_gone n cs' x' (d + 1)
end Go.Proofs.YtgcknekhimpfkaaDoor
