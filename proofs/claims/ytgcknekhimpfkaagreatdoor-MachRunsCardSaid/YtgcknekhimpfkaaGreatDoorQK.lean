/- How runs hang together: plain facts. -/
import Derived.Test.YtgcknekhimpfkaaGreatDoorQM
namespace Go.Proofs.YtgcknekhimpfkaaGreatDoor
open Go Go.RowKit Go.Lib Go.Proofs.YtgcknekhimpfkaaGreatDoor.Pl
set_option linter.unusedVariables false
set_option linter.unusedSimpArgs false
theorem runG (cut : Int) (n : Nat) (cs : Array Value) (x : BS) (d : Nat) : runM cut n cs x true d = ⟨7, 0, 0, d, cs, x, true⟩ := by cases n <;> rfl
theorem runZ (cut : Int) (cs : Array Value) (x : BS) (d : Nat) : runM cut 0 cs x false d = ⟨1, 0, 0, d, cs, x, false⟩ := rfl
theorem runS {cut : Int} {n : Nat} {cs : Array Value} {x : BS} {d : Nat} {k t a : Int} {s : Nat} {x' : BS} (h : stepM cs x = .stop k t a s x') : runM cut (n + 1) cs x false d = ⟨k, t, a, d + s, cs, x', false⟩ := by
 show (match stepM cs x with
  | .stop k t a s x' => (⟨k, t, a, d + s, cs, x', false⟩ : MRes)
  | .go cs' x' lk => runM cut n cs' x' (lk && lookV cut x'.ws.length) (d + 1)) = _
 rw [h]
theorem runO {cut : Int} {n : Nat} {cs : Array Value} {x : BS} {d : Nat} {cs' : Array Value} {x' : BS} {lk : Bool} (h : stepM cs x = .go cs' x' lk) : runM cut (n + 1) cs x false d = runM cut n cs' x' (lk && lookV cut x'.ws.length) (d + 1) := by
 show (match stepM cs x with
  | .stop k t a s x' => (⟨k, t, a, d + s, cs, x', false⟩ : MRes)
  | .go cs' x' lk => runM cut n cs' x' (lk && lookV cut x'.ws.length) (d + 1)) = _
 rw [h]
/-- How a step may stop. -/
theorem stop_is {cs : Array Value} {x : BS} {k t a : Int} {s : Nat} {x' : BS} (h : stepM cs x = .stop k t a s x') :
 (k = 2 ∧ t = 0 ∧ a = 0 ∧ s = 0) ∨ (k = 3 ∧ t = 0 ∧ a = 0 ∧ s = 1) ∨ (k = 4 ∧ t ≠ 0 ∧ a = pcOf cs ∧ s = 1) ∨ (k = 5 ∧ t = 0 ∧ a = pcOf cs ∧ s = 0) ∨ (k = 6 ∧ t = 0 ∧ a = pcOf cs ∧ s = 0) := by
 unfold stepM at h
 split at h
 ·split at h
  ·unfold doneM at h
   split at h
   ·cases h; simp
   split at h
   ·cases h; simp
   split at h
   ·unfold trapM at h
    split at h
    ·cases h; simp
    split at h
    ·rename_i h1 _
     cases h
     simp [h1]
    ·cases h
   ·cases h
  ·cases h; simp
 ·cases h; simp
/-- What every run's end says. -/
theorem run_says (cut : Int) : ∀ (n : Nat) (cs : Array Value) (x : BS) (g : Bool) (d : Nat), let Z := runM cut n cs x g d
 1 ≤ Z.k ∧ Z.k ≤ 7 ∧ d ≤ Z.did ∧ Z.did ≤ d + n ∧ (Z.k = 1 → Z.did = d + n) ∧ ((Z.k = 4 ∨ Z.k = 5 ∨ Z.k = 6) → Z.a = pcOf Z.cs) ∧ (¬ (Z.k = 4 ∨ Z.k = 5 ∨ Z.k = 6) → Z.a = 0) ∧ (Z.k ≠ 4 → Z.t = 0) ∧ (Z.k = 4 → Z.t ≠ 0)
 | n, cs, x, true, d => by simp only [runG]; simp
 | 0, cs, x, false, d => by simp only [runZ]; simp
 | n + 1, cs, x, false, d => by
  cases h : stepM cs x with
  | stop k t a s x' =>
   simp only [runS h]
   rcases stop_is h with ⟨rfl, rfl, rfl, rfl⟩ | ⟨rfl, rfl, rfl, rfl⟩ | ⟨rfl, ht, rfl, rfl⟩ | ⟨rfl, rfl, rfl, rfl⟩ | ⟨rfl, rfl, rfl, rfl⟩ <;> simp <;> assumption
  | go cs' x' lk =>
   simp only [runO h]
   have := run_says cut n cs' x' (lk && lookV cut x'.ws.length) (d + 1)
   simp only at this
   obtain ⟨h1, h2, h3, h4, h5, h6⟩ := this
   exact ⟨h1, h2, by omega, by omega, fun h => by have := h5 h; omega, h6⟩
/-! An access that is not done leaves the bus as it was. -/
/-! Without a cut. -/
/-! With a cut: the disk's writes. -/
theorem cmd_ws (x : BS) (w : Int) : (x.cmd w).ws.length ≤ x.ws.length + 1 ∧ x.ws.length ≤ (x.cmd w).ws.length := by
 unfold BS.cmd BS.fail
 split
 ·split
  ·simp
  split
  ·split
   ·simp
   ·simp
  ·simp
 ·simp
theorem act_ws (x : BS) (k a y : Int) : (x.act k a y).2.2.ws.length ≤ x.ws.length + 1 ∧ x.ws.length ≤ (x.act k a y).2.2.ws.length ∧ (¬ (k = 3 ∧ a = 4294967252) → (x.act k a y).2.2.ws = x.ws) := by
 unfold BS.act
 split
 ·simp
 split
 ·simp
 split
 ·simp
 split
 ·split <;> simp
 split
 ·split <;> simp
 split
 ·unfold BS.load
  split
  ·simp
  split
  ·split <;> simp
  split
  ·split <;> simp
  split
  ·simp
  split
  ·simp
  split
  ·simp
  split <;> simp
 split
 ·rename_i hk
  unfold BS.store
  split
  ·unfold BS.put
   split <;> simp
  split
  ·simp
  split
  ·simp
  split
  ·rename_i ha
   exact ⟨(cmd_ws x y).1, (cmd_ws x y).2, fun h => absurd ⟨hk, ha⟩ h⟩
  ·simp
 ·simp
theorem ex_trap {i : In8} {cs : Array Value} {l : Int} (h : (i.ex cs l).2.2 = true) : i.k = 0 := by
 unfold In8.k accK
 rw [if_neg]
 rintro ⟨hf, _⟩
 unfold In8.ex exV at h
 split at h
 ·cases h
 ·cases h
theorem go_ws {cs cs' : Array Value} {x x' : BS} {lk : Bool} (h : stepM cs x = .go cs' x' lk) : x'.ws.length ≤ x.ws.length + 1 ∧ x.ws.length ≤ x'.ws.length ∧ (lk = false → x'.ws.length = x.ws.length) := by
 unfold stepM at h
 split at h
 ·split at h
  ·have hw := act_ws x (inOf (getV x.M (pcOf cs).toNat)).k ((inOf (getV x.M (pcOf cs).toNat)).ad cs) ((inOf (getV x.M (pcOf cs).toNat)).val cs)
   unfold doneM at h
   split at h
   ·cases h
   split at h
   ·cases h
   split at h
   ·unfold trapM at h
    split at h
    ·cases h
    split at h
    ·cases h
    ·rename_i hx _ _
     cases h
     refine ⟨hw.1, hw.2.1, fun _ => ?_⟩
     by_cases hk : (inOf (getV x.M (pcOf cs).toNat)).k = 3 ∧ ((inOf (getV x.M (pcOf cs).toNat)).ad cs) = 4294967252
     ·have := ex_trap hx; omega
     ·exact congrArg List.length (hw.2.2 hk)
   ·cases h
    refine ⟨hw.1, hw.2.1, fun hl => ?_⟩
    refine congrArg List.length (hw.2.2 fun hk => ?_)
    simp [hk] at hl
  ·cases h
 ·cases h
end Go.Proofs.YtgcknekhimpfkaaGreatDoor
