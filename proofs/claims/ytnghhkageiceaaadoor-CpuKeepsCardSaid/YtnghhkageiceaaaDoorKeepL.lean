/- What an instruction leaves as it is: plain. -/
import Derived.Test.YtnghhkageiceaaaDoorCpuOk
namespace Go.Proofs.YtnghhkageiceaaaDoor
open Go Go.RowKit Go.Lib Go.Proofs.YtnghhkageiceaaaDoor.Pl
set_option linter.unusedVariables false
set_option linter.unusedSimpArgs false
def getsV (f : Int) (u v : Bool) (a : Int) : Int := if f = 3 then (if v then 15 else 16) else if f = 2 ∧ u = true then 16 else a
theorem rg_set (cs : Array Value) (i j : Nat) (x : Int) (hi : i < cs.size) : rgV (cs.setIfInBounds i (.int .u32 x)) j = if i = j then x else rgV cs j := by
  unfold rgV
  rw [set_at cs i j _ hi]
  by_cases h : i = j
  · rw [if_pos h, if_pos h]
  · rw [if_neg h, if_neg h]
theorem rg_setF (cs : Array Value) (i j : Nat) (b : Bool) (hi : i < cs.size) (h : i ≠ j) : rgV (cs.setIfInBounds i (.bool b)) j = rgV cs j := by
  unfold rgV
  rw [set_at cs i j _ hi, if_neg h]
theorem fl_setF (cs : Array Value) (i j : Nat) (x : Bool) (hi : i < cs.size) : flV (cs.setIfInBounds i (.bool x)) j = if i = j then x else flV cs j := by
  unfold flV
  rw [set_at cs i j _ hi]
  by_cases h : i = j
  · rw [if_pos h, if_pos h]
  · rw [if_neg h, if_neg h]
theorem fl_set (cs : Array Value) (i j : Nat) (b : Int) (hi : i < cs.size) (h : i ≠ j) : flV (cs.setIfInBounds i (.int .u32 b)) j = flV cs j := by
  unfold flV
  rw [set_at cs i j _ hi, if_neg h]
theorem rg_c21 {cs : Array Value} (hs : cs.size = 22) (k : Nat) : rgV (c21 cs) k = if 21 = k then nextV cs else rgV cs k := rg_set cs 21 k _ (by omega)
theorem fl_c21 {cs : Array Value} (hs : cs.size = 22) (k : Nat) (hk : k ≠ 21) : flV (c21 cs) k = flV cs k := fl_set cs 21 k _ (by omega) (Ne.symm hk)
theorem rg_fin {cs : Array Value} (hs : cs.size = 22) {a : Nat} (ha : a ≤ 15) (W : Int) (k : Nat) (h1 : k ≠ 17) (h2 : k ≠ 18) : rgV (fin cs a W) k = if a = k then W else rgV cs k := by
  unfold fin
  rw [rg_setF _ _ _ _ (by simp [hs]) (Ne.symm h2), rg_setF _ _ _ _ (by simp [hs]) (Ne.symm h1), rg_set _ _ _ _ (by omega)]
theorem fl_fin {cs : Array Value} (hs : cs.size = 22) {a : Nat} (ha : a ≤ 15) (W : Int) (k : Nat) (h : a ≠ k) : flV (fin cs a W) k = if 18 = k then decide (W = 0) else if 17 = k then decide (2147483648 ≤ W) else flV cs k := by
  unfold fin
  rw [fl_setF _ _ _ _ (by simp [hs]), fl_setF _ _ _ _ (by simp [hs]), fl_set _ _ _ _ (by omega) h]
structure Kept (cs X : Array Value) (f : Int) (u v : Bool) (a op : Int) : Prop where
  regs : ∀ k : Nat, k < 16 → (k : Int) ≠ getsV f u v a → rgV X k = rgV cs k
  cv : ¬ ((f = 0 ∨ f = 1) ∧ (op = 8 ∨ op = 9)) → flV X 19 = flV cs 19 ∧ flV X 20 = flV cs 20
  h : ¬ ((f = 0 ∨ f = 1) ∧ (op = 10 ∨ op = 11)) → rgV X 16 = rgV cs 16
  nz : getsV f u v a = 16 → flV X 17 = flV cs 17 ∧ flV X 18 = flV cs 18
  pc : f ≠ 3 → rgV X 21 = nextV cs
  made : (f = 0 ∨ f = 1) ∨ f = 2 ∧ u = false → flV X 17 = decide (2147483648 ≤ rgV X a.toNat) ∧ flV X 18 = decide (rgV X a.toNat = 0)
theorem kept_c21 {cs : Array Value} (hs : cs.size = 22) (f : Int) (u v : Bool) (a op : Int) (hf : f = 3 ∨ f = 2 ∧ u = true) : Kept cs (c21 cs) f u v a op := by
  refine ⟨fun k hk _ => ?_, fun _ => ⟨fl_c21 hs 19 (by omega), fl_c21 hs 20 (by omega)⟩, fun _ => ?_, fun _ => ⟨fl_c21 hs 17 (by omega), fl_c21 hs 18 (by omega)⟩, fun _ => ?_, fun h => ?_⟩
  · rw [rg_c21 hs, if_neg (by omega)]
  · rw [rg_c21 hs, if_neg (by omega)]
  · rw [rg_c21 hs, if_pos rfl]
  · rcases hf with rfl | ⟨rfl, rfl⟩ <;> simp at h
theorem kept_fin {cs B : Array Value} (hB : B.size = 22) (f : Int) (u v : Bool) (a op W : Int) (ha : 0 ≤ a ∧ a ≤ 15) (hg : getsV f u v a = a) (h0 : ∀ k : Nat, k < 16 → rgV B k = rgV cs k)
    (h1 : ¬ ((f = 0 ∨ f = 1) ∧ (op = 8 ∨ op = 9)) → flV B 19 = flV cs 19 ∧ flV B 20 = flV cs 20) (h2 : ¬ ((f = 0 ∨ f = 1) ∧ (op = 10 ∨ op = 11)) → rgV B 16 = rgV cs 16) (h3 : rgV B 21 = nextV cs) : Kept cs (fin B a.toNat W) f u v a op := by
  have h' : a.toNat ≤ 15 := by omega
  refine ⟨fun k hk hn => ?_, fun h => ?_, fun h => ?_, fun h => by omega, fun _ => ?_, fun _ => ?_⟩
  · rw [rg_fin hB h' W k (by omega) (by omega), if_neg (by omega)]; exact h0 k hk
  · rw [fl_fin hB h' W 19 (by omega), fl_fin hB h' W 20 (by omega)]; exact h1 h
  · rw [rg_fin hB h' W 16 (by omega) (by omega), if_neg (by omega)]; exact h2 h
  · rw [rg_fin hB h' W 21 (by omega) (by omega), if_neg (by omega)]; exact h3
  · rw [fl_fin hB h' W 17 (by omega), fl_fin hB h' W 18 (by omega), rg_fin hB h' W a.toNat (by omega) (by omega)]; simp
theorem kept_alu {cs : Array Value} (hs : cs.size = 22) (f : Int) (u v : Bool) (a op b x W : Int) (ha : 0 ≤ a ∧ a ≤ 15) (hf : f = 0 ∨ f = 1) : Kept cs (fin (aluC cs u op b x) a.toNat W) f u v a op := by
  have hg : getsV f u v a = a := by unfold getsV; rw [if_neg (by omega), if_neg (by omega)]
  have c := c21_size hs
  unfold aluC
  split
  · refine kept_fin (by simp [c]) f u v a op W ha hg (fun k hk => ?_) (fun h => by omega) (fun _ => ?_) ?_ <;>
      rw [rg_setF _ _ _ _ (by simp [c]) (by omega), rg_setF _ _ _ _ (by simp [c]) (by omega), rg_c21 hs] <;> first | rw [if_neg (by omega)] | rw [if_pos rfl]
  split
  · refine kept_fin (by simp [c]) f u v a op W ha hg (fun k hk => ?_) (fun h => by omega) (fun _ => ?_) ?_ <;>
      rw [rg_setF _ _ _ _ (by simp [c]) (by omega), rg_setF _ _ _ _ (by simp [c]) (by omega), rg_c21 hs] <;> first | rw [if_neg (by omega)] | rw [if_pos rfl]
  split
  · refine kept_fin (by simp [c]) f u v a op W ha hg (fun k hk => ?_) (fun _ => ?_) (fun h => by omega) ?_
    · rw [rg_set _ _ _ _ (by simp [c]), if_neg (by omega), rg_c21 hs, if_neg (by omega)]
    · rw [fl_set _ _ _ _ (by simp [c]) (by omega), fl_set _ _ _ _ (by simp [c]) (by omega)]; exact ⟨fl_c21 hs 19 (by omega), fl_c21 hs 20 (by omega)⟩
    · rw [rg_set _ _ _ _ (by simp [c]), if_neg (by omega), rg_c21 hs, if_pos rfl]
  split
  · refine kept_fin (by simp [c]) f u v a op W ha hg (fun k hk => ?_) (fun _ => ?_) (fun h => by omega) ?_
    · rw [rg_set _ _ _ _ (by simp [c]), if_neg (by omega), rg_c21 hs, if_neg (by omega)]
    · rw [fl_set _ _ _ _ (by simp [c]) (by omega), fl_set _ _ _ _ (by simp [c]) (by omega)]; exact ⟨fl_c21 hs 19 (by omega), fl_c21 hs 20 (by omega)⟩
    · rw [rg_set _ _ _ _ (by simp [c]), if_neg (by omega), rg_c21 hs, if_pos rfl]
  · refine kept_fin c f u v a op W ha hg (fun k hk => ?_) (fun _ => ⟨fl_c21 hs 19 (by omega), fl_c21 hs 20 (by omega)⟩) (fun _ => ?_) ?_
    · rw [rg_c21 hs, if_neg (by omega)]
    · rw [rg_c21 hs, if_neg (by omega)]
    · rw [rg_c21 hs, if_pos rfl]
theorem kept_go {cs : Array Value} (hs : cs.size = 22) (u v : Bool) (a op : Int) (c : Nat) (n : Int) (d : Nat) : Kept cs (exGo cs u v d c n) 3 u v a op := by
  have c' := c21_size hs
  unfold exGo
  split
  · cases v
    · refine ⟨fun k hk _ => ?_, fun _ => ?_, fun _ => ?_, fun _ => ?_, fun h => absurd rfl h, fun h => by simp at h⟩
      · rw [if_neg (by simp), rg_set _ _ _ _ (by omega), if_neg (by omega), rg_c21 hs, if_neg (by omega)]
      · rw [if_neg (by simp), fl_set _ _ _ _ (by omega) (by omega), fl_set _ _ _ _ (by omega) (by omega)]; exact ⟨fl_c21 hs 19 (by omega), fl_c21 hs 20 (by omega)⟩
      · rw [if_neg (by simp), rg_set _ _ _ _ (by omega), if_neg (by omega), rg_c21 hs, if_neg (by omega)]
      · rw [if_neg (by simp), fl_set _ _ _ _ (by omega) (by omega), fl_set _ _ _ _ (by omega) (by omega)]; exact ⟨fl_c21 hs 17 (by omega), fl_c21 hs 18 (by omega)⟩
    · refine ⟨fun k hk hk2 => ?_, fun _ => ?_, fun _ => ?_, fun h => ?_, fun h => absurd rfl h, fun h => by simp at h⟩
      · have : k ≠ 15 := by intro e; subst e; exact hk2 rfl
        rw [if_pos rfl, rg_set _ _ _ _ (by simp [c']), if_neg (by omega), rg_set _ _ _ _ (by omega), if_neg (by omega), rg_c21 hs, if_neg (by omega)]
      · rw [if_pos rfl, fl_set _ _ _ _ (by simp [c']) (by omega), fl_set _ _ _ _ (by simp [c']) (by omega), fl_set _ _ _ _ (by simp [c']) (by omega), fl_set _ _ _ _ (by simp [c']) (by omega)]; exact ⟨fl_c21 hs 19 (by omega), fl_c21 hs 20 (by omega)⟩
      · rw [if_pos rfl, rg_set _ _ _ _ (by simp [c']), if_neg (by omega), rg_set _ _ _ _ (by omega), if_neg (by omega), rg_c21 hs, if_neg (by omega)]
      · simp [getsV] at h
  · exact kept_c21 hs 3 u v a op (.inl rfl)
/-- What an instruction that is one, and does not trap, keeps. -/
theorem exV_kept {cs : Array Value} (h : CpuOk cs) (f : Int) (u v : Bool) (a b op c n l : Int) (hr : rightB f u v a b op c n = true) (ht : (exV cs f u v a b op c n l).2.2 = false) :
    Kept cs (exV cs f u v a b op c n l).1 f u v a op ∧ (exV cs f u v a b op c n l).2.1 = 0 := by
  obtain ⟨ha, hb, hc, ho, hf⟩ := right_inv hr
  have hs := h.size
  unfold exV at ht ⊢
  rw [if_neg (by rw [hr]; simp)] at ht ⊢
  by_cases f2 : f = 2
  · rw [if_pos f2]
    cases u
    · refine ⟨kept_fin (c21_size hs) f false v a op _ (by omega) (by unfold getsV; rw [if_neg (by omega), if_neg (by simp)]) (fun k hk => ?_) (fun _ => ⟨fl_c21 hs 19 (by omega), fl_c21 hs 20 (by omega)⟩) (fun _ => ?_) ?_, rfl⟩
      · rw [rg_c21 hs, if_neg (by omega)]
      · rw [rg_c21 hs, if_neg (by omega)]
      · rw [rg_c21 hs, if_pos rfl]
    · exact ⟨kept_c21 hs f true v a op (.inr ⟨f2, rfl⟩), rfl⟩
  · rw [if_neg f2] at ht ⊢
    by_cases f3 : f = 3
    · subst f3
      rw [if_pos rfl]
      exact ⟨kept_go hs u v a op _ n _, rfl⟩
    · rw [if_neg f3] at ht ⊢
      unfold exAlu at ht ⊢
      by_cases h15 : op = 15
      · rw [if_pos h15] at ht; simp at ht
      · rw [if_neg h15] at ht ⊢
        by_cases h11 : op = 11 ∧ divOk (opX cs f v c.toNat n) = false
        · rw [if_pos h11] at ht; simp at ht
        · rw [if_neg h11]
          exact ⟨kept_alu hs f u v a op _ _ _ (by omega) (by omega), rfl⟩
theorem exV_still {cs : Array Value} (f : Int) (u v : Bool) (a b op c n l : Int) (ht : rightB f u v a b op c n = false ∨ (exV cs f u v a b op c n l).2.2 = true) :
    (exV cs f u v a b op c n l).1 = cs ∧ (rightB f u v a b op c n = false → (exV cs f u v a b op c n l).2.1 = 0 ∧ (exV cs f u v a b op c n l).2.2 = false) := by
  unfold exV at ht ⊢
  by_cases hr : rightB f u v a b op c n = false
  · rw [if_pos hr]; exact ⟨rfl, fun _ => ⟨rfl, rfl⟩⟩
  · rw [if_neg hr] at ht ⊢
    refine ⟨?_, fun h => absurd h hr⟩
    rcases ht with ht | ht
    · exact absurd ht hr
    · split at ht
      · simp at ht
      · rename_i f2
        rw [if_neg f2]
        split at ht
        · simp at ht
        · rename_i f3
          rw [if_neg f3]
          unfold exAlu at ht ⊢
          split at ht
          · rename_i h; rw [if_pos h]
          · rename_i h1
            rw [if_neg h1]
            split at ht
            · rename_i h; rw [if_pos h]
            · simp at ht
end Go.Proofs.YtnghhkageiceaaaDoor
