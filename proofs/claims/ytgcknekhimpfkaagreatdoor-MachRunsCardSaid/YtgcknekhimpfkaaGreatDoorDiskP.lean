/- The document's disk: at, Read. -/
import Derived.Test.YtgcknekhimpfkaaGreatDoorQR
namespace Go.Proofs.YtgcknekhimpfkaaGreatDoor
open Go Go.RowKit Go.Lib
set_option linter.unusedVariables false
set_option linter.unusedSimpArgs false
/-- The sectors behind some writes. -/
def secOf (sec0 : Nat → ByteArray) (h : List (Nat × ByteArray)) : Nat → ByteArray := h.foldl (fun s p => upd s p.1 p.2) sec0
theorem secOf_snoc (sec0 : Nat → ByteArray) (h : List (Nat × ByteArray)) (p : Nat × ByteArray) : secOf sec0 (h ++ [p]) = upd (secOf sec0 h) p.1 p.2 := by simp [secOf]
theorem secOf_take (sec0 : Nat → ByteArray) (h : List (Nat × ByteArray)) (j : Nat) (p : Nat × ByteArray) (hp : h[j]? = some p) (n : Nat) : secOf sec0 (h.take (j + 1)) n = if n = p.1 then p.2 else secOf sec0 (h.take j) n := by
 rw [List.take_add_one, hp]
 show secOf sec0 (h.take j ++ [p]) n = _
 rw [secOf_snoc]; rfl
theorem rcells_get (l : List (Nat × ByteArray)) (k : Nat) (p : Nat × ByteArray) (hp : l[k]? = some p) : (rcells l)[k * 2]? = some (.int .i64 p.1) ∧ (rcells l)[k * 2 + 1]? = some (.string p.2) := by
 induction l generalizing k with
 | nil => simp at hp
 | cons q l ih =>
  obtain ⟨n, c⟩ := q
  rw [rcells]
  cases k with
  | zero =>
   simp only [List.getElem?_cons_zero, Option.some.injEq] at hp
   subst hp
   exact ⟨rfl, rfl⟩
  | succ k =>
   have := ih k (by simpa using hp)
   rw [show (k + 1) * 2 = k * 2 + 2 from by omega, show k * 2 + 2 + 1 = (k * 2 + 1) + 2 from by omega]
   exact this
theorem own_cell {w : World} {base : Nat} {e : TypeId} {size : Nat} {v : Value} {n : Nat} {xs : List Value} (h : w.ownsRow base e size v n xs) (j : Nat) (u : Value) (hj : xs[j]? = some u) : ∃ g c, v = .slice (some ⟨g, 0, none⟩) n c ∧ w.cell? ⟨g, j, none⟩ = some u := by
 rcases h with ⟨h0, ⟨rfl, h1⟩ | ⟨g, cap, cur, rfl, h1, h2, h3, h4, h5, h6⟩⟩
 ·have : xs = [] := List.length_eq_zero_iff.1 (by rw [h0, h1, Nat.zero_mul])
  rw [this] at hj; simp at hj
 ·refine ⟨g, cap, rfl, ?_⟩
  rw [cell_of_row w g j cur e (0, 0) h2]
  rw [← h6, List.getElem?_take] at hj
  split at hj
  ·simpa using hj
  ·cases hj
section
variable {w : World} {base r : Nat} {vf vw : Value} {N : Nat} {sec0 : Nat → ByteArray} {hist : List (Nat × ByteArray)}
theorem RefAt.wform (R : RefAt w base r vf vw N sec0 hist) : ∃ q c, vw = .slice q hist.length c ∧ ∀ k p, hist[k]? = some p → ∃ g, q = some ⟨g, 0, none⟩ ∧ w.cell? ⟨g, k * 2, none⟩ = some (.int .i64 p.1) ∧ w.cell? ⟨g, k * 2 + 1, none⟩ = some (.string p.2) := by
 have h := R.writes
 have hq : ∃ q c, vw = .slice q hist.length c := by
  rcases h.2 with ⟨h1, h2⟩ | ⟨g, cap, cur, h1, h2⟩
  ·exact ⟨none, 0, by rw [h1, h2]⟩
  ·exact ⟨_, _, h1⟩
 obtain ⟨q, c, rfl⟩ := hq
 refine ⟨q, c, rfl, fun k p hp => ?_⟩
 obtain ⟨h1, h2⟩ := rcells_get hist k p hp
 obtain ⟨g, c', e1, k1⟩ := own_cell h _ _ h1
 obtain ⟨g', c'', e2, k2⟩ := own_cell h _ _ h2
 simp only [Value.slice.injEq, true_and] at e1 e2
 obtain ⟨rfl, rfl⟩ := e1
 simp only [Option.some.injEq, Addr.mk.injEq, and_true] at e2
 obtain ⟨rfl, rfl⟩ := e2
 exact ⟨g, rfl, k1, k2⟩
theorem RefAt.fcell (R : RefAt w base r vf vw N sec0 hist) (n : Nat) (hn : n < N) : ∃ g c, vf = .slice (some ⟨g, 0, none⟩) N c ∧ w.cell? ⟨g, n, none⟩ = some (.string (sec0 n)) :=
 own_cell R.first n _ (by rw [List.getElem?_map, List.getElem?_range hn]; rfl)
theorem at_any (R : RefAt w base r vf vw N sec0 hist) (n : Nat) (hn : n < N) (k : Nat) (hk : k ≤ hist.length) (hbig : hist.length ≤ 4096) (hN : N ≤ 1024) :
 Calls Tryz.prog 47 #[.pointer (some ⟨r, 0, none⟩), .int .i64 (n : Int), .int .i64 (k : Int)] w fun e w' => e = .returned (.string (secOf sec0 (hist.take k) n)) ∧ w = w' := by
 have c0 := R.c0
 have c1 := R.c1
 obtain ⟨q, c, rfl, hv⟩ := R.wform
 obtain ⟨gf, cf, rfl, hf⟩ := R.fcell n hn
 have HV := hid hv
 clear hv
 have hkw : IntKind.i64.wrap ((k : Int) - 1) = (k : Int) - 1 := IntWalk.i64_in _ (by omega)
 have HBIG := hid hbig
 have HK := hid hk
 have HN := hid hN
 have hn' : (n : Int) < (N : Int) := by omega
 have hn0 : (0 : Int) ≤ (n : Int) := by omega
 clear hbig hk hN
 go_enter Tryz.func47, Tryz.ntmps47
 go_wp2_with fail
 go_loop [7] (fun i => ∃ j : Nat, i = .int .i64 ((j : Int) - 1) ∧ Hid (j ≤ k ∧ secOf sec0 (hist.take k) n = secOf sec0 (hist.take j) n)) (fun i => (intOf i + 1).toNat)
 case atStart => exact ⟨k, rfl, Nat.le_refl _, rfl⟩
 case round =>
  obtain ⟨j, rfl, HX⟩ := hrel
  obtain ⟨hj, he⟩ := HX.out
  by_cases hlt : 0 < j
  ·obtain ⟨i, rfl⟩ : ∃ i, j = i + 1 := ⟨j - 1, by omega⟩
   have hin : i < hist.length := by have := HK.out; omega
   obtain ⟨p, hp⟩ : ∃ p, hist[i]? = some p := ⟨hist[i], List.getElem?_eq_getElem hin⟩
   obtain ⟨g, rfl, k1, k2⟩ := HV.out i p hp
   have hi1 : ((i + 1 : Nat) : Int) - 1 = (i : Int) := by omega
   have hi0 : (0 : Int) ≤ (i : Int) := by omega
   have hi2 : (i : Int) < (hist.length : Int) := by omega
   have hiw : IntKind.i64.wrap ((i : Int) - 1) = (i : Int) - 1 := IntWalk.i64_in _ (by have := HK.out; have := HBIG.out; omega)
   have hst := secOf_take sec0 hist i p hp n
   have HS := hid hst
   have HE := hid he
   have HJ := hid hj
   clear hst he hj HX hin hlt hp
   rw [hi1]
   by_cases hpn : p.1 = n
   ·subst hpn
    go_wp2_with fail
    go_ret
    have e : secOf sec0 (hist.take k) p.1 = p.2 := by rw [HE.out, HS.out]; simp
    exact ⟨by rw [e]; rfl, rfl⟩
   ·have hpn' : ((p.1 : Int) == (n : Int)) = false := by simpa using fun e => hpn (by omega)
    go_wp2_with fail
    go_round
    case rel => exact ⟨i, rfl, by have := HJ.out; omega, by rw [HE.out, HS.out, if_neg (fun e => hpn e.symm)]⟩
    case measure => simp [intOf]
  ·obtain rfl : j = 0 := by omega
   go_wp2_with fail
   go_ret
   exact ⟨rfl, rfl⟩
theorem rread_yes (R : RefAt w base r vf vw N sec0 hist) (n : Nat) (hn : n < N) (hbig : hist.length ≤ 4096) (hN : N ≤ 1024) :
 Calls Tryz.prog 111 #[.pointer (some ⟨r, 0, none⟩), .int .i64 (n : Int)] w fun e w' => e = .returned (.tuple #[.string (secOf sec0 hist n), .int .i64 0]) ∧ w = w' := by
 have hat := at_any R n hn hist.length (Nat.le_refl _) hbig hN
 rw [List.take_length] at hat
 have HAT := hid hat
 have c0 := R.c0
 have c1 := R.c1
 obtain ⟨q, c, rfl⟩ := R.fform
 obtain ⟨q', c', rfl, _⟩ := R.wform
 have hn' : (n : Int) < (N : Int) := by omega
 have hn0 : (0 : Int) ≤ (n : Int) := by omega
 clear hat hbig
 go_enter Tryz.func111, Tryz.ntmps111
 go_wp2_with (first | (go_at_call 47; go_must (refine HAT.out.mono ?_); rintro e w' ⟨rfl, rfl⟩))
 go_ret2
 exact ⟨rfl, rfl⟩
end
end Go.Proofs.YtgcknekhimpfkaaGreatDoor
