/- A command of the disk, by a statement's own words. -/
import Derived.Test.YtmamocdkmmkkjaaBusN
import Derived.Test.YtmamocdkmmkkjaaDiskK
import Derived.Deep.CutRange
namespace Go.Proofs.Ytmamocdkmmkkjaa
open Go Go.RowKit Go.Lib Go.Proofs.Ytmamocdkmmkkjaa.Pl
set_option linter.unusedVariables false
set_option linter.unusedSimpArgs false
section
variable {w0 w w1 : World} {b d : Nat} {x : BS} {keep : List Nat}
theorem act_se (x : BS) (s : Int) : x.act 3 4294967244 s = (0, 0, { x with se := s }) := rfl
theorem act_ad (x : BS) (s : Int) : x.act 3 4294967248 s = (0, 0, { x with ad := s }) := rfl
theorem act_cmd (x : BS) (s : Int) : x.act 3 4294967252 s = (0, 0, x.cmd s) := rfl
theorem act_fl (x : BS) (s : Int) : x.act 1 4294967252 s = (x.fl, 0, x) := rfl
theorem Law.command (L : Law w0 w b d x keep) (n s a : Int) (n0 : 0 ≤ n) (n1 : n < 4294967296) (s0 : 0 ≤ s) (s1 : s < 4294967296) (a0 : 0 ≤ a) (a1 : a < 4294967296) {y : BS} {f : Int} (hy : ({ x with se := s, ad := a } : BS).cmd n = y) (hf : y.fl = f) {r : Bool} (hr : (f == 0) = r) :
    Calls Try.prog 14 #[.pointer (some ⟨b, 0, none⟩), .int .u32 n, .int .u32 s, .int .u32 a] w fun e w' => e = .returned (.bool r) ∧ Law w0 w' b d y keep := by
  have L0 := Lib.hid L
  have HY := Lib.hid hy
  have hfl := act_fl y 0
  rw [hf] at hfl
  have HFL := Lib.hid hfl
  clear hy hf hfl
  go_enter Try.func14, Try.ntmps14
  go_upto_region 2 with (go_at_call 10; refine (L0.out.act (act_se x s) (by decide) (by decide) s0 s1).mono ?_; rintro e w1 ⟨rfl, l1, -⟩; have L1 := Lib.hid l1; clear l1)
  go_upto_region 3 with (go_at_call 10; refine (L1.out.act (act_ad _ a) (by decide) (by decide) a0 a1).mono ?_; rintro e w2 ⟨rfl, l2, -⟩; have L2 := Lib.hid l2; clear l2)
  go_upto_region 4 with (go_at_call 10; refine (L2.out.act (act_cmd _ n) (by decide) (by decide) n0 n1).mono ?_; rintro e w3 ⟨rfl, l3, -⟩; have l3' := l3; simp only [HY.out] at l3'; have L3 : Hid (Law w0 w3 b d y keep) := Lib.hid l3'; clear l3 l3')
  clear L1 L2 L0
  go_wp2_with (go_at_call 10; refine (L3.out.act HFL.out (by decide) (by decide) (by decide) (by decide)).mono ?_; rintro e w4 ⟨rfl, l4, -⟩)
  all_goals
    go_ret
    exact ⟨by simp [*], l4⟩
theorem Law.writes (L : Law w0 w b d x keep) {z : Nat} (hz : x.ws.length = z) :
    Calls Try.prog 15 #[.pointer (some ⟨d, 0, none⟩)] w fun e w' => ∃ a c, e = .returned (.slice a z c) ∧ Law w0 w' b d x keep ∧ Below w.heap.size w w' := by
  subst hz
  obtain ⟨v, base, hb, rfl, B, hr⟩ := L.bus
  refine (writes_any B.disk).mono ?_
  rintro e w' ⟨v', rfl, ho, hb'⟩
  rcases ho.2 with ⟨h1, h2⟩ | ⟨g, cap, cur, h1, _⟩
  · exact ⟨none, 0, by rw [h1, h2], L.step hb', hb'⟩
  · exact ⟨_, _, by rw [h1], L.step hb', hb'⟩
theorem Law.read (L : Law w0 w b d x keep) (n : Nat) (hn : n < x.N) :
    Calls Try.prog 16 #[.pointer (some ⟨d, 0, none⟩), .int .i64 (n : Int)] w fun e w' => ∃ g, e = .returned (.tuple #[.slice (some ⟨g, 0, none⟩) 1024 1024, .int .i64 0]) ∧ Law w0 w' b d x keep ∧ g < w'.heap.size ∧ w0.heap.size ≤ g ∧ ∀ i, i < 1024 → w'.cell? ⟨g, i, none⟩ = some (.int .u8 (byteAt (x.sec n) i)) := by
  obtain ⟨v, base, hb, rfl, B, hr⟩ := L.bus
  refine (read_yes B.disk n hn).mono ?_
  rintro e w' ⟨rfl, rfl⟩
  refine ⟨w.heap.size, rfl, L.step ((Below.refl _ _).alloc (Nat.le_refl _) _), by simp, L.below.size, fun i hi => ?_⟩
  have hs : (x.sec n).data.toList.length = 1024 := by rw [Array.length_toList]; exact B.disk.slen n hn
  have := read_range w (x.sec n) 83 i (.int .u8 (byteAt (x.sec n) i)) (by unfold byteAt strCells; rw [List.getElem?_map, List.getElem?_eq_getElem (by omega), List.getD_eq_getElem?_getD, List.getElem?_eq_getElem (by omega)]; rfl)
  rw [Nat.zero_add] at this
  exact this
end
end Go.Proofs.Ytmamocdkmmkkjaa
