/- The size of a plain form. -/
import Derived.Test.YtgemnmceflcpcaaSyF
namespace Go.Proofs.Ytgemnmceflcpcaa
open Go Go.RowKit Go.Lib Go.Proofs.Ytgemnmceflcpcaa.Sy
set_option linter.unusedVariables false
set_option linter.unusedSimpArgs false
/-- What the walk needs of the first types: their sizes. -/
def SizesAt (w : World) (v : Value) : Prop := ∃ b off cap, v = .slice (some ⟨b, off, none⟩) 8 cap ∧ 8 ≤ cap ∧ cap ≤ maxLen ∧ ∀ n : Nat, 1 ≤ n → n ≤ 5 → w.cell? ⟨b, off + n * 7 + 5, none⟩ = some (.int .i64 (szF n))
theorem sizes_of {w : World} {v : Value} (h : RowsAt w v 7 (bRows 8)) : SizesAt w v := by
  obtain ⟨A, cap, e, h1, h2, h4⟩ := h.form
  rcases h4 with h4 | ⟨b, off, rfl, hlt, hr⟩
  · exact absurd (congrArg List.length h4) (by rw [bRows_length]; decide)
  rw [bRows_length] at e h1
  refine ⟨b, off, cap, e, h1, h2, fun n hn1 hn5 => ?_⟩
  have hk : (bRows 8)[n]? = some (bRow n) := by
    unfold bRows
    rw [List.getElem?_map, List.getElem?_range (by omega)]; rfl
  have := hr n _ hk 5 (.int .i64 (basicSz.getD n 0)) rfl
  rw [this]
  have : n = 1 ∨ n = 2 ∨ n = 3 ∨ n = 4 ∨ n = 5 := by omega
  rcases this with rfl | rfl | rfl | rfl | rfl <;> rfl
section
variable {w : World}
set_option maxHeartbeats 4000000 in
theorem bytes_any (n : Nat) (h1 : 1 ≤ n) (h5 : n ≤ 5) : Calls Try.prog 72 #[.int .i64 n] w fun e w' => e = .returned (.int .i64 (szF n)) ∧ Below w.heap.size w w' := by
  have hn8 : (n : Int) < 8 := by omega
  go_enter Try.func72, Try.ntmps72
  go_wp2_with (go_at_call 91; refine basic_any.mono ?_; rintro e w1 ⟨v, rfl, HR, HB⟩; obtain ⟨b, off, cap, rfl, hc8, hcm, hz⟩ := sizes_of HR; have hz1 := hz n h1 h5; clear hz HR; have HB1 := Lib.hid HB; clear HB)
  go_ret
  exact ⟨rfl, HB1.out⟩
end
end Go.Proofs.Ytgemnmceflcpcaa
