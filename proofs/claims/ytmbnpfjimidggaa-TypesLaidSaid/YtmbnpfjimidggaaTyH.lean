/- Two types held against each other; what a type is made of. -/
import Derived.Test.YtmbnpfjimidggaaTyG
namespace Go.Proofs.Ytmbnpfjimidggaa
open Go Go.RowKit Go.Lib Go.Proofs.Ytmbnpfjimidggaa.Ty
set_option linter.unusedVariables false
set_option linter.unusedSimpArgs false
attribute [local go_sem ↓] exec_load_type exec_store_type exec_load_field exec_store_field
attribute [local go_sem] tcells fcells
theorem no_of {P : Prop} {c : Bool} (h : ¬ P) (g : c = true → P) : c = false := by
  cases c with
  | false => rfl
  | true => exact absurd (g rfl) h
section
variable {w : World} {A : Option Addr} {cap : Nat} {L : List Typ}
set_option maxHeartbeats 4000000 in
theorem same_any (a b : Typ) {fa fb : Value} (hF : FldsAt w fa a.fields) (hG : FldsAt w fb b.fields) {c : Bool} (hc : c = true ↔ a = b) :
    Calls Try.prog 25 #[.agg (tcells a fa), .agg (tcells b fb)] w fun e w' => e = .returned (.bool c) ∧ Below w.heap.size w w' := by
  obtain ⟨f1, l1, e1, b1, F, s1, v1⟩ := a
  obtain ⟨f2, l2, e2, b2, G, s2, v2⟩ := b
  simp only [Typ.mk.injEq] at hc hF hG
  have hb0 := ((Below.refl w.heap.size w).alloc (Nat.le_refl _) (.cells #[.int .i64 f1, .int .i64 l1, .int .i64 e1, .int .i64 b1, fa, .int .i64 s1, .int .i64 v1] 27)).alloc (by simp) (.cells #[.int .i64 f2, .int .i64 l2, .int .i64 e2, .int .i64 b2, fb, .int .i64 s2, .int .i64 v2] 27)
  have HB0 := Lib.hid hb0
  have HF := Lib.hid hF
  have HG := Lib.hid hG
  have HC := Lib.hid hc
  clear hF hG hc hb0
  dsimp only [tcells]
  by_cases h0 : f1 = f2
  case neg =>
    have hq : (f1 == f2) = false := by simpa using h0
    obtain rfl := no_of h0 (fun g => by have x := HC.out.1 g; exact x.1)
    clear h0
    go_enter Try.func25, Try.ntmps25
    go_wp2_with fail
    go_ret
    exact ⟨rfl, HB0.out⟩
  subst h0
  by_cases h1 : l1 = l2
  case neg =>
    have hq : (l1 == l2) = false := by simpa using h1
    obtain rfl := no_of h1 (fun g => by have x := HC.out.1 g; exact x.2.1)
    clear h1
    go_enter Try.func25, Try.ntmps25
    go_wp2_with fail
    go_ret
    exact ⟨rfl, HB0.out⟩
  subst h1
  by_cases h2 : e1 = e2
  case neg =>
    have hq : (e1 == e2) = false := by simpa using h2
    obtain rfl := no_of h2 (fun g => by have x := HC.out.1 g; exact x.2.2.1)
    clear h2
    go_enter Try.func25, Try.ntmps25
    go_wp2_with fail
    go_ret
    exact ⟨rfl, HB0.out⟩
  subst h2
  by_cases h3 : b1 = b2
  case neg =>
    have hq : (b1 == b2) = false := by simpa using h3
    obtain rfl := no_of h3 (fun g => by have x := HC.out.1 g; exact x.2.2.2.1)
    clear h3
    go_enter Try.func25, Try.ntmps25
    go_wp2_with fail
    go_ret
    exact ⟨rfl, HB0.out⟩
  subst h3
  by_cases h4 : s1 = s2
  case neg =>
    have hq : (s1 == s2) = false := by simpa using h4
    obtain rfl := no_of h4 (fun g => by have x := HC.out.1 g; exact x.2.2.2.2.2.1)
    clear h4
    go_enter Try.func25, Try.ntmps25
    go_wp2_with fail
    go_ret
    exact ⟨rfl, HB0.out⟩
  subst h4
  by_cases h5 : v1 = v2
  case neg =>
    have hq : (v1 == v2) = false := by simpa using h5
    obtain rfl := no_of h5 (fun g => by have x := HC.out.1 g; exact x.2.2.2.2.2.2)
    clear h5
    go_enter Try.func25, Try.ntmps25
    go_wp2_with fail
    go_ret
    exact ⟨rfl, HB0.out⟩
  subst h5
  have hcF : c = true ↔ F = G := by
    rw [HC.out]
    constructor
    · intro h; exact h.2.2.2.2.1
    · intro h; exact ⟨rfl, rfl, rfl, rfl, h, rfl, rfl⟩
  have HCF := Lib.hid hcF
  clear hcF
  go_enter Try.func25, Try.ntmps25
  go_wp2_with (go_at_call 30; refine (equal_any (HF.out.below HB0.out) (HG.out.below HB0.out) HCF.out).mono ?_; rintro e w1 ⟨rfl, hb1⟩)
  go_ret
  exact ⟨rfl, HB0.out.trans (hb1.mono HB0.out.size)⟩
end
end Go.Proofs.Ytmbnpfjimidggaa
