/- Symbols: what they say; what may be shown. No memory in sight. -/
import Derived.WalkKit
import Derived.Test.YtgemnmceflcpcaaProg
import Derived.WalkSpells
import Derived.Lib.Hide
import Derived.ProofKit
import Derived.Handy
namespace Go.Proofs.Ytgemnmceflcpcaa.Sy
set_option linter.unusedVariables false
structure Cst where
  name : ByteArray
  type : Int
  n : Int
  s : ByteArray
  shown : Bool
structure Vr where
  name : ByteArray
  form : Int
  len : Int
  opn : Bool
  ref : Bool
structure Pr where
  name : ByteArray
  params : List Vr
  result : Int
structure Sm where
  name : ByteArray
  consts : List Cst
  vars : List Vr
  procs : List Pr
def chr (s : ByteArray) (i : Nat) : Int := if h : i < s.size then (s[i].toNat : Int) else 0
def letN (c : Int) : Prop := (97 ≤ c ∧ c ≤ 122) ∨ (65 ≤ c ∧ c ≤ 90)
def okAt (s : ByteArray) (i : Nat) : Prop := letN (chr s i) ∨ (i ≠ 0 ∧ 48 ≤ chr s i ∧ chr s i ≤ 57)
/-- Is a text a name? -/
def isNm (s : ByteArray) : Prop := s.size ≠ 0 ∧ s.size ≤ 20 ∧ ∀ i, i < s.size → okAt s i
def plainF (f : Int) : Prop := 1 ≤ f ∧ f ≤ 5
def cstOk (c : Cst) : Prop := c.shown = true ∧
  ((c.type = 1 ∧ c.s = ⟨#[]⟩ ∧ -2147483648 ≤ c.n ∧ c.n ≤ 2147483647) ∨ (c.type = 2 ∧ c.s = ⟨#[]⟩ ∧ 0 ≤ c.n ∧ c.n ≤ 1) ∨ (c.type = 3 ∧ c.s = ⟨#[]⟩ ∧ 0 ≤ c.n ∧ c.n ≤ 255) ∨ (c.type = 5 ∧ c.s = ⟨#[]⟩ ∧ 0 ≤ c.n ∧ c.n ≤ 4294967295) ∨ (c.type = 7 ∧ c.n = 0 ∧ c.s.size ≤ 200))
def szF (f : Int) : Int := if f = 1 ∨ f = 5 then 4 else 1
def vrOk (v : Vr) : Prop := plainF v.form ∧ 0 ≤ v.len ∧ v.len * szF v.form ≤ 16384 ∧ v.opn = false ∧ v.ref = false
def prOk (p : Pr) : Prop := (∀ x ∈ p.params, plainF x.form ∧ x.name = ⟨#[]⟩ ∧ x.len = 0) ∧ p.params.length ≤ 8 ∧ (p.result = 0 ∨ plainF p.result)
/-- The names that symbols have, in their order. -/
def namesOf (s : Sm) : List ByteArray := s.consts.map Cst.name ++ s.vars.map Vr.name ++ s.procs.map Pr.name
/-- Is it what some module may show? -/
def smOk (s : Sm) : Prop := isNm s.name ∧ s.consts.length ≤ 200 ∧ s.vars.length ≤ 200 ∧ s.procs.length ≤ 100 ∧ (∀ n ∈ namesOf s, isNm n) ∧ (namesOf s).Nodup ∧ (∀ c ∈ s.consts, cstOk c) ∧ (∀ v ∈ s.vars, vrOk v) ∧ (∀ p ∈ s.procs, prOk p)
end Go.Proofs.Ytgemnmceflcpcaa.Sy
namespace Go.Proofs.Ytgemnmceflcpcaa
open Go Go.RowKit Go.Lib Go.Proofs.Ytgemnmceflcpcaa.Sy
set_option linter.unusedVariables false
set_option linter.unusedSimpArgs false
structure IsB (c : Bool) (p : Prop) : Prop where
  iff : c = true ↔ p
theorem boolOf (p : Prop) : ∃ c : Bool, IsB c p := by
  by_cases h : p
  · exact ⟨true, ⟨fun _ => h, fun _ => rfl⟩⟩
  · exact ⟨false, ⟨(fun g => by cases g), fun g => absurd g h⟩⟩
theorem IsB.no {c : Bool} {p : Prop} (h : IsB c p) (g : ¬ p) : c = false := by
  cases c with
  | false => rfl
  | true => exact absurd (h.iff.1 rfl) g
theorem IsB.yes {c : Bool} {p : Prop} (h : IsB c p) (g : p) : c = true := h.iff.2 g
theorem ret_bool {a b : Bool} (h : a = b) : Ending.returned (.bool a) = .returned (.bool b) := by rw [h]
theorem or32_all : ((List.range 256).all fun n => decide (97 ≤ bits .or .u8 ((n : Nat) : Int) 32 ∧ bits .or .u8 ((n : Nat) : Int) 32 ≤ 122) == decide ((97 ≤ ((n : Nat) : Int) ∧ ((n : Nat) : Int) ≤ 122) ∨ (65 ≤ ((n : Nat) : Int) ∧ ((n : Nat) : Int) ≤ 90))) = true := by kernel_rfl
theorem or32 (n : Nat) (hn : n < 256) : (97 ≤ bits .or .u8 (n : Int) 32 ∧ bits .or .u8 (n : Int) 32 ≤ 122) ↔ letN (n : Int) := by
  have := List.all_eq_true.1 or32_all n (List.mem_range.2 hn)
  simp only [beq_iff_eq, decide_eq_decide] at this
  unfold letN; exact this
theorem chr_at {s : ByteArray} {k : Nat} (h : k < s.size) : chr s k = (s[k].toNat : Int) := by unfold chr; rw [dif_pos h]
theorem ok_snoc {s : ByteArray} {k : Nat} (h : ∀ j, j < k → okAt s j) (hk : okAt s k) : ∀ j, j < k + 1 → okAt s j := fun j hj => by
  by_cases e : j = k
  · subst e; exact hk
  · exact h j (by omega)
section
variable {w : World}
theorem plain_any (f : Int) {c : Bool} (hc : IsB c (plainF f)) : Calls Try.prog 56 #[.int .i64 f] w fun e w' => e = .returned (.bool c) ∧ w = w' := by
  have HC := Lib.hid hc
  clear hc
  by_cases h1 : 1 ≤ f
  · by_cases h2 : f ≤ 5
    · obtain rfl := HC.out.yes ⟨h1, h2⟩
      go_enter Try.func56, Try.ntmps56
      go_wp2_with fail
      go_ret
      exact ⟨rfl, rfl⟩
    · obtain rfl := HC.out.no (fun h => h2 h.2)
      have h3 : 5 < f := by omega
      go_enter Try.func56, Try.ntmps56
      go_wp2_with fail
      go_ret
      exact ⟨rfl, rfl⟩
  · obtain rfl := HC.out.no (fun h => h1 h.1)
    have h3 : f < 1 := by omega
    go_enter Try.func56, Try.ntmps56
    go_wp2_with fail
    go_ret
    exact ⟨rfl, rfl⟩
set_option maxHeartbeats 4000000 in
theorem isname_any (s : ByteArray) (hs : s.size ≤ maxLen) {c : Bool} (hc : IsB c (isNm s)) : Calls Try.prog 21 #[.string s] w fun e w' => e = .returned (.bool c) ∧ w = w' := by
  have HC := Lib.hid hc
  unfold maxLen at hs
  clear hc
  go_enter Try.func21, Try.ntmps21
  go_wp2_with fail
  go_loop [3, 4, 5, 8] (fun _ _ _ i => ∃ k : Nat, k ≤ s.size ∧ i = .int .i64 k ∧ Hid (∀ j, j < k → okAt s j)) (fun _ _ _ i => s.size - (intOf i).toNat)
  case atStart => exact ⟨0, Nat.zero_le _, rfl, Lib.hid (fun j hj => absurd hj (by omega))⟩
  case round =>
    obtain ⟨k, hk, rfl, HN⟩ := hrel
    by_cases hlt : k < s.size
    · have hor := or32 s[k].toNat s[k].toNat_lt
      rw [← chr_at hlt] at hor
      rw [chr_at hlt] at hor
      by_cases a1 : 97 ≤ bits .or .u8 (s[k].toNat : Int) 32
      · by_cases a2 : bits .or .u8 (s[k].toNat : Int) 32 ≤ 122
        · have hok : okAt s k := .inl (by rw [chr_at hlt]; exact hor.1 ⟨a1, a2⟩)
          clear hor
          have HI := Lib.hid (ok_snoc HN.out hok)
          clear hok
          go_wp2_with fail
          go_round
          case rel => exact ⟨k + 1, by omega, by go_num, HI⟩
          case measure => simp [intOf]; omega
        · have hnl : ¬ letN (chr s k) := by rw [chr_at hlt]; exact fun h => a2 (hor.2 h).2
          have a3 : decide (bits .or .u8 (s[k].toNat : Int) 32 ≤ 122) = false := by simpa using a2
          clear hor a2
          by_cases e0 : k = 0
          · subst e0
            have hno : ¬ okAt s 0 := fun h => by
              rcases h with h | h
              · exact hnl h
              · exact h.1 rfl
            clear hnl
            obtain rfl := HC.out.no (fun h => hno (h.2.2 0 hlt))
            clear hno
            go_wp2_with fail
            go_ret
            exact ⟨rfl, rfl⟩
          have e1 : ((k : Int) == 0) = false := by simp; omega
          by_cases d1 : (s[k].toNat : Int) < 48
          · have hno : ¬ okAt s k := fun h => by
              rcases h with h | h
              · exact hnl h
              · rw [chr_at hlt] at h; omega
            clear hnl
            obtain rfl := HC.out.no (fun h => hno (h.2.2 k hlt))
            clear hno
            go_wp2_with fail
            go_ret
            exact ⟨rfl, rfl⟩
          by_cases d2 : 57 < (s[k].toNat : Int)
          · have hno : ¬ okAt s k := fun h => by
              rcases h with h | h
              · exact hnl h
              · rw [chr_at hlt] at h; omega
            clear hnl
            obtain rfl := HC.out.no (fun h => hno (h.2.2 k hlt))
            clear hno
            go_wp2_with fail
            go_ret
            exact ⟨rfl, rfl⟩
          have hok : okAt s k := .inr ⟨e0, by rw [chr_at hlt]; omega, by rw [chr_at hlt]; omega⟩
          clear hnl
          have HI := Lib.hid (ok_snoc HN.out hok)
          clear hok
          go_wp2_with fail
          go_round
          case rel => exact ⟨k + 1, by omega, by go_num, HI⟩
          case measure => simp [intOf]; omega
      · have hnl : ¬ letN (chr s k) := by rw [chr_at hlt]; exact fun h => a1 (hor.2 h).1
        have a3 : bits .or .u8 (s[k].toNat : Int) 32 < 97 := by omega
        clear hor a1
        by_cases e0 : k = 0
        · subst e0
          have hno : ¬ okAt s 0 := fun h => by
            rcases h with h | h
            · exact hnl h
            · exact h.1 rfl
          clear hnl
          obtain rfl := HC.out.no (fun h => hno (h.2.2 0 hlt))
          clear hno
          go_wp2_with fail
          go_ret
          exact ⟨rfl, rfl⟩
        have e1 : ((k : Int) == 0) = false := by simp; omega
        by_cases d1 : (s[k].toNat : Int) < 48
        · have hno : ¬ okAt s k := fun h => by
            rcases h with h | h
            · exact hnl h
            · rw [chr_at hlt] at h; omega
          clear hnl
          obtain rfl := HC.out.no (fun h => hno (h.2.2 k hlt))
          clear hno
          go_wp2_with fail
          go_ret
          exact ⟨rfl, rfl⟩
        by_cases d2 : 57 < (s[k].toNat : Int)
        · have hno : ¬ okAt s k := fun h => by
            rcases h with h | h
            · exact hnl h
            · rw [chr_at hlt] at h; omega
          clear hnl
          obtain rfl := HC.out.no (fun h => hno (h.2.2 k hlt))
          clear hno
          go_wp2_with fail
          go_ret
          exact ⟨rfl, rfl⟩
        have hok : okAt s k := .inr ⟨e0, by rw [chr_at hlt]; omega, by rw [chr_at hlt]; omega⟩
        clear hnl
        have HI := Lib.hid (ok_snoc HN.out hok)
        clear hok
        go_wp2_with fail
        go_round
        case rel => exact ⟨k + 1, by omega, by go_num, HI⟩
        case measure => simp [intOf]; omega
    · obtain rfl : k = s.size := by omega
      by_cases z : s.size = 0
      · obtain rfl := HC.out.no (fun h => h.1 z)
        have z1 : s.toList = [] := by rw [ByteArray.toList_eq]; exact List.length_eq_zero_iff.1 (by simpa using z)
        have z2 : (!s.toList.isEmpty) = false := by rw [z1]; rfl
        go_wp2_with fail
        go_ret
        exact ⟨rfl, rfl⟩
      · have z1 : s.toList.isEmpty = false := by
          rw [ByteArray.toList_eq]
          cases h : s.data.toList with
          | nil => exact absurd (by simpa using congrArg List.length h) z
          | cons a b => rfl
        by_cases y : s.size ≤ 20
        · obtain rfl := HC.out.yes ⟨z, y, HN.out⟩
          have y1 : (s.size : Int) ≤ 20 := by omega
          go_wp2_with fail
          go_ret
          exact ⟨rfl, rfl⟩
        · obtain rfl := HC.out.no (fun h => y h.2.1)
          have y1 : 20 < (s.size : Int) := by omega
          go_wp2_with fail
          go_ret
          exact ⟨ret_bool (decide_eq_false (by omega)), rfl⟩
end
end Go.Proofs.Ytgemnmceflcpcaa
