/- A script, by both disks. -/
import Derived.Test.YtegiabnlmngkmaaDiskU
import Derived.Test.YtegiabnlmngkmaaGen
namespace Go.Proofs.Ytegiabnlmngkmaa
open Go Go.RowKit Go.Lib
set_option linter.unusedVariables false
set_option linter.unusedSimpArgs false
def sec00 : Nat → ByteArray := fun _ => nought
/-- Both disks behind the same writes. -/
structure Two (w : World) (base d s : Nat) (v : Value) (r : Nat) (vf vw : Value) (N : Nat) (hist : List (Nat × ByteArray)) : Prop where
  P : Pair w base d s v r vf vw N (secOf sec00 hist) (olds sec00 hist) sec00 hist
  sz : ∀ p ∈ hist, p.2.size = 1024
section
variable {w : World} {base d s : Nat} {v : Value} {r : Nat} {vf vw : Value} {N : Nat} {hist : List (Nat × ByteArray)}
theorem Two.few (T : Two w base d s v r vf vw N hist) : hist.length ≤ 4096 := by have := T.P.D.few; rw [olds_length] at this; exact this
theorem secOf_size (h : List (Nat × ByteArray)) (hs : ∀ p ∈ h, p.2.size = 1024) : ∀ (s0 : Nat → ByteArray), (∀ i, (s0 i).size = 1024) → ∀ i, (secOf s0 h i).size = 1024 := by
  induction h with
  | nil => intro s0 h0 i; exact h0 i
  | cons p h ih =>
    intro s0 h0 i
    show (secOf (upd s0 p.1 p.2) h i).size = 1024
    refine ih (fun q hq => hs q (List.mem_cons_of_mem _ hq)) _ (fun j => ?_) i
    unfold upd
    split
    · exact hs p (by simp)
    · exact h0 j
theorem Two.size (T : Two w base d s v r vf vw N hist) (k i : Nat) : (secOf sec00 (hist.take k) i).size = 1024 :=
  secOf_size _ (fun p hp => T.sz p (List.mem_of_mem_take hp)) _ (fun _ => nought_size) i
theorem Two.below (T : Two w base d s v r vf vw N hist) {w' : World} (b : Below w.heap.size w w') : Two w' base d s v r vf vw N hist := ⟨T.P.below b, T.sz⟩
theorem does_two (T : Two w base d s v r vf vw N hist) (kind n : Int) (hn0 : -9223372036854775808 ≤ n ∧ n ≤ 9223372036854775807) (fill mark : UInt8) (long : Int) :
    Calls Try.prog 16 #[.pointer (some ⟨d, 0, none⟩), .pointer (some ⟨r, 0, none⟩), .agg #[.int .i64 kind, .int .i64 n, .int .u8 fill.toNat, .int .u8 mark.toNat, .int .i64 long]] w fun e w' => e = .returned (.bool true) ∧ ∃ v' vw' hist', Two w' base d s v' r vf vw' N hist' ∧ Below base w w' := by
  have few := T.few
  have hol := olds_length sec00 hist
  by_cases hk : kind = 1
  · subst hk
    have hlk : stepLong long ≤ 2000 := by unfold stepLong; split <;> omega
    by_cases hin : 0 ≤ n ∧ n < N
    · obtain ⟨m, rfl⟩ := Int.eq_ofNat_of_zero_le hin.1
      by_cases hl : stepLong long = 1024
      · by_cases hf : hist.length < 4096
        · refine (does_w_yes T.P m (by omega) (by omega) hf long hl fill mark).mono ?_
          rintro e w' ⟨rfl, v', vw', P', hB⟩
          refine ⟨rfl, v', vw', hist ++ [(m, ofL (stepBytes fill mark long))], ⟨?_, ?_⟩, hB⟩
          · rw [secOf_snoc, olds_snoc]; exact P'
          · intro p hp
            rcases List.mem_append.1 hp with hp | hp
            · exact T.sz p hp
            · simp only [List.mem_singleton] at hp
              subst hp
              show (ofL (stepBytes fill mark long)).size = 1024
              rw [ofL_size, stepBytes_len]; exact hl
        · refine (does_w_no T.P m hn0 33 1024 (by decide) long hl few (.inr (.inr ⟨hin, rfl, by omega, by omega, rfl⟩)) fill mark).mono ?_
          rintro e w' ⟨rfl, v', vw', P', hB⟩
          exact ⟨rfl, v', vw', hist, ⟨P', T.sz⟩, hB⟩
      · refine (does_w_no T.P m hn0 32 (stepLong long) (by omega) long rfl few (.inr (.inl ⟨hin, hl, rfl⟩)) fill mark).mono ?_
        rintro e w' ⟨rfl, v', vw', P', hB⟩
        exact ⟨rfl, v', vw', hist, ⟨P', T.sz⟩, hB⟩
    · refine (does_w_no T.P n hn0 31 (stepLong long) (by omega) long rfl few (.inl ⟨hin, rfl⟩) fill mark).mono ?_
      rintro e w' ⟨rfl, v', vw', P', hB⟩
      exact ⟨rfl, v', vw', hist, ⟨P', T.sz⟩, hB⟩
  · have hk' : (kind == 1) = false := by simpa using hk
    by_cases hin : 0 ≤ n ∧ n < N
    · obtain ⟨m, rfl⟩ := Int.eq_ofNat_of_zero_le hin.1
      refine (does_r_yes T.P kind hk' m (by omega) few rfl fill mark long).mono ?_
      rintro e w' ⟨rfl, P', hB⟩
      exact ⟨rfl, v, vw, hist, ⟨P', T.sz⟩, hB⟩
    · refine (does_r_no T.P kind hk' n hn0 hin fill mark long).mono ?_
      rintro e w' ⟨rfl, P', hB⟩
      exact ⟨rfl, v, vw, hist, ⟨P', T.sz⟩, hB⟩
end
theorem owns_base {w : World} {base base' : Nat} {e : TypeId} {size : Nat} {v : Value} {n : Nat} {xs : List Value} (h : w.ownsRow base e size v n xs) (hb : base' ≤ base) : w.ownsRow base' e size v n xs := by
  refine ⟨h.1, ?_⟩
  rcases h.2 with h | ⟨g, cap, cur, h1, h2, h3⟩
  · exact .inl h
  · exact .inr ⟨g, cap, cur, h1, Nat.le_trans hb h2, h3⟩
/-- Two new disks. -/
theorem two_new {w1 w2 w3 : World} {d s r : Nat} {vf : Value} {N : Nat} (D : DiskAt w2 w1.heap.size d s (.slice none 0 0) N (fun _ => nought) []) (R : RefAt w3 w2.heap.size r vf (.slice none 0 0) N (fun _ => nought) []) (h1 : w1.heap.size ≤ w2.heap.size) (b : Below w2.heap.size w2 w3) :
    Two w3 w1.heap.size d s (.slice none 0 0) r vf (.slice none 0 0) N [] :=
  ⟨⟨D.below b, { R with first := owns_base R.first h1, writes := owns_base R.writes h1, br := Nat.le_trans h1 R.br }, fun g hg hd => by
      have h2 := (rrow_lt R g hg).1
      have h3 := (drow_lt D g hd).2
      omega⟩, fun p hp => by cases hp⟩
/-- A script that was lent. -/
def Script (w : World) (A : Option Addr) (len : Nat) : Prop := ∀ i, i < len → ∃ b off k n f m l, A = some ⟨b, off, none⟩ ∧ w.rangeAt b (off + i * 5) [.int .i64 k, .int .i64 n, .int .u8 (UInt8.toNat f), .int .u8 (UInt8.toNat m), .int .i64 l] ∧ (-9223372036854775808 ≤ n ∧ n ≤ 9223372036854775807)
theorem script_of {w : World} {A : Option Addr} {len cap : Nat} {V : Nat → Nat → Value} (hl : len ≤ cap) (h : Gen.Rows_ w A cap [.int .i64, .int .i64, .int .u8, .int .u8, .int .i64] V) : Script w A len := fun i hi => by
  obtain ⟨b, off, hA, hlt, hc⟩ := h.1 (by omega) (by simp)
  have hg : Gen.GoodAll w [.int .i64, .int .i64, .int .u8, .int .u8, .int .i64] [V i 0, V i 1, V i 2, V i 3, V i 4] := ⟨rfl, fun j ct v h1 h2 => by
    match j, h1, h2 with
    | 0, h1, h2 => simp at h2; subst h2; exact h.2 i 0 ct (by omega) h1
    | 1, h1, h2 => simp at h2; subst h2; exact h.2 i 1 ct (by omega) h1
    | 2, h1, h2 => simp at h2; subst h2; exact h.2 i 2 ct (by omega) h1
    | 3, h1, h2 => simp at h2; subst h2; exact h.2 i 3 ct (by omega) h1
    | 4, h1, h2 => simp at h2; subst h2; exact h.2 i 4 ct (by omega) h1
    | j + 5, h1, h2 => simp at h1⟩
  obtain ⟨k, n, f, m, l, he, _, hn, _⟩ := step_inv hg
  refine ⟨b, off, k, n, f, m, l, hA, fun j u hj => ?_, hn⟩
  rw [← he] at hj
  have hj5 : j < 5 := by have := (List.getElem?_eq_some_iff.1 hj).1; simpa using this
  have hcj := hc i j (by omega) hj5
  rw [show off + i * 5 + j = off + (i * 5 + j) from by omega]
  simp only [List.length_cons, List.length_nil] at hcj
  rw [hcj]
  match j, hj5, hj with
  | 0, _, hj => simpa using hj
  | 1, _, hj => simpa using hj
  | 2, _, hj => simpa using hj
  | 3, _, hj => simpa using hj
  | 4, _, hj => simpa using hj
theorem Script.below {w w' : World} {A : Option Addr} {len : Nat} (h : Script w A len) (b : Below w.heap.size w w') : Script w' A len := fun i hi => by
  obtain ⟨b1, off, k, n, f, m, l, h1, h2, h3⟩ := h i hi
  exact ⟨b1, off, k, n, f, m, l, h1, (Touch.of_below b []).range h2 (by simp), h3⟩
theorem load_step_mid (w : World) (b o : Nat) (cs : List Value) (hl : cs.length = 5) (h : w.rangeAt b o cs) : (loadBig 23 (.pointer (some ⟨b, o, none⟩))).run Try.prog w = .ok (.agg cs.toArray) w :=
  run_loadAt_mid (P := Try.prog) w b o 23 cs _ h Try.underlying23 rfl (by rw [hl]; exact step_size)
theorem own_slice {w : World} {base : Nat} {e : TypeId} {size : Nat} {v : Value} {n : Nat} {xs : List Value} (h : w.ownsRow base e size v n xs) : ∃ q c, v = .slice q n c := by
  rcases h.2 with ⟨h1, h2⟩ | ⟨g, cap, cur, h1, _⟩
  · exact ⟨none, 0, by rw [h1, h2]⟩
  · exact ⟨_, _, h1⟩
end Go.Proofs.Ytegiabnlmngkmaa
