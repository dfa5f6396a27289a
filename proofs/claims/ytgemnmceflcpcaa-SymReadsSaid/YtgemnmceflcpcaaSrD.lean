/- The document's reader: a byte. -/
import Derived.Test.YtgemnmceflcpcaaSrC
import Derived.Test.YtgemnmceflcpcaaSdF
namespace Go.Proofs.Ytgemnmceflcpcaa
open Go Go.RowKit Go.Lib Go.Proofs.Ytgemnmceflcpcaa.Sy Pl
set_option linter.unusedVariables false
set_option linter.unusedSimpArgs false
def within (low high : Int) (c : Int) : Bool := decide (low ≤ c) && decide (c ≤ high)
theorem within_iff {low high c : Int} : within low high c = true ↔ low ≤ c ∧ c ≤ high := by simp [within]
section
variable {w : World} {g : Nat} {v : Value} {l : List Int}
theorem byteS_not {r : Rd} {may : Int → Bool} (hr : r.ok = false) : byteS l may r = (0, r) := by
  unfold byteS; rw [if_neg (by rw [hr]; decide)]
set_option maxHeartbeats 4000000 in
set_option maxRecDepth 100000 in
theorem one_bad {r : Rd} (hR : RrAt w g v l r) (low high : Int) (hk : r.ok = false) :
    Calls Try.prog 64 #[.pointer (some ⟨g, 0, none⟩), .int .u8 low, .int .u8 high] w (RrP g v l w (byteS l (within low high) r).2 (.int .i64 (byteS l (within low high) r).1)) := by
  have HR := Lib.hid hR
  have hp0 : (0 : Int) ≤ (r.pos : Int) := by omega
  have l2 := hR.isBad hk
  have HE := Lib.hid (byteS_bad (l := l) (may := within low high) hk 0 false)
  have HT := Lib.hid (fun (n : Nat) => rwrong_any (hR.drewN n) 0)
  clear hR hk
  go_enter Try.func64, Try.ntmps64
  go_wp2_with fail
  go_quiet (fail)
  go_wp2_with (go_at_call 66; refine (HT.out _).mono ?_; rintro e w1 ⟨⟨a, rfl⟩, hr1, ht1⟩; have HR1 := Lib.hid hr1; have HT1 := Lib.hid ht1; clear hr1 ht1)
  go_ret
  rw [HE.out]
  exact ⟨rfl, HR1.out, HT1.out.of_drew⟩
set_option maxHeartbeats 4000000 in
set_option maxRecDepth 100000 in
theorem one_end {r : Rd} {A : Option Addr} {cap : Nat} (hR : RrAt w g (.slice A l.length cap) l r) (low high : Int) (hk : r.ok = true) (hlt : ¬ r.pos < l.length) :
    Calls Try.prog 64 #[.pointer (some ⟨g, 0, none⟩), .int .u8 low, .int .u8 high] w (RrP g (.slice A l.length cap) l w (byteS l (within low high) r).2 (.int .i64 (byteS l (within low high) r).1)) := by
  have HR := Lib.hid hR
  have l0 : w.cell? ⟨g, 0, none⟩ = some (.slice A l.length cap) := hR.blk.cell 0
  have l1 := hR.blk.cell 1
  have l2 := hR.isOk hk
  have h1 : (l.length : Int) ≤ (r.pos : Int) := by omega
  have HE := Lib.hid (byteS_no (l := l) (r := r) (may := within low high) (fun h => hlt h.1) 0)
  have HT := Lib.hid (fun (n : Nat) => rwrong_any (hR.drewN n) 0)
  clear hR hk hlt
  go_enter Try.func64, Try.ntmps64
  go_wp2_with fail
  go_quiet (fail)
  go_wp2_with (go_at_call 66; refine (HT.out _).mono ?_; rintro e w1 ⟨⟨a, rfl⟩, hr1, ht1⟩; have HR1 := Lib.hid hr1; have HT1 := Lib.hid ht1; clear hr1 ht1)
  go_ret
  rw [HE.out]
  exact ⟨rfl, HR1.out, HT1.out.of_drew⟩
set_option maxHeartbeats 4000000 in
set_option maxRecDepth 100000 in
theorem one_low {r : Rd} {A : Option Addr} {cap : Nat} (hR : RrAt w g (.slice A l.length cap) l r) (low high : Int) (hk : r.ok = true) (hlt : r.pos < l.length) (hm : l.getD r.pos 0 < low) :
    Calls Try.prog 64 #[.pointer (some ⟨g, 0, none⟩), .int .u8 low, .int .u8 high] w (RrP g (.slice A l.length cap) l w (byteS l (within low high) r).2 (.int .i64 (byteS l (within low high) r).1)) := by
  have HR := Lib.hid hR
  have l0 : w.cell? ⟨g, 0, none⟩ = some (.slice A l.length cap) := hR.blk.cell 0
  have l1 := hR.blk.cell 1
  have l2 := hR.isOk hk
  have h1 : (r.pos : Int) < (l.length : Int) := by omega
  have hn1 : ¬ l.length ≤ r.pos := by omega
  have h0 : (0 : Int) ≤ (r.pos : Int) := by omega
  have HE := Lib.hid (byteS_no (l := l) (r := r) (may := within low high) (fun h => by have := (within_iff.mp h.2).1; omega) 0)
  have HT := Lib.hid (fun (n : Nat) => rwrong_any (hR.drewN n) 0)
  obtain ⟨_, _, e, hc1, hc2, hrd⟩ := bytes_form hR.bytes
  cases e
  unfold maxLen at hc2
  obtain ⟨b, off, rfl, hb, hcl⟩ := hrd (by omega)
  have hcell : w.cell? ⟨b, off + r.pos, none⟩ = some (.int .u8 (l.getD r.pos 0)) := hcl r.pos hlt
  obtain ⟨c, hcc⟩ : ∃ c, c = l.getD r.pos 0 := ⟨_, rfl⟩
  rw [← hcc] at hcell hm
  clear hR hk hlt hcc hrd hcl
  go_enter Try.func64, Try.ntmps64
  go_wp2_with fail
  go_quiet (fail)
  go_wp2_with (go_at_call 66; refine (HT.out _).mono ?_; rintro e w1 ⟨⟨a, rfl⟩, hr1, ht1⟩; have HR1 := Lib.hid hr1; have HT1 := Lib.hid ht1; clear hr1 ht1)
  go_ret
  rw [HE.out]
  exact ⟨rfl, HR1.out, HT1.out.of_drew⟩
set_option maxHeartbeats 4000000 in
set_option maxRecDepth 100000 in
theorem one_high {r : Rd} {A : Option Addr} {cap : Nat} (hR : RrAt w g (.slice A l.length cap) l r) (low high : Int) (hk : r.ok = true) (hlt : r.pos < l.length) (hm : low ≤ l.getD r.pos 0) (hm2 : high < l.getD r.pos 0) :
    Calls Try.prog 64 #[.pointer (some ⟨g, 0, none⟩), .int .u8 low, .int .u8 high] w (RrP g (.slice A l.length cap) l w (byteS l (within low high) r).2 (.int .i64 (byteS l (within low high) r).1)) := by
  have HR := Lib.hid hR
  have l0 : w.cell? ⟨g, 0, none⟩ = some (.slice A l.length cap) := hR.blk.cell 0
  have l1 := hR.blk.cell 1
  have l2 := hR.isOk hk
  have h1 : (r.pos : Int) < (l.length : Int) := by omega
  have hn1 : ¬ l.length ≤ r.pos := by omega
  have h0 : (0 : Int) ≤ (r.pos : Int) := by omega
  have HE := Lib.hid (byteS_no (l := l) (r := r) (may := within low high) (fun h => by have := (within_iff.mp h.2).2; omega) 0)
  have HT := Lib.hid (fun (n : Nat) => rwrong_any (hR.drewN n) 0)
  obtain ⟨_, _, e, hc1, hc2, hrd⟩ := bytes_form hR.bytes
  cases e
  unfold maxLen at hc2
  obtain ⟨b, off, rfl, hb, hcl⟩ := hrd (by omega)
  have hcell : w.cell? ⟨b, off + r.pos, none⟩ = some (.int .u8 (l.getD r.pos 0)) := hcl r.pos hlt
  obtain ⟨c, hcc⟩ : ∃ c, c = l.getD r.pos 0 := ⟨_, rfl⟩
  rw [← hcc] at hcell hm hm2
  clear hR hk hlt hcc hrd hcl
  go_enter Try.func64, Try.ntmps64
  go_wp2_with fail
  go_quiet (fail)
  go_wp2_with (go_at_call 66; refine (HT.out _).mono ?_; rintro e w1 ⟨⟨a, rfl⟩, hr1, ht1⟩; have HR1 := Lib.hid hr1; have HT1 := Lib.hid ht1; clear hr1 ht1)
  go_ret
  rw [HE.out]
  exact ⟨rfl, HR1.out, HT1.out.of_drew⟩
set_option maxHeartbeats 4000000 in
set_option maxRecDepth 100000 in
theorem one_yes {r : Rd} {A : Option Addr} {cap : Nat} (hR : RrAt w g (.slice A l.length cap) l r) (low high : Int) (hk : r.ok = true) (hlt : r.pos < l.length) (hm : low ≤ l.getD r.pos 0) (hm2 : l.getD r.pos 0 ≤ high) :
    Calls Try.prog 64 #[.pointer (some ⟨g, 0, none⟩), .int .u8 low, .int .u8 high] w (RrP g (.slice A l.length cap) l w (byteS l (within low high) r).2 (.int .i64 (byteS l (within low high) r).1)) := by
  have HR := Lib.hid hR
  have l0 : w.cell? ⟨g, 0, none⟩ = some (.slice A l.length cap) := hR.blk.cell 0
  have l1 := hR.blk.cell 1
  have f1 := hR.blk.frozen 1
  have l2 := hR.isOk hk
  have h1 : (r.pos : Int) < (l.length : Int) := by omega
  have hn1 : ¬ l.length ≤ r.pos := by omega
  have h0 : (0 : Int) ≤ (r.pos : Int) := by omega
  have hlen := hR.len
  have hw1 : IntKind.i64.wrap ((r.pos : Int) + 1) = (r.pos : Int) + 1 := IntWalk.i64_in _ ⟨by omega, by omega⟩
  have hw3 : IntKind.i64.wrap ((r.pos : Int) + 1 - 1) = (r.pos : Int) := by rw [show (r.pos : Int) + 1 - 1 = (r.pos : Int) from by omega]; exact IntWalk.i64_in _ ⟨by omega, by omega⟩
  have HE := Lib.hid (byteS_yes (l := l) (r := r) (may := within low high) ⟨hlt, within_iff.mpr ⟨hm, hm2⟩⟩ hk)
  have HS := Lib.hid (fun n => RrAt.setAt (hR.drewN n) hk (show r.pos + 1 ≤ l.length by omega))
  obtain ⟨_, _, e, hc1, hc2, hrd⟩ := bytes_form hR.bytes
  cases e
  unfold maxLen at hc2
  obtain ⟨b, off, rfl, hb, hcl⟩ := hrd (by omega)
  have HNE := Lib.hid (show b ≠ g from Nat.ne_of_lt (hR.old (fun e => by rw [e] at hlt; cases hlt) b rfl))
  have hcell : w.cell? ⟨b, off + r.pos, none⟩ = some (.int .u8 (l.getD r.pos 0)) := hcl r.pos hlt
  have hoc := oct_getD hR.oct r.pos
  have HRP := Lib.hid (show (r.pos + 1 : Nat) = ((r.pos : Int) + 1) from by omega)
  obtain ⟨c, hcc⟩ : ∃ c, c = l.getD r.pos 0 := ⟨_, rfl⟩
  rw [← hcc] at hcell hm hm2 HE hoc
  have hw2 : IntKind.i64.wrap c = c := IntWalk.i64_in _ ⟨by omega, by omega⟩
  have HK := Lib.hid hk
  clear hR hk hlt hcc hrd hcl
  go_enter Try.func64, Try.ntmps64
  go_wp2_with fail
  go_quiet (fail)
  go_wp2_with fail
  have hz := HS.out nq
  have ht := (Touch.set (w.drewN nq) ⟨g, 1, none⟩ (.int .i64 ((r.pos : Int) + 1))).of_drew
  rw [HRP.out] at hz
  rw [HRP.out] at HE
  have hcell1 := ht.cell (a := ⟨b, off + r.pos, none⟩) hcell (by simpa using HNE.out)
  clear l0 l1 l2 f1 hcell HS HR
  generalize (w.drewN nq).setCell ⟨g, 1, none⟩ (.int .i64 ((r.pos : Int) + 1)) = w1 at hz ht hcell1 ⊢
  have l0 : w1.cell? ⟨g, 0, none⟩ = some (.slice (some ⟨b, off, none⟩) l.length cap) := hz.blk.cell 0
  have l1 : w1.cell? ⟨g, 1, none⟩ = some (.int .i64 ((r.pos : Int) + 1)) := by
    rw [hz.blk.cell 1]; unfold tookS; rw [if_pos HK.out, if_pos rfl]; simp [rcells]
  have HZ := Lib.hid hz
  have HT := Lib.hid ht
  clear hz ht
  go_quiet (fail)
  go_wp2_with fail
  go_ret
  rw [HE.out]
  exact ⟨rfl, HZ.out.drewN _, HT.out.trans (Touch.drewN w1 _) (fun g' h _ => by cases h)⟩
theorem one_any {v : Value} {r : Rd} (hR : RrAt w g v l r) (low high : Int) :
    Calls Try.prog 64 #[.pointer (some ⟨g, 0, none⟩), .int .u8 low, .int .u8 high] w (RrP g v l w (byteS l (within low high) r).2 (.int .i64 (byteS l (within low high) r).1)) := by
  obtain ⟨A, cap, rfl, _⟩ := bytes_form hR.bytes
  cases hk : r.ok with
  | false => exact one_bad hR low high hk
  | true =>
    by_cases hlt : r.pos < l.length
    · by_cases hm : low ≤ l.getD r.pos 0
      · by_cases hm2 : l.getD r.pos 0 ≤ high
        · exact one_yes hR low high hk hlt hm hm2
        · exact one_high hR low high hk hlt hm (by omega)
      · exact one_low hR low high hk hlt (by omega)
    · exact one_end hR low high hk hlt
end
end Go.Proofs.Ytgemnmceflcpcaa
