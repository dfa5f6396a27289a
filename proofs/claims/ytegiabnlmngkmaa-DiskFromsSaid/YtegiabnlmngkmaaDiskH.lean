/- A step, boxed; writes and reads whatever the place. -/
import Derived.Test.YtegiabnlmngkmaaDiskF
import Derived.Test.YtegiabnlmngkmaaGen
namespace Go.Proofs.Ytegiabnlmngkmaa
open Go Go.RowKit Go.Lib
set_option linter.unusedVariables false
theorem stepBytes_len (f m : UInt8) (long : Int) : (stepBytes f m long).length = stepLong long := by simp [stepBytes]
theorem stepLong_neg : stepLong (-1) = 1024 := rfl
/-- A step in a block of its own. -/
def StepAt (w : World) (g : Nat) (cs : Array Value) : Prop := w.heap[g]? = some (.cells cs 23 (0, 0))
theorem StepAt.lt {w : World} {g : Nat} {cs : Array Value} (h : StepAt w g cs) : g < w.heap.size := (Array.getElem?_eq_some_iff.1 h).1
theorem StepAt.range {w : World} {g : Nat} {cs : Array Value} (h : StepAt w g cs) : w.rangeAt g 0 cs.toList := fun j v hj => by
  rw [Nat.zero_add, cell_of_row w g j _ _ _ h]; simpa using hj
theorem StepAt.cell {w : World} {g : Nat} {cs : Array Value} (h : StepAt w g cs) (j : Nat) : w.cell? ⟨g, j, none⟩ = cs[j]? := cell_of_row w g j _ _ _ h
theorem StepAt.frozen {w : World} {g : Nat} {cs : Array Value} (h : StepAt w g cs) (j : Nat) : w.frozen? ⟨g, j, none⟩ = false := by
  unfold StepAt at h; simp [World.frozen?, h]
theorem StepAt.touch {w w' : World} {r : List Nat} {g : Nat} {cs : Array Value} (h : StepAt w g cs) (T : Touch w w' r) (hg : g ∉ r) : StepAt w' g cs := by
  unfold StepAt at h ⊢; rw [T.block g (Array.getElem?_eq_some_iff.1 h).1 hg]; exact h
theorem StepAt.below {w w' : World} {g : Nat} {cs : Array Value} (h : StepAt w g cs) {B : Nat} (hb : Below B w w') (hg : g < B) : StepAt w' g cs := by
  unfold StepAt at h ⊢; rw [hb.block g hg]; exact h
theorem StepAt.set {w : World} {g : Nat} {cs : Array Value} (h : StepAt w g cs) (j : Nat) (x : Value) : StepAt (w.setCell ⟨g, j, none⟩ x) g (cs.setIfInBounds j x) := by
  unfold StepAt at h ⊢
  simp [World.setCell, Array.getElem?_modify, h]
theorem StepAt.alloc {w : World} {g : Nat} {cs : Array Value} (h : StepAt w g cs) (o : Obj) : StepAt (w.alloc o) g cs :=
  h.below ((Below.refl w.heap.size w).alloc (Nat.le_refl _) o) h.lt
theorem StepAt.new (w : World) (cs : Array Value) : StepAt (w.alloc (.cells cs 23 (0, 0))) w.heap.size cs := heap_alloc_new w _
theorem StepAt.two (w : World) (cs cs' : Array Value) : StepAt ((w.alloc (.cells cs' 23 (0, 0))).alloc (.cells cs 23 (0, 0))) (w.heap.size + 1) cs := by
  have := StepAt.new (w.alloc (.cells cs' 23 (0, 0))) cs
  rw [World.size_alloc] at this
  exact this
theorem exec_load_step (ρ : Operand → Value) (dst : Option Tmp) (x : Operand) (ty' : TypeId) (pos : String) (after : Array Edge) (guard : Option (Nat × Bool)) :
    execOp ρ ⟨dst, .load 23 x, ty', pos, after, guard⟩ = (do pure (.value (← loadBig 23 (ρ x)))) := rfl
theorem step_size : (Try.prog.info? 23).map (·.size) = some 5 := by kernel_rfl
theorem load_step (w : World) (b : Nat) (cs : Array Value) (hl : cs.size = 5) (h : StepAt w b cs) : (loadBig 23 (.pointer (some ⟨b, 0, none⟩))).run Try.prog w = .ok (.agg cs) w := by
  have := run_loadAt_mid (P := Try.prog) w b 0 23 cs.toList _ h.range Try.underlying23 rfl (by rw [Array.length_toList, hl]; exact step_size)
  exact this
theorem u8_of {x : Int} (h : (Lit.int .u8 x).wf = true) : ∃ b : UInt8, x = b.toNat := by
  have h2 : 0 ≤ x ∧ x ≤ 255 := by
    simp [Lit.wf, IntKind.min, IntKind.max, IntKind.signed, IntKind.bits] at h
    omega
  refine ⟨UInt8.ofNat x.toNat, ?_⟩
  rw [UInt8.toNat_ofNat_of_lt' (by have : x.toNat < 256 := by omega
                                   exact this)]
  omega
theorem i64_of {x : Int} (h : (Lit.int .i64 x).wf = true) : -9223372036854775808 ≤ x ∧ x ≤ 9223372036854775807 := by
  simp [Lit.wf, IntKind.min, IntKind.max, IntKind.signed, IntKind.bits] at h
  omega
theorem list5 {α : Type} : ∀ {l : List α}, l.length = 5 → ∃ a b c d e, l = [a, b, c, d, e]
  | [a, b, c, d, e], _ => ⟨a, b, c, d, e, rfl⟩
theorem step_inv {w : World} {cs : List Value} (h : Gen.GoodAll w [.int .i64, .int .i64, .int .u8, .int .u8, .int .i64] cs) :
    ∃ (k n : Int) (f m : UInt8) (l : Int), cs = [.int .i64 k, .int .i64 n, .int .u8 f.toNat, .int .u8 m.toNat, .int .i64 l] ∧ (-9223372036854775808 ≤ k ∧ k ≤ 9223372036854775807) ∧ (-9223372036854775808 ≤ n ∧ n ≤ 9223372036854775807) ∧ (-9223372036854775808 ≤ l ∧ l ≤ 9223372036854775807) := by
  obtain ⟨a, b, c, d, e, rfl⟩ := list5 h.1
  obtain ⟨k, hk, wk⟩ := h.int 0 rfl
  obtain ⟨n, hn, wn⟩ := h.int 1 rfl
  obtain ⟨f, hf, wf⟩ := h.int 2 rfl
  obtain ⟨m, hm, wm⟩ := h.int 3 rfl
  obtain ⟨l, hl, wl⟩ := h.int 4 rfl
  obtain ⟨f, rfl⟩ := u8_of wf
  obtain ⟨m, rfl⟩ := u8_of wm
  simp only [List.getElem?_cons_zero, List.getElem?_cons_succ, Option.some.injEq] at hk hn hf hm hl
  subst hk hn hf hm hl
  exact ⟨k, n, f, m, l, rfl, i64_of wk, i64_of wn, i64_of wl⟩
section
variable {w : World} {base d s : Nat} {v : Value} {N : Nat} {sec : Nat → ByteArray} {ws : List (Nat × ByteArray)}
/-- A write of a sector's bytes that may not be. -/
theorem write_bytes_no (D : DiskAt w base d s v N sec ws) (n : Int) (h0 : -9223372036854775808 ≤ n ∧ n ≤ 9223372036854775807) (hn : ¬ (0 ≤ n ∧ n < N)) (a : Option Addr) (lb cb : Nat) (hlb : lb ≤ 9223372036854775807) :
    Calls Try.prog 11 #[.pointer (some ⟨d, 0, none⟩), .int .i64 n, .slice a lb cb] w fun e w' => e = .returned (.int .i64 31) ∧ w = w' := by
  refine (write_no D n h0 a lb cb hlb (fun h => hn h.1)).mono ?_
  rintro e w' ⟨rfl, rfl⟩
  exact ⟨by rw [if_neg hn], rfl⟩
end
end Go.Proofs.Ytegiabnlmngkmaa
