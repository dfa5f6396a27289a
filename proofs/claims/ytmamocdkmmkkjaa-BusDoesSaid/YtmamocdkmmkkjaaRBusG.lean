/- The document's bus: a sector, written. -/
import Derived.Test.YtmamocdkmmkkjaaRBusF
import Derived.Deep.RegionLaw
import Derived.Deep.DrawnRows
namespace Go.Proofs.Ytmamocdkmmkkjaa
open Go Go.RowKit Go.Lib Go.Proofs.Ytmamocdkmmkkjaa.Pl
set_option linter.unusedVariables false
set_option linter.unusedSimpArgs false
section
variable {w : World} {base r : Nat} {vf vw : Value} {N : Nat} {sec0 : Nat → ByteArray} {hist : List (Nat × ByteArray)}
set_option maxRecDepth 100000 in
set_option maxHeartbeats 1000000 in
theorem rwrite_cv (R : RefAt w base r vf vw N sec0 hist) (n : Nat) (hn : n < N) (few : hist.length < 4096) (sa : Option Addr) (cap : Nat) (S : ByteArray) (hcv : ∀ w', w'.heap = w.heap → (convert 44 9 (.slice sa 1024 cap)).run Try.prog w' = .ok (.string S) w') :
    Calls Try.prog 59 #[.pointer (some ⟨r, 0, none⟩), .int .i64 (n : Int), .slice sa 1024 cap] w fun e w' => e = .returned (.int .i64 0) ∧ ∃ vw', RefAt w' base r vf vw' N sec0 (hist ++ [(n, S)]) ∧ Touch w w' (rrow r vf vw) ∧ (∀ g, vw'.ownBlock = some g → vw.ownBlock = some g ∨ w.heap.size ≤ g) := by
  obtain ⟨i0, z0, hi, hz0, hz1, hz2, hz3⟩ := info_rwrite
  have HI := Lib.hid hi; clear hi
  have HZ := Lib.hid hz0; clear hz0
  have c0 := R.c0
  have c1 := R.c1
  have f1 := R.f1
  obtain ⟨q, c, rfl⟩ := R.fform
  obtain ⟨q', c', rfl, _⟩ := R.wform
  have hrl := R.rlt
  have hbase : base ≤ w.heap.size := Nat.le_trans R.br (Nat.le_of_lt hrl)
  have hrv : r ∉ (Value.slice q' hist.length c').ownBlock.toList := fun hm => R.rw_ (by simpa using hm)
  have HRV := Lib.hid hrv
  have HO : ∀ w', Below w.heap.size w w' → w'.ownsRow base 103 2 (.slice q' hist.length c') hist.length (rcells hist) := fun w' hb => (Touch.of_below hb []).owns R.writes (by simp)
  have HOWN := Lib.hid HO
  have HR := Lib.hid R
  have hcv1 := hcv w.drew rfl
  clear hcv
  have c1a : ∀ o, (w.alloc o).cell? ⟨r, 1, none⟩ = some (.slice q' hist.length c') := fun o => by rw [World.cell?_alloc_lt _ _ _ hrl]; exact c1
  have hn' : (n : Int) < (N : Int) := by omega
  have hn0 : (0 : Int) ≤ (n : Int) := by omega
  have HF := Lib.hid few
  clear HO hrv R hn few
  go_enter Try.func59, Try.ntmps59
  generalize hC : (4096 : Int) = C at *
  have HC := Lib.hid hC
  clear hC
  have hlc : decide (C ≤ (hist.length : Int)) = false := by rw [decide_eq_false_iff_not]; have := HC.out; have := HF.out; omega
  go_wp2_with fail
  go_region_law ((refine step_append_lies _ (by rfl) _ _ _ (by rfl) base 103 i0 z0 2 24 Try.underlying91 HI.out HZ.out hz1 hz2 hz3 (by decide) _ hist.length (rcells hist) (by rfl) (HOWN.out _ (by go_grown)) ⟨w.heap.size, 0, none⟩ 1 1 [.int .i64 n, .string (S)] (by rfl) (by rfl) (World.news_of_block (heap_alloc_new _ _)) (by simp [Value.oneCell']) (by decide) (by have := HF.out; unfold maxLen; omega) (by have := HF.out; omega) (by simp; omega) (w.heap.size + 1) (by simp) ?_; intro gn cap9 w1 hown1 hgrow hat1 hlt1; have T1 := touch_app' (w := w) hgrow (by go_grown); have c1' := T1.cell c1 HRV.out; have f1' := (T1.frozen c1 HRV.out).trans f1; clear hgrow))
  all_goals
    obtain ⟨M1, M2⟩ := ref_grow_writes (v' := .slice (some ⟨gn, 0, none⟩) (hist.length + 1) cap9) HR.out T1 gn rfl (n, S) hown1 (hat1.imp id (fun e => by omega))
    have H1 := Lib.hid M1
    have H2 := Lib.hid M2
    clear M1 M2 hown1 T1
    go_wp2_with fail
    go_ret
    refine ⟨rfl, _, H1.out, H2.out, fun g' hg' => ?_⟩
    obtain rfl : gn = g' := by simpa [Value.ownBlock] using hg'
    rcases hat1 with h | h
    · exact .inl h
    · exact .inr (by rw [h]; omega)
end
section
variable {w w' : World} {base : Nat} {v : RV} {x : BS} {sec0 : Nat → ByteArray} {hist : List (Nat × ByteArray)}
theorem secOf_snoc' (sec0 : Nat → ByteArray) (h : List (Nat × ByteArray)) (p : Nat × ByteArray) : secOf sec0 (h ++ [p]) = upd (secOf sec0 h) p.1 p.2 := by simp [secOf]
/-- The disk behind a write. -/
theorem RBusAt.newDisk (B : RBusAt w base v x sec0 hist) {u : Value} {n : Nat} {S : ByteArray} (hn : n < x.N) (few : hist.length < 4096) (hS : S.size = 1024) (R : RefAt w' base v.r v.vf u x.N sec0 (hist ++ [(n, S)])) (t : Touch w w' (rrow v.r v.vf v.vw)) (hu : ∀ g, u.ownBlock = some g → v.vw.ownBlock = some g ∨ w.heap.size ≤ g) :
    RBusAt w' base { v with vw := u } { x with sec := upd x.sec n S, ws := x.ws ++ [(n, x.sec n)] } sec0 (hist ++ [(n, S)]) ∧ RMoves w w' v { v with vw := u } := by
  have A := B.ap
  have hrow : ∀ g ∈ rrow v.r v.vf u, g ∈ rrow v.r v.vf v.vw ∨ w.heap.size ≤ g := fun g hg => by
    simp only [rrow, List.mem_cons, List.mem_append, Option.mem_toList] at hg ⊢
    rcases hg with h | h | h
    · exact .inl (.inl h)
    · exact .inl (.inr (.inl h))
    · rcases hu g h with k | k
      · exact .inl (.inr (.inr k))
      · exact .inr k
  have far : ∀ g, g < w.heap.size → g ∉ rrow v.r v.vf v.vw → g ∉ rrow v.r v.vf u := fun g hl hg h => (hrow g h).elim hg (fun k => by omega)
  have olt : ∀ g, v.vo.ownBlock = some g → g < w.heap.size := fun g hg => (own_lt B.out g hg).1
  refine ⟨{ B with
    row := (t.block v.b B.row.lt A.br).trans B.row
    mem := by obtain ⟨cs, h1, h2⟩ := B.mem; exact ⟨cs, (t.block v.m B.mem.lt A.mr).trans h1, h2⟩
    out := t.owns B.out (fun g hg => (A.ob g hg).2.2)
    disk := R
    sec := by rw [secOf_snoc', ← B.sec]
    ws := by rw [rolds_snoc, ← B.ws, ← B.sec]
    few := by simp; omega
    slen := fun i hi => by show (upd x.sec n S i).size = 1024; unfold upd; split; exact hS; exact B.slen i hi
    nd := ?_ }, ⟨t.mono (fun g hg => by simp [rbrow, hg]), fun g hg => ?_, ⟨rfl, rfl, rfl⟩⟩⟩
  · have nd := B.nd
    simp only [rbrow, List.nodup_cons, List.mem_cons, List.mem_append, not_or, Option.mem_toList, List.nodup_append] at nd ⊢
    obtain ⟨⟨n1, n2, n3⟩, ⟨n4, n5⟩, n6, n7, n8⟩ := nd
    refine ⟨⟨n1, n2, far _ B.row.lt n3⟩, ⟨n4, far _ B.mem.lt n5⟩, n6, ?_, fun a ha b hb e => ?_⟩
    · simp only [rrow, List.nodup_cons, List.mem_append, Option.mem_toList, not_or, List.nodup_append]
      refine ⟨⟨R.rf, R.rw_⟩, ?_, ?_, fun a ha b hb e => R.fw a ha (e ▸ hb)⟩
      · cases v.vf.ownBlock <;> simp
      · cases u.ownBlock <;> simp
    · subst e
      exact far a (olt a ha) (fun h => n8 a ha a h rfl) hb
  · simp only [rbrow, List.mem_cons, List.mem_append] at hg ⊢
    rcases hg with h | h | h | h
    · exact .inl (.inl h)
    · exact .inl (.inr (.inl h))
    · exact .inl (.inr (.inr (.inl h)))
    · exact (hrow g h).imp (fun k => .inr (.inr (.inr k))) id
end
end Go.Proofs.Ytmamocdkmmkkjaa
