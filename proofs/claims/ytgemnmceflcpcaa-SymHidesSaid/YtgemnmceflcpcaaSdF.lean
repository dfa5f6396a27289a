/- The reader: a byte. -/
import Derived.Test.YtgemnmceflcpcaaSdE
import Derived.StillTailTactics
import Derived.Test.YtgemnmceflcpcaaSyH
namespace Go.Proofs.Ytgemnmceflcpcaa
open Go Go.RowKit Go.Lib Go.Proofs.Ytgemnmceflcpcaa.Sy Pl
set_option linter.unusedVariables false
set_option linter.unusedSimpArgs false
section
variable {w : World} {g : Nat} {v : Value} {l : List Int}
theorem byteS_no {r : Rd} {may : Int → Bool} (h : ¬ (r.pos < l.length ∧ may (l.getD r.pos 0) = true)) (x : Int) : byteS l may r = (0, tookS r x false) := by
  unfold byteS tookS
  obtain ⟨p, ok⟩ := r
  cases ok with
  | false => rfl
  | true => simp only [if_true] at *; rw [if_neg h]; rfl
theorem byteS_yes {r : Rd} {may : Int → Bool} (h : r.pos < l.length ∧ may (l.getD r.pos 0) = true) (hr : r.ok = true) : byteS l may r = (l.getD r.pos 0, tookS r ((r.pos + 1 : Nat) : Int) true) := by
  unfold byteS tookS
  rw [if_pos hr, if_pos hr, if_pos h]; rfl
theorem byteS_bad {r : Rd} {may : Int → Bool} (hr : r.ok = false) (x : Int) (b : Bool) : byteS l may r = (0, tookS r x b) := by
  unfold byteS tookS
  rw [if_neg (by rw [hr]; decide), if_neg (by rw [hr]; decide)]
/-- A question about a byte. -/
theorem wpStill_skip {P : Program} {ops : Array Oper} {w : World} {Q : Act → Prop} {a : Act} {o : Oper} {rest : List Oper} (h : Region.wanted o (yielded ops a.tmps) = false) (k : wpStill P ops w Q rest (a.put o.dst undef)) : wpStill P ops w Q (o :: rest) a := by
  unfold wpStill; rw [if_neg (by rw [h]; decide)]; exact k
structure Asks (F : FuncId) (may : Int → Bool) : Prop where
  enter : ∀ (W : World) (args : Array Value), (callFunc F args).run Try.prog W = .ok (.enter F args) W
  ask : ∀ (W : World) (n : Int), 0 ≤ n → n ≤ 255 → Calls Try.prog F #[.int .i64 n] W fun e W' => e = .returned (.bool (may n)) ∧ W = W'
set_option maxHeartbeats 1000000 in
set_option maxRecDepth 100000 in
theorem byte_no {r : Rd} {A : Option Addr} {cap : Nat} (hR : RdAt w g (.slice A l.length cap) l r) {F : FuncId} {may : Int → Bool} (hF : Asks F may) (hlt : r.pos < l.length) (hm : may (l.getD r.pos 0) = false) :
    Calls Try.prog 55 #[.pointer (some ⟨g, 0, none⟩), .func (.func F) #[] #[]] w (RdP g (.slice A l.length cap) l w (byteS l may r).2 (.int .i64 (byteS l may r).1)) := by
  have HR := Lib.hid hR
  have l0 : w.cell? ⟨g, 0, none⟩ = some (.slice A l.length cap) := hR.blk.cell 0
  have l1 : w.cell? ⟨g, 1, none⟩ = some (.int .i64 r.pos) := hR.blk.cell 1
  obtain ⟨_, _, e, hc1, hc2, hrd⟩ := bytes_form hR.bytes
  cases e
  have hlen := hR.len
  have hpos := hR.pos
  have henter := hF.enter
  have h0 : (0 : Int) ≤ (r.pos : Int) := by omega
  have hw1 : IntKind.i64.wrap ((r.pos : Int) + 1) = (r.pos : Int) + 1 := IntWalk.i64_in _ ⟨by omega, by omega⟩
  unfold maxLen at hc2
  obtain ⟨b, off, rfl, hb, hcl⟩ := hrd (by omega)
  have HNE := Lib.hid (show b ≠ g from Nat.ne_of_lt (hR.old (fun e => by rw [e] at hlt; cases hlt) b rfl))
  have hcell : w.cell? ⟨b, off + r.pos, none⟩ = some (.int .u8 (l.getD r.pos 0)) := hcl r.pos hlt
  have hoc := oct_getD hR.oct r.pos
  have HA := Lib.hid (fun W => hF.ask W (l.getD r.pos 0) hoc.1 hoc.2)
  obtain ⟨c, hcc⟩ : ∃ c, c = l.getD r.pos 0 := ⟨_, rfl⟩
  have HCC := Lib.hid hcc
  rw [← hcc] at hcell hoc hm
  have HA : Hid (∀ W, Calls Try.prog F #[.int .i64 c] W fun e W' => e = .returned (.bool (may c)) ∧ W = W') := by rw [hcc]; exact HA
  rw [hm] at HA
  have h1 : (r.pos : Int) < (l.length : Int) := by omega
  have hw2 : IntKind.i64.wrap c = c := IntWalk.i64_in _ ⟨by omega, by omega⟩
  have HE := Lib.hid (byteS_no (l := l) (r := r) (may := may) (fun h => by rw [← HCC.out, hm] at h; cases h.2) ((r.pos : Int) + 1))
  clear hR hm hlt hF hrd hcl hcc
  go_enter Try.func55, Try.ntmps55
  go_wp2_with fail
  go_still_tail 31, (by kernel_rfl)
  still_call ((HA.out w.drew).mono (fun _ _ ⟨x, y⟩ => ⟨x, y.symm⟩))
  repeat still_step
  refine wpStill_nil ?_
  change wpList _ _ _ _ _ w.drew
  have HRd := Lib.hid (show RdAt w.drew g _ l _ from HR.out.drewN 1)
  have HTd := Lib.hid (show Touch w w.drew [g] from (Touch.drewN w 1).mono (fun g' h => by cases h))
  generalize w.drew = w3 at HRd HTd ⊢
  go_wp2_with (go_at_call 60; refine (took_any HRd.out ((r.pos : Int) + 1) false (fun h => by cases h)).mono ?_; rintro e w1 ⟨rfl, hr1, ht1⟩; rw [Bool.and_false]; have HR1 := Lib.hid hr1; have HT1 := Lib.hid ht1; clear hr1 ht1)
  go_ret
  rw [HE.out]
  exact ⟨rfl, HR1.out, HTd.out.trans HT1.out (fun g' h _ => h)⟩
set_option maxHeartbeats 1000000 in
set_option maxRecDepth 100000 in
theorem byte_bad {r : Rd} {A : Option Addr} {cap : Nat} (hR : RdAt w g (.slice A l.length cap) l r) {F : FuncId} {may : Int → Bool} (hF : Asks F may) (hlt : r.pos < l.length) (hm : may (l.getD r.pos 0) = true) (hk : r.ok = false) :
    Calls Try.prog 55 #[.pointer (some ⟨g, 0, none⟩), .func (.func F) #[] #[]] w (RdP g (.slice A l.length cap) l w (byteS l may r).2 (.int .i64 (byteS l may r).1)) := by
  have HR := Lib.hid hR
  have l0 : w.cell? ⟨g, 0, none⟩ = some (.slice A l.length cap) := hR.blk.cell 0
  have l1 : w.cell? ⟨g, 1, none⟩ = some (.int .i64 r.pos) := hR.blk.cell 1
  obtain ⟨_, _, e, hc1, hc2, hrd⟩ := bytes_form hR.bytes
  cases e
  have hlen := hR.len
  have hpos := hR.pos
  have henter := hF.enter
  have h0 : (0 : Int) ≤ (r.pos : Int) := by omega
  have hw1 : IntKind.i64.wrap ((r.pos : Int) + 1) = (r.pos : Int) + 1 := IntWalk.i64_in _ ⟨by omega, by omega⟩
  unfold maxLen at hc2
  obtain ⟨b, off, rfl, hb, hcl⟩ := hrd (by omega)
  have HNE := Lib.hid (show b ≠ g from Nat.ne_of_lt (hR.old (fun e => by rw [e] at hlt; cases hlt) b rfl))
  have hcell : w.cell? ⟨b, off + r.pos, none⟩ = some (.int .u8 (l.getD r.pos 0)) := hcl r.pos hlt
  have hoc := oct_getD hR.oct r.pos
  have HA := Lib.hid (fun W => hF.ask W (l.getD r.pos 0) hoc.1 hoc.2)
  obtain ⟨c, hcc⟩ : ∃ c, c = l.getD r.pos 0 := ⟨_, rfl⟩
  have HCC := Lib.hid hcc
  rw [← hcc] at hcell hoc hm
  have HA : Hid (∀ W, Calls Try.prog F #[.int .i64 c] W fun e W' => e = .returned (.bool (may c)) ∧ W = W') := by rw [hcc]; exact HA
  rw [hm] at HA
  have h1 : (r.pos : Int) < (l.length : Int) := by omega
  have hw2 : IntKind.i64.wrap c = c := IntWalk.i64_in _ ⟨by omega, by omega⟩
  have HE := Lib.hid (byteS_bad (l := l) (may := may) hk ((r.pos : Int) + 1) true)
  have HK := Lib.hid hk
  clear hR hm hlt hF hrd hcl hcc hk
  go_enter Try.func55, Try.ntmps55
  go_wp2_with fail
  go_still_tail 31, (by kernel_rfl)
  still_call ((HA.out w.drew).mono (fun _ _ ⟨x, y⟩ => ⟨x, y.symm⟩))
  repeat still_step
  refine wpStill_nil ?_
  change wpList _ _ _ _ _ w.drew
  have HRd := Lib.hid (show RdAt w.drew g _ l _ from HR.out.drewN 1)
  have HTd := Lib.hid (show Touch w w.drew [g] from (Touch.drewN w 1).mono (fun g' h => by cases h))
  generalize w.drew = w3 at HRd HTd ⊢
  go_wp2_with (go_at_call 60; refine (took_any HRd.out ((r.pos : Int) + 1) true (fun h => ⟨by omega, by omega⟩)).mono ?_; rintro e w1 ⟨rfl, hr1, ht1⟩; rw [HK.out, Bool.false_and]; have HR1 := Lib.hid hr1; have HT1 := Lib.hid ht1; clear hr1 ht1)
  go_ret
  rw [HE.out]
  exact ⟨rfl, HR1.out, HTd.out.trans HT1.out (fun g' h _ => h)⟩
set_option maxHeartbeats 1000000 in
set_option maxRecDepth 100000 in
theorem byte_end {r : Rd} {A : Option Addr} {cap : Nat} (hR : RdAt w g (.slice A l.length cap) l r) {F : FuncId} {may : Int → Bool} (hF : Asks F may) (hlt : ¬ r.pos < l.length) :
    Calls Try.prog 55 #[.pointer (some ⟨g, 0, none⟩), .func (.func F) #[] #[]] w (RdP g (.slice A l.length cap) l w (byteS l may r).2 (.int .i64 (byteS l may r).1)) := by
  have HR := Lib.hid hR
  have l0 : w.cell? ⟨g, 0, none⟩ = some (.slice A l.length cap) := hR.blk.cell 0
  have l1 : w.cell? ⟨g, 1, none⟩ = some (.int .i64 r.pos) := hR.blk.cell 1
  obtain ⟨_, _, e, hc1, hc2, hrd⟩ := bytes_form hR.bytes
  cases e
  have hlen := hR.len
  have hpos := hR.pos
  have henter := hF.enter
  have h0 : (0 : Int) ≤ (r.pos : Int) := by omega
  have hw1 : IntKind.i64.wrap ((r.pos : Int) + 1) = (r.pos : Int) + 1 := IntWalk.i64_in _ ⟨by omega, by omega⟩
  unfold maxLen at hc2
  have HE := Lib.hid (byteS_no (l := l) (r := r) (may := may) (fun h => hlt h.1) ((r.pos : Int) + 1))
  obtain ⟨p, ok⟩ := r
  obtain rfl : p = l.length := by simp only at hlt hpos; omega
  have l1 : w.cell? ⟨g, 1, none⟩ = some (.int .i64 (l.length : Int)) := l1
  have hw1 : IntKind.i64.wrap ((l.length : Int) + 1) = (l.length : Int) + 1 := hw1
  clear hR hF hrd hlt hpos h0
  go_enter Try.func55, Try.ntmps55
  go_wp2_with fail
  have HRd := Lib.hid (show RdAt w.drew g _ l _ from HR.out.drewN 1)
  have HTd := Lib.hid (show Touch w w.drew [g] from (Touch.drewN w 1).mono (fun g' h => by cases h))
  refine wp_region_held_drew (S := (fun w' => Hid (w'.cell? ⟨g, 0, none⟩ = some (.slice A l.length cap)) ∧ Hid (w'.cell? ⟨g, 1, none⟩ = some (.int .i64 (l.length : Int))))) (by kernel_rfl) ⟨Lib.hid (HRd.out.blk.cell 0), Lib.hid (HRd.out.blk.cell 1)⟩ (fun hHeld0 => ?_)
  clear hHeld0
  generalize w.drew = wd at HRd HTd ⊢
  have hHeld : (fun w' => Hid (w'.cell? ⟨g, 0, none⟩ = some (.slice A l.length cap)) ∧ Hid (w'.cell? ⟨g, 1, none⟩ = some (.int .i64 (l.length : Int)))) wd := ⟨Lib.hid (HRd.out.blk.cell 0), Lib.hid (HRd.out.blk.cell 1)⟩
  refine tke 0 (v := ?v0) ?hy0 hHeld ?rest0
  case hy0 => rintro wq ⟨qT, qB⟩; clear qT qB; simp only [List.getElem_toArray, List.getElem_cons_zero, List.getElem_cons_succ]; go_simp; try with_reducible rfl
  refine tke 1 (v := ?v1) ?hy1 hHeld ?rest1
  case hy1 => rintro wq ⟨qT, qB⟩; clear qT qB; simp only [List.getElem_toArray, List.getElem_cons_zero, List.getElem_cons_succ]; go_simp; try with_reducible rfl
  refine tke 2 (v := ?v2) ?hy2 hHeld ?rest2
  case hy2 => rintro wq ⟨qT, qB⟩; clear qT qB; simp only [List.getElem_toArray, List.getElem_cons_zero, List.getElem_cons_succ]; go_simp; try with_reducible rfl
  refine tke 3 (v := ?v3) ?hy3 hHeld ?rest3
  case hy3 => rintro wq ⟨qT, qB⟩; clear qT qB; simp only [List.getElem_toArray, List.getElem_cons_zero, List.getElem_cons_succ]; go_simp; try with_reducible rfl
  refine tke 4 (v := ?v4) ?hy4 hHeld ?rest4
  case hy4 => rintro wq ⟨qT, qB⟩; have q1 := qB.out; clear qT qB; simp only [List.getElem_toArray, List.getElem_cons_zero, List.getElem_cons_succ]; go_simp; try with_reducible rfl
  refine tke 5 (v := ?v5) ?hy5 hHeld ?rest5
  case hy5 => rintro wq ⟨qT, qB⟩; clear qT qB; simp only [List.getElem_toArray, List.getElem_cons_zero, List.getElem_cons_succ]; go_simp; try with_reducible rfl
  refine tke 6 (v := ?v6) ?hy6 hHeld ?rest6
  case hy6 => rintro wq ⟨qT, qB⟩; clear qT qB; simp only [List.getElem_toArray, List.getElem_cons_zero, List.getElem_cons_succ]; go_simp; try with_reducible rfl
  refine tke 7 (v := ?v7) ?hy7 hHeld ?rest7
  case hy7 => rintro wq ⟨qT, qB⟩; clear qT qB; simp only [List.getElem_toArray, List.getElem_cons_zero, List.getElem_cons_succ]; go_simp; try with_reducible rfl
  refine tke 8 (v := ?v8) ?hy8 hHeld ?rest8
  case hy8 => rintro wq ⟨qT, qB⟩; clear qT qB; simp only [List.getElem_toArray, List.getElem_cons_zero, List.getElem_cons_succ]; go_simp; try with_reducible rfl
  refine tke 9 (v := ?v9) ?hy9 hHeld ?rest9
  case hy9 => rintro wq ⟨qT, qB⟩; have q1 := qB.out; clear qT qB; simp only [List.getElem_toArray, List.getElem_cons_zero, List.getElem_cons_succ]; go_simp; try with_reducible rfl
  refine tke 10 (v := ?v10) ?hy10 hHeld ?rest10
  case hy10 => rintro wq ⟨qT, qB⟩; clear qT qB; simp only [List.getElem_toArray, List.getElem_cons_zero, List.getElem_cons_succ]; go_simp; try with_reducible rfl
  refine tke 11 (v := ?v11) ?hy11 hHeld ?rest11
  case hy11 => rintro wq ⟨qT, qB⟩; clear qT qB; simp only [List.getElem_toArray, List.getElem_cons_zero, List.getElem_cons_succ]; go_simp; try with_reducible rfl
  refine tke 12 (v := ?v12) ?hy12 hHeld ?rest12
  case hy12 => rintro wq ⟨qT, qB⟩; clear qT qB; simp only [List.getElem_toArray, List.getElem_cons_zero, List.getElem_cons_succ]; go_simp; try with_reducible rfl
  refine tke 13 (v := ?v13) ?hy13 hHeld ?rest13
  case hy13 => rintro wq ⟨qT, qB⟩; have q1 := qT.out; clear qT qB; simp only [List.getElem_toArray, List.getElem_cons_zero, List.getElem_cons_succ]; go_simp; try with_reducible rfl
  refine tke 14 (v := ?v14) ?hy14 hHeld ?rest14
  case hy14 => rintro wq ⟨qT, qB⟩; clear qT qB; simp only [List.getElem_toArray, List.getElem_cons_zero, List.getElem_cons_succ]; go_simp; try with_reducible rfl
  refine tke 15 (v := ?v15) ?hy15 hHeld ?rest15
  case hy15 => rintro wq ⟨qT, qB⟩; clear qT qB; simp only [List.getElem_toArray, List.getElem_cons_zero, List.getElem_cons_succ]; go_simp; try with_reducible rfl
  refine tke 16 (v := ?v16) ?hy16 hHeld ?rest16
  case hy16 => rintro wq ⟨qT, qB⟩; clear qT qB; simp only [List.getElem_toArray, List.getElem_cons_zero, List.getElem_cons_succ]; go_simp; try with_reducible rfl
  refine tku 17 hHeld ?_
  refine tku 18 hHeld ?_
  refine tku 19 hHeld ?_
  refine tku 20 hHeld ?_
  refine tku 21 hHeld ?_
  refine tku 22 hHeld ?_
  refine tku 23 hHeld ?_
  refine tku 24 hHeld ?_
  refine tku 25 hHeld ?_
  refine tku 26 hHeld ?_
  refine tku 27 hHeld ?_
  refine tku 28 hHeld ?_
  refine tku 29 hHeld ?_
  refine tke 30 (v := ?v30) ?hy30 hHeld ?rest30
  case hy30 => rintro wq ⟨qT, qB⟩; clear qT qB; simp only [List.getElem_toArray, List.getElem_cons_zero, List.getElem_cons_succ]; go_simp; try with_reducible rfl
  refine wpAnyH_ready (rs := [31]) (by kernel_rfl) (by simp) ?_
  refine AllReadyH.cons (o := _) rfl (fun K hK => ?_) AllReadyH.nil
  try simp only [List.getElem_toArray, List.getElem_cons_zero, List.getElem_cons_succ]
  go_simp
  go_at_call 60
  refine (took_any HRd.out ((l.length : Int) + 1) false (fun h => by cases h)).mono ?_
  rintro e w1 ⟨rfl, hr1, ht1⟩
  rw [Bool.and_false]
  have HR1 := Lib.hid hr1
  have HT1 := Lib.hid (HTd.out.trans ht1 (fun g' h _ => h))
  refine hK.out _ _ ⟨Lib.hid (HR1.out.blk.cell 0), Lib.hid (by have := HR1.out.blk.cell 1; rw [this]; unfold tookS; cases ok <;> simp [rcells])⟩ (fun _ => ?_)
  refine tke 32 (v := ?v32) ?hy32 ⟨Lib.hid (HR1.out.blk.cell 0), Lib.hid (by have := HR1.out.blk.cell 1; rw [this]; unfold tookS; cases ok <;> simp [rcells])⟩ ?rest32
  case hy32 => rintro wq ⟨qT, qB⟩; clear qT qB; simp only [List.getElem_toArray, List.getElem_cons_zero, List.getElem_cons_succ]; go_simp; try with_reducible rfl
  refine wpAnyH_done (by kernel_rfl) ?_ _
  go_wp2_with fail
  go_ret
  rw [HE.out]
  exact ⟨rfl, HR1.out, HT1.out⟩
set_option maxHeartbeats 1000000 in
set_option maxRecDepth 100000 in
theorem byte_yes {r : Rd} {A : Option Addr} {cap : Nat} (hR : RdAt w g (.slice A l.length cap) l r) {F : FuncId} {may : Int → Bool} (hF : Asks F may) (hlt : r.pos < l.length) (hm : may (l.getD r.pos 0) = true) (hk : r.ok = true) :
    Calls Try.prog 55 #[.pointer (some ⟨g, 0, none⟩), .func (.func F) #[] #[]] w (RdP g (.slice A l.length cap) l w (byteS l may r).2 (.int .i64 (byteS l may r).1)) := by
  have HR := Lib.hid hR
  have l0 : w.cell? ⟨g, 0, none⟩ = some (.slice A l.length cap) := hR.blk.cell 0
  have l1 : w.cell? ⟨g, 1, none⟩ = some (.int .i64 r.pos) := hR.blk.cell 1
  obtain ⟨_, _, e, hc1, hc2, hrd⟩ := bytes_form hR.bytes
  cases e
  have hlen := hR.len
  have hpos := hR.pos
  have henter := hF.enter
  have h0 : (0 : Int) ≤ (r.pos : Int) := by omega
  have hw1 : IntKind.i64.wrap ((r.pos : Int) + 1) = (r.pos : Int) + 1 := IntWalk.i64_in _ ⟨by omega, by omega⟩
  unfold maxLen at hc2
  obtain ⟨b, off, rfl, hb, hcl⟩ := hrd (by omega)
  have HNE := Lib.hid (show b ≠ g from Nat.ne_of_lt (hR.old (fun e => by rw [e] at hlt; cases hlt) b rfl))
  have hcell : w.cell? ⟨b, off + r.pos, none⟩ = some (.int .u8 (l.getD r.pos 0)) := hcl r.pos hlt
  have hoc := oct_getD hR.oct r.pos
  have HA := Lib.hid (fun W => hF.ask W (l.getD r.pos 0) hoc.1 hoc.2)
  obtain ⟨c, hcc⟩ : ∃ c, c = l.getD r.pos 0 := ⟨_, rfl⟩
  have HCC := Lib.hid hcc
  rw [← hcc] at hcell hoc hm
  have HA : Hid (∀ W, Calls Try.prog F #[.int .i64 c] W fun e W' => e = .returned (.bool (may c)) ∧ W = W') := by rw [hcc]; exact HA
  rw [hm] at HA
  have h1 : (r.pos : Int) < (l.length : Int) := by omega
  have hw2 : IntKind.i64.wrap c = c := IntWalk.i64_in _ ⟨by omega, by omega⟩
  have HE := Lib.hid (byteS_yes (l := l) (r := r) (may := may) ⟨hlt, by rw [← HCC.out]; exact hm⟩ hk)
  rw [← HCC.out] at HE
  have HK := Lib.hid hk
  have hw3 : IntKind.i64.wrap ((r.pos : Int) + 1 - 1) = (r.pos : Int) := by rw [show (r.pos : Int) + 1 - 1 = (r.pos : Int) from by omega]; exact IntWalk.i64_in _ ⟨by omega, by omega⟩
  clear hR hm hlt hF hrd hcl hcc hk
  go_enter Try.func55, Try.ntmps55
  go_wp2_with fail
  go_still_tail 31, (by kernel_rfl)
  still_call ((HA.out w.drew).mono (fun _ _ ⟨x, y⟩ => ⟨x, y.symm⟩))
  repeat still_step
  refine wpStill_nil ?_
  change wpList _ _ _ _ _ w.drew
  have HRd := Lib.hid (show RdAt w.drew g _ l _ from HR.out.drewN 1)
  have HTd := Lib.hid (show Touch w w.drew [g] from (Touch.drewN w 1).mono (fun g' h => by cases h))
  generalize w.drew = w3 at HRd HTd ⊢
  go_wp2_with (go_at_call 60; refine (took_any HRd.out ((r.pos : Int) + 1) true (fun h => ⟨by omega, by omega⟩)).mono ?_; rintro e w1 ⟨rfl, hr1, ht1⟩; rw [HK.out, Bool.true_and]; have HR1 := Lib.hid hr1; have HT1 := Lib.hid ht1; clear hr1 ht1)
  have HR2 := Lib.hid HR1.out.blk
  have z0 := fun n => (HR1.out.drewN n).blk.cell 0
  have z1 : ∀ n, (w1.drewN n).cell? ⟨g, 1, none⟩ = some (.int .i64 ((r.pos : Int) + 1)) := fun n => by
    have := (HR1.out.drewN n).blk.cell 1
    rw [this]; unfold tookS; rw [if_pos HK.out, if_pos rfl]; simp [rcells]
  have zc : ∀ n, (w1.drewN n).cell? ⟨b, off + r.pos, none⟩ = some (.int .u8 c) := fun n => by
    have := (HTd.out.trans HT1.out (fun g' h _ => h)).cell (a := ⟨b, off + r.pos, none⟩) hcell (by simpa using HNE.out)
    exact this
  go_quiet (fail)
  go_wp2_with fail
  go_ret
  rw [HE.out]
  exact ⟨rfl, HR1.out.drewN _, ((HTd.out.trans HT1.out (fun g' h _ => h)).trans (Touch.drewN w1 _) (fun g' h _ => by cases h))⟩
theorem byte_r {v : Value} {r : Rd} (hR : RdAt w g v l r) {F : FuncId} {may : Int → Bool} (hF : Asks F may) :
    Calls Try.prog 55 #[.pointer (some ⟨g, 0, none⟩), .func (.func F) #[] #[]] w (RdP g v l w (byteS l may r).2 (.int .i64 (byteS l may r).1)) := by
  obtain ⟨A, cap, rfl, _⟩ := bytes_form hR.bytes
  by_cases hlt : r.pos < l.length
  · cases hm : may (l.getD r.pos 0) with
    | false => exact byte_no hR hF hlt hm
    | true =>
      cases hk : r.ok with
      | true => exact byte_yes hR hF hlt hm hk
      | false => exact byte_bad hR hF hlt hm hk
  · exact byte_end hR hF hlt
end
end Go.Proofs.Ytgemnmceflcpcaa
