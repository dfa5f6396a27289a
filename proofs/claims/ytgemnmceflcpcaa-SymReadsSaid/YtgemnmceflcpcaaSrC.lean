/- The document's reader: its place, a fault, a number, a text. -/
import Derived.Test.YtgemnmceflcpcaaSdE
import Derived.Test.YtgemnmceflcpcaaSrB
namespace Go.Proofs.Ytgemnmceflcpcaa
open Go Go.RowKit Go.Lib Go.Proofs.Ytgemnmceflcpcaa.Sy Pl
set_option linter.unusedVariables false
set_option linter.unusedSimpArgs false
/-- The document's reader of the bytes l, at r. -/
structure RrAt (w : World) (g : Nat) (v : Value) (l : List Int) (r : Rd) : Prop where
  blk : Blk w g (rcells v r.pos r.bad) 112
  bytes : BytesAt w v l
  old : l ≠ [] → ∀ b, v.ownBlock = some b → b < g
  oct : Oct l
  len : l.length ≤ 2000000
  pos : r.pos ≤ l.length
theorem RrAt.step {w w' : World} {g : Nat} {v : Value} {l : List Int} {r : Rd} (h : RrAt w g v l r) (b : Below w.heap.size w w') : RrAt w' g v l r := ⟨h.blk.step b, h.bytes.below b, h.old, h.oct, h.len, h.pos⟩
theorem RrAt.touch {w w' : World} {g : Nat} {v : Value} {l : List Int} {r : Rd} {s : List Nat} (h : RrAt w g v l r) (T : Touch w w' s) (hs : ∀ x ∈ s, g < x) : RrAt w' g v l r :=
  ⟨T.blk h.blk (fun hm => Nat.lt_irrefl _ (hs g hm)), Touch.bytes h.bytes T (fun hl b hb hm => by have := h.old hl b hb; have := hs b hm; omega), h.old, h.oct, h.len, h.pos⟩
theorem RrAt.setTo {w w' : World} {g : Nat} {v : Value} {l : List Int} {r r' : Rd} (h : RrAt w g v l r) (hb : Blk w' g (rcells v r'.pos r'.bad) 112) (T : Touch w w' [g]) (hp : r'.pos ≤ l.length) : RrAt w' g v l r' :=
  ⟨hb, Touch.bytes h.bytes T (fun hl b hb => by have := h.old hl b hb; simp only [List.mem_singleton]; omega), h.old, h.oct, h.len, hp⟩
def RrP (g : Nat) (v : Value) (l : List Int) (w : World) (r' : Rd) (a : Value) (e : Ending) (w' : World) : Prop := e = .returned a ∧ RrAt w' g v l r' ∧ Touch w w' [g]
section
variable {w : World} {g : Nat} {v : Value} {l : List Int}
theorem RrAt.drewN {r : Rd} (h : RrAt w g v l r) (n : Nat) : RrAt (w.drewN n) g v l r := h.step (belDrewN (Below.refl _ _) n)
theorem RrAt.setAt {r : Rd} (h : RrAt w g v l r) (hk : r.ok = true) {q : Nat} (hq : q ≤ l.length) : RrAt (w.setCell ⟨g, 1, none⟩ (.int .i64 (q : Int))) g v l (tookS r (q : Int) true) := by
  have hb := h.blk.set 1 (.int .i64 (q : Int))
  obtain ⟨p, k⟩ := r
  cases hk
  refine h.setTo ?_ (Touch.set w ⟨g, 1, none⟩ _) ?_
  · simp only [tookS, if_true, Rd.bad]; rw [show (((q : Int).toNat : Nat) : Int) = (q : Int) from by omega]; exact hb
  · simp only [tookS, if_true]; omega
set_option maxHeartbeats 2000000 in
theorem rwrong_any {r : Rd} (hR : RrAt w g v l r) (x : Int) :
    Calls Try.prog 66 #[.pointer (some ⟨g, 0, none⟩)] w fun e w' => (∃ a, e = .returned a) ∧ RrAt w' g v l (tookS r x false) ∧ Touch w w' [g] := by
  have HR := Lib.hid hR
  have l1 := hR.blk.cell 1
  have l2 := hR.blk.cell 2
  have f1 := hR.blk.frozen 1
  have f2 := hR.blk.frozen 2
  obtain ⟨p, k⟩ := r
  cases k with
  | true =>
    replace l2 : w.cell? ⟨g, 2, none⟩ = some (.int .i64 (-1)) := l2
    have hpp : (0 : Int) ≤ (p : Int) := by omega
    clear hR
    go_enter Try.func66, Try.ntmps66
    go_wp2_with fail
    go_end0
    have hb := HR.out.blk.set 2 (.int .i64 (p : Int))
    refine ⟨⟨_, rfl⟩, ?_, (Touch.set w ⟨g, 2, none⟩ _)⟩
    refine HR.out.setTo (r' := tookS ⟨p, true⟩ x false) ?_ (Touch.set w ⟨g, 2, none⟩ _) ?_
    · simp only [tookS, if_true, Rd.bad]; exact hb
    · simp only [tookS, if_true]; exact HR.out.pos
  | false =>
    replace l2 : w.cell? ⟨g, 2, none⟩ = some (.int .i64 (p : Int)) := l2
    have hpp : (0 : Int) ≤ (p : Int) := by omega
    clear hR
    go_enter Try.func66, Try.ntmps66
    go_wp2_with fail
    go_end0
    exact ⟨⟨_, rfl⟩, by simp only [tookS]; exact HR.out, Touch.refl _ _⟩
theorem rnumber_quiet {r : Rd} (hR : RrAt w g v l r) (n : Nat) : Calls Try.prog 87 #[v, .int .i64 r.pos] (w.drewN n) fun e w' => e = .returned (uintV (uintL (l.drop r.pos)) r.pos) ∧ w' = w.drewN n :=
  (rnumber_any (hR.drewN n).bytes hR.oct (by have := hR.len; omega) r.pos hR.pos).mono fun e w' ⟨a, b⟩ => ⟨a, b.symm⟩
theorem rtext_quiet {r : Rd} (hR : RrAt w g v l r) (most : Nat) (hm : most ≤ 1000) (n : Nat) : Calls Try.prog 86 #[v, .int .i64 r.pos, .int .i64 most] (w.drewN n) fun e w' => e = .returned (textV (textL l most r.pos)) ∧ w' = w.drewN n :=
  (rtext_any (hR.drewN n).bytes hR.oct (by have := hR.len; omega) r.pos hR.pos most hm).mono fun e w' ⟨a, b⟩ => ⟨a, b.symm⟩
theorem RrAt.isOk {r : Rd} (h : RrAt w g v l r) (hk : r.ok = true) : w.cell? ⟨g, 2, none⟩ = some (.int .i64 (-1)) := by
  have := h.blk.cell 2
  obtain ⟨p, k⟩ := r; cases hk; exact this
theorem RrAt.isBad {r : Rd} (h : RrAt w g v l r) (hk : r.ok = false) : w.cell? ⟨g, 2, none⟩ = some (.int .i64 r.pos) := by
  have := h.blk.cell 2
  obtain ⟨p, k⟩ := r; cases hk; exact this
theorem numS_not {r : Rd} {most : Nat} (hr : r.ok = false) : numS l most r = (0, r) := by
  unfold numS; rw [if_neg (by rw [hr]; decide)]
theorem textS_not {r : Rd} {most : Nat} (hr : r.ok = false) : textS l most r = (⟨#[]⟩, r) := by
  unfold textS; rw [if_neg (by rw [hr]; decide)]
set_option maxHeartbeats 4000000 in
set_option maxRecDepth 100000 in
theorem rnumber_r {r : Rd} (hR : RrAt w g v l r) (most : Nat) (hm : most ≤ 4294967295) :
    Calls Try.prog 62 #[.pointer (some ⟨g, 0, none⟩), .int .u32 most] w (RrP g v l w (numS l most r).2 (.int .i64 (numS l most r).1)) := by
  have HR := Lib.hid hR
  have l0 := hR.blk.cell 0
  have l1 := hR.blk.cell 1
  have f1 := hR.blk.frozen 1
  have HM := Lib.hid hm
  have hp0 : (0 : Int) ≤ (r.pos : Int) := by omega
  have HQ := Lib.hid (rnumber_quiet hR)
  have HT := Lib.hid (fun (n : Nat) => rwrong_any (hR.drewN n) 0)
  cases hk : r.ok with
  | false =>
    have l2 := hR.isBad hk
    have HE := Lib.hid (numS_not (l := l) (most := most) hk)
    clear hR hm hk
    go_enter Try.func62, Try.ntmps62
    go_wp2_with fail
    go_ret
    rw [HE.out]
    exact ⟨rfl, HR.out, Touch.refl _ _⟩
  | true =>
    have l2 := hR.isOk hk
    cases hu : uintL (l.drop r.pos) with
    | none =>
      rw [hu] at HQ
      have HQ : Hid (∀ n, Calls Try.prog 87 #[v, .int .i64 r.pos] (w.drewN n) fun e w' => e = .returned (.tuple #[.int .u32 0, .int .i64 0, .bool false]) ∧ w' = w.drewN n) := HQ
      have HE := Lib.hid (numS_no (most := most) (.inl hu) 0)
      clear hR hu hm hk
      go_enter Try.func62, Try.ntmps62
      go_wp2_with fail
      go_quiet ((go_at_call 87; exact Calls.quiet_of_same (HQ.out _)))
      go_wp2_with (go_at_call 66; refine (HT.out _).mono ?_; rintro e w1 ⟨⟨a, rfl⟩, hr1, ht1⟩; have HR1 := Lib.hid hr1; have HT1 := Lib.hid ht1; clear hr1 ht1)
      go_ret
      rw [HE.out]
      exact ⟨rfl, HR1.out, HT1.out.of_drew⟩
    | some nk =>
      obtain ⟨n, k⟩ := nk
      rw [hu] at HQ
      have hkl := (uintL_len (oct_drop hR.oct r.pos) hu).2.1
      rw [List.length_drop] at hkl
      have hn9 : (n : Int) ≤ 4294967295 := by have := (uintL_dec (oct_drop hR.oct r.pos) hu).1; omega
      have hpl := hR.pos
      obtain ⟨q, hq⟩ : ∃ q, r.pos + k = q := ⟨_, rfl⟩
      have HQ : Hid (∀ nn, Calls Try.prog 87 #[v, .int .i64 r.pos] (w.drewN nn) fun e w' => e = .returned (.tuple #[.int .u32 n, .int .i64 (q : Int), .bool true]) ∧ w' = w.drewN nn) := by rw [← hq]; exact HQ
      have hql : q ≤ l.length := by omega
      by_cases hn : n ≤ most
      · have hn1 : (n : Int) ≤ (most : Int) := by omega
        have HE := Lib.hid (numS_yes hu hn hk)
        rw [hq] at HE
        have HS := Lib.hid (fun n => RrAt.setAt (hR.drewN n) hk hql)
        clear hR hu hm hkl hpl hq hk hql
        go_enter Try.func62, Try.ntmps62
        go_wp2_with fail
        go_quiet ((go_at_call 87; exact Calls.quiet_of_same (HQ.out _)))
        go_wp2_with fail
        go_ret
        rw [HE.out]
        exact ⟨rfl, HS.out _, (Touch.set _ ⟨g, 1, none⟩ _).of_drew⟩
      · have hn1 : (most : Int) < (n : Int) := by omega
        have HE := Lib.hid (numS_no (most := most) (.inr ⟨n, k, hu, by omega⟩) 0)
        clear hR hu hm hkl hpl hq hk
        go_enter Try.func62, Try.ntmps62
        go_wp2_with fail
        go_quiet ((go_at_call 87; exact Calls.quiet_of_same (HQ.out _)))
        go_wp2_with (go_at_call 66; refine (HT.out _).mono ?_; rintro e w1 ⟨⟨a, rfl⟩, hr1, ht1⟩; have HR1 := Lib.hid hr1; have HT1 := Lib.hid ht1; clear hr1 ht1)
        go_ret
        rw [HE.out]
        exact ⟨rfl, HR1.out, HT1.out.of_drew⟩
set_option maxHeartbeats 4000000 in
set_option maxRecDepth 100000 in
theorem rtext_r {r : Rd} (hR : RrAt w g v l r) (most : Nat) (hm : most ≤ 1000) :
    Calls Try.prog 61 #[.pointer (some ⟨g, 0, none⟩), .int .i64 most] w (RrP g v l w (textS l most r).2 (.string (textS l most r).1)) := by
  have HR := Lib.hid hR
  have l0 := hR.blk.cell 0
  have l1 := hR.blk.cell 1
  have f1 := hR.blk.frozen 1
  have HM := Lib.hid hm
  have hp0 : (0 : Int) ≤ (r.pos : Int) := by omega
  have HQ := Lib.hid (rtext_quiet hR most hm)
  have HT := Lib.hid (fun (n : Nat) => rwrong_any (hR.drewN n) 0)
  cases hk : r.ok with
  | false =>
    have l2 := hR.isBad hk
    have HE := Lib.hid (textS_not (l := l) (most := most) hk)
    clear hR hm hk
    go_enter Try.func61, Try.ntmps61
    go_wp2_with fail
    go_ret
    rw [HE.out]
    exact ⟨rfl, HR.out, Touch.refl _ _⟩
  | true =>
    have l2 := hR.isOk hk
    cases hu : textL l most r.pos with
    | none =>
      rw [hu] at HQ
      have HQ : Hid (∀ n, Calls Try.prog 86 #[v, .int .i64 r.pos, .int .i64 most] (w.drewN n) fun e w' => e = .returned (.tuple #[.string ⟨#[]⟩, .int .i64 0, .bool false]) ∧ w' = w.drewN n) := HQ
      have HE := Lib.hid (textS_no hu 0)
      clear hR hu hm hk
      go_enter Try.func61, Try.ntmps61
      go_wp2_with fail
      go_quiet ((go_at_call 86; exact Calls.quiet_of_same (HQ.out _)))
      go_wp2_with (go_at_call 66; refine (HT.out _).mono ?_; rintro e w1 ⟨⟨a, rfl⟩, hr1, ht1⟩; have HR1 := Lib.hid hr1; have HT1 := Lib.hid ht1; clear hr1 ht1)
      go_ret
      rw [HE.out]
      exact ⟨rfl, HR1.out, HT1.out.of_drew⟩
    | some nk =>
      obtain ⟨s, q⟩ := nk
      rw [hu] at HQ
      have hql := (textL_len hu).1
      have HQ : Hid (∀ nn, Calls Try.prog 86 #[v, .int .i64 r.pos, .int .i64 most] (w.drewN nn) fun e w' => e = .returned (.tuple #[.string s, .int .i64 (q : Int), .bool true]) ∧ w' = w.drewN nn) := HQ
      have HE := Lib.hid (textS_yes hu hk)
      have HS := Lib.hid (fun n => RrAt.setAt (hR.drewN n) hk hql)
      clear hR hu hm hk hql
      go_enter Try.func61, Try.ntmps61
      go_wp2_with fail
      go_quiet ((go_at_call 86; exact Calls.quiet_of_same (HQ.out _)))
      go_wp2_with fail
      go_ret
      rw [HE.out]
      exact ⟨rfl, HS.out _, (Touch.set _ ⟨g, 1, none⟩ _).of_drew⟩
end
end Go.Proofs.Ytgemnmceflcpcaa
