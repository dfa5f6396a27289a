/- The document's reader: a constant. -/
import Derived.Test.YtgemnmceflcpcaaSrD
import Derived.Test.YtgemnmceflcpcaaSdI
import Derived.Deep.CutRange
import Derived.BigQuiet
namespace Go.Proofs.Ytgemnmceflcpcaa
open Go Go.RowKit Go.Lib Go.BigFrame Go.Proofs.Ytgemnmceflcpcaa.Sy Pl
set_option linter.unusedVariables false
set_option linter.unusedSimpArgs false
attribute [local go_sem ↓] exec_load_const exec_store_const
section
variable {w : World} {g : Nat} {v : Value} {l : List Int}
theorem RrAt.new {r : Rd} (h : RrAt w g v l r) (cs : Array Value) (t : TypeId) : RrAt (w.alloc (.cells cs t)) g v l r := h.step ((Below.refl _ _).alloc (Nat.le_refl _) _)
theorem RrAt.setAt4 {r : Rd} (h : RrAt w g v l r) (hk : r.ok = true) (hq : r.pos + 4 ≤ l.length) : RrAt (w.setCell ⟨g, 1, none⟩ (.int .i64 ((r.pos : Int) + 4))) g v l (tookS r ((r.pos : Int) + 4) true) := by
  have := h.setAt hk hq
  rw [show ((r.pos + 4 : Nat) : Int) = (r.pos : Int) + 4 from by omega] at this
  exact this
/-- May no constant's type stand here? -/
def noType (l : List Int) (r : Rd) : Bool := r.ok && (decide (r.pos < l.length) && (decide (l.getD r.pos 0 = 4) || decide (l.getD r.pos 0 = 6)))
def typed (l : List Int) (r : Rd) : Rd := if noType l r = true then tookS r 0 false else r
theorem byteS_type (l : List Int) (r : Rd) : byteS l (within 1 7) (typed l r) = byteS l typeB r := by
  cases h : noType l r with
  | true =>
    unfold typed; rw [if_pos h]
    simp only [noType, Bool.and_eq_true, Bool.or_eq_true, decide_eq_true_eq] at h
    obtain ⟨hk, h1, h2⟩ := h
    have hb : (tookS r 0 false).ok = false := by unfold tookS; rw [if_pos hk, if_neg (by decide)]
    rw [byteS_not hb, byteS_no (may := typeB) (fun x => by have := x.2; unfold typeB at this; simp only [decide_eq_true_eq] at this; omega) 0]
  | false =>
    unfold typed; rw [if_neg (by rw [h]; decide)]
    cases hk : r.ok with
    | false => rw [byteS_not hk, byteS_not hk]
    | true =>
      unfold byteS
      rw [if_pos hk, if_pos hk]
      simp only [noType, hk, Bool.true_and, Bool.and_eq_false_iff, Bool.or_eq_false_iff, decide_eq_false_iff_not] at h
      by_cases hl : r.pos < l.length
      · have h2 := h.resolve_left (fun x => x hl)
        have e : within 1 7 (l.getD r.pos 0) = typeB (l.getD r.pos 0) := by
          rw [Bool.eq_iff_iff, within_iff]
          unfold typeB; simp only [decide_eq_true_eq]; omega
        rw [e]
      · rw [if_neg (fun x => hl x.1), if_neg (fun x => hl x.1)]
set_option maxHeartbeats 4000000 in
set_option maxRecDepth 100000 in
theorem rconstant_r {r : Rd} (hR : RrAt w g v l r) :
    Calls Try.prog 63 #[.pointer (some ⟨g, 0, none⟩)] w (RrP g v l w (constS l r).2 (.agg (ccells (constS l r).1))) := by
  have hg := hR.blk.lt
  have HR := Lib.hid hR
  clear hR
  go_enter Try.func63, Try.ntmps63
  go_wp2_with fail
  refine (rtext_r (HR.out.new _ _) 20 (by decide)).mono ?_
  rintro e w1 ⟨rfl, hR1, hT1⟩
  have KR1 := Lib.hid (hT1.blk (Blk.new w zCst 48) (by simp; omega))
  have HR1 := Lib.hid hR1
  have HT1 := Lib.hid hT1.new
  obtain ⟨a, r1, ha⟩ : ∃ a r1, textS l 20 r = (a, r1) := ⟨_, _, rfl⟩
  simp only [ha] at HR1 ⊢
  have HA := Lib.hid ha
  have hst1 := store_blk_new w1 zCst (ccells ⟨a, 0, 0, ⟨#[]⟩, true⟩) 48 sz_const rfl rfl (ccells_one _)
  clear hR1 hT1 ha
  go_upto_region 2 with fail
  have hg1 := HR1.out.blk.lt
  have KC2 := Lib.hid (Blk.new w1 (ccells ⟨a, 0, 0, ⟨#[]⟩, true⟩) 48)
  have KR2 := Lib.hid (KR1.out.old (.cells (ccells ⟨a, 0, 0, ⟨#[]⟩, true⟩) 48))
  have HR2 := Lib.hid (HR1.out.new (ccells ⟨a, 0, 0, ⟨#[]⟩, true⟩) 48)
  have HT2 : Hid (Touch w (w1.alloc (.cells (ccells ⟨a, 0, 0, ⟨#[]⟩, true⟩) 48)) [g]) := Lib.hid (HT1.out.trans ((Touch.alloc w1 _).mono (r' := [g]) (fun x h => by cases h)) (fun x h _ => h))
  have hlt1 := KR1.out.lt
  generalize w1.alloc (.cells (ccells ⟨a, 0, 0, ⟨#[]⟩, true⟩) 48) = w2 at KC2 KR2 HR2 HT2 ⊢
  generalize w1.heap.size = gc at *
  clear hst1 KR1 HR1 HT1
  go_cut [51] from 9 to 52 (fun s51 wx => s51 = .bool (noType l r1) ∧ ∃ nq, wx = w2.drewN nq)
  case first =>
    have hk1 := KC2
    cases hk : r1.ok with
    | false =>
      have l2 := HR2.out.isBad hk
      obtain ⟨p1, hp1⟩ : ∃ p : Int, p = (r1.pos : Int) := ⟨_, rfl⟩
      have hp0 : 0 ≤ p1 := by omega
      have hpd : decide (p1 < 0) = false := by simpa using hp0
      rw [← hp1] at l2
      clear hp1
      have HN := Lib.hid (show noType l r1 = false by unfold noType; rw [hk]; rfl)
      clear hk
      go_wp2_with fail
      go_big_quiet (fail)
      go_wp2_with fail
      go_meet
      exact ⟨by rw [HN.out], _, rfl⟩
    | true =>
      have l2 := HR2.out.isOk hk
      obtain ⟨A, cap, rfl, hc1, hc2, hrd⟩ := bytes_form HR2.out.bytes
      unfold maxLen at hc2
      have l0 : w2.cell? ⟨g, 0, none⟩ = some (.slice A l.length cap) := HR2.out.blk.cell 0
      have l1 := HR2.out.blk.cell 1
      have h0 : (0 : Int) ≤ (r1.pos : Int) := by omega
      by_cases hlt : r1.pos < l.length
      · have h1 : (r1.pos : Int) < (l.length : Int) := by omega
        obtain ⟨b, off, rfl, hb, hcl⟩ := hrd (by omega)
        have hcell : w2.cell? ⟨b, off + r1.pos, none⟩ = some (.int .u8 (l.getD r1.pos 0)) := hcl r1.pos hlt
        have HN := Lib.hid (show noType l r1 = (decide (l.getD r1.pos 0 = 4) || decide (l.getD r1.pos 0 = 6)) by unfold noType; rw [hk, decide_eq_true hlt]; rfl)
        have hoc := oct_getD HR2.out.oct r1.pos
        obtain ⟨c, hcc⟩ : ∃ c, c = l.getD r1.pos 0 := ⟨_, rfl⟩
        rw [← hcc] at hcell HN hoc
        clear hrd hcl hcc hk
        by_cases h4 : c = 4
        · subst h4
          go_wp2_with fail
          go_big_quiet (fail)
          go_wp2_with fail
          go_meet
          exact ⟨by rw [HN.out]; rfl, _, rfl⟩
        · have h4b : (c == 4) = false := by simpa using h4
          have h4d : decide (c = 4) = false := by simpa using h4
          by_cases h6 : c = 6
          · subst h6
            go_wp2_with fail
            go_big_quiet (fail)
            go_wp2_with fail
            go_meet
            exact ⟨by rw [HN.out]; rfl, _, rfl⟩
          · have h6b : (c == 6) = false := by simpa using h6
            have h6d : decide (c = 6) = false := by simpa using h6
            have HN2 := Lib.hid (show noType l r1 = false by rw [HN.out, h4d, h6d]; rfl)
            clear HN h4d h6d
            go_wp2_with fail
            go_big_quiet (fail)
            go_wp2_with fail
            go_meet
            exact ⟨by rw [HN2.out], _, rfl⟩
      · have h1 : (l.length : Int) ≤ (r1.pos : Int) := by omega
        have hn1 : ¬ r1.pos < l.length := hlt
        have hn2 : ¬ ((r1.pos : Int) < (l.length : Int)) := by omega
        have hnd : decide ((r1.pos : Int) < (l.length : Int)) = false := by simpa using h1
        have HN := Lib.hid (show noType l r1 = false by unfold noType; rw [decide_eq_false hlt, hk]; rfl)
        clear hrd hk hlt
        go_wp2_with fail
        go_big_quiet (fail)
        go_wp2_with fail
        go_meet
        exact ⟨by rw [HN.out], _, rfl⟩
  case rest =>
  obtain ⟨rfl, nq, rfl⟩ := hcut
  go_upto_if 51 with fail
  go_cut [51] from 52 to 54 (fun s51 wx => Hid (Blk wx gc (ccells ⟨a, 0, 0, ⟨#[]⟩, true⟩) 48) ∧ Hid (Blk wx w.heap.size zCst 48) ∧ Hid (RrAt wx g v l (typed l r1)) ∧ Hid (Touch w wx [g]))
  case first =>
    cases hN : noType l r1 with
    | true =>
      have HN := Lib.hid (show typed l r1 = tookS r1 0 false by unfold typed; rw [if_pos hN])
      clear hN
      go_wp2_with (go_at_call 66; refine (rwrong_any (HR2.out.drewN nq) 0).mono ?_; rintro e w3 ⟨⟨x, rfl⟩, hr1, ht1⟩; have HR3 := Lib.hid hr1; have KC3 := Lib.hid (ht1.of_drew.blk KC2.out (by simp; omega)); have KR3 := Lib.hid (ht1.of_drew.blk KR2.out (by simp; omega)); have HT3 := Lib.hid (HT2.out.trans ht1.of_drew (fun x h _ => h)); clear hr1 ht1)
      go_meet
      exact ⟨KC3, KR3, by rw [HN.out]; exact HR3, HT3⟩
    | false =>
      have HN := Lib.hid (show typed l r1 = r1 by unfold typed; rw [if_neg (by rw [hN]; decide)])
      clear hN
      go_wp2_with fail
      go_meet
      exact ⟨Lib.hid (KC2.out.step (belDrewN (Below.refl _ _) nq)), Lib.hid (KR2.out.step (belDrewN (Below.refl _ _) nq)), by rw [HN.out]; exact Lib.hid (HR2.out.drewN nq), Lib.hid (HT2.out.trans (Touch.drewN w2 nq) (fun x h _ => by cases h))⟩
  case rest =>
  obtain ⟨KC2b, KR2b, HR2b, HT2b⟩ := hcut
  clear KC2 KR2 HR2 HT2
  go_wp2_with fail
  refine (one_any HR2b.out 1 7).mono ?_
  rintro e w3 ⟨rfl, hR3, hT3⟩
  have KC3 := Lib.hid (hT3.blk KC2b.out (by simp; omega))
  have KR3 := Lib.hid (hT3.blk KR2b.out (by simp; omega))
  have HR3 := Lib.hid hR3
  have HT3 := Lib.hid (HT2b.out.trans hT3 (fun x h _ => h))
  rw [byteS_type] at HR3 ⊢
  obtain ⟨t, r2, ht⟩ : ∃ t r2, byteS l typeB r1 = (t, r2) := ⟨_, _, rfl⟩
  simp only [ht] at HR3 ⊢
  have HTY := Lib.hid ht
  clear hR3 hT3 ht KC2b KR2b HR2b HT2b
  have c1 := KC3.out.cell 1
  have f1 := KC3.out.frozen 1
  have KC4 : Hid (Blk (w3.setCell ⟨gc, 1, none⟩ (.int .i64 t)) gc (ccells ⟨a, t, 0, ⟨#[]⟩, true⟩) 48) := Lib.hid (KC3.out.set 1 _)
  have KR4 := Lib.hid (KR3.out.far (p := ⟨gc, 1, none⟩) (Nat.ne_of_lt hlt1) (.int .i64 t))
  have HR4 := Lib.hid (HR3.out.touch (Touch.set w3 ⟨gc, 1, none⟩ (.int .i64 t)) (fun x hx => by simp only [List.mem_singleton] at hx; subst hx; omega))
  have HT4 := Lib.hid (Touch.trans HT3.out ((Touch.set w3 ⟨gc, 1, none⟩ (.int .i64 t)).mono (r' := [gc]) (fun x h => h)) (fun x hx hlt => by simp only [List.mem_singleton] at hx; omega))
  have d1 := KC4.out.cell 1
  go_upto_region 5 with fail
  generalize w3.setCell ⟨gc, 1, none⟩ (.int .i64 t) = w4 at KC4 KR4 HR4 HT4 d1 ⊢
  clear c1 f1 KC3 KR3 HR3 HT3
  by_cases h7 : t = 7
  · subst h7
    go_wp2_with fail
    refine (rtext_r HR4.out 200 (by decide)).mono ?_
    rintro e w5 ⟨rfl, hR5, hT5⟩
    have KC5 := Lib.hid (hT5.blk KC4.out (by simp; omega))
    have KR5 := Lib.hid (hT5.blk KR4.out (by simp; omega))
    have HR5 := Lib.hid hR5
    have HT5 := Lib.hid (HT4.out.trans hT5 (fun x h _ => h))
    obtain ⟨s, r4, hs⟩ : ∃ s r4, textS l 200 r2 = (s, r4) := ⟨_, _, rfl⟩
    simp only [hs] at HR5 ⊢
    have HS := Lib.hid hs
    clear hR5 hT5 hs d1 KC4 KR4 HR4 HT4
    have c3 := KC5.out.cell 3
    have f3 := KC5.out.frozen 3
    have KC6 : Hid (Blk (w5.setCell ⟨gc, 3, none⟩ (.string s)) gc (ccells ⟨a, 7, 0, s, true⟩) 48) := Lib.hid (KC5.out.set 3 _)
    have KR6 := Lib.hid (KR5.out.far (p := ⟨gc, 3, none⟩) (Nat.ne_of_lt hlt1) (.string s))
    have HR6 := Lib.hid (HR5.out.touch (Touch.set w5 ⟨gc, 3, none⟩ (.string s)) (fun x hx => by simp only [List.mem_singleton] at hx; subst hx; omega))
    have HT6 := Lib.hid (Touch.trans HT5.out ((Touch.set w5 ⟨gc, 3, none⟩ (.string s)).mono (r' := [gc]) (fun x h => h)) (fun x hx hlt => by simp only [List.mem_singleton] at hx; omega))
    go_upto_region 7 with fail
    generalize w5.setCell ⟨gc, 3, none⟩ (.string s) = w6 at KC6 KR6 HR6 HT6 ⊢
    clear c3 f3 KC5 KR5 HR5 HT5
    have hl5 := load_blk Try.underlying48 rfl sz_const KC6.out rfl
    have hst5 := store_blk sz_const KR6.out rfl rfl (ccells_one ⟨a, 7, 0, s, true⟩)
    have hres := loadVar_blk Try.underlying48 rfl sz_const (KR6.out.setRow (ccells ⟨a, 7, 0, s, true⟩)) rfl
    have HE := Lib.hid (show constS l r = (⟨a, 7, 0, s, true⟩, r4) by unfold constS; simp only [HA.out, HTY.out, if_true, HS.out])
    have HRF := Lib.hid (HR6.out.touch (Touch.row w6 w.heap.size (ccells ⟨a, 7, 0, s, true⟩)) (fun x hx => by simp only [List.mem_singleton] at hx; subst hx; omega))
    have HTF := Lib.hid (Touch.trans HT6.out (Touch.row w6 w.heap.size (ccells ⟨a, 7, 0, s, true⟩)) (fun x hx hlt => by simp only [List.mem_singleton] at hx; omega))
    go_wp2_with fail
    rw [HE.out]
    refine bodyPost_ret (v := .agg (ccells ⟨a, 7, 0, s, true⟩)) ?_ rfl ⟨rfl, HRF.out, HTF.out⟩
    simp [results, Try.results63, asAddr, hres]
  · have h7b : (t == 7) = false := by simpa using h7
    obtain ⟨A, cap, rfl, hc1, hc2, hrd⟩ := bytes_form HR4.out.bytes
    have l0 := HR4.out.blk.cell 0
    have l1 := HR4.out.blk.cell 1
    have f1 := HR4.out.blk.frozen 1
    have hpos := HR4.out.pos
    have hlen := HR4.out.len
    have hoct := oct_getD HR4.out.oct
    have hp0 : (0 : Int) ≤ (r2.pos : Int) := by omega
    by_cases hw : r2.pos + 4 ≤ l.length
    · obtain ⟨b, off, rfl, hb, hcl⟩ := hrd (by omega)
      have HG := Lib.hid (fun n => rget_yes b off l.length cap (fun i => l.getD i 0) r2.pos (w4.drewN n) (by omega) hw hoct (fun i hi => hcl i hi))
      obtain ⟨W, hW⟩ : ∃ W, W = wordL l r2.pos := ⟨_, rfl⟩
      have HG : Hid (∀ n, Calls Try.prog 88 #[.slice (some ⟨b, off, none⟩) l.length cap, .int .i64 r2.pos] (w4.drewN n) fun e w' => e = .returned (.tuple #[.int .u32 W, .bool true]) ∧ (w4.drewN n) = w') := by rw [hW]; exact HG
      have hW0 : 0 ≤ W := by rw [hW]; unfold wordL; have := hoct r2.pos; have := hoct (r2.pos + 1); have := hoct (r2.pos + 2); have := hoct (r2.pos + 3); omega
      have hW1 : W < 4294967296 := by rw [hW]; unfold wordL; have := hoct r2.pos; have := hoct (r2.pos + 1); have := hoct (r2.pos + 2); have := hoct (r2.pos + 3); omega
      have hW64 : IntKind.i64.wrap W = W := IntWalk.i64_in _ ⟨by omega, by omega⟩
      have hw4 : IntKind.i64.wrap ((r2.pos : Int) + 4) = (r2.pos : Int) + 4 := IntWalk.i64_in _ ⟨by omega, by omega⟩
      have HWW := Lib.hid hW
      clear hW hrd hcl hoct
      cases hk : r2.ok with
      | true =>
        have l2 := HR4.out.isOk hk
        have HK := Lib.hid hk
        have HS4 := Lib.hid (fun n => RrAt.setAt4 (HR4.out.drewN n) hk hw)
        clear hk
        go_wp2_with fail
        go_quiet ((go_at_call 88; exact Calls.quiet_of_same ((HG.out _).mono (fun _ _ ⟨x, y⟩ => ⟨x, y.symm⟩))))
        go_upto_region 13 with fail
        have HR5 := Lib.hid (HS4.out nq)
        have ht5 := (Touch.set (w4.drewN nq) ⟨g, 1, none⟩ (.int .i64 ((r2.pos : Int) + 4))).of_drew
        have KC5 := Lib.hid (ht5.blk KC4.out (by simp; omega))
        have KR5 := Lib.hid (ht5.blk KR4.out (by simp; omega))
        have HT5 := Lib.hid (HT4.out.trans ht5 (fun x h _ => h))
        clear ht5 HS4 l0 l1 l2 f1 d1 HG
        generalize (w4.drewN nq).setCell ⟨g, 1, none⟩ (.int .i64 ((r2.pos : Int) + 4)) = w5 at HR5 KC5 KR5 HT5 ⊢
        clear KC4 KR4 HR4 HT4
        have c2 := KC5.out.cell 2
        have f2 := KC5.out.frozen 2
        have KC6 : Hid (Blk (w5.setCell ⟨gc, 2, none⟩ (.int .i64 W)) gc (ccells ⟨a, t, W, ⟨#[]⟩, true⟩) 48) := Lib.hid (KC5.out.set 2 _)
        have KR6 := Lib.hid (KR5.out.far (p := ⟨gc, 2, none⟩) (Nat.ne_of_lt hlt1) (.int .i64 W))
        have HR6 := Lib.hid (HR5.out.touch (Touch.set w5 ⟨gc, 2, none⟩ (.int .i64 W)) (fun x hx => by simp only [List.mem_singleton] at hx; subst hx; omega))
        have HT6 := Lib.hid (Touch.trans HT5.out ((Touch.set w5 ⟨gc, 2, none⟩ (.int .i64 W)).mono (r' := [gc]) (fun x h => h)) (fun x hx hlt => by simp only [List.mem_singleton] at hx; omega))
        have d1 := KC6.out.cell 1
        go_upto_region 14 with fail
        generalize w5.setCell ⟨gc, 2, none⟩ (.int .i64 W) = w6 at KC6 KR6 HR6 HT6 d1 ⊢
        clear KC5 KR5 HR5 HT5
        clear c2 f2
        by_cases h1 : t = 1
        · subst h1
          by_cases hbig : 2147483648 ≤ W
          · have hsg : IntKind.i64.wrap (W - 4294967296) = sgnW W := by
              rw [IntWalk.i64_in _ ⟨by omega, by omega⟩]; unfold sgnW; rw [if_neg (by omega)]
            have c2 := KC6.out.cell 2
            have f2 := KC6.out.frozen 2
            have KC7 : Hid (Blk (w6.setCell ⟨gc, 2, none⟩ (.int .i64 (sgnW W))) gc (ccells ⟨a, 1, (sgnW W), ⟨#[]⟩, true⟩) 48) := Lib.hid (KC6.out.set 2 _)
            have KR7 := Lib.hid (KR6.out.far (p := ⟨gc, 2, none⟩) (Nat.ne_of_lt hlt1) (.int .i64 (sgnW W)))
            have HR7 := Lib.hid (HR6.out.touch (Touch.set w6 ⟨gc, 2, none⟩ (.int .i64 (sgnW W))) (fun x hx => by simp only [List.mem_singleton] at hx; subst hx; omega))
            have HT7 := Lib.hid (Touch.trans HT6.out ((Touch.set w6 ⟨gc, 2, none⟩ (.int .i64 (sgnW W))).mono (r' := [gc]) (fun x h => h)) (fun x hx hlt => by simp only [List.mem_singleton] at hx; omega))
            go_upto_region 16 with fail
            generalize w6.setCell ⟨gc, 2, none⟩ (.int .i64 (sgnW W)) = w7 at KC7 KR7 HR7 HT7 ⊢
            clear c2 f2 KC6 KR6 HR6 HT6
            have hl5 := load_blk Try.underlying48 rfl sz_const KC7.out rfl
            have hst5 := store_blk sz_const KR7.out rfl rfl (ccells_one ⟨a, 1, (sgnW W), ⟨#[]⟩, true⟩)
            have hres := loadVar_blk Try.underlying48 rfl sz_const (KR7.out.setRow (ccells ⟨a, 1, (sgnW W), ⟨#[]⟩, true⟩)) rfl
            have HE := Lib.hid (show constS l r = (⟨a, 1, (sgnW W), ⟨#[]⟩, true⟩, tookS r2 ((r2.pos : Int) + 4) true) by exact constS_num HA.out HTY.out (by decide) (wordS_yes hw HK.out) (by rw [if_pos rfl, HWW.out]))
            have HRF := Lib.hid (HR7.out.touch (Touch.row w7 w.heap.size (ccells ⟨a, 1, (sgnW W), ⟨#[]⟩, true⟩)) (fun x hx => by simp only [List.mem_singleton] at hx; subst hx; omega))
            have HTF := Lib.hid (Touch.trans HT7.out (Touch.row w7 w.heap.size (ccells ⟨a, 1, (sgnW W), ⟨#[]⟩, true⟩)) (fun x hx hlt => by simp only [List.mem_singleton] at hx; omega))
            go_wp2_with fail
            rw [HE.out]
            refine bodyPost_ret (v := .agg (ccells ⟨a, 1, (sgnW W), ⟨#[]⟩, true⟩)) ?_ rfl ⟨rfl, HRF.out, HTF.out⟩
            simp [results, Try.results63, asAddr, hres]
          · have hlt2 : W < 2147483648 := by omega
            have hsg : sgnW W = W := by unfold sgnW; rw [if_pos hlt2]
            have HSG := Lib.hid hsg
            clear hsg
            have hl5 := load_blk Try.underlying48 rfl sz_const KC6.out rfl
            have hst5 := store_blk sz_const KR6.out rfl rfl (ccells_one ⟨a, 1, W, ⟨#[]⟩, true⟩)
            have hres := loadVar_blk Try.underlying48 rfl sz_const (KR6.out.setRow (ccells ⟨a, 1, W, ⟨#[]⟩, true⟩)) rfl
            have HE := Lib.hid (show constS l r = (⟨a, 1, W, ⟨#[]⟩, true⟩, tookS r2 ((r2.pos : Int) + 4) true) by exact constS_num HA.out HTY.out (by decide) (wordS_yes hw HK.out) (by rw [if_pos rfl, ← HWW.out, HSG.out]))
            have HRF := Lib.hid (HR6.out.touch (Touch.row w6 w.heap.size (ccells ⟨a, 1, W, ⟨#[]⟩, true⟩)) (fun x hx => by simp only [List.mem_singleton] at hx; subst hx; omega))
            have HTF := Lib.hid (Touch.trans HT6.out (Touch.row w6 w.heap.size (ccells ⟨a, 1, W, ⟨#[]⟩, true⟩)) (fun x hx hlt => by simp only [List.mem_singleton] at hx; omega))
            go_wp2_with fail
            rw [HE.out]
            refine bodyPost_ret (v := .agg (ccells ⟨a, 1, W, ⟨#[]⟩, true⟩)) ?_ rfl ⟨rfl, HRF.out, HTF.out⟩
            simp [results, Try.results63, asAddr, hres]
        · have h1b : (t == 1) = false := by simpa using h1
          have hl5 := load_blk Try.underlying48 rfl sz_const KC6.out rfl
          have hst5 := store_blk sz_const KR6.out rfl rfl (ccells_one ⟨a, t, W, ⟨#[]⟩, true⟩)
          have hres := loadVar_blk Try.underlying48 rfl sz_const (KR6.out.setRow (ccells ⟨a, t, W, ⟨#[]⟩, true⟩)) rfl
          have HE := Lib.hid (show constS l r = (⟨a, t, W, ⟨#[]⟩, true⟩, tookS r2 ((r2.pos : Int) + 4) true) by exact constS_num HA.out HTY.out (by exact h7) (wordS_yes hw HK.out) (by rw [if_neg h1, HWW.out]))
          have HRF := Lib.hid (HR6.out.touch (Touch.row w6 w.heap.size (ccells ⟨a, t, W, ⟨#[]⟩, true⟩)) (fun x hx => by simp only [List.mem_singleton] at hx; subst hx; omega))
          have HTF := Lib.hid (Touch.trans HT6.out (Touch.row w6 w.heap.size (ccells ⟨a, t, W, ⟨#[]⟩, true⟩)) (fun x hx hlt => by simp only [List.mem_singleton] at hx; omega))
          go_wp2_with fail
          rw [HE.out]
          refine bodyPost_ret (v := .agg (ccells ⟨a, t, W, ⟨#[]⟩, true⟩)) ?_ rfl ⟨rfl, HRF.out, HTF.out⟩
          simp [results, Try.results63, asAddr, hres]
      | false =>
        have l2 := HR4.out.isBad hk
        have HK := Lib.hid hk
        clear hk
        go_wp2_with fail
        go_quiet ((go_at_call 88; exact Calls.quiet_of_same ((HG.out _).mono (fun _ _ ⟨x, y⟩ => ⟨x, y.symm⟩))))
        go_upto_region 11 with (go_at_call 66; refine (rwrong_any (HR4.out.drewN _) 0).mono ?_; rintro e w5 ⟨⟨x, rfl⟩, hr5, ht5⟩; have KC5 := Lib.hid (ht5.of_drew.blk KC4.out (by simp; omega)); have KR5 := Lib.hid (ht5.of_drew.blk KR4.out (by simp; omega)); have HR5 := Lib.hid hr5; have HT5 := Lib.hid (HT4.out.trans ht5.of_drew (fun x h _ => h)); clear hr5 ht5)
        have hl5 := load_blk Try.underlying48 rfl sz_const KC5.out rfl
        have hst5 := store_blk sz_const KR5.out rfl rfl (ccells_one ⟨a, t, 0, ⟨#[]⟩, true⟩)
        have hres := loadVar_blk Try.underlying48 rfl sz_const (KR5.out.setRow (ccells ⟨a, t, 0, ⟨#[]⟩, true⟩)) rfl
        have HE := Lib.hid (show constS l r = (⟨a, t, 0, ⟨#[]⟩, true⟩, tookS r2 0 false) by exact constS_num HA.out HTY.out (by exact h7) (wordS_bad HK.out _ _) (by split <;> rfl))
        have HRF := Lib.hid (HR5.out.touch (Touch.row w5 w.heap.size (ccells ⟨a, t, 0, ⟨#[]⟩, true⟩)) (fun x hx => by simp only [List.mem_singleton] at hx; subst hx; omega))
        have HTF := Lib.hid (Touch.trans HT5.out (Touch.row w5 w.heap.size (ccells ⟨a, t, 0, ⟨#[]⟩, true⟩)) (fun x hx hlt => by simp only [List.mem_singleton] at hx; omega))
        go_wp2_with fail
        rw [HE.out]
        refine bodyPost_ret (v := .agg (ccells ⟨a, t, 0, ⟨#[]⟩, true⟩)) ?_ rfl ⟨rfl, HRF.out, HTF.out⟩
        simp [results, Try.results63, asAddr, hres]
    · have HG := Lib.hid (fun n => rget_no A l.length cap (r2.pos : Int) (w4.drewN n) (by omega) (.inr (by omega)))
      clear hrd hoct
      go_wp2_with fail
      go_quiet ((go_at_call 88; exact Calls.quiet_of_same ((HG.out _).mono (fun _ _ ⟨x, y⟩ => ⟨x, y.symm⟩))))
      go_upto_region 11 with (go_at_call 66; refine (rwrong_any (HR4.out.drewN _) 0).mono ?_; rintro e w5 ⟨⟨x, rfl⟩, hr5, ht5⟩; have KC5 := Lib.hid (ht5.of_drew.blk KC4.out (by simp; omega)); have KR5 := Lib.hid (ht5.of_drew.blk KR4.out (by simp; omega)); have HR5 := Lib.hid hr5; have HT5 := Lib.hid (HT4.out.trans ht5.of_drew (fun x h _ => h)); clear hr5 ht5)
      have hl5 := load_blk Try.underlying48 rfl sz_const KC5.out rfl
      have hst5 := store_blk sz_const KR5.out rfl rfl (ccells_one ⟨a, t, 0, ⟨#[]⟩, true⟩)
      have hres := loadVar_blk Try.underlying48 rfl sz_const (KR5.out.setRow (ccells ⟨a, t, 0, ⟨#[]⟩, true⟩)) rfl
      have HE := Lib.hid (show constS l r = (⟨a, t, 0, ⟨#[]⟩, true⟩, tookS r2 0 false) by exact constS_num HA.out HTY.out (by exact h7) (wordS_no hw _) (by split <;> rfl))
      have HRF := Lib.hid (HR5.out.touch (Touch.row w5 w.heap.size (ccells ⟨a, t, 0, ⟨#[]⟩, true⟩)) (fun x hx => by simp only [List.mem_singleton] at hx; subst hx; omega))
      have HTF := Lib.hid (Touch.trans HT5.out (Touch.row w5 w.heap.size (ccells ⟨a, t, 0, ⟨#[]⟩, true⟩)) (fun x hx hlt => by simp only [List.mem_singleton] at hx; omega))
      go_wp2_with fail
      rw [HE.out]
      refine bodyPost_ret (v := .agg (ccells ⟨a, t, 0, ⟨#[]⟩, true⟩)) ?_ rfl ⟨rfl, HRF.out, HTF.out⟩
      simp [results, Try.results63, asAddr, hres]
end
end Go.Proofs.Ytgemnmceflcpcaa
