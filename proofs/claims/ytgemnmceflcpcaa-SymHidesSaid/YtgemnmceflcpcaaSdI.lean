/- The reader: a constant. -/
import Derived.Test.YtgemnmceflcpcaaSdH
import Derived.Test.YtgemnmceflcpcaaSdG
import Derived.Deep.CutBlock
namespace Go.Proofs.Ytgemnmceflcpcaa
open Go Go.RowKit Go.Lib Go.Proofs.Ytgemnmceflcpcaa.Sy Pl
set_option linter.unusedVariables false
set_option linter.unusedSimpArgs false
attribute [local go_sem ↓] exec_load_const exec_store_const exec_load_var exec_store_var exec_load_proc exec_store_proc
@[reducible] def zCst : Array Value := #[.string ⟨#[]⟩, .int .i64 0, .int .i64 0, .string ⟨#[]⟩, .bool false]
section
variable {w : World} {g : Nat} {v : Value} {l : List Int}
theorem Touch.new {w w' : World} {g : Nat} {cs : Array Value} {t : TypeId} (h : Touch (w.alloc (.cells cs t)) w' [g]) : Touch w w' [g] := ((Touch.alloc w _).mono (fun x h => by cases h)).trans h (fun x h _ => h)
theorem RdAt.new {r : Rd} (h : RdAt w g v l r) (cs : Array Value) (t : TypeId) : RdAt (w.alloc (.cells cs t)) g v l r := h.step ((Below.refl _ _).alloc (Nat.le_refl _) _)
theorem constS_num {r r1 r2 r4 : Rd} {a : ByteArray} {t W : Int} (hA : textS l 20 r = (a, r1)) (hT : byteS l typeB r1 = (t, r2)) (h7 : t ≠ 7) (hW : wordS l r2 = (W, r4)) {n : Int} (hn : n = if t = 1 then sgnW W else W) : constS l r = (⟨a, t, n, ⟨#[]⟩, true⟩, r4) := by
  unfold constS; simp only [hA, hT]; rw [if_neg h7, hW, hn]
theorem wordS_yes {r : Rd} (hw : r.pos + 4 ≤ l.length) (hk : r.ok = true) : wordS l r = (wordL l r.pos, tookS r ((r.pos : Int) + 4) true) := by
  unfold wordS tookS; rw [if_pos hk, if_pos hw, if_pos hk, if_pos rfl]; congr 2
theorem wordS_bad {r : Rd} (hk : r.ok = false) (x : Int) (b : Bool) : wordS l r = (0, tookS r x b) := by
  unfold wordS tookS; rw [if_neg (by rw [hk]; decide), if_neg (by rw [hk]; decide)]
theorem wordS_no {r : Rd} (hw : ¬ r.pos + 4 ≤ l.length) (x : Int) : wordS l r = (0, tookS r x false) := by
  unfold wordS tookS
  obtain ⟨p, ok⟩ := r
  cases ok with
  | false => rfl
  | true => simp only [if_true] at *; rw [if_neg hw]; rfl
theorem sgn_wrap (W : Int) (h0 : 0 ≤ W) (h1 : W < 4294967296) : IntKind.i32.wrap W = sgnW W := by rw [IntKind.wrap_i32]; unfold sgnW; split <;> omega
theorem sgn_in (W : Int) (h0 : 0 ≤ W) (h1 : W < 4294967296) : IntKind.i64.wrap (sgnW W) = sgnW W := by
  refine IntWalk.i64_in _ ?_
  unfold sgnW; split <;> omega
set_option maxHeartbeats 4000000 in
set_option maxRecDepth 100000 in
theorem constant_r {r : Rd} (hR : RdAt w g v l r) :
    Calls Try.prog 52 #[.pointer (some ⟨g, 0, none⟩)] w (RdP g v l w (constS l r).2 (.agg (ccells (constS l r).1))) := by
  have hg := hR.blk.lt
  have HR := Lib.hid hR
  clear hR
  go_enter Try.func52, Try.ntmps52
  go_wp2_with fail
  refine (text_r (HR.out.new _ _) 20 (by decide)).mono ?_
  rintro e w1 ⟨rfl, hR1, hT1⟩
  have KR1 := Lib.hid (hT1.blk (Blk.new w zCst 48) (by simp; omega))
  have HR1 := Lib.hid hR1
  have HT1 := Lib.hid hT1.new
  obtain ⟨a, r1, ha⟩ : ∃ a r1, textS l 20 r = (a, r1) := ⟨_, _, rfl⟩
  simp only [ha] at HR1 ⊢
  have HA := Lib.hid ha
  have hst1 := store_blk_new w1 zCst (ccells ⟨a, 0, 0, ⟨#[]⟩, true⟩) 48 sz_const rfl rfl (ccells_one _)
  clear hR1 hT1 ha
  go_wp2_with fail
  refine (byte_r (HR1.out.new _ _) asks_type).mono ?_
  rintro e w2 ⟨rfl, hR2, hT2⟩
  have hg1 := HR1.out.blk.lt
  have KC2 := Lib.hid (hT2.blk (Blk.new w1 (ccells ⟨a, 0, 0, ⟨#[]⟩, true⟩) 48) (by simp; omega))
  have KR2 := Lib.hid (hT2.blk (KR1.out.old (.cells (ccells ⟨a, 0, 0, ⟨#[]⟩, true⟩) 48)) (by simp; omega))
  have HR2 := Lib.hid hR2
  have HT2 := Lib.hid (HT1.out.trans hT2.new (fun x h _ => h))
  obtain ⟨t, r2, ht⟩ : ∃ t r2, byteS l typeB r1 = (t, r2) := ⟨_, _, rfl⟩
  simp only [ht] at HR2 ⊢
  have HTY := Lib.hid ht
  have hlt1 := KR1.out.lt
  generalize w1.heap.size = gc at *
  clear hst1 hR2 hT2 ht KR1 HR1 HT1
  have c1 := KC2.out.cell 1
  have f1 := KC2.out.frozen 1
  have KC3 : Hid (Blk (w2.setCell ⟨gc, 1, none⟩ (.int .i64 t)) gc (ccells ⟨a, t, 0, ⟨#[]⟩, true⟩) 48) := Lib.hid (KC2.out.set 1 _)
  have KR3 := Lib.hid (KR2.out.far (p := ⟨gc, 1, none⟩) (Nat.ne_of_lt hlt1) (.int .i64 t))
  have HR3 := Lib.hid (HR2.out.touch (Touch.set w2 ⟨gc, 1, none⟩ (.int .i64 t)) (fun x hx => by simp only [List.mem_singleton] at hx; subst hx; omega))
  have HT3 := Lib.hid (Touch.trans HT2.out ((Touch.set w2 ⟨gc, 1, none⟩ (.int .i64 t)).mono (r' := [gc]) (fun x h => h)) (fun x hx hlt => by simp only [List.mem_singleton] at hx; omega))
  have d1 := KC3.out.cell 1
  go_upto_region 3 with fail
  generalize w2.setCell ⟨gc, 1, none⟩ (.int .i64 t) = w3 at KC3 KR3 HR3 HT3 d1 ⊢
  clear c1 f1 KC2 KR2 HR2 HT2
  by_cases h7 : t = 7
  · subst h7
    go_wp2_with fail
    refine (text_r HR3.out 200 (by decide)).mono ?_
    rintro e w4 ⟨rfl, hR4, hT4⟩
    have KC4 := Lib.hid (hT4.blk KC3.out (by simp; omega))
    have KR4 := Lib.hid (hT4.blk KR3.out (by simp; omega))
    have HR4 := Lib.hid hR4
    have HT4 := Lib.hid (HT3.out.trans hT4 (fun x h _ => h))
    obtain ⟨s, r4, hs⟩ : ∃ s r4, textS l 200 r2 = (s, r4) := ⟨_, _, rfl⟩
    simp only [hs] at HR4 ⊢
    have HS := Lib.hid hs
    clear hR4 hT4 hs d1 KC3 KR3 HR3 HT3
    have c3 := KC4.out.cell 3
    have f3 := KC4.out.frozen 3
    have KC5 : Hid (Blk (w4.setCell ⟨gc, 3, none⟩ (.string s)) gc (ccells ⟨a, 7, 0, s, true⟩) 48) := Lib.hid (KC4.out.set 3 _)
    have KR5 := Lib.hid (KR4.out.far (p := ⟨gc, 3, none⟩) (Nat.ne_of_lt hlt1) (.string s))
    have HR5 := Lib.hid (HR4.out.touch (Touch.set w4 ⟨gc, 3, none⟩ (.string s)) (fun x hx => by simp only [List.mem_singleton] at hx; subst hx; omega))
    have HT5 := Lib.hid (Touch.trans HT4.out ((Touch.set w4 ⟨gc, 3, none⟩ (.string s)).mono (r' := [gc]) (fun x h => h)) (fun x hx hlt => by simp only [List.mem_singleton] at hx; omega))
    go_upto_region 5 with fail
    generalize w4.setCell ⟨gc, 3, none⟩ (.string s) = w5 at KC5 KR5 HR5 HT5 ⊢
    clear c3 f3 KC4 KR4 HR4 HT4
    have hl5 := load_blk Try.underlying48 rfl sz_const KC5.out rfl
    have hst5 := store_blk sz_const KR5.out rfl rfl (ccells_one ⟨a, 7, 0, s, true⟩)
    have hres := loadVar_blk Try.underlying48 rfl sz_const (KR5.out.setRow (ccells ⟨a, 7, 0, s, true⟩)) rfl
    have HE := Lib.hid (show constS l r = (⟨a, 7, 0, s, true⟩, r4) by unfold constS; simp only [HA.out, HTY.out, if_true, HS.out])
    have HRF := Lib.hid (HR5.out.touch (Touch.row w5 w.heap.size (ccells ⟨a, 7, 0, s, true⟩)) (fun x hx => by simp only [List.mem_singleton] at hx; subst hx; omega))
    have HTF := Lib.hid (Touch.trans HT5.out (Touch.row w5 w.heap.size (ccells ⟨a, 7, 0, s, true⟩)) (fun x hx hlt => by simp only [List.mem_singleton] at hx; omega))
    go_wp2_with fail
    rw [HE.out]
    refine bodyPost_ret (v := .agg (ccells ⟨a, 7, 0, s, true⟩)) ?_ rfl ⟨rfl, HRF.out, HTF.out⟩
    simp [results, Try.results52, asAddr, hres]
  · have h7b : (t == 7) = false := by simpa using h7
    obtain ⟨A, cap, rfl, hc1, hc2, hrd⟩ := bytes_form HR3.out.bytes
    have l0 := HR3.out.blk.cell 0
    have l1 := HR3.out.blk.cell 1
    have hpos := HR3.out.pos
    have hlen := HR3.out.len
    have hoct := oct_getD HR3.out.oct
    by_cases hw : r2.pos + 4 ≤ l.length
    · obtain ⟨b, off, rfl, hb, hcl⟩ := hrd (by omega)
      have HG := Lib.hid (fun n => get_yes b off l.length cap (fun i => l.getD i 0) r2.pos (w3.drewN n) (by omega) hc1 hw hoct (fun i hi => hcl i hi))
      obtain ⟨W, hW⟩ : ∃ W, W = wordL l r2.pos := ⟨_, rfl⟩
      have HG : Hid (∀ n, Calls Try.prog 81 #[.slice (some ⟨b, off, none⟩) l.length cap, .int .i64 r2.pos] (w3.drewN n) fun e w' => e = .returned (.tuple #[.int .u32 W, .bool true]) ∧ (w3.drewN n) = w') := by rw [hW]; exact HG
      have hW0 : 0 ≤ W := by rw [hW]; unfold wordL; have := hoct r2.pos; have := hoct (r2.pos + 1); have := hoct (r2.pos + 2); have := hoct (r2.pos + 3); omega
      have hW1 : W < 4294967296 := by rw [hW]; unfold wordL; have := hoct r2.pos; have := hoct (r2.pos + 1); have := hoct (r2.pos + 2); have := hoct (r2.pos + 3); omega
      have HWW := Lib.hid hW
      clear hW hrd hcl hoct
      cases hk : r2.ok with
      | true =>
        have HK := Lib.hid hk
        clear hk
        go_wp2_with fail
        go_quiet ((go_at_call 81; exact Calls.quiet_of_same ((HG.out _).mono (fun _ _ ⟨x, y⟩ => ⟨x, y.symm⟩))))
        go_upto_region 8 with (go_at_call 60; refine (took_any (HR3.out.drewN _) ((r2.pos : Int) + 4) true (fun h => ⟨by omega, by omega⟩)).mono ?_; rintro e w4 ⟨rfl, hr4, ht4⟩; rw [HK.out, Bool.true_and]; have KC4 := Lib.hid (ht4.of_drew.blk KC3.out (by simp; omega)); have KR4 := Lib.hid (ht4.of_drew.blk KR3.out (by simp; omega)); have HR4 := Lib.hid hr4; have HT4 := Lib.hid (HT3.out.trans ht4.of_drew (fun x h _ => h)); clear hr4 ht4; have e1 := KC4.out.cell 1; have e2 := KC4.out.cell 2; have g2 := KC4.out.frozen 2)
        have c2 := KC4.out.cell 2
        have f2 := KC4.out.frozen 2
        have KC5 : Hid (Blk (w4.setCell ⟨gc, 2, none⟩ (.int .i64 W)) gc (ccells ⟨a, t, W, ⟨#[]⟩, true⟩) 48) := Lib.hid (KC4.out.set 2 _)
        have KR5 := Lib.hid (KR4.out.far (p := ⟨gc, 2, none⟩) (Nat.ne_of_lt hlt1) (.int .i64 W))
        have HR5 := Lib.hid (HR4.out.touch (Touch.set w4 ⟨gc, 2, none⟩ (.int .i64 W)) (fun x hx => by simp only [List.mem_singleton] at hx; subst hx; omega))
        have HT5 := Lib.hid (Touch.trans HT4.out ((Touch.set w4 ⟨gc, 2, none⟩ (.int .i64 W)).mono (r' := [gc]) (fun x h => h)) (fun x hx hlt => by simp only [List.mem_singleton] at hx; omega))
        have d1 := KC5.out.cell 1
        go_upto_region 9 with fail
        generalize w4.setCell ⟨gc, 2, none⟩ (.int .i64 W) = w5 at KC5 KR5 HR5 HT5 d1 ⊢
        clear c2 f2 e1 e2 g2 KC4 KR4 HR4 HT4
        by_cases h1 : t = 1
        · subst h1
          have e2 := KC5.out.cell 2
          have hs32 : IntKind.i32.wrap W = sgnW W := sgn_wrap W hW0 hW1
          have hs64 : IntKind.i64.wrap (sgnW W) = sgnW W := sgn_in W hW0 hW1
          have c2 := KC5.out.cell 2
          have f2 := KC5.out.frozen 2
          have KC6 : Hid (Blk (w5.setCell ⟨gc, 2, none⟩ (.int .i64 (sgnW W))) gc (ccells ⟨a, 1, (sgnW W), ⟨#[]⟩, true⟩) 48) := Lib.hid (KC5.out.set 2 _)
          have KR6 := Lib.hid (KR5.out.far (p := ⟨gc, 2, none⟩) (Nat.ne_of_lt hlt1) (.int .i64 (sgnW W)))
          have HR6 := Lib.hid (HR5.out.touch (Touch.set w5 ⟨gc, 2, none⟩ (.int .i64 (sgnW W))) (fun x hx => by simp only [List.mem_singleton] at hx; subst hx; omega))
          have HT6 := Lib.hid (Touch.trans HT5.out ((Touch.set w5 ⟨gc, 2, none⟩ (.int .i64 (sgnW W))).mono (r' := [gc]) (fun x h => h)) (fun x hx hlt => by simp only [List.mem_singleton] at hx; omega))
          go_upto_region 11 with fail
          generalize w5.setCell ⟨gc, 2, none⟩ (.int .i64 (sgnW W)) = w6 at KC6 KR6 HR6 HT6 ⊢
          clear c2 f2 e2 KC5 KR5 HR5 HT5
          have hl5 := load_blk Try.underlying48 rfl sz_const KC6.out rfl
          have hst5 := store_blk sz_const KR6.out rfl rfl (ccells_one ⟨a, 1, (sgnW W), ⟨#[]⟩, true⟩)
          have hres := loadVar_blk Try.underlying48 rfl sz_const (KR6.out.setRow (ccells ⟨a, 1, (sgnW W), ⟨#[]⟩, true⟩)) rfl
          have HE := Lib.hid (show constS l r = (⟨a, 1, (sgnW W), ⟨#[]⟩, true⟩, tookS r2 ((r2.pos : Int) + 4) true) by exact constS_num HA.out HTY.out (by decide) (wordS_yes hw HK.out) (by rw [if_pos rfl, HWW.out]))
          have HRF := Lib.hid (HR6.out.touch (Touch.row w6 w.heap.size (ccells ⟨a, 1, (sgnW W), ⟨#[]⟩, true⟩)) (fun x hx => by simp only [List.mem_singleton] at hx; subst hx; omega))
          have HTF := Lib.hid (Touch.trans HT6.out (Touch.row w6 w.heap.size (ccells ⟨a, 1, (sgnW W), ⟨#[]⟩, true⟩)) (fun x hx hlt => by simp only [List.mem_singleton] at hx; omega))
          go_wp2_with fail
          rw [HE.out]
          refine bodyPost_ret (v := .agg (ccells ⟨a, 1, (sgnW W), ⟨#[]⟩, true⟩)) ?_ rfl ⟨rfl, HRF.out, HTF.out⟩
          simp [results, Try.results52, asAddr, hres]
        · have h1b : (t == 1) = false := by simpa using h1
          have hl5 := load_blk Try.underlying48 rfl sz_const KC5.out rfl
          have hst5 := store_blk sz_const KR5.out rfl rfl (ccells_one ⟨a, t, W, ⟨#[]⟩, true⟩)
          have hres := loadVar_blk Try.underlying48 rfl sz_const (KR5.out.setRow (ccells ⟨a, t, W, ⟨#[]⟩, true⟩)) rfl
          have HE := Lib.hid (show constS l r = (⟨a, t, W, ⟨#[]⟩, true⟩, tookS r2 ((r2.pos : Int) + 4) true) by exact constS_num HA.out HTY.out (by exact h7) (wordS_yes hw HK.out) (by rw [if_neg h1, HWW.out]))
          have HRF := Lib.hid (HR5.out.touch (Touch.row w5 w.heap.size (ccells ⟨a, t, W, ⟨#[]⟩, true⟩)) (fun x hx => by simp only [List.mem_singleton] at hx; subst hx; omega))
          have HTF := Lib.hid (Touch.trans HT5.out (Touch.row w5 w.heap.size (ccells ⟨a, t, W, ⟨#[]⟩, true⟩)) (fun x hx hlt => by simp only [List.mem_singleton] at hx; omega))
          go_wp2_with fail
          rw [HE.out]
          refine bodyPost_ret (v := .agg (ccells ⟨a, t, W, ⟨#[]⟩, true⟩)) ?_ rfl ⟨rfl, HRF.out, HTF.out⟩
          simp [results, Try.results52, asAddr, hres]
      | false =>
        have HK := Lib.hid hk
        clear hk
        go_wp2_with fail
        go_quiet ((go_at_call 81; exact Calls.quiet_of_same ((HG.out _).mono (fun _ _ ⟨x, y⟩ => ⟨x, y.symm⟩))))
        go_upto_region 9 with (go_at_call 60; refine (took_any (HR3.out.drewN _) ((r2.pos : Int) + 4) true (fun h => ⟨by omega, by omega⟩)).mono ?_; rintro e w4 ⟨rfl, hr4, ht4⟩; rw [HK.out, Bool.false_and]; have KC4 := Lib.hid (ht4.of_drew.blk KC3.out (by simp; omega)); have KR4 := Lib.hid (ht4.of_drew.blk KR3.out (by simp; omega)); have HR4 := Lib.hid hr4; have HT4 := Lib.hid (HT3.out.trans ht4.of_drew (fun x h _ => h)); clear hr4 ht4; have e1 := KC4.out.cell 1; have e2 := KC4.out.cell 2; have g2 := KC4.out.frozen 2)
        have d1 := KC4.out.cell 1
        clear e1 e2 g2
        by_cases h1 : t = 1
        · subst h1
          have e2 := KC4.out.cell 2
          have c2 := KC4.out.cell 2
          have f2 := KC4.out.frozen 2
          have KC6 : Hid (Blk (w4.setCell ⟨gc, 2, none⟩ (.int .i64 0)) gc (ccells ⟨a, 1, 0, ⟨#[]⟩, true⟩) 48) := Lib.hid (KC4.out.set 2 _)
          have KR6 := Lib.hid (KR4.out.far (p := ⟨gc, 2, none⟩) (Nat.ne_of_lt hlt1) (.int .i64 0))
          have HR6 := Lib.hid (HR4.out.touch (Touch.set w4 ⟨gc, 2, none⟩ (.int .i64 0)) (fun x hx => by simp only [List.mem_singleton] at hx; subst hx; omega))
          have HT6 := Lib.hid (Touch.trans HT4.out ((Touch.set w4 ⟨gc, 2, none⟩ (.int .i64 0)).mono (r' := [gc]) (fun x h => h)) (fun x hx hlt => by simp only [List.mem_singleton] at hx; omega))
          go_upto_region 11 with fail
          generalize w4.setCell ⟨gc, 2, none⟩ (.int .i64 0) = w6 at KC6 KR6 HR6 HT6 ⊢
          clear c2 f2 e2 KC4 KR4 HR4 HT4
          have hl5 := load_blk Try.underlying48 rfl sz_const KC6.out rfl
          have hst5 := store_blk sz_const KR6.out rfl rfl (ccells_one ⟨a, 1, 0, ⟨#[]⟩, true⟩)
          have hres := loadVar_blk Try.underlying48 rfl sz_const (KR6.out.setRow (ccells ⟨a, 1, 0, ⟨#[]⟩, true⟩)) rfl
          have HE := Lib.hid (show constS l r = (⟨a, 1, 0, ⟨#[]⟩, true⟩, tookS r2 ((r2.pos : Int) + 4) true) by exact constS_num HA.out HTY.out (by decide) (wordS_bad HK.out _ _) (by decide))
          have HRF := Lib.hid (HR6.out.touch (Touch.row w6 w.heap.size (ccells ⟨a, 1, 0, ⟨#[]⟩, true⟩)) (fun x hx => by simp only [List.mem_singleton] at hx; subst hx; omega))
          have HTF := Lib.hid (Touch.trans HT6.out (Touch.row w6 w.heap.size (ccells ⟨a, 1, 0, ⟨#[]⟩, true⟩)) (fun x hx hlt => by simp only [List.mem_singleton] at hx; omega))
          go_wp2_with fail
          rw [HE.out]
          refine bodyPost_ret (v := .agg (ccells ⟨a, 1, 0, ⟨#[]⟩, true⟩)) ?_ rfl ⟨rfl, HRF.out, HTF.out⟩
          simp [results, Try.results52, asAddr, hres]
        · have h1b : (t == 1) = false := by simpa using h1
          have hl5 := load_blk Try.underlying48 rfl sz_const KC4.out rfl
          have hst5 := store_blk sz_const KR4.out rfl rfl (ccells_one ⟨a, t, 0, ⟨#[]⟩, true⟩)
          have hres := loadVar_blk Try.underlying48 rfl sz_const (KR4.out.setRow (ccells ⟨a, t, 0, ⟨#[]⟩, true⟩)) rfl
          have HE := Lib.hid (show constS l r = (⟨a, t, 0, ⟨#[]⟩, true⟩, tookS r2 ((r2.pos : Int) + 4) true) by exact constS_num HA.out HTY.out (by exact h7) (wordS_bad HK.out _ _) (by rw [if_neg h1]))
          have HRF := Lib.hid (HR4.out.touch (Touch.row w4 w.heap.size (ccells ⟨a, t, 0, ⟨#[]⟩, true⟩)) (fun x hx => by simp only [List.mem_singleton] at hx; subst hx; omega))
          have HTF := Lib.hid (Touch.trans HT4.out (Touch.row w4 w.heap.size (ccells ⟨a, t, 0, ⟨#[]⟩, true⟩)) (fun x hx hlt => by simp only [List.mem_singleton] at hx; omega))
          go_wp2_with fail
          rw [HE.out]
          refine bodyPost_ret (v := .agg (ccells ⟨a, t, 0, ⟨#[]⟩, true⟩)) ?_ rfl ⟨rfl, HRF.out, HTF.out⟩
          simp [results, Try.results52, asAddr, hres]
    · have HG := Lib.hid (fun n => get_no A l.length cap (r2.pos : Int) (w3.drewN n) (by omega) (.inr (by omega)))
      clear hrd hoct
      go_wp2_with fail
      go_quiet ((go_at_call 81; exact Calls.quiet_of_same ((HG.out _).mono (fun _ _ ⟨x, y⟩ => ⟨x, y.symm⟩))))
      go_upto_region 9 with (go_at_call 60; refine (took_any (HR3.out.drewN _) ((r2.pos : Int) + 4) false (fun h => by cases h)).mono ?_; rintro e w4 ⟨rfl, hr4, ht4⟩; rw [Bool.and_false]; have KC4 := Lib.hid (ht4.of_drew.blk KC3.out (by simp; omega)); have KR4 := Lib.hid (ht4.of_drew.blk KR3.out (by simp; omega)); have HR4 := Lib.hid hr4; have HT4 := Lib.hid (HT3.out.trans ht4.of_drew (fun x h _ => h)); clear hr4 ht4; have e1 := KC4.out.cell 1; have e2 := KC4.out.cell 2; have g2 := KC4.out.frozen 2)
      have d1 := KC4.out.cell 1
      clear e1 e2 g2
      by_cases h1 : t = 1
      · subst h1
        have e2 := KC4.out.cell 2
        have c2 := KC4.out.cell 2
        have f2 := KC4.out.frozen 2
        have KC6 : Hid (Blk (w4.setCell ⟨gc, 2, none⟩ (.int .i64 0)) gc (ccells ⟨a, 1, 0, ⟨#[]⟩, true⟩) 48) := Lib.hid (KC4.out.set 2 _)
        have KR6 := Lib.hid (KR4.out.far (p := ⟨gc, 2, none⟩) (Nat.ne_of_lt hlt1) (.int .i64 0))
        have HR6 := Lib.hid (HR4.out.touch (Touch.set w4 ⟨gc, 2, none⟩ (.int .i64 0)) (fun x hx => by simp only [List.mem_singleton] at hx; subst hx; omega))
        have HT6 := Lib.hid (Touch.trans HT4.out ((Touch.set w4 ⟨gc, 2, none⟩ (.int .i64 0)).mono (r' := [gc]) (fun x h => h)) (fun x hx hlt => by simp only [List.mem_singleton] at hx; omega))
        go_upto_region 11 with fail
        generalize w4.setCell ⟨gc, 2, none⟩ (.int .i64 0) = w6 at KC6 KR6 HR6 HT6 ⊢
        clear c2 f2 e2 KC4 KR4 HR4 HT4
        have hl5 := load_blk Try.underlying48 rfl sz_const KC6.out rfl
        have hst5 := store_blk sz_const KR6.out rfl rfl (ccells_one ⟨a, 1, 0, ⟨#[]⟩, true⟩)
        have hres := loadVar_blk Try.underlying48 rfl sz_const (KR6.out.setRow (ccells ⟨a, 1, 0, ⟨#[]⟩, true⟩)) rfl
        have HE := Lib.hid (show constS l r = (⟨a, 1, 0, ⟨#[]⟩, true⟩, tookS r2 ((r2.pos : Int) + 4) false) by exact constS_num HA.out HTY.out (by decide) (wordS_no hw _) (by decide))
        have HRF := Lib.hid (HR6.out.touch (Touch.row w6 w.heap.size (ccells ⟨a, 1, 0, ⟨#[]⟩, true⟩)) (fun x hx => by simp only [List.mem_singleton] at hx; subst hx; omega))
        have HTF := Lib.hid (Touch.trans HT6.out (Touch.row w6 w.heap.size (ccells ⟨a, 1, 0, ⟨#[]⟩, true⟩)) (fun x hx hlt => by simp only [List.mem_singleton] at hx; omega))
        go_wp2_with fail
        rw [HE.out]
        refine bodyPost_ret (v := .agg (ccells ⟨a, 1, 0, ⟨#[]⟩, true⟩)) ?_ rfl ⟨rfl, HRF.out, HTF.out⟩
        simp [results, Try.results52, asAddr, hres]
      · have h1b : (t == 1) = false := by simpa using h1
        have hl5 := load_blk Try.underlying48 rfl sz_const KC4.out rfl
        have hst5 := store_blk sz_const KR4.out rfl rfl (ccells_one ⟨a, t, 0, ⟨#[]⟩, true⟩)
        have hres := loadVar_blk Try.underlying48 rfl sz_const (KR4.out.setRow (ccells ⟨a, t, 0, ⟨#[]⟩, true⟩)) rfl
        have HE := Lib.hid (show constS l r = (⟨a, t, 0, ⟨#[]⟩, true⟩, tookS r2 ((r2.pos : Int) + 4) false) by exact constS_num HA.out HTY.out (by exact h7) (wordS_no hw _) (by rw [if_neg h1]))
        have HRF := Lib.hid (HR4.out.touch (Touch.row w4 w.heap.size (ccells ⟨a, t, 0, ⟨#[]⟩, true⟩)) (fun x hx => by simp only [List.mem_singleton] at hx; subst hx; omega))
        have HTF := Lib.hid (Touch.trans HT4.out (Touch.row w4 w.heap.size (ccells ⟨a, t, 0, ⟨#[]⟩, true⟩)) (fun x hx hlt => by simp only [List.mem_singleton] at hx; omega))
        go_wp2_with fail
        rw [HE.out]
        refine bodyPost_ret (v := .agg (ccells ⟨a, t, 0, ⟨#[]⟩, true⟩)) ?_ rfl ⟨rfl, HRF.out, HTF.out⟩
        simp [results, Try.results52, asAddr, hres]
end
end Go.Proofs.Ytgemnmceflcpcaa
