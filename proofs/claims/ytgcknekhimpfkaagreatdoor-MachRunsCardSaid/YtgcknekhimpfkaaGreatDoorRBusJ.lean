/- The document's bus: a command stored; Do. -/
import Derived.Test.YtgcknekhimpfkaaGreatDoorRBusI
namespace Go.Proofs.YtgcknekhimpfkaaGreatDoor
open Go Go.RowKit Go.Lib Go.Proofs.YtgcknekhimpfkaaGreatDoor.Pl
set_option linter.unusedVariables false
set_option linter.unusedSimpArgs false
section
variable {w w' : World} {base : Nat} {v : RV} {x : BS} {sec0 : Nat → ByteArray} {hist : List (Nat × ByteArray)}
theorem may_iff (x : BS) : x.may = true ↔ x.ad % 4 = 0 ∧ x.ad ≤ 1047552 ∧ x.se < x.N := by
 unfold BS.may
 simp only [Bool.and_eq_true, decide_eq_true_eq]
 exact ⟨fun ⟨⟨a, b⟩, c⟩ => ⟨a, b, c⟩, fun ⟨a, b, c⟩ => ⟨⟨a, b⟩, c⟩⟩
theorem cmd_no {x : BS} {c : Int} (h : ¬ rmay x c) : x.cmd c = x.fail := by
 unfold BS.cmd
 by_cases hm : x.may = true
 ·rw [if_pos hm]
  obtain ⟨a, b, d⟩ := (may_iff x).1 hm
  rw [if_neg (fun h1 => h ⟨.inl h1, d, a, b⟩), if_neg (fun h1 => h ⟨.inr h1, d, a, b⟩)]
 ·rw [if_neg hm]
theorem RBusAt.flag (B : RBusAt w base v x sec0 hist) (y : Int) (h : 0 ≤ y ∧ y < 4294967296) : RBusAt (w.setCell ⟨v.b, 7, none⟩ (.int .u32 y)) base v { x with fl := y } sec0 hist ∧ RMoves w (w.setCell ⟨v.b, 7, none⟩ (.int .u32 y)) v v :=
 B.own (x' := { x with fl := y }) 7 (.int .u32 y) rfl rfl B.ql B.tkb B.seb B.adb h
theorem rstore_cmd_no (B : RBusAt w base v x sec0 hist) (y : Int) (h : ¬ rmay x y) : RStores w base v x sec0 4294967252 y := by
 have HD := hid (rdone_no B y h)
 have hx : x.store 4294967252 y = (0, 0, x.fail) := by
  unfold BS.store
  rw [if_neg (by decide), if_neg (by decide), if_neg (by decide), if_pos rfl, cmd_no h]
 unfold RStores
 have HX := hid hx
 clear B h hx
 go_enter Tryz.func91, Tryz.ntmps91
 go_upto_region 12 with (go_at_call 102; refine HD.out.mono ?_; rintro e w1 ⟨rfl, b1, m1⟩; have B1 := hid b1; have M1 := hid m1; clear b1 m1)
 have c7 := B1.out.cells.2.2.2.2.2.2.2
 have f7 := B1.out.row.frozen 7
 go_wp2_with fail
 go_ret
 obtain ⟨b2, m2⟩ := B1.out.flag 1 (by decide)
 unfold RStored
 rw [HX.out]
 exact ⟨rfl, v, hist, b2, M1.out.trans m2⟩
theorem cmd_read {x : BS} {n p : Nat} (hn : x.se = n) (hp : x.ad = p) (hn2 : n < x.N) (hp4 : p % 4 = 0) (hp2 : p ≤ 1047552) : x.cmd 1 = { x with fl := 0, M := laidS x.M p 1024 (x.sec n) } := by
 unfold BS.cmd
 rw [if_pos ((may_iff x).2 ⟨by omega, by omega, by omega⟩), if_pos rfl, hn, hp]
 rfl
theorem rstore_cmd_read (B : RBusAt w base v x sec0 hist) (n p : Nat) (hn : x.se = n) (hp : x.ad = p) (hn2 : n < x.N) (hp4 : p % 4 = 0) (hp2 : p ≤ 1047552) : RStores w base v x sec0 4294967252 1 := by
 have HD := hid (rdone_read B n p hn hp hn2 hp4 hp2)
 have hx : x.store 4294967252 1 = (0, 0, { x with fl := 0, M := laidS x.M p 1024 (x.sec n) }) := by
  unfold BS.store
  rw [if_neg (by decide), if_neg (by decide), if_neg (by decide), if_pos rfl, cmd_read hn hp hn2 hp4 hp2]
 unfold RStores
 have HX := hid hx
 clear B hx hn hp
 go_enter Tryz.func91, Tryz.ntmps91
 go_upto_region 12 with (go_at_call 102; refine HD.out.mono ?_; rintro e w1 ⟨rfl, b1, m1⟩; have B1 := hid b1; have M1 := hid m1; clear b1 m1)
 have c7 := B1.out.cells.2.2.2.2.2.2.2
 have f7 := B1.out.row.frozen 7
 go_upto_region 13 with fail
 have B2 := hid (B1.out.flag 1 (by decide))
 clear c7 f7 HD
 generalize w1.setCell ⟨v.b, 7, none⟩ (.int .u32 1) = w2 at B2 ⊢
 have c7 := B2.out.1.cells.2.2.2.2.2.2.2
 have f7 := B2.out.1.row.frozen 7
 go_wp2_with fail
 go_ret
 obtain ⟨b3, m3⟩ := B2.out.1.flag 0 (by decide)
 unfold RStored
 rw [HX.out]
 exact ⟨rfl, v, hist, b3, (M1.out.trans B2.out.2).trans m3⟩
theorem cmd_write {x : BS} {n p : Nat} (hn : x.se = n) (hp : x.ad = p) (hn2 : n < x.N) (hp4 : p % 4 = 0) (hp2 : p ≤ 1047552) : x.cmd 2 = if x.ws.length < 4096 then { x with fl := 0, sec := upd x.sec n (ofBs (memBytes x.M p 1024)), ws := x.ws ++ [(n, x.sec n)] } else x.fail := by
 unfold BS.cmd
 rw [if_pos ((may_iff x).2 ⟨by omega, by omega, by omega⟩), if_neg (by decide), if_pos rfl, hn, hp]
 rfl
theorem rstore_cmd_write (B : RBusAt w base v x sec0 hist) (n p : Nat) (hn : x.se = n) (hp : x.ad = p) (hn2 : n < x.N) (hp4 : p % 4 = 0) (hp2 : p ≤ 1047552) : RStores w base v x sec0 4294967252 2 := by
 have HD := hid (rdone_write B n p hn hp hn2 hp4 hp2)
 have hlen : x.ws.length = hist.length := by rw [B.ws, rolds_length]
 have hx : x.store 4294967252 2 = (0, 0, if x.ws.length < 4096 then { x with fl := 0, sec := upd x.sec n (ofBs (memBytes x.M p 1024)), ws := x.ws ++ [(n, x.sec n)] } else x.fail) := by
  unfold BS.store
  rw [if_neg (by decide), if_neg (by decide), if_neg (by decide), if_pos rfl, cmd_write hn hp hn2 hp4 hp2]
 unfold RStores
 rw [hlen] at hx
 have HX := hid hx
 clear B hx hn hp hlen
 by_cases few : hist.length < 4096
 ·have HX2 := HX
  go_enter Tryz.func91, Tryz.ntmps91
  go_upto_region 12 with (go_at_call 102; refine HD.out.mono ?_; rintro e w1 hw; rcases hw with ⟨-, rfl, v1, b1, m1⟩ | ⟨hf, -⟩; rotate_left; exact absurd few hf; have B1 := hid b1; have M1 := hid m1; clear b1 m1)
  have hvb := M1.out.k.1
  have c7 := B1.out.cells.2.2.2.2.2.2.2
  have f7 := B1.out.row.frozen 7
  rw [hvb] at c7 f7
  go_upto_region 13 with fail
  have B2 := hid (B1.out.flag 1 (by decide))
  rw [hvb] at B2
  clear c7 f7 HD
  generalize w1.setCell ⟨v.b, 7, none⟩ (.int .u32 1) = w2 at B2 ⊢
  have c7 := B2.out.1.cells.2.2.2.2.2.2.2
  have f7 := B2.out.1.row.frozen 7
  rw [hvb] at c7 f7
  have HVB := hid hvb
  clear hvb
  go_wp2_with fail
  go_ret
  have h3 := B2.out.1.flag 0 (by decide)
  rw [HVB.out] at h3
  unfold RStored
  rw [HX.out, if_pos few]
  exact ⟨rfl, v1, _, h3.1, (M1.out.trans B2.out.2).trans h3.2⟩
 ·have HX2 := HX
  go_enter Tryz.func91, Tryz.ntmps91
  go_upto_region 12 with (go_at_call 102; refine HD.out.mono ?_; rintro e w1 hw; rcases hw with ⟨hf, -⟩ | ⟨-, rfl, b1, m1⟩; exact absurd hf few; have B1 := hid b1; have M1 := hid m1; clear b1 m1)
  have c7 := B1.out.cells.2.2.2.2.2.2.2
  have f7 := B1.out.row.frozen 7
  go_wp2_with fail
  go_ret
  obtain ⟨b2, m2⟩ := B1.out.flag 1 (by decide)
  unfold RStored
  rw [HX.out, if_neg few]
  exact ⟨rfl, v, hist, b2, M1.out.trans m2⟩
theorem rstore_any (B : RBusAt w base v x sec0 hist) (a y : Int) (y0 : 0 ≤ y) (y1 : y < 4294967296) : RStores w base v x sec0 a y := by
 by_cases h1 : a = 4294967236
 ·subst h1
  by_cases h : x.o.length < 65536
  ·exact rstore_put B y y0 y1 h
  ·exact rstore_full B y h
 by_cases h2 : a = 4294967244
 ·subst h2; exact rstore_sector B y y0 y1
 by_cases h3 : a = 4294967248
 ·subst h3; exact rstore_address B y y0 y1
 by_cases h4 : a = 4294967252
 ·subst h4
  by_cases hm : rmay x y
  ·obtain ⟨hc, h5, h6, h7⟩ := hm
   obtain ⟨s0, s1⟩ := B.seb
   obtain ⟨a0, a1⟩ := B.adb
   obtain ⟨n, hn⟩ := Int.eq_ofNat_of_zero_le s0
   obtain ⟨p, hp⟩ := Int.eq_ofNat_of_zero_le a0
   rcases hc with rfl | rfl
   ·exact rstore_cmd_read B n p hn hp (by omega) (by omega) (by omega)
   ·exact rstore_cmd_write B n p hn hp (by omega) (by omega) (by omega)
  ·exact rstore_cmd_no B y hm
 exact rstore_none B a y (by omega)
end
end Go.Proofs.YtgcknekhimpfkaaGreatDoor
