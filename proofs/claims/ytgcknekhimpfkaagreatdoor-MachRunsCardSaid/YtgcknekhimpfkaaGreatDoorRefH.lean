/- The document's: flags, what is moved, summed, the product. -/
import Derived.Test.YtgcknekhimpfkaaGreatDoorQY
import Derived.Test.YtgcknekhimpfkaaGreatDoorQN
import Derived.Deep.DeepCutAuto
import Derived.Outline
namespace Go.Proofs.YtgcknekhimpfkaaGreatDoor
open Go Go.RowKit Go.Lib Go.Proofs.YtgcknekhimpfkaaGreatDoor.Pl
set_option maxHeartbeats 8000000
set_option linter.unusedVariables false
set_option linter.unusedSimpArgs false
attribute [local go_sem ↓] exec_load_cpu exec_store_cpu
theorem rflags_eq (n z c v : Bool) : bits .or .u32 (bits .or .u32 (bits .or .u32 (cr n * 2147483648 % 4294967296) (cr z * 1073741824 % 4294967296)) (cr c * 536870912 % 4294967296)) (cr v * 268435456 % 4294967296) = flagsV n z c v := by
 cases n <;> cases z <;> cases c <;> cases v <;> kernel_rfl
/-- Two blocks made, and three. -/
theorem two_made (w : World) (A B : Array Value) (ta tb : TypeId) : Blk ((w.alloc (.cells A ta)).alloc (.cells B tb)) w.heap.size A ta ∧ Blk ((w.alloc (.cells A ta)).alloc (.cells B tb)) (w.heap.size + 1) B tb ∧ ((w.alloc (.cells A ta)).alloc (.cells B tb)).heap.size = w.heap.size + 2 ∧ Below w.heap.size w ((w.alloc (.cells A ta)).alloc (.cells B tb)) := by
 have h2 := Blk.new (w.alloc (.cells A ta)) B tb
 simp only [World.size_alloc] at h2
 exact ⟨(Blk.new w A ta).old _, h2, by simp, ((Below.refl _ _).alloc (Nat.le_refl _) _).alloc (by simp) _⟩
theorem three_made (w : World) (A B C : Array Value) (ta tb tc : TypeId) : Blk (((w.alloc (.cells A ta)).alloc (.cells B tb)).alloc (.cells C tc)) w.heap.size A ta ∧ Blk (((w.alloc (.cells A ta)).alloc (.cells B tb)).alloc (.cells C tc)) (w.heap.size + 1) B tb ∧ Blk (((w.alloc (.cells A ta)).alloc (.cells B tb)).alloc (.cells C tc)) (w.heap.size + 1 + 1) C tc ∧ (((w.alloc (.cells A ta)).alloc (.cells B tb)).alloc (.cells C tc)).heap.size = w.heap.size + 3 ∧ Below w.heap.size w (((w.alloc (.cells A ta)).alloc (.cells B tb)).alloc (.cells C tc)) := by
 obtain ⟨h0, h1, hs, hB⟩ := two_made w A B ta tb
 have h2 := Blk.new ((w.alloc (.cells A ta)).alloc (.cells B tb)) C tc
 rw [hs, show w.heap.size + 2 = w.heap.size + 1 + 1 from rfl] at h2
 exact ⟨h0.old _, h1.old _, h2, by rw [World.size_alloc, hs], hB.alloc (by omega) _⟩
theorem fin_size {cs : Array Value} {a : Nat} {W : Int} (h : cs.size = 22) : (fin cs a W).size = 22 := by simp [fin, h]
theorem fin_one {cs : Array Value} {a : Nat} {W : Int} (h : OneRow cs) : OneRow (fin cs a W) := ((h.set _ rfl).set _ rfl).set _ rfl
set_option maxRecDepth 100000 in
theorem rflags_any (cs : Array Value) (hc : CpuOk cs) (w : World) :
 Calls Tryz.prog 113 #[.agg cs] w fun e w' => e = .returned (.int .u32 (flagsV (flV cs 17) (flV cs 18) (flV cs 19) (flV cs 20))) ∧ Below w.heap.size w w' := by
 have HC := hid hc
 clear hc
 have B0 := hid (Blk.new w cs 50)
 have HB := hid ((Below.refl w.heap.size w).alloc (Nat.le_refl _) (.cells cs 50))
 have HE := hid (rflags_eq (flV cs 17) (flV cs 18) (flV cs 19) (flV cs 20))
 go_enter Tryz.func113, Tryz.ntmps113
 go_upto_region 1 with fail
 generalize w.alloc (.cells cs 50) = W at B0 HB ⊢
 have c17 := (B0.out.cell 17).trans HC.out.nV
 have c18 := (B0.out.cell 18).trans HC.out.zV
 have c19 := (B0.out.cell 19).trans HC.out.cV
 have c20 := (B0.out.cell 20).trans HC.out.vV
 go_big_quiet ((go_at_call 100; exact Calls.quiet_of_same (rbit_any _ _)))
 go_wp2_with fail
 go_ret
 exact ⟨by rw [← HE.out]; rfl, belN HB.out nq⟩
def movedV (cs : Array Value) (f : Int) (u v : Bool) (n x : Int) : Int := if u then if f = 1 then n * 65536 % 4294967296 else if v then flagsV (flV cs 17) (flV cs 18) (flV cs 19) (flV cs 20) else rgV cs 16 else x
set_option maxRecDepth 100000 in
theorem moved_n (cs : Array Value) (hc : CpuOk cs) (v : Bool) (f : Int) (a b op c n x : Int) (h0 : 0 ≤ n) (h1 : n ≤ 65535) (w : World) :
 Calls Tryz.prog 104 #[.agg cs, ins f false v a b op c n, .int .u32 x] w fun e w' => e = .returned (.int .u32 x) ∧ Below w.heap.size w w' := by
 have HC := hid hc
 clear hc
 unfold ins
 obtain ⟨h0', h1', hs, hB⟩ := two_made w cs #[.int .i64 f, .bool false, .bool v, .int .i64 a, .int .i64 b, .int .i64 op, .int .i64 c, .int .i64 n] 50 92
 have K0 := hid h0'
 have K1 := hid h1'
 have HS := hid hs
 have HB := hid hB
 clear h0' h1' hs hB
 go_enter Tryz.func104, Tryz.ntmps104
 go_upto_region 1 with fail
 generalize (w.alloc (.cells cs 50)).alloc (.cells #[.int .i64 f, .bool false, .bool v, .int .i64 a, .int .i64 b, .int .i64 op, .int .i64 c, .int .i64 n] 92) = W at K0 K1 HS HB ⊢
 have i0 : W.cell? ⟨w.heap.size + 1, 0, none⟩ = some (.int .i64 f) := K1.out.cell 0
 have i1 : W.cell? ⟨w.heap.size + 1, 1, none⟩ = some (.bool false) := K1.out.cell 1
 have i2 : W.cell? ⟨w.heap.size + 1, 2, none⟩ = some (.bool v) := K1.out.cell 2
 have i7 : W.cell? ⟨w.heap.size + 1, 7, none⟩ = some (.int .i64 n) := K1.out.cell 7
 go_wp2_with fail
 go_ret
 exact ⟨rfl, HB.out⟩
set_option maxRecDepth 100000 in
theorem moved_u1 (cs : Array Value) (hc : CpuOk cs) (v : Bool) (a b op c n x : Int) (h0 : 0 ≤ n) (h1 : n ≤ 65535) (w : World) :
 Calls Tryz.prog 104 #[.agg cs, ins 1 true v a b op c n, .int .u32 x] w fun e w' => e = .returned (.int .u32 (n * 65536 % 4294967296)) ∧ Below w.heap.size w w' := by
 have HC := hid hc
 clear hc
 unfold ins
 obtain ⟨h0', h1', hs, hB⟩ := two_made w cs #[.int .i64 1, .bool true, .bool v, .int .i64 a, .int .i64 b, .int .i64 op, .int .i64 c, .int .i64 n] 50 92
 have K0 := hid h0'
 have K1 := hid h1'
 have HS := hid hs
 have HB := hid hB
 clear h0' h1' hs hB
 go_enter Tryz.func104, Tryz.ntmps104
 go_upto_region 1 with fail
 generalize (w.alloc (.cells cs 50)).alloc (.cells #[.int .i64 1, .bool true, .bool v, .int .i64 a, .int .i64 b, .int .i64 op, .int .i64 c, .int .i64 n] 92) = W at K0 K1 HS HB ⊢
 have i0 : W.cell? ⟨w.heap.size + 1, 0, none⟩ = some (.int .i64 1) := K1.out.cell 0
 have i1 : W.cell? ⟨w.heap.size + 1, 1, none⟩ = some (.bool true) := K1.out.cell 1
 have i2 : W.cell? ⟨w.heap.size + 1, 2, none⟩ = some (.bool v) := K1.out.cell 2
 have i7 : W.cell? ⟨w.heap.size + 1, 7, none⟩ = some (.int .i64 n) := K1.out.cell 7
 go_wp2_with fail
 go_ret
 exact ⟨by rw [show n * 65536 % 4294967296 = n * 65536 from by omega]; rfl, HB.out⟩
set_option maxRecDepth 100000 in
theorem moved_h (cs : Array Value) (hc : CpuOk cs) (a b op c n x : Int) (h0 : 0 ≤ n) (h1 : n ≤ 65535) (w : World) :
 Calls Tryz.prog 104 #[.agg cs, ins 0 true false a b op c n, .int .u32 x] w fun e w' => e = .returned (.int .u32 (rgV cs 16)) ∧ Below w.heap.size w w' := by
 have HC := hid hc
 clear hc
 unfold ins
 obtain ⟨h0', h1', hs, hB⟩ := two_made w cs #[.int .i64 0, .bool true, .bool false, .int .i64 a, .int .i64 b, .int .i64 op, .int .i64 c, .int .i64 n] 50 92
 have K0 := hid h0'
 have K1 := hid h1'
 have HS := hid hs
 have HB := hid hB
 clear h0' h1' hs hB
 go_enter Tryz.func104, Tryz.ntmps104
 go_upto_region 1 with fail
 generalize (w.alloc (.cells cs 50)).alloc (.cells #[.int .i64 0, .bool true, .bool false, .int .i64 a, .int .i64 b, .int .i64 op, .int .i64 c, .int .i64 n] 92) = W at K0 K1 HS HB ⊢
 have i0 : W.cell? ⟨w.heap.size + 1, 0, none⟩ = some (.int .i64 0) := K1.out.cell 0
 have i1 : W.cell? ⟨w.heap.size + 1, 1, none⟩ = some (.bool true) := K1.out.cell 1
 have i2 : W.cell? ⟨w.heap.size + 1, 2, none⟩ = some (.bool false) := K1.out.cell 2
 have i7 : W.cell? ⟨w.heap.size + 1, 7, none⟩ = some (.int .i64 n) := K1.out.cell 7
 have c16 := (K0.out.cell 16).trans HC.out.hV.1
 go_wp2_with fail
 go_ret
 exact ⟨rfl, HB.out⟩
set_option maxRecDepth 100000 in
theorem moved_f (cs : Array Value) (hc : CpuOk cs) (a b op c n x : Int) (h0 : 0 ≤ n) (h1 : n ≤ 65535) (w : World) :
 Calls Tryz.prog 104 #[.agg cs, ins 0 true true a b op c n, .int .u32 x] w fun e w' => e = .returned (.int .u32 (flagsV (flV cs 17) (flV cs 18) (flV cs 19) (flV cs 20))) ∧ Below w.heap.size w w' := by
 have HC := hid hc
 clear hc
 unfold ins
 obtain ⟨h0', h1', hs, hB⟩ := two_made w cs #[.int .i64 0, .bool true, .bool true, .int .i64 a, .int .i64 b, .int .i64 op, .int .i64 c, .int .i64 n] 50 92
 have K0 := hid h0'
 have K1 := hid h1'
 have HS := hid hs
 have HB := hid hB
 clear h0' h1' hs hB
 go_enter Tryz.func104, Tryz.ntmps104
 go_upto_region 1 with fail
 generalize (w.alloc (.cells cs 50)).alloc (.cells #[.int .i64 0, .bool true, .bool true, .int .i64 a, .int .i64 b, .int .i64 op, .int .i64 c, .int .i64 n] 92) = W at K0 K1 HS HB ⊢
 have i0 : W.cell? ⟨w.heap.size + 1, 0, none⟩ = some (.int .i64 0) := K1.out.cell 0
 have i1 : W.cell? ⟨w.heap.size + 1, 1, none⟩ = some (.bool true) := K1.out.cell 1
 have i2 : W.cell? ⟨w.heap.size + 1, 2, none⟩ = some (.bool true) := K1.out.cell 2
 have i7 : W.cell? ⟨w.heap.size + 1, 7, none⟩ = some (.int .i64 n) := K1.out.cell 7
 have hl := load_cpu K0.out HC.out.size
 go_wp2_with (go_at_call 113; refine (rflags_any cs HC.out _).mono ?_; rintro e w1 ⟨rfl, hb1⟩)
 go_ret
 exact ⟨rfl, HB.out.trans (hb1.mono HB.out.size)⟩
theorem moved_any (cs : Array Value) (hc : CpuOk cs) (f : Int) (hf : f = 0 ∨ f = 1) (u v : Bool) (a b op c n x : Int) (h0 : 0 ≤ n) (h1 : n ≤ 65535) (w : World) :
 Calls Tryz.prog 104 #[.agg cs, ins f u v a b op c n, .int .u32 x] w fun e w' => e = .returned (.int .u32 (movedV cs f u v n x)) ∧ Below w.heap.size w w' := by
 cases u
 ·exact moved_n cs hc v f a b op c n x h0 h1 w
 ·rcases hf with rfl | rfl
  ·cases v
   ·exact moved_h cs hc a b op c n x h0 h1 w
   ·exact moved_f cs hc a b op c n x h0 h1 w
  ·exact moved_u1 cs hc v a b op c n x h0 h1 w
set_option maxRecDepth 100000 in
theorem summed_gen (cs : Array Value) (hc : CpuOk cs) (f : Int) (u v : Bool) (a : Nat) (ha : a ≤ 15) (b op c n : Int) (y x S U : Int) (C V : Bool) (hy0 : 0 ≤ y) (hy1 : y < 4294967296) (hx0 : 0 ≤ x) (hx1 : x < 4294967296)
 (hop : op = 8 ∧ U = y + x + cr (u && flV cs 19) ∧ S = sg y + sg x + cr (u && flV cs 19) ∨ op = 9 ∧ U = y - x - cr (u && flV cs 19) ∧ S = sg y - sg x - cr (u && flV cs 19))
 (hC : U < 0 ∧ C = true ∨ 0 ≤ U ∧ U < 4294967296 ∧ C = false ∨ 4294967296 ≤ U ∧ C = true) (hV : S < -2147483648 ∧ V = true ∨ -2147483648 ≤ S ∧ S < 2147483648 ∧ V = false ∨ 2147483648 ≤ S ∧ V = true) (w : World) :
 Calls Tryz.prog 107 #[.agg cs, ins f u v a b op c n, .int .u32 y, .int .u32 x] w fun e w' => e = .returned (.agg (((fin cs a (U % 4294967296)).setIfInBounds 19 (.bool C)).setIfInBounds 20 (.bool V))) ∧ Below w.heap.size w w' := by
 have HC := hid hc
 clear hc
 have hsy := sg_bd y hy0 hy1
 have hsx := sg_bd x hx0 hx1
 have hcr := cr_bd (u && flV cs 19)
 obtain ⟨hsy0, hsy1⟩ := hsy
 obtain ⟨hsx0, hsx1⟩ := hsx
 have HOP := hid hop
 have HHC := hid hC
 have HHV := hid hV
 have hUb : -9000000000 ≤ U ∧ U ≤ 9000000000 := by omega
 have hSb : -9000000000 ≤ S ∧ S ≤ 9000000000 := by omega
 obtain ⟨hU0, hU1⟩ := hUb
 obtain ⟨hS0, hS1⟩ := hSb
 have hopp : op = 8 ∨ op = 9 := by omega
 clear hop hC hV hcr
 unfold ins
 obtain ⟨h0, h1, h2, hs, hB⟩ := three_made w cs #[.int .i64 f, .bool u, .bool v, .int .i64 a, .int .i64 b, .int .i64 op, .int .i64 c, .int .i64 n] #[.int .u32 0, .int .u32 0, .int .u32 0, .int .u32 0, .int .u32 0, .int .u32 0, .int .u32 0, .int .u32 0, .int .u32 0, .int .u32 0, .int .u32 0, .int .u32 0, .int .u32 0, .int .u32 0, .int .u32 0, .int .u32 0, .int .u32 0, .bool false, .bool false, .bool false, .bool false, .int .u32 0] 50 92 50
 have K0 := hid h0
 have K1 := hid h1
 have K2 := hid h2
 have HS := hid hs
 have HB := hid hB
 clear h0 h1 h2 hs hB
 go_enter Tryz.func107, Tryz.ntmps107
 go_upto_region 1 with fail
 generalize ((w.alloc (.cells cs 50)).alloc (.cells #[.int .i64 f, .bool u, .bool v, .int .i64 a, .int .i64 b, .int .i64 op, .int .i64 c, .int .i64 n] 92)).alloc (.cells #[.int .u32 0, .int .u32 0, .int .u32 0, .int .u32 0, .int .u32 0, .int .u32 0, .int .u32 0, .int .u32 0, .int .u32 0, .int .u32 0, .int .u32 0, .int .u32 0, .int .u32 0, .int .u32 0, .int .u32 0, .int .u32 0, .int .u32 0, .bool false, .bool false, .bool false, .bool false, .int .u32 0] 50) = W at K0 K1 K2 HS HB ⊢
 have i1 : W.cell? ⟨w.heap.size + 1, 1, none⟩ = some (.bool u) := K1.out.cell 1
 have i3 : W.cell? ⟨w.heap.size + 1, 3, none⟩ = some (.int .i64 a) := K1.out.cell 3
 have i5 : W.cell? ⟨w.heap.size + 1, 5, none⟩ = some (.int .i64 op) := K1.out.cell 5
 have c19 := (K0.out.cell 19).trans HC.out.cV
 have J3 := hid i3
 clear i3
 have hcr := cr_bd (u && flV cs 19)
 obtain ⟨hcr0, hcr1⟩ := hcr
 obtain ⟨q, HQ⟩ : ∃ q, (u && flV cs 19) = q := ⟨_, rfl⟩
 rw [HQ] at HOP hcr0 hcr1
 have HQ := hid HQ
 go_upto_region 2 with fail
 go_cut [17] from 12 to 17 (fun s17 wx => s17 = .bool q ∧ W = wx)
 case first =>
  cases u
  ·go_wp2_with fail
   go_meet
   exact ⟨by rw [← HQ.out]; try rfl, rfl⟩
  ·go_wp2_with fail
   go_meet
   exact ⟨by rw [← HQ.out]; try rfl, rfl⟩
 case rest =>
  obtain ⟨rfl, rfl⟩ := hcut
  clear i1 c19
  go_upto_if 17 with fail
  go_cut [9] from 18 to 18 (fun s9 wx => s9 = .int .i64 (cr q) ∧ W = wx)
  case first =>
   cases q <;> first | (go_wp2_with fail; go_meet; exact ⟨rfl, rfl⟩) | (go_wp2; done) | (go_wp2; go_meet; exact ⟨rfl, rfl⟩)
  case rest =>
   obtain ⟨rfl, rfl⟩ := hcut
   generalize cr q = m at HOP hcr0 hcr1 ⊢
   go_upto_if 34 with (go_at_call 105; refine (number_any _ (by omega) (by omega) _).mono ?_; rintro e w1 ⟨rfl, rfl⟩)
   go_cut [10, 11] from 18 to 48 (fun s10 s11 wx => s10 = .int .i64 S ∧ s11 = .int .i64 U ∧ W = wx)
   case first =>
    rcases hopp with rfl | rfl
    ·obtain ⟨eU, eS⟩ : U = y + x + m ∧ S = sg y + sg x + m := by have := HOP.out; omega
     have EU := hid eU
     have ES := hid eS
     clear eU eS
     go_wp2_with fail
     go_meet
     exact ⟨by rw [ES.out]; try go_num, by rw [EU.out]; try go_num, rfl⟩
    ·obtain ⟨eU, eS⟩ : U = y - x - m ∧ S = sg y - sg x - m := by have := HOP.out; omega
     have EU := hid eU
     have ES := hid eS
     clear eU eS
     go_wp2_with (go_at_call 105; refine (number_any _ (by omega) (by omega) _).mono ?_; rintro e w1 ⟨rfl, rfl⟩)
     go_meet
     exact ⟨by rw [ES.out]; try go_num, by rw [EU.out]; try go_num, rfl⟩
   case rest =>
    obtain ⟨rfl, rfl, rfl⟩ := hcut
    clear i5 hsy0 hsy1 hsx0 hsx1 HOP hopp hcr0 hcr1
    have hl := load_cpu K0.out HC.out.size
    have i3 := J3.out
    go_upto_region 10 with (go_at_call 93; (refine (gets_any cs HC.out a ha _ (by omega) (by omega) _).mono ?_; rintro e w1 ⟨rfl, hb1⟩; have L0 := hid (K0.out.step hb1); have L2 := hid (K2.out.step hb1); have LB := hid (HB.out.trans (hb1.mono HB.out.size)); have hst := store_cpu (cs := fin cs a (U % 4294967296)) L0.out HC.out.size (fin_size HC.out.size) (fin_one HC.out.one); clear hb1))
    have M0 := hid (L0.out.setRow (fin cs a (U % 4294967296)))
    have M2 := hid (L2.out.farRow (k := w.heap.size) (by omega) (fin cs a (U % 4294967296)))
    have MB := hid (belRow LB.out (Nat.le_refl _) (fin cs a (U % 4294967296)))
    clear hst hl i3 L0 L2 LB
    generalize w1.setRow w.heap.size (fin cs a (U % 4294967296)) = W2 at M0 M2 MB ⊢
    have hs22 : Hid ((fin cs a (U % 4294967296)).size = 22) := fin_size HC.out.size
    have ho22 : Hid (OneRow (fin cs a (U % 4294967296))) := fin_one HC.out.one
    generalize hFC : fin cs a (U % 4294967296) = FC at M0 M2 hs22 ho22 ⊢
    have HFC := hid hFC
    clear hFC
    obtain ⟨x19, c19⟩ := at_some (k := 19) hs22.out (by omega)
    have d19 := (M0.out.cell 19).trans c19
    have df := M0.out.frozen
    clear c19
    go_cut [] from 49 to 61 (fun wx => W2.setCell ⟨w.heap.size, 19, none⟩ (.bool C) = wx)
    case first =>
     rcases HHC.out with ⟨g1, rfl⟩ | ⟨g1, g2, rfl⟩ | ⟨g1, rfl⟩
     all_goals
      go_wp2_with fail
      go_meet
      first | rfl | (congr 2; rw [decide_eq_false (by omega), decide_eq_false (by omega)]; rfl)
    case rest =>
     obtain rfl := hcut
     clear d19 df
     have N0 := hid (M0.out.set 19 (.bool C))
     have N2 := hid (M2.out.far (p := ⟨w.heap.size, 19, none⟩) (by simp; omega) (.bool C))
     have NB := hid (MB.out.setCell (p := ⟨w.heap.size, 19, none⟩) (Nat.le_refl _) (.bool C))
     have es : Hid ((FC.setIfInBounds 19 (.bool C)).size = 22) := by unfold Hid; rw [Array.size_setIfInBounds]; exact hs22.out
     have eo : Hid (OneRow (FC.setIfInBounds 19 (.bool C))) := ho22.out.set _ rfl
     clear M0 M2 MB hs22 ho22
     generalize W2.setCell ⟨w.heap.size, 19, none⟩ (.bool C) = W3 at N0 N2 NB ⊢
     generalize hFD : FC.setIfInBounds 19 (.bool C) = FD at N0 es eo ⊢
     have HFD := hid hFD
     clear hFD
     obtain ⟨x20, c20⟩ := at_some (k := 20) es.out (by omega)
     have d20 := (N0.out.cell 20).trans c20
     have df := N0.out.frozen
     clear c20
     go_upto_region 11 with fail
     go_cut [] from 62 to 68 (fun wx => W3.setCell ⟨w.heap.size, 20, none⟩ (.bool V) = wx)
     case first =>
      rcases HHV.out with ⟨g1, rfl⟩ | ⟨g1, g2, rfl⟩ | ⟨g1, rfl⟩
      all_goals
       go_wp2_with fail
       go_meet
       first | rfl | (congr 2; rw [decide_eq_false (by omega), decide_eq_false (by omega)]; rfl)
     case rest =>
      obtain rfl := hcut
      clear d20 df
      have P0 := hid (N0.out.set 20 (.bool V))
      have P2 := hid (N2.out.far (p := ⟨w.heap.size, 20, none⟩) (by simp; omega) (.bool V))
      have PB := hid (NB.out.setCell (p := ⟨w.heap.size, 20, none⟩) (Nat.le_refl _) (.bool V))
      have fs : Hid ((FD.setIfInBounds 20 (.bool V)).size = 22) := by unfold Hid; rw [Array.size_setIfInBounds]; exact es.out
      have fo : Hid (OneRow (FD.setIfInBounds 20 (.bool V))) := eo.out.set _ rfl
      clear N0 N2 NB es eo
      generalize W3.setCell ⟨w.heap.size, 20, none⟩ (.bool V) = W4 at P0 P2 PB ⊢
      have hl := load_cpu P0.out fs.out
      have hst := store_cpu P2.out rfl fs.out fo.out
      have KRES := hid (loadVar_cpu (P2.out.setRow (FD.setIfInBounds 20 (.bool V))) fs.out)
      go_wp2_with fail
      have hres := KRES.out
      refine bodyPost_ret (v := .agg (FD.setIfInBounds 20 (.bool V))) ?_ rfl ⟨by rw [← HFD.out, ← HFC.out], belRow PB.out (by omega) _⟩
      simp [results, Tryz.results107, asAddr, hres]
theorem summed_add (cs : Array Value) (hc : CpuOk cs) (f : Int) (u v : Bool) (a : Nat) (ha : a ≤ 15) (b c n : Int) (y x : Int) (hy0 : 0 ≤ y) (hy1 : y < 4294967296) (hx0 : 0 ≤ x) (hx1 : x < 4294967296) (w : World) :
 Calls Tryz.prog 107 #[.agg cs, ins f u v a b 8 c n, .int .u32 y, .int .u32 x] w fun e w' => e = .returned (.agg (((fin cs a (addS y x (u && flV cs 19))).setIfInBounds 19 (.bool (addC y x (u && flV cs 19)))).setIfInBounds 20 (.bool (addV y x (u && flV cs 19))))) ∧ Below w.heap.size w w' := by
 have hcr := cr_bd (u && flV cs 19)
 refine summed_gen cs hc f u v a ha b 8 c n y x _ (y + x + cr (u && flV cs 19)) _ _ hy0 hy1 hx0 hx1 (.inl ⟨rfl, rfl, rfl⟩) ?_ ?_ w
 ·unfold addC
  by_cases h : 4294967296 ≤ y + x + cr (u && flV cs 19)
  ·exact .inr (.inr ⟨h, by simpa using h⟩)
  ·exact .inr (.inl ⟨by omega, by omega, by simpa using h⟩)
 ·unfold addV out32
  generalize sg y + sg x + cr (u && flV cs 19) = S
  by_cases h : S < -2147483648
  ·exact .inl ⟨h, decide_eq_true (.inl h)⟩
  ·by_cases h2 : 2147483648 ≤ S
   ·exact .inr (.inr ⟨h2, decide_eq_true (.inr (by omega))⟩)
   ·exact .inr (.inl ⟨by omega, by omega, decide_eq_false (by omega)⟩)
theorem summed_sub (cs : Array Value) (hc : CpuOk cs) (f : Int) (u v : Bool) (a : Nat) (ha : a ≤ 15) (b c n : Int) (y x : Int) (hy0 : 0 ≤ y) (hy1 : y < 4294967296) (hx0 : 0 ≤ x) (hx1 : x < 4294967296) (w : World) :
 Calls Tryz.prog 107 #[.agg cs, ins f u v a b 9 c n, .int .u32 y, .int .u32 x] w fun e w' => e = .returned (.agg (((fin cs a (subS y x (u && flV cs 19))).setIfInBounds 19 (.bool (subC y x (u && flV cs 19)))).setIfInBounds 20 (.bool (subV y x (u && flV cs 19))))) ∧ Below w.heap.size w w' := by
 have hcr := cr_bd (u && flV cs 19)
 refine summed_gen cs hc f u v a ha b 9 c n y x _ (y - x - cr (u && flV cs 19)) _ _ hy0 hy1 hx0 hx1 (.inr ⟨rfl, rfl, rfl⟩) ?_ ?_ w
 ·unfold subC
  by_cases h : y - x - cr (u && flV cs 19) < 0
  ·exact .inl ⟨h, by simpa using h⟩
  ·exact .inr (.inl ⟨by omega, by omega, by simpa using h⟩)
 ·unfold subV out32
  generalize sg y - sg x - cr (u && flV cs 19) = S
  by_cases h : S < -2147483648
  ·exact .inl ⟨h, decide_eq_true (.inl h)⟩
  ·by_cases h2 : 2147483648 ≤ S
   ·exact .inr (.inr ⟨h2, decide_eq_true (.inr (by omega))⟩)
   ·exact .inr (.inl ⟨by omega, by omega, decide_eq_false (by omega)⟩)
set_option maxRecDepth 100000 in
theorem product_any (cs : Array Value) (hc : CpuOk cs) (f : Int) (u v : Bool) (a : Nat) (ha : a ≤ 15) (b op c n : Int) (y x : Int) (hy0 : 0 ≤ y) (hy1 : y < 4294967296) (hx0 : 0 ≤ x) (hx1 : x < 4294967296) (w : World) :
 Calls Tryz.prog 108 #[.agg cs, ins f u v a b op c n, .int .u32 y, .int .u32 x] w fun e w' => e = .returned (.agg (fin (cs.setIfInBounds 16 (.int .u32 (mulH y x u))) a (mulL y x u))) ∧ Below w.heap.size w w' := by
 have HC := hid hc
 clear hc
 obtain ⟨hsy0, hsy1⟩ := sg_bd y hy0 hy1
 obtain ⟨hsx0, hsx1⟩ := sg_bd x hx0 hx1
 obtain ⟨hp0, hp1⟩ := mul_bd (sg y) (sg x) ⟨hsy0, hsy1⟩ ⟨hsx0, hsx1⟩
 obtain ⟨hq0, hq1⟩ := prod_bound y x hy0 (by omega) hx0 (by omega)
 have hH := hid (mulH_bd y x u)
 have hL := hid (mulL_bd y x u)
 obtain ⟨p, hp⟩ : ∃ p : Int, p = (if u then y * x else IntKind.u64.wrap (sg y * sg x)) := ⟨_, rfl⟩
 have HP : Hid (p / 4294967296 % 4294967296 = mulH y x u ∧ p % 4294967296 = mulL y x u) := by
  cases u
  ·subst hp; exact ⟨mulH_s y x _ _ rfl rfl, mulL_s y x _ _ rfl rfl⟩
  ·subst hp; exact ⟨by unfold mulH mulP; simp, by unfold mulL mulP; simp⟩
 have hpb : 0 ≤ p ∧ p < 18446744073709551616 := by
  cases u
  ·subst hp; rw [if_neg (by simp), wrap_u64]; omega
  ·subst hp; rw [if_pos rfl]; omega
 obtain ⟨hpb0, hpb1⟩ := hpb
 have HPD := hid hp
 clear hp
 unfold ins
 obtain ⟨h0, h1, h2, hs, hB⟩ := three_made w cs #[.int .i64 f, .bool u, .bool v, .int .i64 a, .int .i64 b, .int .i64 op, .int .i64 c, .int .i64 n] #[.int .u32 0, .int .u32 0, .int .u32 0, .int .u32 0, .int .u32 0, .int .u32 0, .int .u32 0, .int .u32 0, .int .u32 0, .int .u32 0, .int .u32 0, .int .u32 0, .int .u32 0, .int .u32 0, .int .u32 0, .int .u32 0, .int .u32 0, .bool false, .bool false, .bool false, .bool false, .int .u32 0] 50 92 50
 have K0 := hid h0
 have K1 := hid h1
 have K2 := hid h2
 have HB := hid hB
 clear h0 h1 h2 hs hB
 go_enter Tryz.func108, Tryz.ntmps108
 go_upto_region 1 with fail
 generalize ((w.alloc (.cells cs 50)).alloc (.cells #[.int .i64 f, .bool u, .bool v, .int .i64 a, .int .i64 b, .int .i64 op, .int .i64 c, .int .i64 n] 92)).alloc (.cells #[.int .u32 0, .int .u32 0, .int .u32 0, .int .u32 0, .int .u32 0, .int .u32 0, .int .u32 0, .int .u32 0, .int .u32 0, .int .u32 0, .int .u32 0, .int .u32 0, .int .u32 0, .int .u32 0, .int .u32 0, .int .u32 0, .int .u32 0, .bool false, .bool false, .bool false, .bool false, .int .u32 0] 50) = W at K0 K1 K2 HB ⊢
 have i1 : W.cell? ⟨w.heap.size + 1, 1, none⟩ = some (.bool u) := K1.out.cell 1
 go_upto_if 17 with (go_at_call 105; refine (number_any _ (by omega) (by omega) _).mono ?_; rintro e w1 ⟨rfl, rfl⟩)
 go_cut [9] from 10 to 22 (fun s9 wx => s9 = .int .u64 p ∧ W = wx)
 case first =>
  cases u
  ·go_wp2_with fail
   go_meet
   exact ⟨by rw [HPD.out]; simp, rfl⟩
  ·go_wp2_with fail
   go_meet
   exact ⟨by rw [HPD.out]; simp, rfl⟩
 case rest =>
  obtain ⟨rfl, rfl⟩ := hcut
  clear i1 hsy0 hsy1 hsx0 hsx1 hp0 hp1 hq0 hq1
  obtain ⟨x16, c16⟩ := at_some (k := 16) HC.out.size (by omega)
  have d16 := (K0.out.cell 16).trans c16
  have df := K0.out.frozen
  clear c16
  go_upto_region 5 with fail
  clear d16 df
  obtain ⟨e1, e2⟩ := HP.out
  rw [show p / 4294967296 = mulH y x u from by omega]
  have E2 := hid e2
  have hc2 : Hid (CpuOk (cs.setIfInBounds 16 (.int .u32 (mulH y x u)))) := HC.out.setW 16 (.inl (by omega)) _ hH.out.1 hH.out.2
  have L0 := hid (K0.out.set 16 (.int .u32 (mulH y x u)))
  have L1 := hid (K1.out.far (p := ⟨w.heap.size, 16, none⟩) (by simp) (.int .u32 (mulH y x u)))
  have L2 := hid (K2.out.far (p := ⟨w.heap.size, 16, none⟩) (by simp; omega) (.int .u32 (mulH y x u)))
  have LB := hid (HB.out.setCell (p := ⟨w.heap.size, 16, none⟩) (Nat.le_refl _) (.int .u32 (mulH y x u)))
  clear e1 e2 K0 K1 K2 HB
  generalize W.setCell ⟨w.heap.size, 16, none⟩ (.int .u32 (mulH y x u)) = W2 at L0 L1 L2 LB ⊢
  generalize hCC : cs.setIfInBounds 16 (.int .u32 (mulH y x u)) = CC at L0 hc2 ⊢
  have HCC := hid hCC
  clear hCC
  have hl := load_cpu L0.out hc2.out.size
  have i3 := L1.out.cell 3
  rw [show (#[.int .i64 f, .bool u, .bool v, .int .i64 a, .int .i64 b, .int .i64 op, .int .i64 c, .int .i64 n] : Array Value)[3]? = some (.int .i64 a) from rfl] at i3
  go_wp2_with (go_at_call 93; (refine (gets_any CC hc2.out a ha _ (by omega) (by omega) _).mono ?_; rintro e w1 ⟨rfl, hb1⟩; rw [E2.out]; have M2 := hid (L2.out.step hb1); have MB := hid (LB.out.trans (hb1.mono LB.out.size)); have hst := store_cpu (cs := fin CC a (mulL y x u)) M2.out rfl (fin_size hc2.out.size) (fin_one hc2.out.one); have KRES := hid (loadVar_cpu (M2.out.setRow (fin CC a (mulL y x u))) (fin_size hc2.out.size)); clear hb1))
  have hres := KRES.out
  refine bodyPost_ret (v := .agg (fin CC a (mulL y x u))) ?_ rfl ⟨by rw [← HCC.out], belRow MB.out (by omega) _⟩
  simp [results, Tryz.results108, asAddr, hres]
end Go.Proofs.YtgcknekhimpfkaaGreatDoor
