/- The document's bus: a sector, written. -/
import Derived.Test.YtgcknekhimpfkaaGreatDoorQT
import Derived.Deep.RegionLaw
import Derived.Deep.DrawnRows
namespace Go.Proofs.YtgcknekhimpfkaaGreatDoor
open Go Go.RowKit Go.Lib Go.Proofs.YtgcknekhimpfkaaGreatDoor.Pl
set_option maxHeartbeats 1000000
set_option linter.unusedVariables false
set_option linter.unusedSimpArgs false
section
variable {w : World} {base r : Nat} {vf vw : Value} {N : Nat} {sec0 : Nat → ByteArray} {hist : List (Nat × ByteArray)}
set_option maxRecDepth 100000 in
theorem rwrite_cv (R : RefAt w base r vf vw N sec0 hist) (n : Nat) (hn : n < N) (few : hist.length < 4096) (sa : Option Addr) (cap : Nat) (S : ByteArray) (hcv : ∀ w', w'.heap = w.heap → (convert 69 9 (.slice sa 1024 cap)).run Tryz.prog w' = .ok (.string S) w') :
 Calls Tryz.prog 112 #[.pointer (some ⟨r, 0, none⟩), .int .i64 (n : Int), .slice sa 1024 cap] w fun e w' => e = .returned (.int .i64 0) ∧ ∃ vw', RefAt w' base r vf vw' N sec0 (hist ++ [(n, S)]) ∧ Touch w w' (rrow r vf vw) ∧ (∀ g, vw'.ownBlock = some g → vw.ownBlock = some g ∨ w.heap.size ≤ g) := by
 obtain ⟨i0, z0, hi, hz0, hz1, hz2, hz3⟩ := info_rwrite
 have HI := hid hi; clear hi
 have HZ := hid hz0; clear hz0
 have c0 := R.c0
 have c1 := R.c1
 have f1 := R.f1
 obtain ⟨q, c, rfl⟩ := R.fform
 obtain ⟨q', c', rfl, _⟩ := R.wform
 have hrl := R.rlt
 have hbase : base ≤ w.heap.size := Nat.le_trans R.br (Nat.le_of_lt hrl)
 have hrv : r ∉ (Value.slice q' hist.length c').ownBlock.toList := fun hm => R.rw_ (by simpa using hm)
 have HRV := hid hrv
 have HO : ∀ w', Below w.heap.size w w' → w'.ownsRow base 137 2 (.slice q' hist.length c') hist.length (rcells hist) := fun w' hb => (Touch.of_below hb []).owns R.writes (by simp)
 have HOWN := hid HO
 have HR := hid R
 have hcv1 := hcv w.drew rfl
 clear hcv
 have c1a : ∀ o, (w.alloc o).cell? ⟨r, 1, none⟩ = some (.slice q' hist.length c') := fun o => by rw [World.cell?_alloc_lt _ _ _ hrl]; exact c1
 have hn' : (n : Int) < (N : Int) := by omega
 have hn0 : (0 : Int) ≤ (n : Int) := by omega
 have HF := hid few
 clear HO hrv R hn few
 go_enter Tryz.func112, Tryz.ntmps112
 generalize hC : (4096 : Int) = C at *
 have HC := hid hC
 clear hC
 have hlc : decide (C ≤ (hist.length : Int)) = false := by rw [decide_eq_false_iff_not]; have := HC.out; have := HF.out; omega
 go_wp2_with fail
 go_region_law ((refine step_append_lies _ (by rfl) _ _ _ (by rfl) base 137 i0 z0 2 24 Tryz.underlying74 HI.out HZ.out hz1 hz2 hz3 (by decide) _ hist.length (rcells hist) (by rfl) (HOWN.out _ (by go_grown)) ⟨w.heap.size, 0, none⟩ 1 1 [.int .i64 n, .string (S)] (by rfl) (by rfl) (World.news_of_block (heap_alloc_new _ _)) (by simp [Value.oneCell']) (by decide) (by have := HF.out; unfold maxLen; omega) (by have := HF.out; omega) (by simp; omega) (w.heap.size + 1) (by simp) ?_; intro gn cap9 w1 hown1 hgrow hat1 hlt1; have T1 := touch_app' (w := w) hgrow (by go_grown); have c1' := T1.cell c1 HRV.out; have f1' := (T1.frozen c1 HRV.out).trans f1; clear hgrow))
 all_goals
  obtain ⟨M1, M2⟩ := ref_grow_writes (v' := .slice (some ⟨gn, 0, none⟩) (hist.length + 1) cap9) HR.out T1 gn rfl (n, S) hown1 (hat1.imp id (fun e => by omega))
  have H1 := hid M1
  have H2 := hid M2
  clear M1 M2 hown1 T1
  go_wp2_with fail
  go_ret
  refine ⟨rfl, _, H1.out, H2.out, fun g' hg' => ?_⟩
  obtain rfl : gn = g' := by simpa [Value.ownBlock] using hg'
  rcases hat1 with h | h
  ·exact .inl h
  ·exact .inr (by rw [h]; omega)
end
section
variable {w w' : World} {base : Nat} {v : RV} {x : BS} {sec0 : Nat → ByteArray} {hist : List (Nat × ByteArray)}
theorem secOf_snoc' (sec0 : Nat → ByteArray) (h : List (Nat × ByteArray)) (p : Nat × ByteArray) : secOf sec0 (h ++ [p]) = upd (secOf sec0 h) p.1 p.2 := by simp [secOf]
/-- The disk behind a write. -/
theorem RBusAt.newDisk (B : RBusAt w base v x sec0 hist) {u : Value} {n : Nat} {S : ByteArray} (hn : n < x.N) (few : hist.length < 4096) (hS : S.size = 1024) (R : RefAt w' base v.r v.vf u x.N sec0 (hist ++ [(n, S)])) (t : Touch w w' (rrow v.r v.vf v.vw)) (hu : ∀ g, u.ownBlock = some g → v.vw.ownBlock = some g ∨ w.heap.size ≤ g) :
 RBusAt w' base { v with vw := u } { x with sec := upd x.sec n S, ws := x.ws ++ [(n, x.sec n)] } sec0 (hist ++ [(n, S)]) ∧ RMoves w w' v { v with vw := u } := by
 have A := B.ap
 have hrow : ∀ g ∈ rrow v.r v.vf u, g ∈ rrow v.r v.vf v.vw ∨ w.heap.size ≤ g := fun g hg => by
  simp only [rrow, List.mem_cons, List.mem_append, Option.mem_toList] at hg ⊢
  rcases hg with h | h | h
  ·exact .inl (.inl h)
  ·exact .inl (.inr (.inl h))
  ·rcases hu g h with k | k
   ·exact .inl (.inr (.inr k))
   ·exact .inr k
 have far : ∀ g, g < w.heap.size → g ∉ rrow v.r v.vf v.vw → g ∉ rrow v.r v.vf u := fun g hl hg h => (hrow g h).elim hg (fun k => by omega)
 have olt : ∀ g, v.vo.ownBlock = some g → g < w.heap.size := fun g hg => (own_lt B.out g hg).1
 refine ⟨{ B with
  row := (t.block v.b B.row.lt A.br).trans B.row
  mem := by obtain ⟨cs, h1, h2⟩ := B.mem; exact ⟨cs, (t.block v.m B.mem.lt A.mr).trans h1, h2⟩
  out := t.owns B.out (fun g hg => (A.ob g hg).2.2)
  disk := R
  sec := by rw [secOf_snoc', ← B.sec]
  ws := by rw [rolds_snoc, ← B.ws, ← B.sec]
  few := by simp; omega
  slen := fun i hi => by show (upd x.sec n S i).size = 1024; unfold upd; split; exact hS; exact B.slen i hi
  nd := ?_ }, ⟨t.mono (fun g hg => by simp [rbrow, hg]), fun g hg => ?_, ⟨rfl, rfl, rfl⟩⟩⟩
 ·have nd := B.nd
  simp only [rbrow, List.nodup_cons, List.mem_cons, List.mem_append, not_or, Option.mem_toList, List.nodup_append] at nd ⊢
  obtain ⟨⟨n1, n2, n3⟩, ⟨n4, n5⟩, n6, n7, n8⟩ := nd
  refine ⟨⟨n1, n2, far _ B.row.lt n3⟩, ⟨n4, far _ B.mem.lt n5⟩, n6, ?_, fun a ha b hb e => ?_⟩
  ·simp only [rrow, List.nodup_cons, List.mem_append, Option.mem_toList, not_or, List.nodup_append]
   refine ⟨⟨R.rf, R.rw_⟩, ?_, ?_, fun a ha b hb e => R.fw a ha (e ▸ hb)⟩
   ·cases v.vf.ownBlock <;> simp
   ·cases u.ownBlock <;> simp
  ·subst e
   exact far a (olt a ha) (fun h => n8 a ha a h rfl) hb
 ·simp only [rbrow, List.mem_cons, List.mem_append] at hg ⊢
  rcases hg with h | h | h | h
  ·exact .inl (.inl h)
  ·exact .inl (.inr (.inl h))
  ·exact .inl (.inr (.inr (.inl h)))
  ·exact (hrow g h).imp (fun k => .inr (.inr (.inr k))) id
end
section
variable {w : World} {base : Nat} {v : RV} {x : BS} {sec0 : Nat → ByteArray} {hist : List (Nat × ByteArray)}
theorem memBytes_snoc (M : Nat → Int) (p k : Nat) : memBytes M p (k + 1) = memBytes M p k ++ [u8Of (M (p + k))] := by
 unfold memBytes
 rw [List.range_succ, List.map_append]
 rfl
theorem bcells_u8 (y : Int) (h0 : 0 ≤ y) (h1 : y ≤ 255) : bcells [u8Of y] = [.int .u8 y] := by
 show [Value.int .u8 ((u8Of y).toNat : Int)] = _
 rw [u8Of_toNat, show y % 256 = y from by omega]
theorem own_heap {w w' : World} {b : Nat} {e : TypeId} {size : Nat} {v : Value} {n : Nat} {xs : List Value} (h : w.ownsRow b e size v n xs) (hh : w'.heap = w.heap) : w'.ownsRow b e size v n xs := by
 obtain ⟨h1, h2⟩ := h
 refine ⟨h1, ?_⟩
 rcases h2 with h2 | ⟨g, cap, cur, k1, k2, k3, k4⟩
 ·exact .inl h2
 ·exact .inr ⟨g, cap, cur, k1, k2, by rw [hh]; exact k3, k4⟩
theorem own_conv {w : World} {b : Nat} {v : Value} {l : List UInt8} {n : Nat} (hn : l.length = n) (h : w.ownsRow b 5 1 v n (bcells l)) : (convert 69 9 v).run Tryz.prog w = .ok (.string (ofBs l)) w := by
 subst hn
 rcases h.2 with ⟨h1, h2⟩ | ⟨g, cap, cur, h1, h2, h3, h4, h5, h6, h7⟩
 ·have : l = [] := List.eq_nil_of_length_eq_zero h2
  rw [h1, this]
  exact bconv_zero w none 0
 ·rw [h1]
  refine bconv_range w g 0 l.length cap (ofBs l) (ofBs_size _) (fun j u hj => ?_)
  rw [Nat.zero_add, cell_of_row w g j cur _ (0, 0) h3]
  rw [ofBs_cells, ← h7, Nat.mul_one, List.getElem?_take] at hj
  split at hj
  ·rw [← hj, Array.getElem?_toList]
  ·cases hj
/-- What a sector's write comes to. -/
def RWr (w w' : World) (base : Nat) (v : RV) (x : BS) (sec0 : Nat → ByteArray) (hist : List (Nat × ByteArray)) (n p : Nat) (e : Ending) : Prop :=
 (hist.length < 4096 ∧ e = .returned (.bool true) ∧ ∃ v', RBusAt w' base v' { x with sec := upd x.sec n (ofBs (memBytes x.M p 1024)), ws := x.ws ++ [(n, x.sec n)] } sec0 (hist ++ [(n, ofBs (memBytes x.M p 1024))]) ∧ RMoves w w' v v') ∨
 (¬ hist.length < 4096 ∧ e = .returned (.bool false) ∧ RBusAt w' base v x sec0 hist ∧ RMoves w w' v v)
set_option maxRecDepth 100000 in
theorem rdone_write (B : RBusAt w base v x sec0 hist) (n p : Nat) (hn : x.se = n) (hp : x.ad = p) (hn2 : n < x.N) (hp4 : p % 4 = 0) (hp2 : p ≤ 1047552) :
 Calls Tryz.prog 102 #[.pointer (some ⟨v.b, 0, none⟩), .int .u32 2] w fun e w' => RWr w w' base v x sec0 hist n p e := by
 obtain ⟨i0, hi, hz0, hz1, hz2⟩ := u8_info
 obtain ⟨-, c1, -, -, -, c5, c6, -⟩ := B.cells
 obtain ⟨n0, n1⟩ := B.nb
 have m0 : (0 : Int) ≤ (x.N : Int) := by omega
 have m1 : (x.N : Int) ≤ 1024 := by omega
 have HQ := hid (fun n => rsectors_quiet B n)
 have HB := hid B
 have HBq := hid (fun m => B.drewN m)
 rw [hn] at c5
 rw [hp] at c6
 have t3 : decide ((x.N : Int) ≤ (n : Int)) = false := decide_eq_false (by omega)
 have t3' : decide (x.N ≤ n) = false := decide_eq_false (by omega)
 have t4 : ((p : Int) % 4 != 0) = false := by simp; omega
 have t5 : decide (1047552 < (p : Int)) = false := decide_eq_false (by omega)
 have p0 : (p : Int) ≤ 1047552 := by omega
 have p1 : (0 : Int) ≤ (p : Int) := by omega
 have n2 : (n : Int) ≤ 1024 := by omega
 have n3 : (0 : Int) ≤ (n : Int) := by omega
 have HNX := hid hn
 have HPX := hid hp
 have HN2 := hid hn2
 have HI := hid hi
 clear B hn hp hn2 hi
 generalize hXN : x.N = N at *
 have HXN := hid hXN
 clear hXN
 go_enter Tryz.func102, Tryz.ntmps102
 go_wp2_with fail
 refine wp_region_quiet_lit (by kernel_rfl) (by kernel_rfl) ?_
 repeat (first | go_big_quiet_step ((go_at_call 101; exact Calls.quiet_of_same (HQ.out _))) | quiet_step ((go_at_call 101; exact Calls.quiet_of_same (HQ.out _))))
 refine wpQuiet_nil ?_
 intro _ hw'
 obtain ⟨nq, hw''⟩ := hw'
 subst hw''
 go_wp2_with fail
 have B2 := hid (HBq.out nq)
 have M2 := hid (show RMoves w (w.drewN nq) v v from RMoves.of_below v ⟨rfl, rfl, rfl, Nat.le_refl _, fun _ _ => rfl⟩)
 clear HQ HB HBq c1 c5 c6 t3 t3' t4 t5
 generalize w.drewN nq = w2 at B2 M2 ⊢
 go_loopw [8, 9] (fun sl i wr => ∃ k : Nat, k ≤ 1024 ∧ i = .int .i64 k ∧ wr.ownsRow w2.heap.size 5 1 sl k (bcells (memBytes x.M p k)) ∧ Below w2.heap.size w2 wr) (fun _ i _ => 1024 - (intOf i).toNat)
 case atStart => exact ⟨0, by decide, rfl, ⟨rfl, .inl ⟨rfl, rfl⟩⟩, Below.refl _ _⟩
 case round =>
  obtain ⟨k, hk, rfl, hown, hbl⟩ := hrel
  by_cases hlt : k < 1024
  ·have hlt' : (k : Int) < 1024 := by omega
   have bx := B2.out.below hbl
   obtain ⟨-, -, -, -, -, -, d6, -⟩ := bx.cells
   simp only [HPX.out] at d6
   have hc := rbyte_any bx (p + k) (by omega)
   rw [Int.natCast_add] at hc
   have hmb := bx.mb (p + k)
   have hsn := memBytes_snoc x.M p k
   have hcell := bcells_u8 (x.M (p + k)) hmb.1 hmb.2
   have HC := hid hc
   have HS := hid (show bcells (memBytes x.M p (k + 1)) = bcells (memBytes x.M p k) ++ [.int .u8 (x.M (p + k))] from by rw [hsn, bcells_append, hcell])
   have hb1' : IntKind.u32.wrap ((p : Int) + (k : Int)) = (p : Int) + (k : Int) := by rw [IntKind.wrap_u32]; omega
   have HOW := hid hown
   have HBL := hid hbl
   have hbsz := hbl.size
   obtain ⟨qa, qc, hv⟩ : ∃ a c, u8 = .slice a k c := by
    rcases hown.2 with ⟨h1, h2⟩ | ⟨g, cap, cur, h1, _⟩
    ·exact ⟨none, 0, by rw [h1, h2]⟩
    ·exact ⟨_, _, h1⟩
   clear bx hc hsn hcell hown hbl
   generalize x.M (p + k) = y at HC HS hmb
   subst hv
   have hbw : w2.heap.size ≤ wr.heap.size := hbsz
   go_wp2_with (first | (go_at_call 88; refine HC.out.mono ?_; rintro e w1 ⟨rfl, rfl⟩) | (at_builtin; refine wpList_append_lies _ rfl _ _ 69 rfl w2.heap.size 5 i0 (.int .u8 0) 1 1 Tryz.underlying69 HI.out hz0 hz1 hz2 rfl (by decide) _ k (bcells (memBytes x.M p k)) rfl (HOW.out.alloc _) ⟨wr.heap.size, 0, none⟩ 1 1 [.int .u8 y] rfl rfl (World.news_of_block (heap_alloc_new _ _)) ?c2 (by decide) ?c3 ?c4 ?c5 (wr.heap.size + 1) (by simp) ?_))
   case c2 => simp [Value.oneCell']
   case c3 => unfold maxLen; omega
   case c4 => omega
   case c5 => first | omega | (simp; omega)
   intro g cap w4 hown1 hgrow hat1 hlt1
   have hb4 : Below w2.heap.size w2 w4 := (HBL.out.alloc hbw _).grown hgrow (by simp; omega) (fun g' hg' => (own_lt HOW.out g' hg').2)
   have HB4 := hid hb4
   have HO4 := hid hown1
   clear hb4 hown1 hgrow hat1
   go_wp2_with fail
   go_roundw
   case rel => exact ⟨k + 1, by omega, by go_num, by rw [HS.out]; exact HO4.out, HB4.out⟩
   case measure => simp [intOf]; omega
  ·obtain rfl : k = 1024 := by omega
   obtain ⟨qa, qc, hv⟩ : ∃ a c, u8 = .slice a 1024 c := by
    rcases hown.2 with ⟨h1, h2⟩ | ⟨g, cap, cur, h1, _⟩
    ·exact ⟨none, 0, by rw [h1, h2]⟩
    ·exact ⟨_, _, h1⟩
   subst hv
   have hml : (memBytes x.M p 1024).length = 1024 := memBytes_length _ _ _
   have bx := (B2.out.below hbl).drew
   have mx := M2.out.trans (RMoves.of_below v (hbl.drew))
   have hcv : ∀ w', w'.heap = wr.drew.heap → (convert 69 9 (.slice qa 1024 qc)).run Tryz.prog w' = .ok (.string (ofBs (memBytes x.M p 1024))) w' := fun w' h => own_conv hml (own_heap hown h)
   have BX := hid bx
   have MX := hid mx
   have HCV := hid hcv
   obtain ⟨-, d1, -, -, -, d5, -, -⟩ := bx.cells
   simp only [HNX.out] at d5
   have hsz : (ofBs (memBytes x.M p 1024)).size = 1024 := by rw [ofBs_size]; exact hml
   have HSZ := hid hsz
   have hfw := bx.few
   have HNN := hid (show n < x.N from by rw [HXN.out]; exact HN2.out)
   clear bx mx hcv hml hsz hown hbl
   by_cases few : hist.length < 4096
   ·go_wp2_with fail
    go_still_tail 10, (by kernel_rfl)
    change wpList _ _ _ _ _ wr.drew
    generalize wr.drew = w3 at BX MX HCV d1 d5 ⊢
    go_wp2_with (go_at_call 112; refine (rwrite_cv BX.out.disk n HNN.out few qa qc _ HCV.out).mono ?_; rintro e w4 ⟨rfl, vw', R4, T4, hv4⟩; have hk := hid (BX.out.newDisk HNN.out few HSZ.out R4 T4 hv4); clear R4 T4 hv4)
    go_ret
    exact .inl ⟨few, rfl, _, hk.out.1, MX.out.trans hk.out.2⟩
   ·have hfull : hist.length = 4096 := by omega
    have HFU := hid hfull
    clear hfull
    go_wp2_with fail
    go_still_tail 10, (by kernel_rfl)
    change wpList _ _ _ _ _ wr.drew
    generalize wr.drew = w3 at BX MX HCV d1 d5 ⊢
    go_wp2_with (go_at_call 112; refine (rwrite_no BX.out.disk (n : Int) qa 1024 qc (by omega) (by decide) (by omega) 33 (.inr (.inr ⟨by omega, by have := HNN.out; omega, rfl, HFU.out, rfl⟩))).mono ?_; rintro e w4 ⟨rfl, rfl⟩)
    go_ret
    exact .inr ⟨few, rfl, BX.out, MX.out⟩
end
end Go.Proofs.YtgcknekhimpfkaaGreatDoor
