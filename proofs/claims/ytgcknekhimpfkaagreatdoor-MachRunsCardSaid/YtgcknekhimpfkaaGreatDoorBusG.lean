/- The disk's commands. -/
import Derived.Test.YtgcknekhimpfkaaGreatDoorBusF
import Derived.Deep.QuietTactic
import Derived.BigQuiet
import Derived.Laws.IdiomCopy
namespace Go.Proofs.YtgcknekhimpfkaaGreatDoor
open Go Go.RowKit Go.Lib Go.Proofs.YtgcknekhimpfkaaGreatDoor.Pl
set_option linter.unusedVariables false
set_option linter.unusedSimpArgs false
theorem own_setCells {g N : Nat} {t : TypeId} : ∀ (l : List UInt8) (w : World) (o : Nat) (L : Nat → Int), OwnI .u8 w g N t L → OwnI .u8 (w.setCells g o (bcells l)) g N t (fun i => if o ≤ i ∧ i < o + l.length then ((l.getD (i - o) 0).toNat : Int) else L i)
 | [], w, o, L, h => h.congr fun i _ => by rw [if_neg (by simp)]
 | c :: l, w, o, L, h => by
  have h1 := own_setCells l _ (o + 1) _ (h.set o (c.toNat : Int))
  refine OwnI.congr (show OwnI .u8 (w.setCells g o (bcells (c :: l))) g N t _ from h1) fun i _ => ?_
  simp only [List.length_cons]
  by_cases h0 : i = o
  ·subst h0
   rw [if_neg (by omega), if_pos rfl, if_pos (by omega)]
   simp
  ·by_cases h2 : o + 1 ≤ i ∧ i < o + 1 + l.length
   ·rw [if_pos h2, if_pos (by omega), show i - o = (i - (o + 1)) + 1 from by omega]
    simp
   ·rw [if_neg h2, if_neg h0, if_neg (by omega)]
theorem wpList_copy_cells {P : Program} {ops : Array Oper} {rest : List Oper} {o : Oper} {a : Act} {w : World} {Q : Exit → Act → World → Prop} (hgd : o.guard = none) (d s : Operand) (dT sT : TypeId)
 (ho : o.op = .call { callee := .builtin .copy, args := #[d, s], argTypes := #[dT, sT] }) (elem : TypeId) (hu : P.underlying dT = some (.slice elem)) (hsz : (P.info? elem).map (·.size) = some 1)
 (b off dLen dCap : Nat) (sp : Addr) (sLen sCap : Nat) (hd : a.eval d = .slice (some ⟨b, off, none⟩) dLen dCap) (hs : a.eval s = .slice (some sp) sLen sCap)
 (cs : List Value) (hn : cs.length = Nat.min sLen dLen) (hsrc : ∀ j v, cs[j]? = some v → w.cell? (sp.add j) = some v)
 (ht : w.there b off cs.length) (h1 : ∀ v ∈ cs, v.oneCell' = true)
 (h : wpList P ops Q rest (a.put o.dst (goInt cs.length)) (w.setCells b off cs)) : wpList P ops Q (o :: rest) a w := by
 refine wpList_plain hgd fun K hK => ?_
 have hrun := run_copy_cells (P := P) w dT sT o.type elem b off dLen dCap sp sLen sCap cs hu hsz hn hsrc (fun j hj => (ht j hj).1) (fun j hj => (ht j hj).2) h1
 unfold Oper.wp
 simp [execOp, ho, resolve, invoke, builtin, hd, hs, hrun, Result.andThen]
 exact hK _ _ h
section
variable {w : World} {base : Nat} {v : BV} {x : BS}
theorem BusAt.newDisk (B : BusAt w base v x) {w1 : World} {u : Value} {sec : Nat → ByteArray} {ws : List (Nat × ByteArray)} (T : Touch w w1 (drow v.d v.s v.vw)) (h : DiskAt w1 base v.d v.s u x.N sec ws) (hu : ∀ g, u.ownBlock = some g → v.vw.ownBlock = some g ∨ w.heap.size ≤ g) :
 BusAt w1 base { v with vw := u } { x with sec := sec, ws := ws } ∧ Moves w w1 v { v with vw := u } := by
 have a := B.ap
 obtain ⟨lb, lm, ld, ls⟩ := B.ltb
 have far : ∀ g, g ≠ v.d → g ≠ v.s → v.vw.ownBlock ≠ some g → g ∉ drow v.d v.s v.vw := fun g h1 h2 h3 hm => by
  simp only [drow, List.mem_cons, Option.mem_toList] at hm
  rcases hm with hm | hm | hm
  ·exact h1 hm
  ·exact h2 hm
  ·exact h3 hm
 refine ⟨{ B with
  row := (T.block v.b lb (far _ a.bd a.bs (fun h => (a.wb _ h).1 rfl))).trans B.row
  mem := by obtain ⟨cs, k1, k2⟩ := B.mem; exact ⟨cs, (T.block v.m lm (far _ a.md a.ms (fun h => (a.wb _ h).2.1 rfl))).trans k1, k2⟩
  inn := B.inn.touch T (fun g hg => far g (a.ib g hg).2.2.1 (a.ib g hg).2.2.2 (fun h => a.iw g hg h))
  out := T.owns B.out (fun g hg => far g (a.ob g hg).2.2.1 (a.ob g hg).2.2.2 (fun h => a.ow g hg h))
  disk := h
  nd := (apart_iff _).2 { a with
   wb := fun g hg => (hu g hg).elim (a.wb g) (fun h1 => ⟨by simp only; omega, by simp only; omega, by simp only; omega, by simp only; omega⟩)
   iw := fun g hg hg2 => (hu g hg2).elim (a.iw g hg) (fun h1 => by have := (B.inn.lt g hg).2; omega)
   ow := fun g hg hg2 => (hu g hg2).elim (a.ow g hg) (fun h1 => by have := (B.out.lt g hg).2; omega) }
  lo := B.lo }, T.mono (fun g hg => ?_), fun g hg => ?_, ⟨rfl, rfl, rfl, rfl⟩⟩
 ·simp only [drow, List.mem_cons, Option.mem_toList] at hg
  rcases hg with rfl | rfl | hg
  ·exact mem_d v
  ·exact mem_s v
  ·exact mem_w v g hg
 ·simp only [brow, List.mem_cons, List.mem_append, Option.mem_toList] at hg ⊢
  rcases hg with hg | hg | hg | hg | hg | hg | hg
  ·exact .inl (.inl hg)
  ·exact .inl (.inr (.inl hg))
  ·exact .inl (.inr (.inr (.inl hg)))
  ·exact .inl (.inr (.inr (.inr (.inl hg))))
  ·exact .inl (.inr (.inr (.inr (.inr (.inl hg)))))
  ·exact .inl (.inr (.inr (.inr (.inr (.inr (.inl hg))))))
  ·exact (hu g hg).imp (fun h => .inr (.inr (.inr (.inr (.inr (.inr h)))))) id
theorem sectors_quiet (B : BusAt w base v x) (n : Nat) : Calls Tryz.prog 79 #[.pointer (some ⟨v.d, 0, none⟩)] (w.drewN n) fun e w' => e = .returned (.int .i64 x.N) ∧ w' = w.drewN n :=
 (sectors_bus (B.drew n)).mono fun e w' h => ⟨h.1, h.2.symm⟩
theorem BusAt.setFl (B : BusAt w base v x) (y : Int) (h : 0 ≤ y ∧ y < 4294967296) : BusAt (w.setCell ⟨v.b, 7, none⟩ (.int .u32 y)) base v { x with fl := y } ∧ Moves w (w.setCell ⟨v.b, 7, none⟩ (.int .u32 y)) v v :=
 ⟨B.setRow (Touch.set _ ⟨v.b, 7, none⟩ _) (B.row.set 7 _) rfl B.tkb B.seb B.adb h, (Touch.set _ ⟨v.b, 7, none⟩ _).mono (by simp [mem_b]), fun g h => .inl h, ⟨rfl, rfl, rfl, rfl⟩⟩
theorem bdisk_range (B : BusAt w base v x) (a n : Nat) (h : a + n ≤ 1048576) : w.rangeAt v.m a (strCells (ofBs (memBytes x.M a n))) := fun j u hj => by
 rw [ofBs_cells] at hj
 have hj2 : j < n := by have := (List.getElem?_eq_some_iff.1 hj).1; rw [bcells_length, memBytes_length] at this; exact this
 rw [B.mem.cell (i := a + j) (by omega)]
 have hb := B.mb (a + j)
 rw [← hj, bcells_get _ _ (by rw [memBytes_length]; exact hj2)]
 have e : (memBytes x.M a n)[j]'(by rw [memBytes_length]; exact hj2) = u8Of (x.M (a + j)) := by simp [memBytes]
 rw [e, u8Of_toNat]
 congr 2
 omega
theorem bcmd_odd1 (B : BusAt w base v x) (c : Int) (h : x.ad % 4 = 1) :
 Calls Tryz.prog 78 #[.pointer (some ⟨v.b, 0, none⟩), .int .u32 c] w fun e w' => e = .returned (.tuple #[]) ∧ BusAt w' base v x.fail ∧ Moves w w' v v := by
 obtain ⟨-, -, -, -, -, -, -, c7⟩ := B.cells
 have f7 := B.row.frozen 7
 obtain ⟨B1, M1⟩ := B.setFl 1 (by omega)
 go_enter Tryz.func78, Tryz.ntmps78
 go_upto_region 1 with fail
 generalize w.setCell ⟨v.b, 7, none⟩ (.int .u32 1) = W at B1 M1 ⊢
 clear c7 f7
 obtain ⟨c0, c1, c2, c3, c4, c5, c6, c7⟩ := B1.cells
 clear c2 c3 c4
 have f7 := B1.row.frozen 7
 have a0 := B.adb.1
 have a1 := B.adb.2
 have s0 := B.seb.1
 have s1 := B.seb.2
 have n0 := B.disk.ge
 have n1 : (0 : Int) ≤ x.N := by omega
 have n2 : (x.N : Int) < 4294967296 := by omega
 go_quiet (first | (go_at_call 79; exact Calls.quiet_of_same (sectors_quiet B1 _)))
 go_wp2_with fail
 refine bodyPost_ret (results_none rfl _ _ _) rfl ?_
 exact ⟨rfl, B1.drew _, M1.trans (Moves.of_below v ⟨rfl, rfl, rfl, Nat.le_refl _, fun _ _ => rfl⟩)⟩
theorem bcmd_odd2 (B : BusAt w base v x) (c : Int) (h : x.ad % 4 = 2) :
 Calls Tryz.prog 78 #[.pointer (some ⟨v.b, 0, none⟩), .int .u32 c] w fun e w' => e = .returned (.tuple #[]) ∧ BusAt w' base v x.fail ∧ Moves w w' v v := by
 obtain ⟨-, -, -, -, -, -, -, c7⟩ := B.cells
 have f7 := B.row.frozen 7
 obtain ⟨B1, M1⟩ := B.setFl 1 (by omega)
 go_enter Tryz.func78, Tryz.ntmps78
 go_upto_region 1 with fail
 generalize w.setCell ⟨v.b, 7, none⟩ (.int .u32 1) = W at B1 M1 ⊢
 clear c7 f7
 obtain ⟨c0, c1, c2, c3, c4, c5, c6, c7⟩ := B1.cells
 clear c2 c3 c4
 have f7 := B1.row.frozen 7
 have a0 := B.adb.1
 have a1 := B.adb.2
 have s0 := B.seb.1
 have s1 := B.seb.2
 have n0 := B.disk.ge
 have n1 : (0 : Int) ≤ x.N := by omega
 have n2 : (x.N : Int) < 4294967296 := by omega
 go_quiet (first | (go_at_call 79; exact Calls.quiet_of_same (sectors_quiet B1 _)))
 go_wp2_with fail
 refine bodyPost_ret (results_none rfl _ _ _) rfl ?_
 exact ⟨rfl, B1.drew _, M1.trans (Moves.of_below v ⟨rfl, rfl, rfl, Nat.le_refl _, fun _ _ => rfl⟩)⟩
theorem bcmd_odd3 (B : BusAt w base v x) (c : Int) (h : x.ad % 4 = 3) :
 Calls Tryz.prog 78 #[.pointer (some ⟨v.b, 0, none⟩), .int .u32 c] w fun e w' => e = .returned (.tuple #[]) ∧ BusAt w' base v x.fail ∧ Moves w w' v v := by
 obtain ⟨-, -, -, -, -, -, -, c7⟩ := B.cells
 have f7 := B.row.frozen 7
 obtain ⟨B1, M1⟩ := B.setFl 1 (by omega)
 go_enter Tryz.func78, Tryz.ntmps78
 go_upto_region 1 with fail
 generalize w.setCell ⟨v.b, 7, none⟩ (.int .u32 1) = W at B1 M1 ⊢
 clear c7 f7
 obtain ⟨c0, c1, c2, c3, c4, c5, c6, c7⟩ := B1.cells
 clear c2 c3 c4
 have f7 := B1.row.frozen 7
 have a0 := B.adb.1
 have a1 := B.adb.2
 have s0 := B.seb.1
 have s1 := B.seb.2
 have n0 := B.disk.ge
 have n1 : (0 : Int) ≤ x.N := by omega
 have n2 : (x.N : Int) < 4294967296 := by omega
 go_quiet (first | (go_at_call 79; exact Calls.quiet_of_same (sectors_quiet B1 _)))
 go_wp2_with fail
 refine bodyPost_ret (results_none rfl _ _ _) rfl ?_
 exact ⟨rfl, B1.drew _, M1.trans (Moves.of_below v ⟨rfl, rfl, rfl, Nat.le_refl _, fun _ _ => rfl⟩)⟩
theorem bcmd_high (B : BusAt w base v x) (c : Int) (h : x.ad % 4 = 0) (hh : 1047552 < x.ad) :
 Calls Tryz.prog 78 #[.pointer (some ⟨v.b, 0, none⟩), .int .u32 c] w fun e w' => e = .returned (.tuple #[]) ∧ BusAt w' base v x.fail ∧ Moves w w' v v := by
 obtain ⟨-, -, -, -, -, -, -, c7⟩ := B.cells
 have f7 := B.row.frozen 7
 obtain ⟨B1, M1⟩ := B.setFl 1 (by omega)
 go_enter Tryz.func78, Tryz.ntmps78
 go_upto_region 1 with fail
 generalize w.setCell ⟨v.b, 7, none⟩ (.int .u32 1) = W at B1 M1 ⊢
 clear c7 f7
 obtain ⟨c0, c1, c2, c3, c4, c5, c6, c7⟩ := B1.cells
 clear c2 c3 c4
 have f7 := B1.row.frozen 7
 have a0 := B.adb.1
 have a1 := B.adb.2
 have s0 := B.seb.1
 have s1 := B.seb.2
 have n0 := B.disk.ge
 have n1 : (0 : Int) ≤ x.N := by omega
 have n2 : (x.N : Int) < 4294967296 := by omega
 go_quiet (first | (go_at_call 79; exact Calls.quiet_of_same (sectors_quiet B1 _)))
 go_wp2_with fail
 refine bodyPost_ret (results_none rfl _ _ _) rfl ?_
 exact ⟨rfl, B1.drew _, M1.trans (Moves.of_below v ⟨rfl, rfl, rfl, Nat.le_refl _, fun _ _ => rfl⟩)⟩
theorem bcmd_out (B : BusAt w base v x) (c : Int) (h : x.ad % 4 = 0) (hh : x.ad ≤ 1047552) (hs : (x.N : Int) ≤ x.se) :
 Calls Tryz.prog 78 #[.pointer (some ⟨v.b, 0, none⟩), .int .u32 c] w fun e w' => e = .returned (.tuple #[]) ∧ BusAt w' base v x.fail ∧ Moves w w' v v := by
 obtain ⟨-, -, -, -, -, -, -, c7⟩ := B.cells
 have f7 := B.row.frozen 7
 obtain ⟨B1, M1⟩ := B.setFl 1 (by omega)
 go_enter Tryz.func78, Tryz.ntmps78
 go_upto_region 1 with fail
 generalize w.setCell ⟨v.b, 7, none⟩ (.int .u32 1) = W at B1 M1 ⊢
 clear c7 f7
 obtain ⟨c0, c1, c2, c3, c4, c5, c6, c7⟩ := B1.cells
 clear c2 c3 c4
 have f7 := B1.row.frozen 7
 have a0 := B.adb.1
 have a1 := B.adb.2
 have s0 := B.seb.1
 have s1 := B.seb.2
 have n0 := B.disk.ge
 have n1 : (0 : Int) ≤ x.N := by omega
 have n2 : (x.N : Int) < 4294967296 := by omega
 have hh1 : decide (1047552 < x.ad) = false := decide_eq_false (by omega)
 go_quiet (first | (go_at_call 79; exact Calls.quiet_of_same (sectors_quiet B1 _)))
 go_wp2_with fail
 refine bodyPost_ret (results_none rfl _ _ _) rfl ?_
 exact ⟨rfl, B1.drew _, M1.trans (Moves.of_below v ⟨rfl, rfl, rfl, Nat.le_refl _, fun _ _ => rfl⟩)⟩
theorem bcmd_other (B : BusAt w base v x) (c : Int) (h : x.ad % 4 = 0) (hh : x.ad ≤ 1047552) (hs : x.se < (x.N : Int)) (hc1 : (c == 1) = false) (hc2 : (c == 2) = false) :
 Calls Tryz.prog 78 #[.pointer (some ⟨v.b, 0, none⟩), .int .u32 c] w fun e w' => e = .returned (.tuple #[]) ∧ BusAt w' base v x.fail ∧ Moves w w' v v := by
 obtain ⟨-, -, -, -, -, -, -, c7⟩ := B.cells
 have f7 := B.row.frozen 7
 obtain ⟨B1, M1⟩ := B.setFl 1 (by omega)
 go_enter Tryz.func78, Tryz.ntmps78
 go_upto_region 1 with fail
 generalize w.setCell ⟨v.b, 7, none⟩ (.int .u32 1) = W at B1 M1 ⊢
 clear c7 f7
 obtain ⟨c0, c1, c2, c3, c4, c5, c6, c7⟩ := B1.cells
 clear c2 c3 c4
 have f7 := B1.row.frozen 7
 have a0 := B.adb.1
 have a1 := B.adb.2
 have s0 := B.seb.1
 have s1 := B.seb.2
 have n0 := B.disk.ge
 have n1 : (0 : Int) ≤ x.N := by omega
 have n2 : (x.N : Int) < 4294967296 := by omega
 have hh1 : decide (1047552 < x.ad) = false := decide_eq_false (by omega)
 have hs1 : decide ((x.N : Int) ≤ x.se) = false := decide_eq_false (by omega)
 have hw : (x.ad + 1024) % 4294967296 = x.ad + 1024 := by omega
 go_quiet (first | (go_at_call 79; exact Calls.quiet_of_same (sectors_quiet B1 _)))
 go_upto_region 2 with fail
 go_quiet (fail)
 go_wp2_with fail
 go_end0
 exact ⟨rfl, B1.drew _, M1.trans (Moves.of_below v ⟨rfl, rfl, rfl, Nat.le_refl _, fun _ _ => rfl⟩)⟩
end
end Go.Proofs.YtgcknekhimpfkaaGreatDoor
