/- The document's bus: the command to write. -/
import Derived.Test.YtmamocdkmmkkjaaRBusG
namespace Go.Proofs.Ytmamocdkmmkkjaa
open Go Go.RowKit Go.Lib Go.Proofs.Ytmamocdkmmkkjaa.Pl
set_option linter.unusedVariables false
set_option linter.unusedSimpArgs false
section
variable {w : World} {base : Nat} {v : RV} {x : BS} {sec0 : Nat → ByteArray} {hist : List (Nat × ByteArray)}
theorem memBytes_snoc (M : Nat → Int) (p k : Nat) : memBytes M p (k + 1) = memBytes M p k ++ [u8Of (M (p + k))] := by
  unfold memBytes
  rw [List.range_succ, List.map_append]
  rfl
theorem bcells_u8 (y : Int) (h0 : 0 ≤ y) (h1 : y ≤ 255) : bcells [u8Of y] = [.int .u8 y] := by
  show [Value.int .u8 ((u8Of y).toNat : Int)] = _
  rw [u8Of_toNat, show y % 256 = y from by omega]
theorem own_heap {w w' : World} {b : Nat} {e : TypeId} {size : Nat} {v : Value} {n : Nat} {xs : List Value} (h : w.ownsRow b e size v n xs) (hh : w'.heap = w.heap) : w'.ownsRow b e size v n xs := by
  obtain ⟨h1, h2⟩ := h
  refine ⟨h1, ?_⟩
  rcases h2 with h2 | ⟨g, cap, cur, k1, k2, k3, k4⟩
  · exact .inl h2
  · exact .inr ⟨g, cap, cur, k1, k2, by rw [hh]; exact k3, k4⟩
theorem own_conv {w : World} {b : Nat} {v : Value} {l : List UInt8} {n : Nat} (hn : l.length = n) (h : w.ownsRow b 5 1 v n (bcells l)) : (convert 44 9 v).run Try.prog w = .ok (.string (ofBs l)) w := by
  subst hn
  rcases h.2 with ⟨h1, h2⟩ | ⟨g, cap, cur, h1, h2, h3, h4, h5, h6, h7⟩
  · have : l = [] := List.eq_nil_of_length_eq_zero h2
    rw [h1, this]
    exact bconv_zero w none 0
  · rw [h1]
    refine bconv_range w g 0 l.length cap (ofBs l) (ofBs_size _) (fun j u hj => ?_)
    rw [Nat.zero_add, cell_of_row w g j cur _ (0, 0) h3]
    rw [ofBs_cells, ← h7, Nat.mul_one, List.getElem?_take] at hj
    split at hj
    · rw [← hj, Array.getElem?_toList]
    · cases hj
/-- What a sector's write comes to. -/
def RWr (w w' : World) (base : Nat) (v : RV) (x : BS) (sec0 : Nat → ByteArray) (hist : List (Nat × ByteArray)) (n p : Nat) (e : Ending) : Prop :=
  (hist.length < 4096 ∧ e = .returned (.bool true) ∧ ∃ v', RBusAt w' base v' { x with sec := upd x.sec n (ofBs (memBytes x.M p 1024)), ws := x.ws ++ [(n, x.sec n)] } sec0 (hist ++ [(n, ofBs (memBytes x.M p 1024))]) ∧ RMoves w w' v v') ∨
  (¬ hist.length < 4096 ∧ e = .returned (.bool false) ∧ RBusAt w' base v x sec0 hist ∧ RMoves w w' v v)
set_option maxRecDepth 100000 in
set_option maxHeartbeats 1000000 in
theorem rdone_write (B : RBusAt w base v x sec0 hist) (n p : Nat) (hn : x.se = n) (hp : x.ad = p) (hn2 : n < x.N) (hp4 : p % 4 = 0) (hp2 : p ≤ 1047552) :
    Calls Try.prog 58 #[.pointer (some ⟨v.b, 0, none⟩), .int .u32 2] w fun e w' => RWr w w' base v x sec0 hist n p e := by
  obtain ⟨i0, hi, hz0, hz1, hz2⟩ := u8_info
  obtain ⟨-, c1, -, -, -, c5, c6, -⟩ := B.cells
  obtain ⟨n0, n1⟩ := B.nb
  have m0 : (0 : Int) ≤ (x.N : Int) := by omega
  have m1 : (x.N : Int) ≤ 1024 := by omega
  have HQ := Lib.hid (fun n => rsectors_quiet B n)
  have HB := Lib.hid B
  have HBq := Lib.hid (fun m => B.drewN m)
  rw [hn] at c5
  rw [hp] at c6
  have t3 : decide ((x.N : Int) ≤ (n : Int)) = false := decide_eq_false (by omega)
  have t3' : decide (x.N ≤ n) = false := decide_eq_false (by omega)
  have t4 : ((p : Int) % 4 != 0) = false := by simp; omega
  have t5 : decide (1047552 < (p : Int)) = false := decide_eq_false (by omega)
  have p0 : (p : Int) ≤ 1047552 := by omega
  have p1 : (0 : Int) ≤ (p : Int) := by omega
  have n2 : (n : Int) ≤ 1024 := by omega
  have n3 : (0 : Int) ≤ (n : Int) := by omega
  have HNX := Lib.hid hn
  have HPX := Lib.hid hp
  have HN2 := Lib.hid hn2
  have HI := Lib.hid hi
  clear B hn hp hn2 hi
  generalize hXN : x.N = N at *
  have HXN := Lib.hid hXN
  clear hXN
  go_enter Try.func58, Try.ntmps58
  go_wp2_with fail
  refine wp_region_quiet_lit (by kernel_rfl) (by kernel_rfl) ?_
  repeat (first | go_big_quiet_step ((go_at_call 23; exact Calls.quiet_of_same (HQ.out _))) | quiet_step ((go_at_call 23; exact Calls.quiet_of_same (HQ.out _))))
  refine wpQuiet_nil ?_
  intro _ hw'
  obtain ⟨nq, hw''⟩ := hw'
  subst hw''
  go_wp2_with fail
  have B2 := Lib.hid (HBq.out nq)
  have M2 := Lib.hid (show RMoves w (w.drewN nq) v v from RMoves.of_below v ⟨rfl, rfl, rfl, Nat.le_refl _, fun _ _ => rfl⟩)
  clear HQ HB HBq c1 c5 c6 t3 t3' t4 t5
  generalize w.drewN nq = w2 at B2 M2 ⊢
  go_loopw [8, 9] (fun sl i wr => ∃ k : Nat, k ≤ 1024 ∧ i = .int .i64 k ∧ wr.ownsRow w2.heap.size 5 1 sl k (bcells (memBytes x.M p k)) ∧ Below w2.heap.size w2 wr) (fun _ i _ => 1024 - (intOf i).toNat)
  case atStart => exact ⟨0, by decide, rfl, ⟨rfl, .inl ⟨rfl, rfl⟩⟩, Below.refl _ _⟩
  case round =>
    obtain ⟨k, hk, rfl, hown, hbl⟩ := hrel
    by_cases hlt : k < 1024
    · have hlt' : (k : Int) < 1024 := by omega
      have bx := B2.out.below hbl
      obtain ⟨-, -, -, -, -, -, d6, -⟩ := bx.cells
      simp only [HPX.out] at d6
      have hc := rbyte_any bx (p + k) (by omega)
      rw [Int.natCast_add] at hc
      have hmb := bx.mb (p + k)
      have hsn := memBytes_snoc x.M p k
      have hcell := bcells_u8 (x.M (p + k)) hmb.1 hmb.2
      have HC := Lib.hid hc
      have HS := Lib.hid (show bcells (memBytes x.M p (k + 1)) = bcells (memBytes x.M p k) ++ [.int .u8 (x.M (p + k))] from by rw [hsn, bcells_append, hcell])
      have hb1' : IntKind.u32.wrap ((p : Int) + (k : Int)) = (p : Int) + (k : Int) := by rw [IntKind.wrap_u32]; omega
      have HOW := Lib.hid hown
      have HBL := Lib.hid hbl
      have hbsz := hbl.size
      obtain ⟨qa, qc, hv⟩ : ∃ a c, u8 = .slice a k c := by
        rcases hown.2 with ⟨h1, h2⟩ | ⟨g, cap, cur, h1, _⟩
        · exact ⟨none, 0, by rw [h1, h2]⟩
        · exact ⟨_, _, h1⟩
      clear bx hc hsn hcell hown hbl
      generalize x.M (p + k) = y at HC HS hmb
      subst hv
      have hbw : w2.heap.size ≤ wr.heap.size := hbsz
      go_wp2_with (first | (go_at_call 52; refine HC.out.mono ?_; rintro e w1 ⟨rfl, rfl⟩) | (at_builtin; refine wpList_append_lies _ rfl _ _ 44 rfl w2.heap.size 5 i0 (.int .u8 0) 1 1 Try.underlying44 HI.out hz0 hz1 hz2 rfl (by decide) _ k (bcells (memBytes x.M p k)) rfl (HOW.out.alloc _) ⟨wr.heap.size, 0, none⟩ 1 1 [.int .u8 y] rfl rfl (World.news_of_block (heap_alloc_new _ _)) ?c2 (by decide) ?c3 ?c4 ?c5 (wr.heap.size + 1) (by simp) ?_))
      case c2 => simp [Value.oneCell']
      case c3 => unfold maxLen; omega
      case c4 => omega
      case c5 => first | omega | (simp; omega)
      intro g cap w4 hown1 hgrow hat1 hlt1
      have hb4 : Below w2.heap.size w2 w4 := (HBL.out.alloc hbw _).grown hgrow (by simp; omega) (fun g' hg' => (own_lt HOW.out g' hg').2)
      have HB4 := Lib.hid hb4
      have HO4 := Lib.hid hown1
      clear hb4 hown1 hgrow hat1
      go_wp2_with fail
      go_roundw
      case rel => exact ⟨k + 1, by omega, by go_num, by rw [HS.out]; exact HO4.out, HB4.out⟩
      case measure => simp [intOf]; omega
    · obtain rfl : k = 1024 := by omega
      obtain ⟨qa, qc, hv⟩ : ∃ a c, u8 = .slice a 1024 c := by
        rcases hown.2 with ⟨h1, h2⟩ | ⟨g, cap, cur, h1, _⟩
        · exact ⟨none, 0, by rw [h1, h2]⟩
        · exact ⟨_, _, h1⟩
      subst hv
      have hml : (memBytes x.M p 1024).length = 1024 := memBytes_length _ _ _
      have bx := (B2.out.below hbl).drew
      have mx := M2.out.trans (RMoves.of_below v (hbl.drew))
      have hcv : ∀ w', w'.heap = wr.drew.heap → (convert 44 9 (.slice qa 1024 qc)).run Try.prog w' = .ok (.string (ofBs (memBytes x.M p 1024))) w' := fun w' h => own_conv hml (own_heap hown h)
      have BX := Lib.hid bx
      have MX := Lib.hid mx
      have HCV := Lib.hid hcv
      obtain ⟨-, d1, -, -, -, d5, -, -⟩ := bx.cells
      simp only [HNX.out] at d5
      have hsz : (ofBs (memBytes x.M p 1024)).size = 1024 := by rw [ofBs_size]; exact hml
      have HSZ := Lib.hid hsz
      have hfw := bx.few
      have HNN := Lib.hid (show n < x.N from by rw [HXN.out]; exact HN2.out)
      clear bx mx hcv hml hsz hown hbl
      by_cases few : hist.length < 4096
      · go_wp2_with fail
        go_still_tail 10, (by kernel_rfl)
        change wpList _ _ _ _ _ wr.drew
        generalize wr.drew = w3 at BX MX HCV d1 d5 ⊢
        go_wp2_with (go_at_call 59; refine (rwrite_cv BX.out.disk n HNN.out few qa qc _ HCV.out).mono ?_; rintro e w4 ⟨rfl, vw', R4, T4, hv4⟩; have hk := Lib.hid (BX.out.newDisk HNN.out few HSZ.out R4 T4 hv4); clear R4 T4 hv4)
        go_ret
        exact .inl ⟨few, rfl, _, hk.out.1, MX.out.trans hk.out.2⟩
      · have hfull : hist.length = 4096 := by omega
        have HFU := Lib.hid hfull
        clear hfull
        go_wp2_with fail
        go_still_tail 10, (by kernel_rfl)
        change wpList _ _ _ _ _ wr.drew
        generalize wr.drew = w3 at BX MX HCV d1 d5 ⊢
        go_wp2_with (go_at_call 59; refine (rwrite_no BX.out.disk (n : Int) qa 1024 qc (by omega) (by decide) (by omega) 33 (.inr (.inr ⟨by omega, by have := HNN.out; omega, rfl, HFU.out, rfl⟩))).mono ?_; rintro e w4 ⟨rfl, rfl⟩)
        go_ret
        exact .inr ⟨few, rfl, BX.out, MX.out⟩
end
end Go.Proofs.Ytmamocdkmmkkjaa
