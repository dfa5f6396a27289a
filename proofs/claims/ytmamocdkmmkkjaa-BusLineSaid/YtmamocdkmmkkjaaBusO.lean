/- The walk of BusLine. -/
import Derived.Test.YtmamocdkmmkkjaaBusN
import Derived.Deep.CutRange
namespace Go.Proofs.Ytmamocdkmmkkjaa
open Go Go.RowKit Go.Lib Go.Proofs.Ytmamocdkmmkkjaa.Pl
set_option linter.unusedVariables false
set_option linter.unusedSimpArgs false
set_option maxRecDepth 20000 in
set_option maxHeartbeats 2000000 in
theorem bline_any (A : Option Addr) (n c : Nat) (f : Nat → ByteArray) (hn : n ≤ 8796093022208) (hf : ∀ i, i < n → (f i).size ≤ 140737488351232) (A2 : Option Addr) (n2 c2 : Nat) (f2 : Nat → Int) (hn2 : n2 ≤ 140737488351232)
    (hf2 : ∀ i, -9223372036854775808 ≤ f2 i ∧ f2 i ≤ 9223372036854775807) (w : World) (hr : RdS w A n f) (hr2 : RdI .i64 w A2 n2 f2) :
    Calls Try.prog 5 #[.slice A n c, .slice A2 n2 c2] w fun e w' => e = .returned (.bool true) ∧ Below w.heap.size w w' := by
  have HF := Lib.hid hf
  have HR := Lib.hid hr
  have HF2 := Lib.hid hf2
  have HR2 := Lib.hid hr2
  have HN := Lib.hid hn
  obtain ⟨i0, hi, hz0, hz1, hz2⟩ := u8_info
  have HI := Lib.hid hi
  have HZ0 := Lib.hid hz0
  have HZ1 := Lib.hid hz1
  have HZ2 := Lib.hid hz2
  clear hf hr hf2 hr2 hn hi hz0 hz1 hz2
  go_enter Try.func5, Try.ntmps5
  go_upto_region 2 with (go_at_call 7; refine (bshown_any _).mono ?_; rintro e w1 ⟨rfl, hb1⟩; have HB1 := Lib.hid hb1; clear hb1)
  go_upto_region 3 with (go_at_call 8; refine (new_yes 8 _ (by decide) (by decide)).mono ?_; rintro e w2 ⟨d, s, rfl, D, hb2⟩; have hn0 := Lib.hid (Law.new none 0 0 (fun _ => 0) w w2 (HB1.out.trans (hb2.mono HB1.out.size)) w1.heap.size d s 8 (fun _ => nought) (by decide) (fun _ => by decide) (fun h => absurd h (by decide)) HB1.out.size D); clear D hb2)
  go_upto_region 4 with (go_at_call 9; refine hn0.out.mono ?_; rintro e w3 ⟨b, rfl, l0, hb3⟩; have L0 : Hid (Line w w3 b d (.slice none 0 0) (.slice none 0 0) [] [] [] []) := Lib.hid ⟨l0, .inl ⟨rfl, rfl⟩, ⟨rfl, .inl ⟨rfl, rfl⟩⟩, fun g h => by cases h⟩; clear l0 hb3)
  clear hn0 HB1
  go_wp2_with fail
  go_loopw [10, 11, 12, 13] (fun sf sp sa si wr => ∃ (k m : Nat) (F P : List UInt8) (af ap : Option Addr) (cf cp : Nat), k ≤ n ∧ sf = .slice af F.length cf ∧ sp = .slice ap P.length cp ∧ si = .int .i64 k ∧ sa = .int .i64 m ∧ m ≤ F.length ∧ m ≤ 9 * k ∧ Hid (Line w wr b d (.slice af F.length cf) (.slice ap P.length cp) F P (F.drop m) P)) (fun _ _ _ i _ => n - (intOf i).toNat)
  case atStart => exact ⟨0, 0, [], [], none, none, 0, 0, by omega, rfl, rfl, rfl, rfl, by simp, by omega, L0⟩
  case round =>
    obtain ⟨k, m, F, P, af, ap, cf, cp, hk, rfl, rfl, rfl, rfl, hmF, hm9, HL⟩ := hrel
    obtain ⟨wo, rfl⟩ : ∃ wo : World, wo = wr := ⟨_, rfl⟩
    have hkb : (k : Int) ≤ 8796093022208 := by have := HN.out; omega
    have hPb : P.length ≤ 65536 := HL.out.pl
    have hFb : F.length ≤ m + 65536 := by have := HL.out.ql; rw [List.length_drop] at this; omega
    by_cases hkn : k < n
    · obtain ⟨bb, off, rfl, hlb, hc⟩ := HR.out (by omega)
      have hck := (HL.out.law.below.cell (p := ⟨bb, off + k, none⟩) hlb).trans (hc k hkn)
      have hfs := HF.out k hkn
      generalize hS : f k = S at hck hfs
      have HCK := Lib.hid (show ∀ W, Below w.heap.size w W → W.cell? ⟨bb, off + k, none⟩ = some (.string S) from fun W hB => hS ▸ (hB.cell (p := ⟨bb, off + k, none⟩) hlb).trans (hc k hkn))
      clear hS hc
      have hsl : S.data.toList.length = S.size := by rw [Array.length_toList]; rfl
      have HSL := Lib.hid hsl
      clear hsl
      by_cases hfit : F.length - m + S.size ≤ 65536
      · have hT : decide ((S.size : Int) ≤ 65536 - ((F.length : Int) - (m : Int))) = true := by simp; omega
        go_upto_region 17 with (first | (go_at_call 17; refine (HL.out.feedYes S (by rw [List.length_drop]; exact hfit)).mono ?_; rintro e w4 ⟨rfl, l1⟩; have hck2 := HCK.out w4 l1.law.below; have L1 := Lib.hid l1; clear l1) | (at_builtin; refine wpList_append_in (base := w.heap.size) rfl _ _ 44 9 rfl Try.underlying44 Try.underlying9 (.slice af F.length cf) F (by rfl) L1.out.fed S (by rfl) ?ca ?cb ?_; rotate_left 2; intro u w5 hu1 hu2 hu3; obtain ⟨ua, uc, rfl⟩ := hu1.form; have L2 := Lib.hid (L1.out.fedGrown hu1 hu2 hu3); clear hu1 hu2 hu3))
        case ca => omega
        case cb => exact L1.out.size
        clear hT L1
        have hl2 := L2.out
        clear L2
        obtain ⟨F2, hF2⟩ : ∃ F2, F2 = F ++ S.data.toList := ⟨_, rfl⟩
        have hlen : F2.length = F.length + S.size := by rw [hF2, List.length_append, HSL.out]
        have hdr : F.drop m ++ S.data.toList = F2.drop m := by rw [hF2, List.drop_append_of_le_length hmF]
        rw [hdr, ← hF2] at hl2
        rw [← hlen]
        have L2 := Lib.hid hl2
        have hmX : m ≤ F2.length := by omega
        have hbX : F2.length ≤ m + 65536 := by omega
        clear hdr hl2 hF2 hlen
        have HMF := Lib.hid hmX
        have HFB := Lib.hid hbX
        clear hck hck2 hfs hfit hFb hmF hmX hbX HL
        go_upto_if 76 with fail
        go_cut [15] from 39 to 129 (fun s15 wx => ∃ z : Nat, s15 = .int .i64 z ∧ z ≤ 9 ∧ w5 = wx)
        case first =>
          by_cases hk2 : k < n2
          · obtain ⟨b2, off2, rfl, hlb2, hc2⟩ := HR2.out (by omega)
            have hck3 := (L2.out.law.below.cell (p := ⟨b2, off2 + k, none⟩) hlb2).trans (hc2 k hk2)
            obtain ⟨hg0, hg1⟩ := HF2.out k
            have hp := pick_any (f2 k) 9 (by decide) (by decide) hg0 hg1
            have hp9 := pickV_lt (f2 k) 9 (by decide)
            generalize hpv : pickV (f2 k) 9 = z at hp hp9
            have HP := Lib.hid hp
            have HP9 := Lib.hid hp9
            clear hc2 hg0 hg1 hp hpv hp9
            go_wp2_with (go_at_call 12; refine (HP.out _).mono ?_; rintro e w6 ⟨rfl, rfl⟩)
            go_meet
            exact ⟨z, rfl, by have := HP9.out; omega, rfl⟩
          · go_wp2_with fail
            go_meet
            exact ⟨1, rfl, by omega, rfl⟩
        case rest =>
        obtain ⟨z, rfl, hz9, rfl⟩ := hcut
        go_wp2_with fail
        go_loopw [11, 12, 16] (fun sp sa sk wr => ∃ (j m' : Nat) (P' : List UInt8) (ap' : Option Addr) (cp' : Nat), j ≤ z ∧ sp = .slice ap' P'.length cp' ∧ sa = .int .i64 m' ∧ sk = .int .i64 j ∧ m' ≤ F2.length ∧ m ≤ m' ∧ m' ≤ m + j ∧ Hid (Line w wr b d (.slice ua F2.length uc) (.slice ap' P'.length cp') F2 P' (F2.drop m') P')) (fun _ _ k _ => z - (intOf k).toNat)
        case atStart => exact ⟨0, m, P, ap, cp, by omega, rfl, rfl, rfl, HMF.out, by omega, by omega, L2⟩
        case round =>
          obtain ⟨j, m', P', ap', cp', hj, rfl, rfl, rfl, hm1, hmm, hm2, HL⟩ := hrel
          obtain ⟨wi, rfl⟩ : ∃ wi : World, wi = wr := ⟨_, rfl⟩
          have hPb' : P'.length ≤ 65536 := HL.out.pl
          have hmz : (m' : Int) ≤ 9 * 8796093022208 + 9 := by omega
          by_cases hjz : j < z
          · by_cases hmf : m' < F2.length
            · have hcons : F2.drop m' = F2[m'] :: F2.drop (m' + 1) := List.drop_eq_getElem_cons hmf
              have hl2 := HL.out
              rw [hcons] at hl2
              obtain ⟨gf, off3, cap3, hsl, hrd⟩ := hl2.fed.read m' hmf
              simp only [Value.slice.injEq] at hsl
              obtain ⟨rfl, -, rfl⟩ := hsl
              have hgf : gf < wi.heap.size := (hl2.fed.lt gf rfl).2
              generalize hch : F2[m'] = ch at hl2 hrd
              have HL2 := Lib.hid hl2
              have HCH := Lib.hid hch
              have hc8 := ch.toNat_lt
              have hc9 : (ch.toNat : Int) < 256 := by omega
              clear hl2 hcons hch HL
              have hne : ((m' : Int) == (F2.length : Int)) = false := by simp; omega
              go_upto_region 31 with (first | (go_at_call 10; first | (refine HL2.out.take1.mono ?_; rintro e w6 ⟨rfl, l3⟩; have hrd6 := l3.rd m' hmf HCH.out; have L3 := Lib.hid l3; clear l3 HL2 hrd) | (refine (L3.out.put1 ch).mono ?_; rintro e w7 ⟨rfl, l4⟩; have L4 := Lib.hid l4; clear l4 L3 hrd6)))
              by_cases hroom : P'.length < 65536
              · have hr6 : (P'.length : Int) < 65536 := by omega
                go_wp2_with (at_builtin; refine wpList_append_lies _ rfl _ _ 44 rfl w.heap.size 5 i0 (.int .u8 0) 1 1 Try.underlying44 HI.out HZ0.out HZ1.out HZ2.out rfl (by decide) (.slice ap' P'.length cp') P'.length (bcells P') (by rfl) (L4.out.put.alloc _) ⟨w7.heap.size, 0, none⟩ 1 1 [.int .u8 (ch.toNat : Int)] rfl rfl (World.news_of_block (heap_alloc_new _ _)) ?d2 (by decide) ?d3 ?d4 ?d5 (w7.heap.size + 1) (by simp) ?_)
                case d2 => simp [Value.oneCell']
                case d3 => unfold maxLen; omega
                case d4 => omega
                case d5 => have := L4.out.size; simp; omega
                intro g8 cap8 w8 hown1 hgrow hat1 hlt1
                have T1 := touch_app (w := w7) hgrow (by go_grown)
                have L5 := Lib.hid (L4.out.puts hroom hown1 T1 hat1)
                clear hown1 hgrow hat1 hlt1 T1 L4
                go_wp2_with fail
                go_roundw
                case rel => exact ⟨j + 1, m' + 1, P' ++ [ch], some ⟨g8, 0, none⟩, cap8, by omega, by simp, by go_num, by go_num, by omega, by omega, by omega, L5⟩
                case measure => simp [intOf]; omega
              · obtain hP6 : P'.length = 65536 := by omega
                have hr6 : ((P'.length : Int) < 65536) = False := by simp; omega
                go_wp2_with fail
                go_roundw
                case rel => exact ⟨j + 1, m' + 1, P', ap', cp', by omega, rfl, by go_num, by go_num, by omega, by omega, by omega, by have h := L4.out; rw [show outL P' ch = P' from if_neg hroom] at h; exact h⟩
                case measure => simp [intOf]; omega
            · obtain rfl : m' = F2.length := by omega
              have hdn : F2.drop F2.length = [] := List.drop_length
              have hl2 := HL.out
              rw [hdn] at hl2
              have HL2 := Lib.hid hl2
              clear hl2 hdn HL
              have heq : ((F2.length : Int) == (F2.length : Int)) = true := by simp
              go_wp2_with (first | (go_at_call 10; refine HL2.out.take0.mono ?_; rintro e w6 ⟨rfl, l3⟩; have L3 := Lib.hid l3; clear l3) | (go_at_call 18; refine L3.out.waiting.mono ?_; rintro e w7 ⟨rfl, rfl⟩))
              go_roundw
              case rel => exact ⟨j + 1, F2.length, P', ap', cp', by omega, rfl, rfl, by go_num, by omega, by omega, by omega, by have h := L3.out; rw [List.drop_length]; exact h⟩
              case measure => simp [intOf]; omega
          · obtain rfl : j = z := by omega
            go_wp2_with fail
            go_roundw
            case rel => exact ⟨k + 1, m', F2, P', ua, ap', uc, cp', by omega, rfl, rfl, by go_num, rfl, by omega, by omega, HL⟩
            case measure => simp [intOf]; omega
      · have hT : decide ((S.size : Int) ≤ 65536 - ((F.length : Int) - (m : Int))) = false := by simp; omega
        go_upto_region 17 with (go_at_call 17; refine (HL.out.feedNo S (by rw [List.length_drop]; omega) hfs).mono ?_; rintro e w4 ⟨rfl, rfl⟩)
        have hck2 := hck
        have L2 := HL
        have hmX : m ≤ F.length := hmF
        have hbX : F.length ≤ m + 65536 := hFb
        clear hT
        have HMF := Lib.hid hmX
        have HFB := Lib.hid hbX
        clear hck hck2 hfs hfit hFb hmF hmX hbX HL
        go_upto_if 76 with fail
        go_cut [15] from 39 to 129 (fun s15 wx => ∃ z : Nat, s15 = .int .i64 z ∧ z ≤ 9 ∧ wo = wx)
        case first =>
          by_cases hk2 : k < n2
          · obtain ⟨b2, off2, rfl, hlb2, hc2⟩ := HR2.out (by omega)
            have hck3 := (L2.out.law.below.cell (p := ⟨b2, off2 + k, none⟩) hlb2).trans (hc2 k hk2)
            obtain ⟨hg0, hg1⟩ := HF2.out k
            have hp := pick_any (f2 k) 9 (by decide) (by decide) hg0 hg1
            have hp9 := pickV_lt (f2 k) 9 (by decide)
            generalize hpv : pickV (f2 k) 9 = z at hp hp9
            have HP := Lib.hid hp
            have HP9 := Lib.hid hp9
            clear hc2 hg0 hg1 hp hpv hp9
            go_wp2_with (go_at_call 12; refine (HP.out _).mono ?_; rintro e w6 ⟨rfl, rfl⟩)
            go_meet
            exact ⟨z, rfl, by have := HP9.out; omega, rfl⟩
          · go_wp2_with fail
            go_meet
            exact ⟨1, rfl, by omega, rfl⟩
        case rest =>
        obtain ⟨z, rfl, hz9, rfl⟩ := hcut
        go_wp2_with fail
        go_loopw [11, 12, 16] (fun sp sa sk wr => ∃ (j m' : Nat) (P' : List UInt8) (ap' : Option Addr) (cp' : Nat), j ≤ z ∧ sp = .slice ap' P'.length cp' ∧ sa = .int .i64 m' ∧ sk = .int .i64 j ∧ m' ≤ F.length ∧ m ≤ m' ∧ m' ≤ m + j ∧ Hid (Line w wr b d (.slice af F.length cf) (.slice ap' P'.length cp') F P' (F.drop m') P')) (fun _ _ k _ => z - (intOf k).toNat)
        case atStart => exact ⟨0, m, P, ap, cp, by omega, rfl, rfl, rfl, HMF.out, by omega, by omega, L2⟩
        case round =>
          obtain ⟨j, m', P', ap', cp', hj, rfl, rfl, rfl, hm1, hmm, hm2, HL⟩ := hrel
          obtain ⟨wi, rfl⟩ : ∃ wi : World, wi = wr := ⟨_, rfl⟩
          have hPb' : P'.length ≤ 65536 := HL.out.pl
          have hmz : (m' : Int) ≤ 9 * 8796093022208 + 9 := by omega
          by_cases hjz : j < z
          · by_cases hmf : m' < F.length
            · have hcons : F.drop m' = F[m'] :: F.drop (m' + 1) := List.drop_eq_getElem_cons hmf
              have hl2 := HL.out
              rw [hcons] at hl2
              obtain ⟨gf, off3, cap3, hsl, hrd⟩ := hl2.fed.read m' hmf
              simp only [Value.slice.injEq] at hsl
              obtain ⟨rfl, -, rfl⟩ := hsl
              have hgf : gf < wi.heap.size := (hl2.fed.lt gf rfl).2
              generalize hch : F[m'] = ch at hl2 hrd
              have HL2 := Lib.hid hl2
              have HCH := Lib.hid hch
              have hc8 := ch.toNat_lt
              have hc9 : (ch.toNat : Int) < 256 := by omega
              clear hl2 hcons hch HL
              have hne : ((m' : Int) == (F.length : Int)) = false := by simp; omega
              go_upto_region 31 with (first | (go_at_call 10; first | (refine HL2.out.take1.mono ?_; rintro e w6 ⟨rfl, l3⟩; have hrd6 := l3.rd m' hmf HCH.out; have L3 := Lib.hid l3; clear l3 HL2 hrd) | (refine (L3.out.put1 ch).mono ?_; rintro e w7 ⟨rfl, l4⟩; have L4 := Lib.hid l4; clear l4 L3 hrd6)))
              by_cases hroom : P'.length < 65536
              · have hr6 : (P'.length : Int) < 65536 := by omega
                go_wp2_with (at_builtin; refine wpList_append_lies _ rfl _ _ 44 rfl w.heap.size 5 i0 (.int .u8 0) 1 1 Try.underlying44 HI.out HZ0.out HZ1.out HZ2.out rfl (by decide) (.slice ap' P'.length cp') P'.length (bcells P') (by rfl) (L4.out.put.alloc _) ⟨w7.heap.size, 0, none⟩ 1 1 [.int .u8 (ch.toNat : Int)] rfl rfl (World.news_of_block (heap_alloc_new _ _)) ?d2 (by decide) ?d3 ?d4 ?d5 (w7.heap.size + 1) (by simp) ?_)
                case d2 => simp [Value.oneCell']
                case d3 => unfold maxLen; omega
                case d4 => omega
                case d5 => have := L4.out.size; simp; omega
                intro g8 cap8 w8 hown1 hgrow hat1 hlt1
                have T1 := touch_app (w := w7) hgrow (by go_grown)
                have L5 := Lib.hid (L4.out.puts hroom hown1 T1 hat1)
                clear hown1 hgrow hat1 hlt1 T1 L4
                go_wp2_with fail
                go_roundw
                case rel => exact ⟨j + 1, m' + 1, P' ++ [ch], some ⟨g8, 0, none⟩, cap8, by omega, by simp, by go_num, by go_num, by omega, by omega, by omega, L5⟩
                case measure => simp [intOf]; omega
              · obtain hP6 : P'.length = 65536 := by omega
                have hr6 : ((P'.length : Int) < 65536) = False := by simp; omega
                go_wp2_with fail
                go_roundw
                case rel => exact ⟨j + 1, m' + 1, P', ap', cp', by omega, rfl, by go_num, by go_num, by omega, by omega, by omega, by have h := L4.out; rw [show outL P' ch = P' from if_neg hroom] at h; exact h⟩
                case measure => simp [intOf]; omega
            · obtain rfl : m' = F.length := by omega
              have hdn : F.drop F.length = [] := List.drop_length
              have hl2 := HL.out
              rw [hdn] at hl2
              have HL2 := Lib.hid hl2
              clear hl2 hdn HL
              have heq : ((F.length : Int) == (F.length : Int)) = true := by simp
              go_wp2_with (first | (go_at_call 10; refine HL2.out.take0.mono ?_; rintro e w6 ⟨rfl, l3⟩; have L3 := Lib.hid l3; clear l3) | (go_at_call 18; refine L3.out.waiting.mono ?_; rintro e w7 ⟨rfl, rfl⟩))
              go_roundw
              case rel => exact ⟨j + 1, F.length, P', ap', cp', by omega, rfl, rfl, by go_num, by omega, by omega, by omega, by have h := L3.out; rw [List.drop_length]; exact h⟩
              case measure => simp [intOf]; omega
          · obtain rfl : j = z := by omega
            go_wp2_with fail
            go_roundw
            case rel => exact ⟨k + 1, m', F, P', af, ap', cf, cp', by omega, rfl, rfl, by go_num, rfl, by omega, by omega, HL⟩
            case measure => simp [intOf]; omega
    · obtain rfl : k = n := by omega
      have hcv := fun W => put_conv (HL.out.drew W).put
      have hz : ((F.drop m).length : Int) = (F.length : Int) - (m : Int) := by rw [List.length_drop]; omega
      have HZ := Lib.hid hz
      clear hz
      go_wp2_with fail
      go_quiet (first | (go_at_call 18; exact Calls.quiet_of_same (HL.out.waitQ HZ.out _)) | (go_at_call 19; exact Calls.quiet_of_same (HL.out.outQ _)))
      go_wp2_with fail
      go_ret
      exact ⟨rfl, (HL.out.drew _).law.below⟩
def busLineAts : List Gen.AT := [.one (.slice 16 [.str]), .one (.slice 8 [.int .i64])]
theorem busLine_args (W : World) (vs : List Value) (h : Gen.ArgsGood W busLineAts vs) :
    Calls Try.prog 5 vs.toArray W fun e W' => e = .returned (.bool true) ∧ Below W.heap.size W W' := by
  match vs, h with
  | [v0, v1], h =>
    obtain ⟨h0, h1, _⟩ := h
    obtain ⟨A, n, c, V, rfl, hl, _, hb, hr⟩ := h0.slice_inv
    obtain ⟨f, hf1, hf2⟩ := rows_str hr
    obtain ⟨A2, n2, c2, V2, rfl, hl2, _, hb2, hr2⟩ := h1.slice_inv
    obtain ⟨f2, hg1, hg2, hg3⟩ := Gen.rows_int hr2
    unfold reachBytes at hb hb2 hf2
    refine bline_any A n c f (by omega) (fun i hi => hf2 i (by omega)) A2 n2 c2 f2 (by omega) (fun i => ?_) W (fun hn => ?_) (fun hn => ?_)
    · rcases Nat.lt_or_ge i c2 with g | g
      · have := bounds_i64 (hg2 i g); omega
      · rw [hg3 i g]; omega
    · obtain ⟨b, off, hA, hlt, hc⟩ := hf1 (by omega)
      exact ⟨b, off, hA, hlt, fun i hi => hc i (by omega)⟩
    · obtain ⟨b, off, hA, hlt, hc⟩ := hg1 (by omega)
      exact ⟨b, off, hA, hlt, fun i hi => hc i (by omega)⟩
end Go.Proofs.Ytmamocdkmmkkjaa
