/- The walk of the statement LogPlays. -/
import Derived.Test.YtmeoiennniknlaaLgFive
import Derived.Test.YtmeoiennniknlaaArrEq
namespace Go.Proofs.Ytmeoiennniknlaa.Log
open Go.RowKit Go.Shelf Go.Proofs.YtmeoiennniknlaaW.PrintWords Go.Proofs.Ytmeoiennniknlaa.Lb Go.Proofs.Ytmeoiennniknlaa.Frames
open Go.Proofs.Ytmeoiennniknlaa.Disk (Chg Chg.cell Sec secC secC_at agg8 thB Dsk cur upd lastL)
open Go.Proofs.Ytmeoiennniknlaa.Anchor (Blk zero8 below_set8)
open Go.Proofs.Ytmeoiennniknlaa.RDisk (RDk curL dirB BRow crashN)
set_option linter.unusedVariables false
set_option linter.unusedSimpArgs false

set_option maxRecDepth 100000 in
set_option maxHeartbeats 4000000 in
theorem plays_good (W : World) (nn fr n ep : Nat) (A : Option Addr) (c : Nat) (ops : List OpV) (h1 : 1 ≤ nn) (h2 : nn ≤ 40) (hn : 1 ≤ n) (hfit : fr + n ≤ nn) (he : ep ≤ 4294967295) (hlen : ops.length ≤ 140737488351232) (hC : (kO W).C W A ops.length ops) :
    Calls Try.prog 15 #[.int .i64 (nn : Int), .int .i64 (fr : Int), .int .i64 (n : Int), .int .i64 (ep : Int), .slice A ops.length c] W fun en w' => en = .returned (.bool true) ∧ Below W.heap.size W w' := by
  have HN2 : Hid (1 ≤ nn ∧ nn ≤ 4096) := Lib.hid (by omega)
  have HP : Hid (partB (fr : Int) (n : Int) nn = true) := Lib.hid (by
    unfold partB
    simp only [Bool.and_eq_true, decide_eq_true_eq]
    omega)
  have HE : Hid (numB (ep : Int) = true) := Lib.hid (numB_true.2 (by omega))
  have HL : Hid ((List.replicate nn zero8).length = nn) := Lib.hid List.length_replicate
  have HFit : Hid (1 ≤ n ∧ fr + n ≤ (List.replicate nn zero8).length ∧ ep ≤ 4294967295) := Lib.hid ⟨hn, by rw [List.length_replicate]; exact hfit, he⟩
  have HFn : Hid (1 ≤ n ∧ fr + n ≤ nn) := Lib.hid ⟨hn, hfit⟩
  have HEp := Lib.hid he
  have HFit2 : Hid (fr + n ≤ (List.replicate nn zero8).length) := Lib.hid HFit.out.2.1
  have HC := Lib.hid hC
  have HLen := Lib.hid hlen
  have H40 : Hid (n ≤ 40) := Lib.hid (by omega)
  have H4096 : Hid (n ≤ 4096) := Lib.hid (by omega)
  obtain ⟨T, hT⟩ : ∃ T, allR (ep : Int) ((rdW (List.replicate nn zero8) (fun _ => none) fr n).length + 1) 0 (rdW (List.replicate nn zero8) (fun _ => none) fr n) = T := ⟨_, rfl⟩
  have HT := Lib.hid hT
  have hW := rfW_cur (List.replicate nn zero8) (fun _ => none) fr n (by rw [List.length_replicate]; exact hfit)
  rw [RDisk.curL_none] at hW
  have HW := Lib.hid hW
  have HT2 : Hid (allR (ep : Int) ((rfW (List.replicate nn zero8) fr n).length + 1) 0 (rfW (List.replicate nn zero8) fr n) = T) := by rw [hW]; exact HT
  have hnn1 : ¬ (nn : Int) < 1 := by omega
  have hnn2 : ¬ (40 : Int) < (nn : Int) := by omega
  clear hT hW hC hfit he hn hlen
  go_enter Try.func15, Try.ntmps15
  go_wp2_with (first
    | (go_at_call 53; (with_reducible refine (alive8_at _).mono ?_); rintro en w1 ⟨rfl, HB1⟩)
    | (go_at_call 45; (with_reducible refine (dnew_at (n := nn) (Lib.hid rfl) HN2).mono ?_); rintro en w2 ⟨d, lb, mb, rfl, HD2, HDn, HB2⟩)
    | (go_at_call 54; (with_reducible refine (rnew_at (n := nn) (Lib.hid rfl) HN2).mono ?_); rintro en w3 ⟨x, rl, rr, rd, rfl, HX3, HXn, HB3⟩; have HD3 := Lib.hid (HD2.out.below HB3.out))
    | (go_at_call 55; (with_reducible refine (open_at (fr := fr) (n := n) (ep := ep) HD3 (Lib.hid ⟨rfl, rfl, rfl⟩) HFit HT).mono ?_); rintro en w4 ⟨ga, OW, OF, rfl, HD4, HL4, HS4, HC4⟩; have HX4 := Lib.hid (HX3.out.kept HC4.out (far_new2 HD2.out HXn.out).1 (far_new2 HD2.out HXn.out).2.1 (far_new2 HD2.out HXn.out).2.2.1 (far_new2 HD2.out HXn.out).2.2.2))
    | (go_at_call 56; (with_reducible refine (rthere8_at HX4 HL HP).mono ?_); rintro en w5 ⟨rfl, rfl⟩)
    | (go_at_call 29; (with_reducible refine (rnum_at HE).mono ?_); rintro en w6 ⟨rfl, rfl⟩)
    | (go_at_call 57; (with_reducible refine (ropen_at (fr := fr) (n := n) (ep := ep) HX4 (Lib.hid ⟨rfl, rfl, rfl⟩) HFit2 HT2 (Lib.hid (by rw [HW.out]; exact rdW_ws HD2.out n HFit2.out))).mono ?_); rintro en w7 ⟨gb, OB, rfl, HX7, HR7, HS7, HC7⟩))
  have HSt : Hid (St W none w7 d lb mb x rl rr rd ga gb fr n ep nn) := Lib.hid (st_start (HB1.out.trans (HB2.out.mono HB1.out.size)) HD2.out ⟨Nat.le_trans HB1.out.size HDn.out.1, Nat.le_trans HB1.out.size HDn.out.2.1, Nat.le_trans HB1.out.size HDn.out.2.2⟩ HB3.out HX3.out HXn.out HC4.out HFn.out.2 HT.out HD4.out HL4.out HS4.out HC7.out HX7.out HR7.out HS7.out)
  clear HD2 HDn HB2 HX3 HXn HB3 HD3 HD4 HL4 HS4 HC4 HX4 HX7 HR7 HS7 HC7 HB1 HT HT2 HW
  go_loopg [3, 13, 15, 16] 40 (fun kq v3 v13 v15 v16 wr => ∃ (i e ga gb : Nat), v3 = .int .i64 (e : Int) ∧ v13 = .pointer (some ⟨ga, 0, none⟩) ∧ v15 = .pointer (some ⟨gb, 0, none⟩) ∧ v16 = .int .i64 (i : Int) ∧ Hid (i + kq = 40) ∧ Hid (e ≤ 4294967295) ∧ Hid (St W none wr d lb mb x rl rr rd ga gb fr n e nn))
  case atStart => exact ⟨0, ep, ga, gb, rfl, rfl, rfl, rfl, Lib.hid rfl, HEp, HSt⟩
  case round =>
    obtain ⟨i, e, ga, gb, rfl, rfl, rfl, rfl, Hi, He, HS⟩ := hrel
    by_cases hlt : i < ops.length ∧ i < 40
    · obtain ⟨hl1, hl2⟩ := hlt
      have hi1 := k_cast hl1
      have hi2 : (i : Int) < 40 := k_cast (n := 40) hl2
      obtain ⟨ad, v, rfl, hok, hcells⟩ := op_cell HC.out i hl1
      have hc := hcells wr HS.out.base
      clear hcells
      obtain ⟨kd, fk, Af, l, cf, KA, keep, kc, g, o, I, s⟩ := v
      obtain ⟨s0, s1, s2, s3, s4, s5, s6, s7, hs⟩ := hok.sec.open
      simp only at hs
      subst hs
      have q0 : wr.cell? (ad.add (i * 13)) = some (.int .u8 kd) := hc.1
      have q1 : wr.cell? ⟨(ad.add (i * 13)).block, (ad.add (i * 13)).off + 1, none⟩ = some (.int .i64 fk) := hc.2 1 _ (by decide) rfl
      have q2 : wr.cell? ⟨(ad.add (i * 13)).block, (ad.add (i * 13)).off + 2, none⟩ = some (.slice Af l.length cf) := hc.2 2 _ (by decide) rfl
      have q3 : wr.cell? ⟨(ad.add (i * 13)).block, (ad.add (i * 13)).off + 3, none⟩ = some (.slice KA keep.length kc) := hc.2 3 _ (by decide) rfl
      have q4 : wr.cell? ⟨(ad.add (i * 13)).block, (ad.add (i * 13)).off + 4, none⟩ = some (.int .i64 I) := hc.2 4 _ (by decide) rfl
      have q5 : wr.cell? ⟨(ad.add (i * 13)).block, (ad.add (i * 13)).off + 5, none⟩ = some (.int .u64 s0) := hc.2 5 _ (by decide) rfl
      have q6 : wr.cell? ⟨(ad.add (i * 13)).block, (ad.add (i * 13)).off + 6, none⟩ = some (.int .u64 s1) := hc.2 6 _ (by decide) rfl
      have q7 : wr.cell? ⟨(ad.add (i * 13)).block, (ad.add (i * 13)).off + 7, none⟩ = some (.int .u64 s2) := hc.2 7 _ (by decide) rfl
      have q8 : wr.cell? ⟨(ad.add (i * 13)).block, (ad.add (i * 13)).off + 8, none⟩ = some (.int .u64 s3) := hc.2 8 _ (by decide) rfl
      have q9 : wr.cell? ⟨(ad.add (i * 13)).block, (ad.add (i * 13)).off + 9, none⟩ = some (.int .u64 s4) := hc.2 9 _ (by decide) rfl
      have q10 : wr.cell? ⟨(ad.add (i * 13)).block, (ad.add (i * 13)).off + 10, none⟩ = some (.int .u64 s5) := hc.2 10 _ (by decide) rfl
      have q11 : wr.cell? ⟨(ad.add (i * 13)).block, (ad.add (i * 13)).off + 11, none⟩ = some (.int .u64 s6) := hc.2 11 _ (by decide) rfl
      have q12 : wr.cell? ⟨(ad.add (i * 13)).block, (ad.add (i * 13)).off + 12, none⟩ = some (.int .u64 s7) := hc.2 12 _ (by decide) rfl
      have HArg := Lib.hid hok.arg
      have HKeep := Lib.hid hok.keep
      have HSec := Lib.hid hok.sec
      have hkd := hok.kd
      simp only at hkd
      have hw1 : wrap64 ((i : Int) + 1) = (i : Int) + 1 := m1i' (Nat.lt_trans hl2 (by decide))
      clear hc hok
      obtain ⟨m, hm⟩ : ∃ m, l.length = m := ⟨_, rfl⟩
      obtain ⟨kn, hkn⟩ : ∃ kn, keep.length = kn := ⟨_, rfl⟩
      rw [hm] at q2
      rw [hkn] at q3
      have HM := Lib.hid hm
      have HKn := Lib.hid hkn
      simp only at HArg HKeep HSec
      rw [hm] at HArg
      clear hm hkn
      by_cases hbig : 400 < m ∨ 100 < kn
      · by_cases hb1 : 400 < m
        · have hb1i : (400 : Int) < (m : Int) := k_cast (k := 400) hb1
          clear hbig
          go_wp2
          go_ret
          exact ⟨rfl, HS.out.base.trans (((Below.refl _ wr).alloc (Nat.le_refl _) _).mono HS.out.base.size)⟩
        · have hb1i := k_ncast hb1
          have hb2 : 100 < kn := hbig.resolve_left hb1
          have hb2i : (100 : Int) < (kn : Int) := k_cast (k := 100) hb2
          clear hbig
          go_wp2
          go_ret
          exact ⟨rfl, HS.out.base.trans (((Below.refl _ wr).alloc (Nat.le_refl _) _).mono HS.out.base.size)⟩
      · have hb1 : ¬ 400 < m := fun h => hbig (Or.inl h)
        have hb2 : ¬ 100 < kn := fun h => hbig (Or.inr h)
        have hb1i := k_ncast hb1
        have hb2i := k_ncast hb2
        clear hbig
        have HM9 : Hid (m ≤ 140737488351232) := Lib.hid (by omega)
        have HKeep6 : Hid (keep.length ≤ 1000000) := Lib.hid (by have := HKn.out; omega)
        go_upto_region 20 with fail
        obtain ⟨V, hV⟩ : ∃ V, V = wr.alloc (.cells #[.int .u8 kd, .int .i64 fk, .slice Af m cf, .slice KA kn kc, .int .i64 I, .int .u64 s0, .int .u64 s1, .int .u64 s2, .int .u64 s3, .int .u64 s4, .int .u64 s5, .int .u64 s6, .int .u64 s7] 91) := ⟨_, rfl⟩
        obtain ⟨gx, hgx⟩ : ∃ gx, gx = wr.heap.size := ⟨_, rfl⟩
        obtain ⟨CS, hCS⟩ : ∃ CS : List Value, CS = [.int .u8 kd, .int .i64 fk, .slice Af m cf, .slice KA kn kc, .int .i64 I, .int .u64 s0, .int .u64 s1, .int .u64 s2, .int .u64 s3, .int .u64 s4, .int .u64 s5, .int .u64 s6, .int .u64 s7] := ⟨_, rfl⟩
        have HSV : Hid (St W (some (gx, CS, 91)) V d lb mb x rl rr rd ga gb fr n e nn) := by rw [hV, hgx, hCS]; exact Lib.hid (HS.out.box _ _)
        have HCS := Lib.hid hCS
        rw [← hV, ← hgx]
        clear hV hgx hCS q0 q1 q2 q3 q4 q5 q6 q7 q8 q9 q10 q11 q12
        have HBW : Hid (∀ w, Blk w gx CS 91 → w.cell? ⟨gx, 0, none⟩ = some (.int .u8 kd) ∧ w.cell? ⟨gx, 1, none⟩ = some (.int .i64 fk) ∧ w.cell? ⟨gx, 2, none⟩ = some (.slice Af m cf) ∧ w.cell? ⟨gx, 3, none⟩ = some (.slice KA kn kc) ∧ w.cell? ⟨gx, 4, none⟩ = some (.int .i64 I)) := by
          rw [HCS.out]; exact Lib.hid (fun w hb => ⟨hb.cell 0, hb.cell 1, hb.cell 2, hb.cell 3, hb.cell 4⟩)
        have HBS : Hid (∀ w, Blk w gx CS 91 → w.cell? ⟨gx, 5, none⟩ = some (.int .u64 s0) ∧ w.cell? ⟨gx, 6, none⟩ = some (.int .u64 s1) ∧ w.cell? ⟨gx, 7, none⟩ = some (.int .u64 s2) ∧ w.cell? ⟨gx, 8, none⟩ = some (.int .u64 s3) ∧ w.cell? ⟨gx, 9, none⟩ = some (.int .u64 s4) ∧ w.cell? ⟨gx, 10, none⟩ = some (.int .u64 s5) ∧ w.cell? ⟨gx, 11, none⟩ = some (.int .u64 s6) ∧ w.cell? ⟨gx, 12, none⟩ = some (.int .u64 s7)) := by
          rw [HCS.out]; exact Lib.hid (fun w hb => ⟨hb.cell 5, hb.cell 6, hb.cell 7, hb.cell 8, hb.cell 9, hb.cell 10, hb.cell 11, hb.cell 12⟩)
        obtain ⟨c0, c1, c2, c3, c4⟩ := HBW.out _ HSV.out.cells
        obtain ⟨r, hr⟩ : ∃ r, kd % 7 = r := ⟨_, rfl⟩
        go_upto_block 2 with fail
        rw [hr]
        clear hr
        go_cut [3, 10, 18, 19] from 102 to 166 (fun v3 v10 v18 v19 wx => ∃ (e' : Nat) (ag : Bool), v3 = .int .i64 (e' : Int) ∧ v18 = .bool ag ∧ Hid (e' ≤ 4294967295) ∧ Hid (Mid W none wx d lb mb x rl rr rd ga gb fr n e' nn ag))
        case first =>
          by_cases r3 : r = 3
          · subst r3
            go_wp2_with (first
              | (go_at_call 58; (with_reducible refine (st_lsync HSV).mono ?_); rintro en w8 ⟨rfl, L8, M8, ws8, fs8, HT8, HC8⟩)
              | (go_at_call 59; (with_reducible refine (st_rsync HT8 HC8).mono ?_); rintro en w9 ⟨rfl, HS9⟩))
            go_meet
            case rel => exact ⟨e, false, rfl, rfl, He, Lib.hid HS9.out.drop.mid⟩
          · have n3 : (r == 3) = false := by simp [r3]
            by_cases r4 : r = 4
            · subst r4
              go_wp2_with (first
                | (go_at_call 52; (with_reducible refine (mid_keeps HSV HKn HKeep).mono ?_); rintro en w8 ⟨cb, bb, rfl, HK8⟩)
                | (go_at_call 51; (with_reducible refine (mid_crash HK8 HKeep6).mono ?_); rintro en w9 ⟨rfl, HC9⟩; obtain ⟨d0, d1, d2, d3, d4⟩ := HBW.out _ HC9.out.cells; clear c0 c1 c2 c3 c4)
                | (go_at_call 60; (with_reducible refine (mid_rcrash HC9 HKn HKeep6 HKeep).mono ?_); rintro en w10 ⟨rfl, HM10⟩))
              go_meet
              case rel => exact ⟨e, true, rfl, rfl, He, Lib.hid HM10.out.drop⟩
            · have n4 : (r == 4) = false := by simp [r4]
              by_cases r5 : r = 5
              · subst r5
                by_cases hmax : 4294967295 ≤ e
                · have hmi : (4294967295 : Int) ≤ (e : Int) := by omega
                  go_wp2
                  go_ret
                  exact ⟨rfl, HSV.out.base⟩
                · have hmi : ¬ (4294967295 : Int) ≤ (e : Int) := by omega
                  have He1 : Hid (e + 1 ≤ 4294967295) := Lib.hid (by omega)
                  have hwe : wrap64 ((e : Int) + 1) = (e : Int) + 1 := by unfold wrap64; omega
                  clear hmax
                  go_wp2
                  go_meet
                  case rel => exact ⟨e + 1, true, by simp, rfl, He1, Lib.hid (St.again HSV.out.drop)⟩
              · have n5 : (r == 5) = false := by simp [r5]
                by_cases r6 : r = 6
                · subst r6
                  cases hb : thB I nn with
                  | true =>
                    have Hb := Lib.hid hb
                    clear hb
                    obtain ⟨e0, e1, e2, e3, e4, e5, e6, e7⟩ := HBS.out _ HSV.out.cells
                    go_wp2_with (first
                      | (go_at_call 46; (with_reducible refine (mid_dwrite HSV HSec).mono ?_); rintro en w8 ⟨q, rfl, HW8⟩; obtain ⟨d0, d1, d2, d3, d4⟩ := HBW.out _ HW8.out.cells; obtain ⟨f0, f1, f2, f3, f4, f5, f6, f7⟩ := HBS.out _ HW8.out.cells; clear c0 c1 c2 c3 c4 e0 e1 e2 e3 e4 e5 e6 e7)
                      | (go_at_call 61; (with_reducible refine (mid_rthere HW8 Hb).mono ?_); rintro en w9 ⟨rfl, rfl⟩)
                      | (go_at_call 62; (with_reducible refine (mid_rwrite HW8 Hb HSec).mono ?_); rintro en w10 ⟨rfl, HM10⟩))
                    go_meet
                    case rel => exact ⟨e, true, rfl, rfl, He, Lib.hid HM10.out.drop⟩
                  | false =>
                    have Hb := Lib.hid hb
                    clear hb
                    obtain ⟨e0, e1, e2, e3, e4, e5, e6, e7⟩ := HBS.out _ HSV.out.cells
                    go_wp2_with (first
                      | (go_at_call 46; (with_reducible refine (mid_dwrite HSV HSec).mono ?_); rintro en w8 ⟨q, rfl, HW8⟩; obtain ⟨d0, d1, d2, d3, d4⟩ := HBW.out _ HW8.out.cells; clear c0 c1 c2 c3 c4 e0 e1 e2 e3 e4 e5 e6 e7)
                      | (go_at_call 61; (with_reducible refine (mid_rthere HW8 Hb).mono ?_); rintro en w9 ⟨rfl, rfl⟩))
                    go_meet
                    case rel => exact ⟨e, true, rfl, rfl, He, Lib.hid (HW8.out.out Hb.out).drop⟩
                · have n6 : (r == 6) = false := by simp [r6]
                  cases hb : mayB fk m with
                  | true =>
                    have Hb := Lib.hid hb
                    have Hx : Hid ((if mayB fk m then 1 + (m : Int) else 0) = 1 + (m : Int)) := Lib.hid (by rw [hb]; rfl)
                    clear hb
                    go_wp2_with (go_at_call 28; (with_reducible refine (rmay_at HM9 Hb).mono ?_); rintro en w8 ⟨rfl, HB8⟩; have HSW := Lib.hid (HSV.out.below HB8.out); obtain ⟨d0, d1, d2, d3, d4⟩ := HBW.out _ HSW.out.cells; clear c0 c1 c2 c3 c4)
                    go_region_held3 (fun w => w.cell? ⟨gx, 1, none⟩ = some (.int .i64 fk) ∧ w.cell? ⟨gx, 2, none⟩ = some (.slice Af m cf))
                      (first | exact ⟨d1, d2⟩ | exact ⟨f1, f2⟩ | exact ⟨g1, g2⟩ | exact ⟨h1', h2'⟩)
                      (first
                        | (go_at_call 63; (with_reducible refine (cost_at HM9 Hx).mono ?_); rintro en w9 ⟨rfl, HB9⟩; have HSX := Lib.hid (HSW.out.below (bel_drew HB9.out)); obtain ⟨f0, f1, f2, f3, f4⟩ := HBW.out _ HSX.out.cells)
                        | (go_at_call 64; (with_reducible refine (st_append HSX HArg (Lib.hid ⟨H4096.out, He.out⟩) HM9).mono ?_); rintro en w10 ⟨q, rfl, HA10⟩; obtain ⟨g0, g1, g2, g3, g4⟩ := HBW.out _ HA10.out.cells)
                        | (go_at_call 65; (with_reducible refine (st_rappend HA10 HArg (Lib.hid ⟨H4096.out, He.out⟩) HM9).mono ?_); rintro en w11 ⟨rfl, HS11⟩; obtain ⟨h0', h1', h2', h3', h4'⟩ := HBW.out _ HS11.out.cells))
                    go_wp2
                    go_meet
                    case rel => exact ⟨e, false, rfl, rfl, He, Lib.hid HS11.out.drop.mid⟩
                  | false =>
                    have Hb := Lib.hid hb
                    have Hx : Hid ((if mayB fk m then 1 + (m : Int) else 0) = 0) := Lib.hid (by rw [hb]; rfl)
                    clear hb
                    go_wp2_with (go_at_call 28; (with_reducible refine (rmay_at HM9 Hb).mono ?_); rintro en w8 ⟨rfl, HB8⟩; have HSW := Lib.hid (HSV.out.below HB8.out); obtain ⟨d0, d1, d2, d3, d4⟩ := HBW.out _ HSW.out.cells; clear c0 c1 c2 c3 c4)
                    go_region_held3 (fun w => w.cell? ⟨gx, 1, none⟩ = some (.int .i64 fk) ∧ w.cell? ⟨gx, 2, none⟩ = some (.slice Af m cf))
                      (first | exact ⟨d1, d2⟩ | exact ⟨f1, f2⟩ | exact ⟨g1, g2⟩ | exact ⟨h1', h2'⟩)
                      (first
                        | (go_at_call 63; (with_reducible refine (cost_at HM9 Hx).mono ?_); rintro en w9 ⟨rfl, HB9⟩; have HSX := Lib.hid (HSW.out.below (bel_drew HB9.out)); obtain ⟨f0, f1, f2, f3, f4⟩ := HBW.out _ HSX.out.cells)
                        | (go_at_call 64; (with_reducible refine (st_append HSX HArg (Lib.hid ⟨H4096.out, He.out⟩) HM9).mono ?_); rintro en w10 ⟨q, rfl, HA10⟩; obtain ⟨g0, g1, g2, g3, g4⟩ := HBW.out _ HA10.out.cells)
                        | (go_at_call 65; (with_reducible refine (st_rappend HA10 HArg (Lib.hid ⟨H4096.out, He.out⟩) HM9).mono ?_); rintro en w11 ⟨rfl, HS11⟩; obtain ⟨h0', h1', h2', h3', h4'⟩ := HBW.out _ HS11.out.cells))
                    go_wp2
                    go_meet
                    case rel => exact ⟨e, false, rfl, rfl, He, Lib.hid HS11.out.drop.mid⟩
        case rest =>
          obtain ⟨e', ag, rfl, rfl, He', HMd⟩ := hcut
          clear c0 c1 c2 c3 c4 HSV HCS HBW HBS hb1i hb2i
          go_upto_if 167 with fail
          go_cut [10, 13, 14, 15] from 168 to 186 (fun v10 v13 v14 v15 wx => ∃ (ga' gb' : Nat), v13 = .pointer (some ⟨ga', 0, none⟩) ∧ v15 = .pointer (some ⟨gb', 0, none⟩) ∧ Hid (St W none wx d lb mb x rl rr rd ga' gb' fr n e' nn))
          case first =>
            cases ag with
            | false =>
              obtain ⟨ea, eb, L8, M8, ws8, fs8, fs9, _, _, hst⟩ := HMd.out
              have HS8 := Lib.hid (hst rfl)
              clear hst
              go_wp2
              go_meet
              case rel => exact ⟨ga, gb, rfl, rfl, HS8⟩
            | true =>
              go_wp2_with (first
                | (go_at_call 55; (with_reducible refine (mid_open (fr := fr) (n := n) (ep := e') HMd (Lib.hid ⟨rfl, rfl, rfl⟩) (Lib.hid ⟨HFn.out.1, HFn.out.2, He'.out⟩)).mono ?_); rintro en w8 ⟨g8, rfl, HO8⟩)
                | (go_at_call 57; (with_reducible refine (mid_ropen (fr := fr) (n := n) (ep := e') HO8 (Lib.hid ⟨rfl, rfl, rfl⟩)).mono ?_); rintro en w9 ⟨g9, rfl, HS9⟩))
              go_meet
              case rel => exact ⟨g8, g9, rfl, rfl, HS9⟩
          case rest =>
            obtain ⟨ga', gb', rfl, rfl, HS8⟩ := hcut
            go_wp2_with (go_at_call 66; (with_reducible refine (st_same HS8 H40).mono ?_); rintro en w10 ⟨rfl, HS10⟩)
            obtain ⟨G, hG⟩ : ∃ G, G = gk := ⟨_, rfl⟩
            subst hG
            go_loopg [20] nn (fun kq v20 wx => ∃ (k : Nat), v20 = .int .i64 (k : Int) ∧ Hid (k + kq = nn) ∧ Hid (St W none wx d lb mb x rl rr rd ga' gb' fr n e' nn))
            case atStart => exact ⟨0, rfl, Lib.hid (Nat.zero_add _), HS10⟩
            case round =>
              obtain ⟨k, rfl, Hk, HSk⟩ := hrel
              by_cases hk : k < nn
              · have hki := k_cast hk
                obtain ⟨L8, M8, hd8, hx8, hl8⟩ := st_secs HSk.out
                have hkl : k < L8.length := by rw [hl8]; exact hk
                obtain ⟨y0, y1, y2, y3, y4, y5, y6, y7, hy⟩ := (cur_sec hd8 hkl).open
                obtain ⟨z0, z1, z2, z3, z4, z5, z6, z7, hz⟩ := (hd8.secs (L8.getD k []) (by rw [List.getD_eq_getElem?_getD, List.getElem?_eq_getElem hkl]; exact List.getElem_mem hkl)).open
                have HD8 := Lib.hid hd8
                have HX8 := Lib.hid hx8
                have HKL := Lib.hid hkl
                have HY := Lib.hid hy
                have HZ := Lib.hid hz
                have HL8 := Lib.hid hl8
                have hw1k : wrap64 ((k : Int) + 1) = (k : Int) + 1 := m1i' (Nat.lt_of_lt_of_le hk (Nat.le_trans h2 (by decide)))
                have heq : ∀ W' : World, (Op.equalIn 10000 59 (agg8 y0 y1 y2 y3 y4 y5 y6 y7) (agg8 y0 y1 y2 y3 y4 y5 y6 y7)).run Try.prog W' = .ok true W' := fun W' => by
                  have h := ArrEq.sector_eq [y0, y1, y2, y3, y4, y5, y6, y7] [y0, y1, y2, y3, y4, y5, y6, y7] rfl rfl W'
                  rw [decide_eq_true rfl] at h
                  exact h
                have heq2 : ∀ W' : World, (Op.equalIn 10000 59 (agg8 z0 z1 z2 z3 z4 z5 z6 z7) (agg8 z0 z1 z2 z3 z4 z5 z6 z7)).run Try.prog W' = .ok true W' := fun W' => by
                  have h := ArrEq.sector_eq [z0, z1, z2, z3, z4, z5, z6, z7] [z0, z1, z2, z3, z4, z5, z6, z7] rfl rfl W'
                  rw [decide_eq_true rfl] at h
                  exact h
                clear hd8 hx8 hkl hy hz hl8
                go_wp2_with (go_at_call 67; (with_reducible refine (read_at HD8 (Lib.hid (Below.refl _ _)) HKL (Lib.hid rfl) HY).mono ?_); rintro en w11 ⟨rfl, HB11, _⟩)
                obtain ⟨VV, hVV⟩ : ∃ VV, VV = w11.alloc (.cells #[.int .u64 y0, .int .u64 y1, .int .u64 y2, .int .u64 y3, .int .u64 y4, .int .u64 y5, .int .u64 y6, .int .u64 y7] 59) := ⟨_, rfl⟩
                obtain ⟨gv, hgv⟩ : ∃ gv, gv = w11.heap.size := ⟨_, rfl⟩
                have HBV : Hid (Below wr.heap.size wr VV) := by rw [hVV]; exact Lib.hid (HB11.out.alloc HB11.out.size _)
                have BV : Hid (Blk VV gv [.int .u64 y0, .int .u64 y1, .int .u64 y2, .int .u64 y3, .int .u64 y4, .int .u64 y5, .int .u64 y6, .int .u64 y7] 59) := by rw [hVV, hgv]; exact Lib.hid (Blk.new w11 _ _)
                have HXV := Lib.hid (HX8.out.below HBV.out)
                have HDV := Lib.hid (HD8.out.below HBV.out)
                rw [← hVV, ← hgv]
                clear hVV hgv
                have hcu : (curL L8 M8).getD k [] = [y0, y1, y2, y3, y4, y5, y6, y7] := by rw [RDisk.getD_of (RDisk.curL_at HKL.out), HY.out]
                have HSS : Hid (∀ W, Hid (Below VV.heap.size VV W) → (W.cell? ⟨gv, 0, none⟩ = some (.int .u64 y0) ∧ W.cell? ⟨gv, 1, none⟩ = some (.int .u64 y1) ∧ W.cell? ⟨gv, 2, none⟩ = some (.int .u64 y2) ∧ W.cell? ⟨gv, 3, none⟩ = some (.int .u64 y3) ∧ W.cell? ⟨gv, 4, none⟩ = some (.int .u64 y4) ∧ W.cell? ⟨gv, 5, none⟩ = some (.int .u64 y5) ∧ W.cell? ⟨gv, 6, none⟩ = some (.int .u64 y6) ∧ W.cell? ⟨gv, 7, none⟩ = some (.int .u64 y7) ∧ W.cell? ⟨x, 1, none⟩ = some (.slice (some ⟨rr, 0, none⟩) L8.length L8.length) ∧ W.cell? ⟨x, 0, none⟩ = some (.slice (some ⟨rl, 0, none⟩) L8.length L8.length) ∧ W.cell? ⟨rr, k * 8, none⟩ = some (.int .u64 y0) ∧ W.cell? ⟨rr, k * 8 + 1, none⟩ = some (.int .u64 y1) ∧ W.cell? ⟨rr, k * 8 + 2, none⟩ = some (.int .u64 y2) ∧ W.cell? ⟨rr, k * 8 + 3, none⟩ = some (.int .u64 y3) ∧ W.cell? ⟨rr, k * 8 + 4, none⟩ = some (.int .u64 y4) ∧ W.cell? ⟨rr, k * 8 + 5, none⟩ = some (.int .u64 y5) ∧ W.cell? ⟨rr, k * 8 + 6, none⟩ = some (.int .u64 y6) ∧ W.cell? ⟨rr, k * 8 + 7, none⟩ = some (.int .u64 y7) ∧ W.cell? ⟨rl, k * 8, none⟩ = some (.int .u64 z0) ∧ W.cell? ⟨rl, k * 8 + 1, none⟩ = some (.int .u64 z1) ∧ W.cell? ⟨rl, k * 8 + 2, none⟩ = some (.int .u64 z2) ∧ W.cell? ⟨rl, k * 8 + 3, none⟩ = some (.int .u64 z3) ∧ W.cell? ⟨rl, k * 8 + 4, none⟩ = some (.int .u64 z4) ∧ W.cell? ⟨rl, k * 8 + 5, none⟩ = some (.int .u64 z5) ∧ W.cell? ⟨rl, k * 8 + 6, none⟩ = some (.int .u64 z6) ∧ W.cell? ⟨rl, k * 8 + 7, none⟩ = some (.int .u64 z7))) := Lib.hid (fun W hW => by
                  have hx := HXV.out.below hW.out
                  have hb := BV.out.below hW.out
                  obtain ⟨u0, u1, u2, u3, u4, u5, u6, u7, hu, p0, p1, p2, p3, p4, p5, p6, p7⟩ := RDisk.sec_cells hx.red hx.secR k (by rw [RDisk.curL_length]; exact HKL.out)
                  obtain ⟨v0, v1, v2, v3, v4, v5, v6, v7, hv, r0, r1, r2, r3, r4, r5, r6, r7⟩ := RDisk.sec_cells hx.las hx.secL k HKL.out
                  rw [hcu] at hu
                  rw [HZ.out] at hv
                  simp only [List.cons.injEq, and_true] at hu hv
                  obtain ⟨rfl, rfl, rfl, rfl, rfl, rfl, rfl, rfl⟩ := hu
                  obtain ⟨rfl, rfl, rfl, rfl, rfl, rfl, rfl, rfl⟩ := hv
                  exact ⟨hb.cell 0, hb.cell 1, hb.cell 2, hb.cell 3, hb.cell 4, hb.cell 5, hb.cell 6, hb.cell 7, hx.obj.cell 1, hx.obj.cell 0, p0, p1, p2, p3, p4, p5, p6, p7, r0, r1, r2, r3, r4, r5, r6, r7⟩)
                have HBd : Hid (Below VV.heap.size VV VV.drew) := Lib.hid (RDisk.Below.drew' (Below.refl _ VV))
                have hkl2 := k_cast HKL.out
                clear hcu
                go_region_held3 (fun W => W.cell? ⟨gv, 0, none⟩ = some (.int .u64 y0) ∧ W.cell? ⟨gv, 1, none⟩ = some (.int .u64 y1) ∧ W.cell? ⟨gv, 2, none⟩ = some (.int .u64 y2) ∧ W.cell? ⟨gv, 3, none⟩ = some (.int .u64 y3) ∧ W.cell? ⟨gv, 4, none⟩ = some (.int .u64 y4) ∧ W.cell? ⟨gv, 5, none⟩ = some (.int .u64 y5) ∧ W.cell? ⟨gv, 6, none⟩ = some (.int .u64 y6) ∧ W.cell? ⟨gv, 7, none⟩ = some (.int .u64 y7) ∧ W.cell? ⟨x, 1, none⟩ = some (.slice (some ⟨rr, 0, none⟩) L8.length L8.length) ∧ W.cell? ⟨x, 0, none⟩ = some (.slice (some ⟨rl, 0, none⟩) L8.length L8.length) ∧ W.cell? ⟨rr, k * 8, none⟩ = some (.int .u64 y0) ∧ W.cell? ⟨rr, k * 8 + 1, none⟩ = some (.int .u64 y1) ∧ W.cell? ⟨rr, k * 8 + 2, none⟩ = some (.int .u64 y2) ∧ W.cell? ⟨rr, k * 8 + 3, none⟩ = some (.int .u64 y3) ∧ W.cell? ⟨rr, k * 8 + 4, none⟩ = some (.int .u64 y4) ∧ W.cell? ⟨rr, k * 8 + 5, none⟩ = some (.int .u64 y5) ∧ W.cell? ⟨rr, k * 8 + 6, none⟩ = some (.int .u64 y6) ∧ W.cell? ⟨rr, k * 8 + 7, none⟩ = some (.int .u64 y7) ∧ W.cell? ⟨rl, k * 8, none⟩ = some (.int .u64 z0) ∧ W.cell? ⟨rl, k * 8 + 1, none⟩ = some (.int .u64 z1) ∧ W.cell? ⟨rl, k * 8 + 2, none⟩ = some (.int .u64 z2) ∧ W.cell? ⟨rl, k * 8 + 3, none⟩ = some (.int .u64 z3) ∧ W.cell? ⟨rl, k * 8 + 4, none⟩ = some (.int .u64 z4) ∧ W.cell? ⟨rl, k * 8 + 5, none⟩ = some (.int .u64 z5) ∧ W.cell? ⟨rl, k * 8 + 6, none⟩ = some (.int .u64 z6) ∧ W.cell? ⟨rl, k * 8 + 7, none⟩ = some (.int .u64 z7))
                  (exact HSS.out _ (by assumption))
                  (first
                    | (go_at_call 68; (with_reducible refine (lasting_at HDV HBd HKL HZ).mono ?_); rintro en w12 ⟨rfl, HB12⟩))
                go_wp2
                go_roundg (gk - 1)
                case measure => exact kq_less Hk.out hk
                case rel => exact ⟨k + 1, by simp [hw1k], Lib.hid (kq_next Hk.out hk), Lib.hid (HSk.out.below (HBV.out.trans (HB12.out.mono HBV.out.size)))⟩
              · have hki := k_ncast hk
                have hkn : k ≤ nn := Nat.le_of_eq (k_end Hk.out hk)
                go_wp2
                go_roundg (G - 1)
                case measure => exact kq_less Hi.out hl2
                case rel => exact ⟨i + 1, e', ga', gb', rfl, rfl, rfl, by simp [hw1], Lib.hid (kq_next Hi.out hl2), He', HSk⟩
    · have hnot : ¬ (i < ops.length ∧ i < 40) := hlt
      by_cases hl1 : i < ops.length
      · have hi1 := k_cast hl1
        have hi2 : ¬ (i : Int) < 40 := k_ncast (n := 40) (fun h => hnot ⟨hl1, h⟩)
        clear hlt hnot
        go_wp2
        go_ret
        exact ⟨rfl, HS.out.base⟩
      · have hi1 := k_ncast hl1
        clear hlt hnot
        go_wp2
        go_ret
        exact ⟨rfl, HS.out.base⟩
end Go.Proofs.Ytmeoiennniknlaa.Log
