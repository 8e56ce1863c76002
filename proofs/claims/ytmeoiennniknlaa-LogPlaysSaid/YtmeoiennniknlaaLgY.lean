/- (*gimmalref08.Log).Append where there is room. -/
import Derived.Test.YtmeoiennniknlaaLgFour
namespace Go.Proofs.Ytmeoiennniknlaa.Log
open Go.RowKit Go.Shelf Go.Proofs.YtmeoiennniknlaaW.PrintWords Go.Proofs.Ytmeoiennniknlaa.Lb Go.Proofs.Ytmeoiennniknlaa.Frames
open Go.Proofs.Ytmeoiennniknlaa.Disk (Chg Chg.cell Sec secC secC_at agg8 thB Dsk cur upd)
open Go.Proofs.Ytmeoiennniknlaa.Anchor (Blk zero8 below_set8)
open Go.Proofs.Ytmeoiennniknlaa.RDisk (RDk curL dirB)
set_option linter.unusedVariables false
set_option linter.unusedSimpArgs false

/-- What the reference's Append answers where there is room. -/
def RApp (w : World) (x rl rr rd gb fr n ep : Nat) (RL RR : List (List Int)) (RD : List Bool) (ws ys : List Int) (fs : List Fr) (f : Fr) (OB OA : Nat → Prop) (en : Ending) (w' : World) : Prop :=
  ∃ OB', en = .returned (.int .i64 0) ∧ RDk w' x rl rr rd RL (rfR RR fr (ws ++ ys) (ws.length / 8) (((ws ++ ys).length - 1) / 8 + 1 - ws.length / 8)) (rfD RD fr (ws.length / 8) (((ws ++ ys).length - 1) / 8 + 1 - ws.length / 8)) ∧
    Rg w' gb x fr n ep (fs ++ [f]) OB' ∧ (∀ k, OB' k → OB k ∨ OA k ∨ w.heap.size ≤ k) ∧ Chg (fun k => TR rl rr rd k ∨ k = gb) w w'

set_option maxRecDepth 100000 in
set_option maxHeartbeats 4000000 in
theorem rappend_ok {w : World} {gb x rl rr rd fr n ep : Nat} {RL RR : List (List Int)} {RD : List Bool} {ws : List Int} {fs : List Fr} {OB OA : Nat → Prop} (hd : RDk w x rl rr rd RL RR RD) (hr : Rg w gb x fr n ep fs OB) (hfr : fr + n ≤ RL.length)
    (hfar : (¬ TR rl rr rd gb) ∧ gb ≠ x ∧ (∀ k, OB k → ¬ TR rl rr rd k) ∧ (∀ k, OA k → ¬ TR rl rr rd k)) (hOA : ¬ OA gb ∧ ∀ k, OA k → k < w.heap.size) (hinv : ∀ i, i < n → RR.getD (fr + i) [] = sect ws i) (hwsw : WS ws)
    (k : Nat) (A : Option Addr) (m c : Nat) (l : List Int) (hlm : l.length = m) (hmc : m ≤ c) (hws : WS l) (hF : Kd.F (Kd.int .u64) w OA A m l) (hb : mayB (k : Int) m = true) (hep : ep ≤ 4294967295) (hfs : fs.length ≤ 100000) (hu : used fs = ws.length) (hf : ws.length + (m + 1) ≤ n * 8) :
    Calls Try.prog 65 #[.pointer (some ⟨gb, 0, none⟩), .agg #[.int .i64 (k : Int), .slice A m c]] w (RApp w x rl rr rd gb fr n ep RL RR RD ws (((fmark ep fs.length k l : Nat) : Int) :: l) fs ⟨(k : Int), l⟩ OB OA) := by
  obtain ⟨V, hV⟩ : ∃ V, V = w.alloc (.cells #[.int .i64 (k : Int), .slice A m c] 40) := ⟨_, rfl⟩
  obtain ⟨bx, hbx⟩ : ∃ bx, bx = w.heap.size := ⟨_, rfl⟩
  obtain ⟨lw, hlw⟩ : ∃ lw, ws.length = lw := ⟨_, rfl⟩
  have hm2 : m ≤ 2000 := (mayB_true.1 hb).2.2
  have hl4 := hd.len.2
  have HM : Hid (m ≤ 140737488351232) := Lib.hid (by omega)
  have Hb := Lib.hid hb
  have Hlm := Lib.hid hlm
  have HWS := Lib.hid hws
  have HWSW := Lib.hid hwsw
  have Hep := Lib.hid hep
  have HD0 := Lib.hid hd
  have HR0 := Lib.hid hr
  have HFar := Lib.hid hfar
  have HOA := Lib.hid hOA
  have HInv := Lib.hid hinv
  have Hmc := Lib.hid hmc
  have HFA := Lib.hid hF
  have Hfr := Lib.hid hfr
  have HLW := Lib.hid hlw
  rw [hlw] at hu hf
  have HU := Lib.hid hu
  have HU9 : Hid (lw ≤ 100000) := Lib.hid (by omega)
  have HBV : Hid (Below w.heap.size w V) := by rw [hV]; exact Lib.hid ((Below.refl _ w).alloc (Nat.le_refl _) _)
  have BV : Hid (Blk V bx [.int .i64 (k : Int), .slice A m c] 40) := by rw [hV, hbx]; exact Lib.hid (Blk.new w _ _)
  have HR := Lib.hid (hr.below HBV.out)
  have HCV := Lib.hid (Kd.C_below (Kd.F_now hF) HBV.out)
  obtain ⟨nf, hnf⟩ : ∃ nf, fs.length = nf := ⟨_, rfl⟩
  have HNF := Lib.hid hnf
  have Hnf9 : Hid (nf < 4294967296) := Lib.hid (by omega)
  have Hnf6 : Hid (nf ≤ 100000) := Lib.hid (by omega)
  rw [hnf]
  obtain ⟨ys, hys⟩ : ∃ ys, ((fmark ep nf k l : Nat) : Int) :: l = ys := ⟨_, rfl⟩
  rw [hys]
  have Hys := Lib.hid hys
  have HYL : Hid (ys.length = m + 1) := Lib.hid (by rw [← hys, List.length_cons, hlm])
  have HWSY : Hid (WS ys) := Lib.hid (ws_put hys hws hlm hb)
  obtain ⟨Af, cf, h1, hcf, hFr⟩ := hr.mem
  rw [hnf] at h1 hFr
  have BG := Lib.hid (h1.below HBV.out)
  have HFr := Lib.hid hFr
  have Hbx := Lib.hid hbx
  have HF2 := Lib.hid hf
  have HN9 : Hid (n ≤ 4096) := Lib.hid (by omega)
  have hlw9 : lw ≤ 32768 := by omega
  have hn9 : n ≤ 4096 := by omega
  have hcmp := room_cast hf
  have q0 := BV.out.cell
  have z0 := BV.out.lt
  clear hd hr hb hf hlm hws hwsw hF hep hfs hu hnf hys h1 hfar hOA hinv hmc hfr hlw hcf hFr hl4
  go_enter Try.func65, Try.ntmps65
  go_wp2_with fail
  rw [← hV, ← hbx]
  clear hV hbx
  go_wp2_with (first
    | (go_at_call 28; (with_reducible refine (rmay_at HM Hb).mono ?_); rintro en w1 ⟨rfl, HB1⟩; have HR1 := Lib.hid (HR.out.below HB1.out))
    | (go_at_call 95; (with_reducible refine (rused_at HR1 HU HU9).mono ?_); rintro en w2 ⟨rfl, rfl⟩))
  have BX1 := Lib.hid (BV.out.below HB1.out)
  have BG1 := Lib.hid (BG.out.below HB1.out)
  have HCd : Hid ((Kd.int .u64).C w1.drew A m l) := Lib.hid (Kd.C_drew (Kd.C_below HCV.out HB1.out))
  have b0 : w1.cell? ⟨bx, 0, none⟩ = some (.int .i64 (k : Int)) := BX1.out.cell 0
  have b1 : w1.cell? ⟨bx, 1, none⟩ = some (.slice A m c) := BX1.out.cell 1
  have s2 : w1.cell? ⟨gb, 2, none⟩ = some (.int .i64 (n : Int)) := BG1.out.cell 2
  have s3 : w1.cell? ⟨gb, 3, none⟩ = some (.int .i64 (ep : Int)) := BG1.out.cell 3
  have s4 : w1.cell? ⟨gb, 4, none⟩ = some (.slice Af nf cf) := BG1.out.cell 4
  have zb := BX1.out.lt
  have zg := BG1.out.lt
  clear q0 z0
  go_region_held3 (fun W => W.cell? ⟨bx, 0, none⟩ = some (.int .i64 (k : Int)) ∧ W.cell? ⟨bx, 1, none⟩ = some (.slice A m c) ∧ W.cell? ⟨gb, 3, none⟩ = some (.int .i64 (ep : Int)) ∧ W.cell? ⟨gb, 4, none⟩ = some (.slice Af nf cf))
    (first | go_keep)
    (first
      | (go_at_call 33; (with_reducible refine (rput_at Hep Hnf9 Hb Hlm HWS HCd Hys).mono ?_); rintro en w4 ⟨A4, c4, rfl, HR4, HB4⟩; have t0 := (HB4.out.cell (p := ⟨bx, 0, none⟩) zb).trans b0; have t1 := (HB4.out.cell (p := ⟨bx, 1, none⟩) zb).trans b1; have t2 := (HB4.out.cell (p := ⟨gb, 2, none⟩) zg).trans s2; have t3 := (HB4.out.cell (p := ⟨gb, 3, none⟩) zg).trans s3; have t4 := (HB4.out.cell (p := ⟨gb, 4, none⟩) zg).trans s4))
  clear b0 b1 s2 s3 s4 t0 t1 t3 t4
  have HB04 : Hid (Below w.heap.size w w4) := Lib.hid (HBV.out.trans (((HB1.out.trans ((RDisk.Below.drew' (Below.refl _ w1)).trans (HB4.out.mono (Nat.le_refl _)) |>.mono HB1.out.size)).mono HBV.out.size)))
  have BX4 := Lib.hid (BX1.out.drew.below HB4.out)
  have BG4 := Lib.hid (BG1.out.drew.below HB4.out)
  have HF4 := Lib.hid (Kd.F_below HFr.out HB04.out)
  have HOB4 : Hid (∀ k, OB k → k < w4.heap.size) := Lib.hid (fun k hk => Nat.lt_of_lt_of_le (HR0.out.bb k hk) HB04.out.size)
  have HOA4 : Hid (∀ k, OA k → k < w4.heap.size) := Lib.hid (fun k hk => Nat.lt_of_lt_of_le (HOA.out.2 k hk) HB04.out.size)
  have HFO : Hid (∀ W, Hid (Below w4.heap.size w4 W) → ∀ gl, Hid (Blk W gl [.int .i64 (k : Int), .slice A m c] 40) → Hid (Kd.F kF W (fun k => k = gl ∨ OA k) (some ⟨gl, 0, none⟩) 1 [⟨(k : Int), l⟩])) := Lib.hid (fun W hW gl hgl => Lib.hid (f_one hgl.out Hlm.out Hmc.out (Kd.F_below HFA.out (HB04.out.trans (hW.out.mono HB04.out.size)))))
  have HGO : Hid (¬ (OB gb ∨ OA gb ∨ w4.heap.size ≤ gb)) := Lib.hid (by
    rintro (h | h | h)
    · exact HR0.out.gb h
    · exact HOA.out.1 h
    · have h1 := BG4.out.lt; omega)
  have HKC : Hid (∀ W, Hid (Below w4.heap.size w4 W) → W.cell? ⟨gb, 4, none⟩ = some (.slice Af nf cf) ∧ W.cell? ⟨bx, 0, none⟩ = some (.int .i64 (k : Int)) ∧ W.cell? ⟨bx, 1, none⟩ = some (.slice A m c)) := Lib.hid (fun W hW => ⟨(BG4.out.below hW.out).cell 4, (BX4.out.below hW.out).cell 0, (BX4.out.below hW.out).cell 1⟩)
  have HL0 : Hid (0 + nf ≤ 1000000) := Lib.hid (by have := Hnf6.out; omega)
  have HL1 : Hid (nf + 1 ≤ 1000000) := Lib.hid (by have := Hnf6.out; omega)
  have HNL : Hid (([] ++ fs).length = nf) := Lib.hid (by rw [List.nil_append, HNF.out])
  go_upto_region 7 with fail
  go_cut [5] from 37 to 48 (fun v5 wx => v5 = .int .i64 (lw : Int) ∧ Hid (R7 w4 wx gb x fr n ep (nf + 1) (fs ++ [⟨(k : Int), l⟩]) (fun k => OB k ∨ OA k ∨ w4.heap.size ≤ k)))
  case first =>
    clear zb zg t2
    refine HeldK.begin_ 12 (fun W => W.cell? ⟨gb, 4, none⟩ = some (.slice Af nf cf) ∧ W.cell? ⟨bx, 0, none⟩ = some (.int .i64 (k : Int)) ∧ W.cell? ⟨bx, 1, none⟩ = some (.slice A m c)) (by kernel_rfl) (HKC.out _ (Lib.hid (RDisk.Below.drew' (Below.refl _ w4)))) (fun hH => ?_)
    refine HeldK.take (i := 0) (some 37) (.pointer (some ⟨gb, 0, none⟩)) rfl (by rfl) (by kernel_rfl) (by kernel_rfl) (by kernel_rfl) (by kernel_rfl) (by kernel_rfl) (fun _ _ _ h => h) (fun w hSw => (by (try dsimp only at hSw); go_simp)) hH ?_
    (try simp only [Act.put, List.setIfInBounds_toArray, List.set_cons_zero, List.set_cons_succ])
    refine HeldK.take (i := 2) (some 39) (.pointer (some ⟨gb, 0, none⟩)) rfl (by rfl) (by kernel_rfl) (by kernel_rfl) (by kernel_rfl) (by kernel_rfl) (by kernel_rfl) (fun _ _ _ h => h) (fun w hSw => (by (try dsimp only at hSw); go_simp)) hH ?_
    (try simp only [Act.put, List.setIfInBounds_toArray, List.set_cons_zero, List.set_cons_succ])
    refine HeldK.take (i := 3) (some 40) (.pointer (some ⟨gb, 0, none⟩)) rfl (by rfl) (by kernel_rfl) (by kernel_rfl) (by kernel_rfl) (by kernel_rfl) (by kernel_rfl) (fun _ _ _ h => h) (fun w hSw => (by (try dsimp only at hSw); go_simp)) hH ?_
    (try simp only [Act.put, List.setIfInBounds_toArray, List.set_cons_zero, List.set_cons_succ])
    refine HeldK.take (i := 4) (some 41) (.pointer (some ⟨gb, 4, none⟩)) rfl (by rfl) (by kernel_rfl) (by kernel_rfl) (by kernel_rfl) (by kernel_rfl) (by kernel_rfl) (fun _ _ _ h => h) (fun w hSw => (by (try dsimp only at hSw); go_simp)) hH ?_
    (try simp only [Act.put, List.setIfInBounds_toArray, List.set_cons_zero, List.set_cons_succ])
    refine HeldK.take (i := 5) (some 42) (.slice Af nf cf) rfl (by rfl) (by kernel_rfl) (by kernel_rfl) (by kernel_rfl) (by kernel_rfl) (by kernel_rfl) (fun _ _ _ h => h) (fun w hSw => (by (try dsimp only at hSw); go_simp)) hH ?_
    (try simp only [Act.put, List.setIfInBounds_toArray, List.set_cons_zero, List.set_cons_succ])
    refine HeldK.take (i := 7) (some 44) (.agg #[.int .i64 (k : Int), .slice A m c]) rfl (by rfl) (by kernel_rfl) (by kernel_rfl) (by kernel_rfl) (by kernel_rfl) (by kernel_rfl) (fun _ _ _ h => h) (fun w hSw => (by (try dsimp only at hSw); go_simp)) hH ?_
    (try simp only [Act.put, List.setIfInBounds_toArray, List.set_cons_zero, List.set_cons_succ])
    refine branch2 (i := 1) (j := 8) (by kernel_rfl) rfl rfl (fun K' hK' => ?_) (fun K' hK' => ?_)
    · skip
      rw [if_pos (by rfl)]
      go_simp
      obtain ⟨w5, hw5⟩ : ∃ w5, w5 = (w4.alloc (.cells #[] 40)).drew := ⟨_, rfl⟩
      obtain ⟨ge, hge⟩ : ∃ ge, ge = w4.heap.size := ⟨_, rfl⟩
      have HBe : Hid (Below w4.heap.size w4 w5) := by rw [hw5]; exact Lib.hid (RDisk.Below.drew' ((Below.refl _ _).alloc (Nat.le_refl _) _))
      have BE : Hid (Blk w5 ge [] 40) := by rw [hw5, hge]; exact Lib.hid (Blk.new w4 [] _).drew
      have Hge := Lib.hid hge
      rw [← hw5, ← hge]
      clear hw5 hge
      have HB5 := HBe
      refine hK'.out _ _ (HKC.out _ HB5) (fun hH5 => ?_)
      clear hK' K' hH
      (try simp only [Act.put, List.setIfInBounds_toArray, List.set_cons_zero, List.set_cons_succ])
      refine branch2 (i := 6) (j := 8) (by kernel_rfl) rfl rfl (fun K' hK' => ?_) (fun K' hK' => ?_)
      · skip
        refine app_n_step (w0 := w4) w4.heap.size 42 Try.underlying42 PFramesGet.info40 rfl _ _ (by rfl) (some ⟨ge, 0, none⟩) 0 0 [] fs Af nf cf (fun k => OB k ∨ OA k ∨ w4.heap.size ≤ k) OB (by rfl) (by rfl) (Lib.hid (n_lit BE.out (Nat.le_of_eq (by rw [Hge.out])) (Or.inr (Or.inr (Nat.le_of_eq (by rw [Hge.out])))))) (Lib.hid (Kd.F_below HF4.out HB5.out)) (Lib.hid rfl) (Lib.hid (rok_two HOB4.out (Nat.le_of_eq (by rw [Hge.out])))) (Lib.hid (fun k hk => Or.inr (Or.inr (Nat.le_trans HB5.out.size hk)))) (Lib.hid ⟨HB5.out, HB5.out.size⟩) HL0 nf (Lib.hid (Nat.zero_add nf)) ?_
        intro A6 c6 w6 HN6 HB6 HO6 HC6
        refine hK'.out _ _ (HKC.out _ HB6) (fun hH6 => ?_)
        clear hK' K' hH5
        (try simp only [Act.put, List.setIfInBounds_toArray, List.set_cons_zero, List.set_cons_succ])
        refine HeldK.step (i := 8) (by kernel_rfl) rfl (fun K' hK' => ?_)
        rw [if_pos (by rfl)]
        go_simp
        obtain ⟨w8, hw8⟩ : ∃ w8, w8 = w6.alloc (.cells #[.int .i64 (k : Int), .slice A m c] 40) := ⟨_, rfl⟩
        obtain ⟨gl, hgl⟩ : ∃ gl, gl = w6.heap.size := ⟨_, rfl⟩
        have HBl : Hid (Below w6.heap.size w6 w8) := by rw [hw8]; exact Lib.hid ((Below.refl _ _).alloc (Nat.le_refl _) _)
        have BL : Hid (Blk w8 gl [.int .i64 (k : Int), .slice A m c] 40) := by rw [hw8, hgl]; exact Lib.hid (Blk.new w6 _ _)
        have Hgl := Lib.hid hgl
        rw [← hw8, ← hgl]
        clear hw8 hgl
        have HB9 : Hid (Below w4.heap.size w4 w8) := Lib.hid (HB6.out.trans (HBl.out.mono HB6.out.size))
        refine hK'.out _ _ (HKC.out _ HB9) (fun hH8 => ?_)
        clear hK' K' hH6
        (try simp only [Act.put, List.setIfInBounds_toArray, List.set_cons_zero, List.set_cons_succ])
        have HN9 := Lib.hid (Kd.N_below HN6.out HBl.out)
        have BL9 := BL
        have HNE : Hid (some gl ≠ (Value.slice A6 nf c6).ownBlock) := Lib.hid (fun e => Nat.lt_irrefl _ (by have h1 := Kd.N_lt HN6.out gl e.symm; rw [Hgl.out] at h1; exact h1))
        have HGL9 : Hid (w4.heap.size ≤ gl) := Lib.hid (by rw [Hgl.out]; exact HB6.out.size)
        refine HeldK.step (i := 9) (by kernel_rfl) rfl (fun K' hK' => ?_)
        refine app_n_step (w0 := w4) w4.heap.size 42 Try.underlying42 PFramesGet.info40 rfl _ _ (by rfl) A6 nf c6 ([] ++ fs) [⟨(k : Int), l⟩] (some ⟨gl, 0, none⟩) 1 1 (fun k => OB k ∨ OA k ∨ w4.heap.size ≤ k) (fun k => k = gl ∨ OA k) (by rfl) (by rfl) HN9 (HFO.out _ HB9 _ BL9) HNL (Lib.hid (rok_one HNE.out HGL9.out (HOA4.out) HN9.out)) (Lib.hid (fun k hk => Or.inr (Or.inr (Nat.le_trans HB9.out.size hk)))) (Lib.hid ⟨HB9.out, HB9.out.size⟩) HL1 (nf + 1) (Lib.hid rfl) ?_
        intro A7 c7 w7 HN7 HB7 HO7 HC7
        refine hK'.out _ _ (HKC.out _ HB7) (fun hH9 => ?_)
        clear hK' K' hH8
        (try simp only [Act.put, List.setIfInBounds_toArray, List.set_cons_zero, List.set_cons_succ])
        refine HeldK.take (i := 10) (some 47) (.pointer (some ⟨gb, 0, none⟩)) rfl (by rfl) (by kernel_rfl) (by kernel_rfl) (by kernel_rfl) (by kernel_rfl) (by kernel_rfl) (fun _ _ _ h => h) (fun w hSw => (by (try dsimp only at hSw); go_simp)) hH9 ?_
        (try simp only [Act.put, List.setIfInBounds_toArray, List.set_cons_zero, List.set_cons_succ])
        refine HeldK.take (i := 11) (some 48) (.pointer (some ⟨gb, 4, none⟩)) rfl (by rfl) (by kernel_rfl) (by kernel_rfl) (by kernel_rfl) (by kernel_rfl) (by kernel_rfl) (fun _ _ _ h => h) (fun w hSw => (by (try dsimp only at hSw); go_simp)) hH9 ?_
        (try simp only [Act.put, List.setIfInBounds_toArray, List.set_cons_zero, List.set_cons_succ])
        have BG7 := Lib.hid (BG4.out.below HB7.out)
        have t74 : w7.cell? ⟨gb, 4, none⟩ = some (.slice Af nf cf) := BG7.out.cell 4
        have f74 := BG7.out.frozen 4
        have z74 := BG7.out.lt
        refine HeldK.last (by kernel_rfl) rfl (fun K' hK' => ?_)
        rw [if_pos (by rfl)]
        go_simp
        refine hK'.out _ _ ?_
        clear hK' K' hH9
        refine HeldK.done (by kernel_rfl) ?_ _
        have HR7 : Hid (R7 w4 (w7.setCell ⟨gb, 4, none⟩ (.slice A7 (nf + 1) c7)) gb x fr n ep (nf + 1) (fs ++ [⟨(k : Int), l⟩]) (fun k => OB k ∨ OA k ∨ w4.heap.size ≤ k)) := Lib.hid (r7_make BG7.out HB7.out (by have h1 := HN7.out; rw [List.nil_append] at h1; exact h1) HGO.out)
        clear t74 f74 z74
        go_wp2_with fail
        go_meet
        case rel => exact ⟨rfl, by first | exact HR7 | (simpa using HR7)⟩
      · skip
        rw [if_pos (by rfl)]
        go_simp
        obtain ⟨w8, hw8⟩ : ∃ w8, w8 = w5.alloc (.cells #[.int .i64 (k : Int), .slice A m c] 40) := ⟨_, rfl⟩
        obtain ⟨gl, hgl⟩ : ∃ gl, gl = w5.heap.size := ⟨_, rfl⟩
        have HBl : Hid (Below w5.heap.size w5 w8) := by rw [hw8]; exact Lib.hid ((Below.refl _ _).alloc (Nat.le_refl _) _)
        have BL : Hid (Blk w8 gl [.int .i64 (k : Int), .slice A m c] 40) := by rw [hw8, hgl]; exact Lib.hid (Blk.new w5 _ _)
        have Hgl := Lib.hid hgl
        rw [← hw8, ← hgl]
        clear hw8 hgl
        have HB8 : Hid (Below w4.heap.size w4 w8) := Lib.hid (HB5.out.trans (HBl.out.mono HB5.out.size))
        refine hK'.out _ _ (HKC.out _ HB8) (fun hH6 => ?_)
        clear hK' K' hH5
        (try simp only [Act.put, List.setIfInBounds_toArray, List.set_cons_zero, List.set_cons_succ])
        refine HeldK.step (i := 6) (by kernel_rfl) rfl (fun K' hK' => ?_)
        refine app_n_step (w0 := w4) w4.heap.size 42 Try.underlying42 PFramesGet.info40 rfl _ _ (by rfl) (some ⟨ge, 0, none⟩) 0 0 [] fs Af nf cf (fun k => OB k ∨ OA k ∨ w4.heap.size ≤ k) OB (by rfl) (by rfl) (Lib.hid (n_lit (BE.out.below HBl.out) (Nat.le_of_eq (by rw [Hge.out])) (Or.inr (Or.inr (Nat.le_of_eq (by rw [Hge.out])))))) (Lib.hid (Kd.F_below HF4.out HB8.out)) (Lib.hid rfl) (Lib.hid (rok_two HOB4.out (Nat.le_of_eq (by rw [Hge.out])))) (Lib.hid (fun k hk => Or.inr (Or.inr (Nat.le_trans HB8.out.size hk)))) (Lib.hid ⟨HB8.out, HB8.out.size⟩) HL0 nf (Lib.hid (Nat.zero_add nf)) ?_
        intro A6 c6 w6 HN6 HB6 HO6 HC6
        have HB9 := HB6
        refine hK'.out _ _ (HKC.out _ HB6) (fun hH8 => ?_)
        clear hK' K' hH6
        (try simp only [Act.put, List.setIfInBounds_toArray, List.set_cons_zero, List.set_cons_succ])
        have HN9 := HN6
        have HNE : Hid (some gl ≠ (Value.slice A6 nf c6).ownBlock) := Lib.hid (rne_one HO6.out BL.out.lt (by rw [Hgl.out]; have h1 := BE.out.lt; omega))
        have HGL9 : Hid (w4.heap.size ≤ gl) := Lib.hid (by rw [Hgl.out]; exact HB5.out.size)
        have BL9 : Hid (Blk w6 gl [.int .i64 (k : Int), .slice A m c] 40) := Lib.hid (HC6.out.blk BL.out (own_ge (by rw [Hgl.out]; have h1 := BE.out.lt; omega)))
        refine HeldK.step (i := 9) (by kernel_rfl) rfl (fun K' hK' => ?_)
        refine app_n_step (w0 := w4) w4.heap.size 42 Try.underlying42 PFramesGet.info40 rfl _ _ (by rfl) A6 nf c6 ([] ++ fs) [⟨(k : Int), l⟩] (some ⟨gl, 0, none⟩) 1 1 (fun k => OB k ∨ OA k ∨ w4.heap.size ≤ k) (fun k => k = gl ∨ OA k) (by rfl) (by rfl) HN9 (HFO.out _ HB9 _ BL9) HNL (Lib.hid (rok_one HNE.out HGL9.out (HOA4.out) HN9.out)) (Lib.hid (fun k hk => Or.inr (Or.inr (Nat.le_trans HB9.out.size hk)))) (Lib.hid ⟨HB9.out, HB9.out.size⟩) HL1 (nf + 1) (Lib.hid rfl) ?_
        intro A7 c7 w7 HN7 HB7 HO7 HC7
        refine hK'.out _ _ (HKC.out _ HB7) (fun hH9 => ?_)
        clear hK' K' hH8
        (try simp only [Act.put, List.setIfInBounds_toArray, List.set_cons_zero, List.set_cons_succ])
        refine HeldK.take (i := 10) (some 47) (.pointer (some ⟨gb, 0, none⟩)) rfl (by rfl) (by kernel_rfl) (by kernel_rfl) (by kernel_rfl) (by kernel_rfl) (by kernel_rfl) (fun _ _ _ h => h) (fun w hSw => (by (try dsimp only at hSw); go_simp)) hH9 ?_
        (try simp only [Act.put, List.setIfInBounds_toArray, List.set_cons_zero, List.set_cons_succ])
        refine HeldK.take (i := 11) (some 48) (.pointer (some ⟨gb, 4, none⟩)) rfl (by rfl) (by kernel_rfl) (by kernel_rfl) (by kernel_rfl) (by kernel_rfl) (by kernel_rfl) (fun _ _ _ h => h) (fun w hSw => (by (try dsimp only at hSw); go_simp)) hH9 ?_
        (try simp only [Act.put, List.setIfInBounds_toArray, List.set_cons_zero, List.set_cons_succ])
        have BG7 := Lib.hid (BG4.out.below HB7.out)
        have t74 : w7.cell? ⟨gb, 4, none⟩ = some (.slice Af nf cf) := BG7.out.cell 4
        have f74 := BG7.out.frozen 4
        have z74 := BG7.out.lt
        refine HeldK.last (by kernel_rfl) rfl (fun K' hK' => ?_)
        rw [if_pos (by rfl)]
        go_simp
        refine hK'.out _ _ ?_
        clear hK' K' hH9
        refine HeldK.done (by kernel_rfl) ?_ _
        have HR7 : Hid (R7 w4 (w7.setCell ⟨gb, 4, none⟩ (.slice A7 (nf + 1) c7)) gb x fr n ep (nf + 1) (fs ++ [⟨(k : Int), l⟩]) (fun k => OB k ∨ OA k ∨ w4.heap.size ≤ k)) := Lib.hid (r7_make BG7.out HB7.out (by have h1 := HN7.out; rw [List.nil_append] at h1; exact h1) HGO.out)
        clear t74 f74 z74
        go_wp2_with fail
        go_meet
        case rel => exact ⟨rfl, by first | exact HR7 | (simpa using HR7)⟩
    · skip
      rw [if_pos (by rfl)]
      go_simp
      obtain ⟨w8, hw8⟩ : ∃ w8, w8 = (w4.alloc (.cells #[.int .i64 (k : Int), .slice A m c] 40)).drew := ⟨_, rfl⟩
      obtain ⟨gl, hgl⟩ : ∃ gl, gl = w4.heap.size := ⟨_, rfl⟩
      have HBl : Hid (Below w4.heap.size w4 w8) := by rw [hw8]; exact Lib.hid (RDisk.Below.drew' ((Below.refl _ _).alloc (Nat.le_refl _) _))
      have BL : Hid (Blk w8 gl [.int .i64 (k : Int), .slice A m c] 40) := by rw [hw8, hgl]; exact Lib.hid (Blk.new w4 _ _).drew
      have Hgl := Lib.hid hgl
      rw [← hw8, ← hgl]
      clear hw8 hgl
      have HB8 := HBl
      refine hK'.out _ _ (HKC.out _ HB8) (fun hH5 => ?_)
      clear hK' K' hH
      (try simp only [Act.put, List.setIfInBounds_toArray, List.set_cons_zero, List.set_cons_succ])
      refine HeldK.step (i := 1) (by kernel_rfl) rfl (fun K' hK' => ?_)
      rw [if_pos (by rfl)]
      go_simp
      obtain ⟨w5, hw5⟩ : ∃ w5, w5 = w8.alloc (.cells #[] 40) := ⟨_, rfl⟩
      obtain ⟨ge, hge⟩ : ∃ ge, ge = w8.heap.size := ⟨_, rfl⟩
      have HBe : Hid (Below w8.heap.size w8 w5) := by rw [hw5]; exact Lib.hid ((Below.refl _ _).alloc (Nat.le_refl _) _)
      have BE : Hid (Blk w5 ge [] 40) := by rw [hw5, hge]; exact Lib.hid (Blk.new w8 [] _)
      have Hge := Lib.hid hge
      rw [← hw5, ← hge]
      clear hw5 hge
      have HB5 : Hid (Below w4.heap.size w4 w5) := Lib.hid (HB8.out.trans (HBe.out.mono HB8.out.size))
      refine hK'.out _ _ (HKC.out _ HB5) (fun hH6 => ?_)
      clear hK' K' hH5
      (try simp only [Act.put, List.setIfInBounds_toArray, List.set_cons_zero, List.set_cons_succ])
      refine HeldK.step (i := 6) (by kernel_rfl) rfl (fun K' hK' => ?_)
      refine app_n_step (w0 := w4) w4.heap.size 42 Try.underlying42 PFramesGet.info40 rfl _ _ (by rfl) (some ⟨ge, 0, none⟩) 0 0 [] fs Af nf cf (fun k => OB k ∨ OA k ∨ w4.heap.size ≤ k) OB (by rfl) (by rfl) (Lib.hid (n_lit BE.out (by rw [Hge.out]; exact HB8.out.size) (Or.inr (Or.inr (by rw [Hge.out]; exact HB8.out.size))))) (Lib.hid (Kd.F_below HF4.out HB5.out)) (Lib.hid rfl) (Lib.hid (rok_two HOB4.out (by rw [Hge.out]; exact HB8.out.size))) (Lib.hid (fun k hk => Or.inr (Or.inr (Nat.le_trans HB5.out.size hk)))) (Lib.hid ⟨HB5.out, HB5.out.size⟩) HL0 nf (Lib.hid (Nat.zero_add nf)) ?_
      intro A6 c6 w6 HN6 HB6 HO6 HC6
      have HB9 := HB6
      refine hK'.out _ _ (HKC.out _ HB6) (fun hH8 => ?_)
      clear hK' K' hH6
      (try simp only [Act.put, List.setIfInBounds_toArray, List.set_cons_zero, List.set_cons_succ])
      have HN9 := HN6
      have BL5 := Lib.hid (BL.out.below HBe.out)
      have HNE : Hid (some gl ≠ (Value.slice A6 nf c6).ownBlock) := Lib.hid (rne_one HO6.out BL5.out.lt (by rw [Hge.out]; have h1 := BL.out.lt; omega))
      have HGL9 : Hid (w4.heap.size ≤ gl) := Lib.hid (Nat.le_of_eq (by rw [Hgl.out]))
      have BL9 : Hid (Blk w6 gl [.int .i64 (k : Int), .slice A m c] 40) := Lib.hid (HC6.out.blk BL5.out (own_ge (by rw [Hge.out]; have h1 := BL.out.lt; omega)))
      refine HeldK.step (i := 9) (by kernel_rfl) rfl (fun K' hK' => ?_)
      refine app_n_step (w0 := w4) w4.heap.size 42 Try.underlying42 PFramesGet.info40 rfl _ _ (by rfl) A6 nf c6 ([] ++ fs) [⟨(k : Int), l⟩] (some ⟨gl, 0, none⟩) 1 1 (fun k => OB k ∨ OA k ∨ w4.heap.size ≤ k) (fun k => k = gl ∨ OA k) (by rfl) (by rfl) HN9 (HFO.out _ HB9 _ BL9) HNL (Lib.hid (rok_one HNE.out HGL9.out (HOA4.out) HN9.out)) (Lib.hid (fun k hk => Or.inr (Or.inr (Nat.le_trans HB9.out.size hk)))) (Lib.hid ⟨HB9.out, HB9.out.size⟩) HL1 (nf + 1) (Lib.hid rfl) ?_
      intro A7 c7 w7 HN7 HB7 HO7 HC7
      refine hK'.out _ _ (HKC.out _ HB7) (fun hH9 => ?_)
      clear hK' K' hH8
      (try simp only [Act.put, List.setIfInBounds_toArray, List.set_cons_zero, List.set_cons_succ])
      refine HeldK.take (i := 10) (some 47) (.pointer (some ⟨gb, 0, none⟩)) rfl (by rfl) (by kernel_rfl) (by kernel_rfl) (by kernel_rfl) (by kernel_rfl) (by kernel_rfl) (fun _ _ _ h => h) (fun w hSw => (by (try dsimp only at hSw); go_simp)) hH9 ?_
      (try simp only [Act.put, List.setIfInBounds_toArray, List.set_cons_zero, List.set_cons_succ])
      refine HeldK.take (i := 11) (some 48) (.pointer (some ⟨gb, 4, none⟩)) rfl (by rfl) (by kernel_rfl) (by kernel_rfl) (by kernel_rfl) (by kernel_rfl) (by kernel_rfl) (fun _ _ _ h => h) (fun w hSw => (by (try dsimp only at hSw); go_simp)) hH9 ?_
      (try simp only [Act.put, List.setIfInBounds_toArray, List.set_cons_zero, List.set_cons_succ])
      have BG7 := Lib.hid (BG4.out.below HB7.out)
      have t74 : w7.cell? ⟨gb, 4, none⟩ = some (.slice Af nf cf) := BG7.out.cell 4
      have f74 := BG7.out.frozen 4
      have z74 := BG7.out.lt
      refine HeldK.last (by kernel_rfl) rfl (fun K' hK' => ?_)
      rw [if_pos (by rfl)]
      go_simp
      refine hK'.out _ _ ?_
      clear hK' K' hH9
      refine HeldK.done (by kernel_rfl) ?_ _
      have HR7 : Hid (R7 w4 (w7.setCell ⟨gb, 4, none⟩ (.slice A7 (nf + 1) c7)) gb x fr n ep (nf + 1) (fs ++ [⟨(k : Int), l⟩]) (fun k => OB k ∨ OA k ∨ w4.heap.size ≤ k)) := Lib.hid (r7_make BG7.out HB7.out (by have h1 := HN7.out; rw [List.nil_append] at h1; exact h1) HGO.out)
      clear t74 f74 z74
      go_wp2_with fail
      go_meet
      case rel => exact ⟨rfl, by first | exact HR7 | (simpa using HR7)⟩
  case rest =>
    obtain ⟨rfl, HR7⟩ := hcut
    obtain ⟨A7, c7, hb7, hc7, hF7, hC7⟩ := HR7.out
    have BG7 := Lib.hid hb7
    have Hc7 := Lib.hid hc7
    have HF7 := Lib.hid hF7
    have HC7 := Lib.hid hC7
    clear hb7 hc7 hF7 hC7 HR7
    obtain ⟨zs, hzs⟩ : ∃ zs, ws ++ ys = zs := ⟨_, rfl⟩
    have HZS := Lib.hid hzs
    have HZL : Hid (zs.length = lw + (m + 1)) := by rw [← hzs]; exact Lib.hid (by rw [List.length_append, HLW.out, HYL.out])
    have HZW : Hid (WS zs) := by
      rw [← hzs]
      exact Lib.hid (fun y hy => (List.mem_append.1 hy).elim (fun h => HWSW.out y h) (fun h => HWSY.out y h))
    obtain ⟨f, hf⟩ : ∃ f, lw / 8 = f := ⟨_, rfl⟩
    have Hf := Lib.hid hf
    have hfd := rf_div hf
    obtain ⟨cnt, hcnt⟩ : ∃ cnt, (lw + (m + 1) - 1) / 8 + 1 - f = cnt := ⟨_, rfl⟩
    have Hcnt := Lib.hid hcnt
    have HTB : Hid (∀ q, TR rl rr rd q → q < w.heap.size) := Lib.hid (fun q hq => by
      obtain ⟨_, l1, l2, l3⟩ := RDk.lts HD0.out
      rcases hq with rfl | rfl | rfl
      · exact l1
      · exact l2
      · exact l3)
    have hgw : gb < w.heap.size := HR0.out.lt
    have HGW := Lib.hid hgw
    have HDc : Hid (RDk wc x rl rr rd RL (rfR RR fr zs f 0) (rfD RD fr f 0)) := Lib.hid ((HD0.out.below HB04.out).kept HC7.out (fun e => HFar.out.2.1 e.symm) (fun e => HFar.out.1 (Or.inl e.symm)) (fun e => HFar.out.1 (Or.inr (Or.inl e.symm))) (fun e => HFar.out.1 (Or.inr (Or.inr e.symm))))
    have HCc : Hid (Chg (TR rl rr rd) wc wc) := Lib.hid (Chg.refl _ _)
    have HGb : Hid (∀ wy, Chg (TR rl rr rd) wc wy → Blk wy gb [.pointer (some ⟨x, 0, none⟩), .int .i64 (fr : Int), .int .i64 (n : Int), .int .i64 (ep : Int), .slice A7 (nf + 1) c7] 131) := Lib.hid (fun wy hy => hy.blk BG7.out HFar.out.1)
    have HS1 : Hid (w.heap.size ≤ w1.heap.size) := Lib.hid (Nat.le_trans HBV.out.size HB1.out.size)
    have HYc : Hid (∀ wy, Chg (TR rl rr rd) wc wy → (Kd.int .u64).C wy A4 (m + 1) ys) := Lib.hid (fun wy hy => by
      have h1 := Kd.R_F (Kd.R_bound HR4.out)
      have h2 := Kd.F_step h1 (W1 := wc) (fun q hq hlt => HC7.out.block q hlt (fun e => by
        have h3 : w1.heap.size ≤ q := hq.2.1
        have h4 := HS1.out
        have h5 := HGW.out
        rw [e] at h3
        omega))
      exact Kd.F_now (Kd.F_step h2 (W1 := wy) (fun q hq hlt => hy.block q hlt (fun ht => by
        have h3 : w1.heap.size ≤ q := hq.2.1
        have h4 := HS1.out
        have h5 := HTB.out q ht
        omega))))
    have hn9' := hn9
    have t2c : wc.cell? ⟨gb, 2, none⟩ = some (.int .i64 (n : Int)) := BG7.out.cell 2
    clear hzs hf hcnt hgw zb zg t2
    go_wp2
    go_loopg [7] cnt (fun kq v7 wr => ∃ (j i : Nat), v7 = .int .i64 (i : Int) ∧ Hid (f + j = i) ∧ Hid (j + kq = cnt) ∧ Hid (RDk wr x rl rr rd RL (rfR RR fr zs f j) (rfD RD fr f j)) ∧ Hid (Chg (TR rl rr rd) wc wr))
    case atStart => exact ⟨0, f, rfl, Lib.hid rfl, Lib.hid (Nat.zero_add _), HDc, HCc⟩
    case round =>
      obtain ⟨j, i, rfl, Hi, Hj, HD, HC⟩ := hrel
      clear t2c hfd hcmp
      by_cases hlt : i * 8 < lw + (m + 1)
      · have hii := rf_cast hlt
        have hin := rf_n hlt HF2.out
        have hi4 : i < 4096 := Nat.lt_of_lt_of_le hin hn9
        have Hjl := Lib.hid (rf_lt Hi.out Hcnt.out hlt)
        have Hin := Lib.hid hin
        obtain ⟨p, hp⟩ : ∃ p, fr + i = p := ⟨_, rfl⟩
        have Hp := Lib.hid hp
        have Hpl : Hid (p < RL.length) := Lib.hid (by have := Hfr.out; omega)
        have Hp5 : Hid (p < 100000) := Lib.hid (by have := Hpl.out; have := HD0.out.len.2; omega)
        obtain ⟨R1, hR1⟩ : ∃ R1, rfR RR fr zs f j = R1 := ⟨_, rfl⟩
        obtain ⟨D1, hD1⟩ : ∃ D1, rfD RD fr f j = D1 := ⟨_, rfl⟩
        have HR1e := Lib.hid hR1
        have HD1e := Lib.hid hD1
        rw [hR1, hD1] at HD
        have HRi : Hid (R1.getD p [] = sect ws i) := Lib.hid (by
          rw [← hR1, ← hp, List.getD_eq_getElem?_getD, rfR_later RR fr zs f j (fr + i) (by rw [Hi.out]; exact Nat.le_refl _), ← List.getD_eq_getElem?_getD]
          exact HInv.out i hin)
        obtain ⟨G, hG⟩ : ∃ G, G = gk := ⟨_, rfl⟩
        subst hG
        have hw8 := m8i hi4
        clear hp hR1 hD1 hin
        go_wp2
        obtain ⟨V, hV⟩ : ∃ V, V = wr.alloc (.cells #[.int .u64 0, .int .u64 0, .int .u64 0, .int .u64 0, .int .u64 0, .int .u64 0, .int .u64 0, .int .u64 0] 59) := ⟨_, rfl⟩
        obtain ⟨gs, hgs⟩ : ∃ gs, gs = wr.heap.size := ⟨_, rfl⟩
        have BV0 : Hid (Blk V gs (nums .u64 (sk zs i 0)) 59) := by rw [hV, hgs]; exact Lib.hid (Blk.new wr (nums .u64 zero8) 59)
        have HX : Hid (∀ wx, Chg (fun q => q = gs) V wx → RDk wx x rl rr rd RL R1 D1 ∧ Chg (TR rl rr rd) wc wx) := Lib.hid (fun wx hx => by
          have hbv : Below wr.heap.size wr V := by rw [hV]; exact (Below.refl _ _).alloc (Nat.le_refl _) _
          obtain ⟨l0, l1, l2, l3⟩ := RDk.lts HD.out
          rw [hgs] at hx
          refine ⟨(HD.out.below hbv).kept hx (by omega) (by omega) (by omega) (by omega), HC.out.trans (Chg.mono' (S := fun q => TR rl rr rd q ∨ q = wr.heap.size) (((Chg.of_below hbv).mono (fun q hq => Or.inl hq)).trans (hx.mono (fun q hq => Or.inr hq))) (fun q hq h => h.elim id (fun e => absurd hq (by omega))))⟩)
        rw [← hV, ← hgs]
        clear hV hgs
        have HV0 : Hid (Chg (fun q => q = gs) V V) := Lib.hid (Chg.refl _ _)
        go_loopg [9] 8 (fun kq v9 wx => ∃ (k : Nat), v9 = .int .i64 (k : Int) ∧ Hid (k + kq = 8) ∧ Hid (Blk wx gs (nums .u64 (sk zs i k)) 59) ∧ Hid (Chg (fun q => q = gs) V wx))
        case atStart => exact ⟨0, rfl, Lib.hid rfl, BV0, HV0⟩
        case round =>
          obtain ⟨kk, rfl, Hk, HB, HBx⟩ := hrel
          have HX1 := Lib.hid (HX.out _ HBx.out)
          by_cases hk : kk < 8
          · have hki : (kk : Int) < 8 := k_cast (n := 8) hk
            have hk9 := hk
            have c0 : wr.cell? ⟨gs, kk, none⟩ = some (.int .u64 0) := by
              rw [HB.out.cell, nums, List.getElem?_map, sk_get zs i kk hk]; rfl
            have f0 := HB.out.frozen kk
            have z0 := HB.out.lt
            have hw1k := m1k hk
            by_cases ha : 8 * i + kk < lw
            · have hac := old_cast ha
              obtain ⟨y, hy⟩ : ∃ y, (sect zs i).getD kk 0 = y := ⟨_, rfl⟩
              have Hy := Lib.hid hy
              have HGx := Lib.hid (HGb.out _ HX1.out.2)
              have g0 : wr.cell? ⟨gb, 0, none⟩ = some (.pointer (some ⟨x, 0, none⟩)) := HGx.out.cell 0
              have g1 : wr.cell? ⟨gb, 1, none⟩ = some (.int .i64 (fr : Int)) := HGx.out.cell 1
              have x1 : wr.cell? ⟨x, 1, none⟩ = some (.slice (some ⟨rr, 0, none⟩) RL.length RL.length) := HX1.out.1.obj.cell 1
              have y1 : wr.cell? ⟨rr, p * 8 + kk, none⟩ = some (.int .u64 y) := by
                have h1 := HX1.out.1
                have hpl : p < R1.length := by rw [h1.lenR]; exact Hpl.out
                rw [h1.red.cell, secC_at R1 (fun s hs => (h1.secR s hs).1) p kk hpl hk, HRi.out, nums, List.getElem?_map, List.getElem?_eq_getElem (by rw [sect_length]; exact hk)]
                rw [← hy, ← HZS.out, sect_old ws ys i kk hk (by rw [HLW.out]; exact ha), List.getD_eq_getElem?_getD, List.getElem?_eq_getElem (by rw [sect_length]; exact hk)]
                rfl
              have hpi : (p : Int) < (RL.length : Int) := k_cast Hpl.out
              have hqf := ifw Hp.out Hp5.out
              have hwf := wfw Hp.out Hp5.out
              clear hy
              go_wp2
              go_still_tail 19, (by kernel_rfl)
              go_wp2
              go_roundg (gk - 1)
              case measure => exact kq_less Hk.out hk
              case rel =>
                refine ⟨kk + 1, by simp [hw1k], Lib.hid (kq_next Hk.out hk), Lib.hid ?_, Lib.hid (HBx.out.trans (Chg.set (S := fun q => q = gs) rfl _ _)).drew⟩
                rw [← sk_set zs i kk hk, Hy.out]
                have h1 := (HB.out.set kk (.int .u64 y)).drew
                rw [nums, ← List.map_set] at h1
                exact h1
            · have hac := old_ncast ha
              by_cases hb : 8 * i + kk < lw + (m + 1)
              · have hbc := new_cast hb
                obtain ⟨q, hq⟩ : ∃ q, 8 * i + kk - lw = q := ⟨_, rfl⟩
                have hqy : q < ys.length := by rw [HYL.out]; omega
                obtain ⟨y, hy⟩ : ∃ y, (sect zs i).getD kk 0 = y := ⟨_, rfl⟩
                have Hy := Lib.hid hy
                have hyq : ys[q] = y := by
                  rw [← hy, ← HZS.out, sect_new ws ys i kk hk (by rw [HLW.out]; exact ha) (by rw [HLW.out, HYL.out]; exact hb), HLW.out, hq, List.getD_eq_getElem?_getD, List.getElem?_eq_getElem hqy]; rfl
                have hCy : (Kd.int .u64).C wr A4 ys.length ys := by rw [HYL.out]; exact HYc.out _ HX1.out.2
                obtain ⟨ad, hA4, x0⟩ := C_cell hCy q hqy
                rw [hyq] at x0
                subst hA4
                have hsub := sub_cast ha hq
                have hq0 : (0 : Int) ≤ (q : Int) := Int.natCast_nonneg _
                have hqm := k_cast (k := q) (n := m + 1) (by rw [← HYL.out]; exact hqy)
                have hqm2 := qm_cast (q := q) (m := m) (by rw [← HYL.out]; exact hqy)
                have Hq := Lib.hid hq
                clear hy hyq hCy hq
                go_wp2
                go_roundg (gk - 1)
                case measure => exact kq_less Hk.out hk
                case rel =>
                  refine ⟨kk + 1, by simp [hw1k], Lib.hid (kq_next Hk.out hk), Lib.hid ?_, Lib.hid (HBx.out.trans (Chg.set (S := fun q => q = gs) rfl _ _))⟩
                  rw [← sk_set zs i kk hk, Hy.out]
                  have h1 := HB.out.set kk (.int .u64 y)
                  rw [nums, ← List.map_set] at h1
                  exact h1
              · have hbc := new_ncast hb
                have Hsk := Lib.hid (sk_keep zs i kk hk (by rw [HZL.out]; omega))
                go_wp2
                go_roundg (gk - 1)
                case measure => exact kq_less Hk.out hk
                case rel => exact ⟨kk + 1, by simp [hw1k], Lib.hid (kq_next Hk.out hk), by rw [Hsk.out]; exact HB, HBx⟩
          · have hki : ¬ (kk : Int) < 8 := k_ncast (n := 8) hk
            have hk8 : kk = 8 := k_end Hk.out hk
            subst hk8
            rw [sk_eight] at HB
            have HSs := Lib.hid (sect_sec HZW.out i)
            obtain ⟨z0, z1, z2, z3, z4, z5, z6, z7, hz⟩ := HSs.out.open
            have HZ2 : Hid (Sec [z0, z1, z2, z3, z4, z5, z6, z7]) := by rw [← hz]; exact HSs
            have HZZ := Lib.hid hz
            rw [hz] at HB
            have q0 := HB.out.cell
            simp only [nums, List.map_cons, List.map_nil] at q0
            have HGx := Lib.hid (HGb.out _ HX1.out.2)
            have g0 : wr.cell? ⟨gb, 0, none⟩ = some (.pointer (some ⟨x, 0, none⟩)) := HGx.out.cell 0
            have g1 : wr.cell? ⟨gb, 1, none⟩ = some (.int .i64 (fr : Int)) := HGx.out.cell 1
            have HDx : Hid (RDk wr.drew x rl rr rd RL R1 D1) := Lib.hid HX1.out.1.drew
            have hqf := ifw Hp.out Hp5.out
            have hwf := wfw Hp.out Hp5.out
            have hw1i := m1i hi4
            clear hz
            go_wp2
            go_still_tail 11, (by kernel_rfl)
            go_wp2_with (go_at_call 62; (with_reducible refine (rwrite_at HDx Hpl HZ2).mono ?_); rintro en w8 ⟨rfl, HD8, HC8⟩)
            go_roundg (G - 1)
            case measure => exact kq_less Hj.out Hjl.out
            case rel =>
              refine ⟨j + 1, i + 1, by simp [hw1i], Lib.hid (by rw [← Hi.out]; rfl), Lib.hid (kq_next Hj.out Hjl.out), ?_, Lib.hid (HX1.out.2.drew.trans HC8.out)⟩
              rw [rfR, rfD, HR1e.out, HD1e.out, Hi.out, Hp.out, HZZ.out]
              exact HD8
      · have hii := rf_ncast hlt
        have hje : j = cnt := rf_end Hi.out Hcnt.out Hj.out (Nat.succ_pos _) hlt
        have hi5 : i ≤ 100000 := rf_bd Hi.out Hcnt.out (Nat.le_of_eq hje) HF2.out hn9 Hf.out
        subst hje
        go_wp2
        go_ret
        have hnl : (fs ++ [(⟨(k : Int), l⟩ : Fr)]).length = nf + 1 := by rw [List.length_append, HNF.out]; rfl
        refine ⟨_, rfl, ?_, rg_app BG7.out hnl Hc7.out HF7.out HGO.out (fun q hq => Nat.lt_of_lt_of_le (HTB.out q hq) HB04.out.size) ⟨HFar.out.1, HFar.out.2.2.1, HFar.out.2.2.2⟩ HC.out, fun q hq => ?_, ?_⟩
        · rw [HZS.out, HLW.out, HZL.out, Hf.out, Hcnt.out]; exact HD.out
        · rcases hq.1 with h | h | h
          · exact Or.inl h
          · exact Or.inr (Or.inl h)
          · exact Or.inr (Or.inr (Nat.le_trans HB04.out.size h))
        · exact (Chg.of_below HB04.out).trans ((HC7.out.mono (fun q hq => Or.inr hq)).trans (HC.out.mono (fun q hq => Or.inl hq)))
end Go.Proofs.Ytmeoiennniknlaa.Log
