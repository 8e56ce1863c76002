/- gimmalref08.Open: what it makes of the device. gimmalref08.Open: its walk. What both Opens leave is one and the same. (*log.Log).write. -/
import Derived.Test.YtmeoiennniknlaaLgTwo
namespace Go.Proofs.Ytmeoiennniknlaa.Log
open Go.RowKit Go.Shelf Go.Proofs.YtmeoiennniknlaaW.PrintWords Go.Proofs.Ytmeoiennniknlaa.Lb Go.Proofs.Ytmeoiennniknlaa.Frames
open Go.Proofs.Ytmeoiennniknlaa.Disk (Chg Sec secC secC_at agg8 thB Dsk cur upd)
open Go.Proofs.Ytmeoiennniknlaa.Anchor (Blk zero8 below_set8)
open Go.Proofs.Ytmeoiennniknlaa.RDisk (RDk curL dirB)
set_option linter.unusedVariables false
set_option linter.unusedSimpArgs false

/-- What the reference's Open makes of i sectors. -/
def opR (RR : List (List Int)) (fr e : Nat) : Nat → List (List Int)
  | 0 => RR
  | i + 1 => if zb e i (RR.getD (fr + i) []) 8 = true then (opR RR fr e i).set (fr + i) (zl e i (RR.getD (fr + i) []) 8) else opR RR fr e i
def opD (RR : List (List Int)) (RD : List Bool) (fr e : Nat) : Nat → List Bool
  | 0 => RD
  | i + 1 => if zb e i (RR.getD (fr + i) []) 8 = true then (opD RR RD fr e i).set (fr + i) true else opD RR RD fr e i
def opB (RR : List (List Int)) (fr e : Nat) : Nat → Bool
  | 0 => false
  | i + 1 => if zb e i (RR.getD (fr + i) []) 8 = true then true else opB RR fr e i
theorem opR_later (RR : List (List Int)) (fr e : Nat) : ∀ i j, fr + i ≤ j → (opR RR fr e i)[j]? = RR[j]?
  | 0, _, _ => rfl
  | i + 1, j, h => by
    unfold opR
    split
    · rw [List.getElem?_set_ne (by omega)]; exact opR_later RR fr e i j (by omega)
    · exact opR_later RR fr e i j (by omega)
theorem opR_getD (RR : List (List Int)) (fr e i : Nat) : (opR RR fr e i).getD (fr + i) [] = RR.getD (fr + i) [] := by
  rw [List.getD_eq_getElem?_getD, List.getD_eq_getElem?_getD, opR_later RR fr e i _ (Nat.le_refl _)]
/-- The reference's device's blocks that are written. -/
def TR (rl rr rd : Nat) (k : Nat) : Prop := k = rl ∨ k = rr ∨ k = rd
/-- What Open leaves. -/
def opE (RL RR : List (List Int)) (RD : List Bool) (fr e n : Nat) : List (List Int) × List (List Int) × List Bool :=
  if opB RR fr e n = true then (opR RR fr e n, opR RR fr e n, List.replicate RL.length false) else (RL, opR RR fr e n, opD RR RD fr e n)
theorem zl_sec {e i : Nat} {s : List Int} (h : Sec s) (k : Nat) : Sec (zl e i s k) := by
  refine ⟨by rw [zl_length]; exact h.1, ?_⟩
  induction k with
  | zero => exact h.2
  | succ k ih =>
    intro x hx
    unfold zl at hx
    split at hx
    · rcases List.mem_or_eq_of_mem_set hx with h1 | rfl
      · exact ih x h1
      · omega
    · exact ih x hx
theorem rwords_at {w : World} {x rl rr rd : Nat} {RL RR : List (List Int)} {RD : List Bool} {fr n : Nat} {W0 : List Int} (h : Hid (RDk w x rl rr rd RL RR RD)) (hn : Hid (fr + n ≤ RL.length)) (hW : Hid (rfW RR fr n = W0)) :
    Calls Try.prog 93 #[.pointer (some ⟨x, 0, none⟩), .int .i64 (fr : Int), .int .i64 (n : Int)] w fun en w' => ∃ A c, en = .returned (.slice A (n * 8) c) ∧ Hid (n * 8 ≤ c) ∧ Hid ((Kd.int .u64).R 30 w' w.heap.size (fun _ => True) (.slice A (n * 8) c) W0) ∧ Hid (Below w.heap.size w w') := by
  have e := hW.out
  subst e
  exact (refWords_any h.out fr n hn.out).mono fun en w' ⟨A, c, h1, h2, h3, h4⟩ => ⟨A, c, h1, Lib.hid h2, Lib.hid h3, Lib.hid h4⟩
theorem rall_at {w : World} {e : Nat} {A0 : Option Addr} {n c0 : Nat} {l : List Int} {T : List Fr × Nat} (hl : Hid (WS l)) (hn : Hid (l.length = n)) (hm : Hid (n ≤ 1000000000)) (hc : Hid (n ≤ c0)) (hC : Hid ((Kd.int .u64).C w A0 n l)) (hT : Hid (allR (e : Int) (l.length + 1) 0 l = T)) :
    Calls Try.prog 37 #[.int .i64 (e : Int), .slice A0 n c0] w fun en w' => ∃ A c, en = .returned (.tuple #[.slice A T.1.length c, .int .i64 (T.2 : Int)]) ∧ Hid (kF.R 40 w' w.heap.size (fun _ => True) (.slice A T.1.length c) T.1) ∧ Hid (Below w.heap.size w w') := by
  have e1 := hn.out
  have e2 := hT.out
  subst e1 e2
  exact (refAll_any w (e : Int) A0 c0 l hl.out hm.out hc.out hC.out).mono fun en w' ⟨A, c, h1, h2, h3⟩ => ⟨A, c, h1, Lib.hid h2, Lib.hid h3⟩
theorem rwrite_at {w : World} {x rl rr rd i : Nat} {RL RR : List (List Int)} {RD : List Bool} {s0 s1 s2 s3 s4 s5 s6 s7 : Int} (h : Hid (RDk w x rl rr rd RL RR RD)) (hi : Hid (i < RL.length)) (hs : Hid (Sec [s0, s1, s2, s3, s4, s5, s6, s7])) :
    Calls Try.prog 62 #[.pointer (some ⟨x, 0, none⟩), .int .i64 (i : Int), agg8 s0 s1 s2 s3 s4 s5 s6 s7] w fun en w' => en = .returned (.tuple #[]) ∧ Hid (RDk w' x rl rr rd RL (RR.set i [s0, s1, s2, s3, s4, s5, s6, s7]) (RD.set i true)) ∧ Hid (Chg (TR rl rr rd) w w') :=
  (RDisk.write_any h.out i hi.out s0 s1 s2 s3 s4 s5 s6 s7 hs.out).mono fun en w' ⟨h1, h2, h3⟩ => ⟨h1, Lib.hid h2, Lib.hid (h3.mono fun k hk => hk.elim (fun e => Or.inr (Or.inl e)) (fun e => Or.inr (Or.inr e)))⟩
theorem rsync_at {w : World} {x rl rr rd : Nat} {RL RR : List (List Int)} {RD : List Bool} (h : Hid (RDk w x rl rr rd RL RR RD)) :
    Calls Try.prog 59 #[.pointer (some ⟨x, 0, none⟩)] w fun en w' => en = .returned (.tuple #[]) ∧ Hid (RDk w' x rl rr rd RR RR (List.replicate RL.length false)) ∧ Hid (Chg (TR rl rr rd) w w') :=
  (RDisk.sync_any h.out).mono fun en w' ⟨h1, h2, h3⟩ => ⟨h1, Lib.hid h2, Lib.hid (h3.mono fun k hk => hk.elim Or.inl (fun e => Or.inr (Or.inr e)))⟩
theorem RDk.lts {w : World} {x rl rr rd : Nat} {RL RR : List (List Int)} {RD : List Bool} (h : RDk w x rl rr rd RL RR RD) : x < w.heap.size ∧ rl < w.heap.size ∧ rr < w.heap.size ∧ rd < w.heap.size := ⟨h.obj.lt, h.las.lt, h.red.lt, h.dir.lt⟩
theorem rg_new {w w1 w2 wx : World} {x rl rr rd fr n ep cf : Nat} {RL RR : List (List Int)} {RD : List Bool} {Af : Option Addr} {fs : List Fr} (hb1 : Below w.heap.size w w1) (h : RDk w x rl rr rd RL RR RD)
    (HF : kF.R 40 w2 w1.heap.size (fun _ => True) (.slice Af fs.length cf) fs) (hc : Chg (TR rl rr rd) w2 wx) :
    Rg (wx.alloc (.cells #[.pointer (some ⟨x, 0, none⟩), .int .i64 (fr : Int), .int .i64 (n : Int), .int .i64 (ep : Int), .slice Af fs.length cf] 131)) wx.heap.size x fr n ep fs (fun k => w1.heap.size ≤ k ∧ k < w2.heap.size) := by
  have hs := hc.size
  obtain ⟨_, l1, l2, l3⟩ := RDk.lts h
  have hs1 := hb1.size
  refine ⟨fun h => by omega, fun k hk => by rw [World.size_alloc]; omega, Af, cf, Blk.new wx _ _, (Kd.R_reads' HF).2.1, ?_⟩
  have h1 : Kd.F kF w2 (fun k => w1.heap.size ≤ k ∧ k < w2.heap.size) Af fs.length fs := Kd.F_mono (Kd.R_F (Kd.R_bound HF)) (fun k hk => ⟨hk.2.1, hk.2.2.1⟩)
  refine Kd.F_step h1 (fun k hk hlt => ?_)
  rw [show (wx.alloc (.cells #[.pointer (some ⟨x, 0, none⟩), .int .i64 (fr : Int), .int .i64 (n : Int), .int .i64 (ep : Int), .slice Af fs.length cf] 131)).heap[k]? = wx.heap[k]? from Below.heap_alloc _ _ _ (by omega)]
  exact hc.block k hk.2 (by unfold TR; omega)
/-- The cells of a sector in the midst of being made zero. -/
theorem zl_getD {e i k : Nat} {s : List Int} (hk : k < s.length) : (zl e i s k)[k]? = some (s.getD k 0) := by
  rw [zl_at e i s k k hk, if_neg (by omega), List.getD_eq_getElem?_getD, List.getElem?_eq_getElem hk]; rfl
theorem m8i {i : Nat} (h : i < 4096) : wrap64 (8 * (i : Int)) = 8 * (i : Int) := by unfold wrap64; omega
theorem m8k {i k : Nat} (h : i < 4096) (hk : k < 8) : wrap64 (8 * (i : Int) + (k : Int)) = 8 * (i : Int) + (k : Int) := by unfold wrap64; omega
theorem m1k {k : Nat} (hk : k < 8) : wrap64 ((k : Int) + 1) = (k : Int) + 1 := by unfold wrap64; omega
theorem m1i {i : Nat} (h : i < 4096) : wrap64 ((i : Int) + 1) = (i : Int) + 1 := by unfold wrap64; omega
theorem le_cast {e i k : Nat} (h : e ≤ 8 * i + k) : (e : Int) ≤ 8 * (i : Int) + (k : Int) := by omega
theorem lt_cast {e i k : Nat} (h : ¬ e ≤ 8 * i + k) : 8 * (i : Int) + (k : Int) < (e : Int) := by omega
theorem k_cast {k n : Nat} (h : k < n) : (k : Int) < (n : Int) := by omega
theorem k_ncast {k n : Nat} (h : ¬ k < n) : ¬ (k : Int) < (n : Int) := by omega
theorem k_end {k q n : Nat} (h : k + q = n) (hk : ¬ k < n) : k = n := by omega
end Go.Proofs.Ytmeoiennniknlaa.Log

namespace Go.Proofs.Ytmeoiennniknlaa.Log
open Go.RowKit Go.Shelf Go.Proofs.YtmeoiennniknlaaW.PrintWords Go.Proofs.Ytmeoiennniknlaa.Lb Go.Proofs.Ytmeoiennniknlaa.Frames
open Go.Proofs.Ytmeoiennniknlaa.Disk (Chg Sec secC secC_at agg8 thB Dsk cur upd)
open Go.Proofs.Ytmeoiennniknlaa.Anchor (Blk zero8 below_set8)
open Go.Proofs.Ytmeoiennniknlaa.RDisk (RDk curL dirB)
set_option linter.unusedVariables false
set_option linter.unusedSimpArgs false

/-- What the reference's Open answers. -/
def ROpen (w : World) (x rl rr rd fr n ep : Nat) (RL RR : List (List Int)) (RD : List Bool) (T : List Fr × Nat) (en : Ending) (w' : World) : Prop :=
  ∃ g OB, en = .returned (.pointer (some ⟨g, 0, none⟩)) ∧
      RDk w' x rl rr rd (opE RL RR RD fr T.2 n).1 (opE RL RR RD fr T.2 n).2.1 (opE RL RR RD fr T.2 n).2.2 ∧ Rg w' g x fr n ep T.1 OB ∧ (w.heap.size ≤ g ∧ (∀ k, OB k → w.heap.size ≤ k)) ∧ Chg (TR rl rr rd) w w'
set_option maxRecDepth 100000 in
set_option maxHeartbeats 2000000 in
theorem refOpen_any {w : World} {x rl rr rd fr n ep : Nat} {RL RR : List (List Int)} {RD : List Bool} (h : RDk w x rl rr rd RL RR RD) (hn : fr + n ≤ RL.length) (T : List Fr × Nat) (hT : allR (ep : Int) ((rfW RR fr n).length + 1) 0 (rfW RR fr n) = T) (hws : WS (rfW RR fr n)) :
    Calls Try.prog 57 #[.pointer (some ⟨x, 0, none⟩), .int .i64 (fr : Int), .int .i64 (n : Int), .int .i64 (ep : Int)] w (ROpen w x rl rr rd fr n ep RL RR RD T) := by
  have H := Lib.hid h
  have HN := Lib.hid hn
  obtain ⟨W0, hW0⟩ : ∃ W0, rfW RR fr n = W0 := ⟨_, rfl⟩
  have HW0 := Lib.hid hW0
  have hlen := rfW_length h.secR fr n (by rw [h.lenR]; exact hn)
  rw [hW0] at hT hlen hws
  have HT := Lib.hid hT
  have HLn := Lib.hid hlen
  have HWS := Lib.hid hws
  have hl4 := h.len.2
  have HL4 := Lib.hid hl4
  have H1 : Hid (n * 8 ≤ 1000000000) := Lib.hid (by omega)
  have HLR := Lib.hid h.lenR
  obtain ⟨e, he⟩ : ∃ e, T.2 = e := ⟨_, rfl⟩
  have HE := Lib.hid he
  have HEl : Hid (e ≤ n * 8) := Lib.hid (by
    have hle := all_le (ep : Int) (W0.length + 1) 0 W0
    rw [hT, hlen, he] at hle; exact hle)
  clear h hn hT hlen hws hl4 hW0 he
  go_enter Try.func57, Try.ntmps57
  go_wp2_with (first
    | (go_at_call 93; (with_reducible refine (rwords_at H HN HW0).mono ?_); rintro en w1 ⟨A, c, rfl, HC1, HR1, HB1⟩; have HCr := Lib.hid (readsC HR1.out HLn.out))
    | (go_at_call 37; (with_reducible refine (rall_at HWS HLn H1 HC1 HCr HT).mono ?_); rintro en w2 ⟨Af, cf, rfl, HF2, HB2⟩; have HB12 := Lib.hid (HB1.out.trans (HB2.out.mono HB1.out.size))))
  rw [HE.out]
  have H2 : Hid (RDk w2 x rl rr rd RL (opR RR fr e 0) (opD RR RD fr e 0)) := Lib.hid (H.out.below HB12.out)
  have HCH : Hid (Chg (TR rl rr rd) w2 w2) := Lib.hid (Chg.refl _ _)
  go_loopg [11, 12] n (fun kq v11 v12 wr => ∃ (i : Nat), v11 = .bool (opB RR fr e i) ∧ v12 = .int .i64 (i : Int) ∧ Hid (i + kq = n) ∧ Hid (RDk wr x rl rr rd RL (opR RR fr e i) (opD RR RD fr e i)) ∧ Hid (Chg (TR rl rr rd) w2 wr))
  case atStart => exact ⟨0, rfl, rfl, Lib.hid (by omega), H2, HCH⟩
  case round =>
    obtain ⟨i, rfl, rfl, Hi, HD, Hc⟩ := hrel
    by_cases hlt : i < n
    · have hii : (i : Int) < (n : Int) := by omega
      have hi4 : i < 4096 := by have := HN.out; have := HL4.out; omega
      obtain ⟨m, hm⟩ : ∃ m, fr + i = m := ⟨_, rfl⟩
      have Hm := Lib.hid hm
      have hml : m < RL.length := by have := HN.out; omega
      have Hml := Lib.hid hml
      have hm5 : m < 100000 := by have := HL4.out; omega
      obtain ⟨R1, hR1⟩ : ∃ R1, opR RR fr e i = R1 := ⟨_, rfl⟩
      obtain ⟨D1, hD1⟩ : ∃ D1, opD RR RD fr e i = D1 := ⟨_, rfl⟩
      obtain ⟨b1, hb1⟩ : ∃ b1, opB RR fr e i = b1 := ⟨_, rfl⟩
      have HR1' := Lib.hid hR1
      have HD1' := Lib.hid hD1
      have Hb1' := Lib.hid hb1
      rw [hR1, hD1] at HD
      rw [hb1]
      have hmR : m < R1.length := by rw [HD.out.lenR]; exact hml
      obtain ⟨y0, y1, y2, y3, y4, y5, y6, y7, hy, c0, c1, c2, c3, c4, c5, c6, c7⟩ := RDisk.sec_cells HD.out.red HD.out.secR m hmR
      have hyR : RR.getD m [] = [y0, y1, y2, y3, y4, y5, y6, y7] := by rw [← hy, ← hR1, ← hm, opR_getD]
      have HY := Lib.hid hyR
      have HS : Hid (Sec [y0, y1, y2, y3, y4, y5, y6, y7]) := Lib.hid (by
        rw [← hy, List.getD_eq_getElem?_getD, List.getElem?_eq_getElem hmR]; exact HD.out.secR _ (List.getElem_mem hmR))
      have q := HD.out.obj.cell
      have hwf := wfw hm hm5
      have hmi : (m : Int) < (RL.length : Int) := by omega
      clear hm hml hR1 hD1 hb1 hmR hy hyR hm5
      obtain ⟨G, hG⟩ : ∃ G, G = gk := ⟨_, rfl⟩
      subst hG
      go_wp2
      obtain ⟨V, hV⟩ : ∃ V, V = wr.alloc (.cells #[.int .u64 y0, .int .u64 y1, .int .u64 y2, .int .u64 y3, .int .u64 y4, .int .u64 y5, .int .u64 y6, .int .u64 y7] 59) := ⟨_, rfl⟩
      obtain ⟨gs, hgs⟩ : ∃ gs, gs = wr.heap.size := ⟨_, rfl⟩
      have BV : Hid (Blk V gs (nums .u64 (zl e i [y0, y1, y2, y3, y4, y5, y6, y7] 0)) 59) := by rw [hV, hgs]; exact Lib.hid (Blk.new wr (nums .u64 [y0, y1, y2, y3, y4, y5, y6, y7]) 59)
      have HBV : Hid (Below wr.heap.size wr V) := by rw [hV]; exact Lib.hid ((Below.refl _ wr).alloc (Nat.le_refl _) _)
      have HDX : Hid (∀ wx, Below gs V wx → RDk wx x rl rr rd RL R1 D1 ∧ Chg (TR rl rr rd) w2 wx) := Lib.hid (fun wx hx => by
        rw [hgs] at hx
        exact ⟨HD.out.below (HBV.out.trans hx), Hc.out.trans (Chg.of_below (HBV.out.trans hx))⟩)
      rw [← hV, ← hgs]
      clear hV hgs c0 c1 c2 c3 c4 c5 c6 c7 q hwf
      obtain ⟨S, hS⟩ : ∃ S, [y0, y1, y2, y3, y4, y5, y6, y7] = S := ⟨_, rfl⟩
      rw [hS] at BV HY HS
      have HSS := Lib.hid hS
      have HS8 : Hid (S.length = 8) := by rw [← hS]; exact Lib.hid rfl
      have HBX : Hid (Below gs V V) := Lib.hid (Below.refl _ _)
      clear hS
      go_loopg [14, 15] 8 (fun kq v14 v15 wx => ∃ (k : Nat), v14 = .bool (zb e i S k) ∧ v15 = .int .i64 (k : Int) ∧ Hid (k + kq = 8) ∧ Hid (Blk wx gs (nums .u64 (zl e i S k)) 59) ∧ Hid (Below gs V wx))
      case atStart => exact ⟨0, rfl, rfl, Lib.hid rfl, BV, HBX⟩
      case round =>
        obtain ⟨k, rfl, rfl, Hk, HB, HBx⟩ := hrel
        by_cases hk : k < 8
        · have hki : (k : Int) < 8 := k_cast (n := 8) hk
          have hkS : k < S.length := by rw [HS8.out]; exact hk
          obtain ⟨y, hy⟩ : ∃ y, S.getD k 0 = y := ⟨_, rfl⟩
          have hyz : 0 ≤ y ∧ y < 18446744073709551616 := by
            rw [← hy, List.getD_eq_getElem?_getD, List.getElem?_eq_getElem hkS]; exact HS.out.2 _ (List.getElem_mem hkS)
          have c0 : wr.cell? ⟨gs, k, none⟩ = some (.int .u64 y) := by
            rw [HB.out.cell, nums, List.getElem?_map, zl_getD hkS, hy]; rfl
          have f0 := HB.out.frozen k
          have z0 := HB.out.lt
          have Hy := Lib.hid hy
          have w8i := m8i hi4
          have w8k := m8k hi4 hk
          have w1k := m1k hk
          clear hkS hy hyz
          by_cases he : e ≤ 8 * i + k
          · have hei := le_cast he
            by_cases hy0 : y = 0
            · have HQ : Hid (zl e i S (k + 1) = zl e i S k ∧ zb e i S (k + 1) = zb e i S k) := Lib.hid (by
                constructor
                · rw [zl, if_neg (fun h => h.2 (by rw [Hy.out]; exact hy0))]
                · rw [zb, if_neg (fun h => h.2 (by rw [Hy.out]; exact hy0))])
              subst hy0
              go_wp2
              go_roundg (gk - 1)
              case measure => exact kq_less Hk.out hk
              case rel => exact ⟨k + 1, by rw [HQ.out.2], by simp [w1k], Lib.hid (kq_next Hk.out hk), by rw [HQ.out.1]; exact HB, HBx⟩
            · have HQ : Hid (zl e i S (k + 1) = (zl e i S k).set k 0 ∧ zb e i S (k + 1) = true) := Lib.hid (by
                constructor
                · rw [zl, if_pos ⟨he, (by rw [Hy.out]; exact hy0)⟩]
                · rw [zb, if_pos ⟨he, (by rw [Hy.out]; exact hy0)⟩])
              have hyn : (y != 0) = true := by simp [hy0]
              have hyn2 : (y == 0) = false := by simp [hy0]
              clear hy0
              go_wp2
              go_roundg (gk - 1)
              case measure => exact kq_less Hk.out hk
              case rel =>
                refine ⟨k + 1, by rw [HQ.out.2], by simp [w1k], Lib.hid (kq_next Hk.out hk), Lib.hid ?_, Lib.hid (HBx.out.setCell (Nat.le_refl _) _)⟩
                rw [HQ.out.1]
                have h1 := HB.out.set k (.int .u64 0)
                rw [nums, ← List.map_set] at h1
                exact h1
          · have hei2 := lt_cast he
            have HQ : Hid (zl e i S (k + 1) = zl e i S k ∧ zb e i S (k + 1) = zb e i S k) := Lib.hid (by
              constructor
              · rw [zl, if_neg (fun h => he h.1)]
              · rw [zb, if_neg (fun h => he h.1)])
            go_wp2
            go_roundg (gk - 1)
            case measure => exact kq_less Hk.out hk
            case rel => exact ⟨k + 1, by rw [HQ.out.2], by simp [w1k], Lib.hid (kq_next Hk.out hk), by rw [HQ.out.1]; exact HB, HBx⟩
        · have hki : ¬ (k : Int) < 8 := k_ncast (n := 8) hk
          have hk8 : k = 8 := k_end Hk.out hk
          subst hk8
          obtain ⟨b, hb⟩ : ∃ b, zb e i S 8 = b := ⟨_, rfl⟩
          have Hb := Lib.hid hb
          rw [hb]
          clear hb
          have HZ : Hid (Sec (zl e i S 8)) := Lib.hid (zl_sec HS.out 8)
          have HD2 := HDX.out _ HBx.out
          have HD3 := Lib.hid HD2.1
          have HC3 := Lib.hid HD2.2
          have hw1 := m1i hi4
          clear HD2
          cases b with
          | false =>
            go_wp2
            go_roundg (G - 1)
            case measure => exact kq_less Hi.out hlt
            case rel =>
              have hz : ¬ zb e i (RR.getD (fr + i) []) 8 = true := by rw [Hm.out, HY.out, Hb.out]; exact Bool.false_ne_true
              refine ⟨i + 1, by rw [opB, if_neg hz, Hb1'.out], by simp [hw1], Lib.hid (kq_next Hi.out hlt), ?_, HC3⟩
              rw [opR, opD, if_neg hz, if_neg hz, HR1'.out, HD1'.out]
              exact HD3
          | true =>
            obtain ⟨z0, z1, z2, z3, z4, z5, z6, z7, hz⟩ := HZ.out.open
            have HZ2 : Hid (Sec [z0, z1, z2, z3, z4, z5, z6, z7]) := by rw [← hz]; exact HZ
            have HZZ := Lib.hid hz
            rw [hz] at HB
            have q := HB.out.cell
            simp only [nums, List.map_cons, List.map_nil] at q
            have hwf := wfw Hm.out (Nat.lt_of_lt_of_le Hml.out (Nat.le_trans HL4.out (by decide)))
            clear hz
            go_wp2_with (go_at_call 62; (with_reducible refine (rwrite_at HD3 Hml HZ2).mono ?_); rintro en w4 ⟨rfl, HD4, HC4⟩)
            go_roundg (G - 1)
            case measure => exact kq_less Hi.out hlt
            case rel =>
              have hz : zb e i (RR.getD (fr + i) []) 8 = true := by rw [Hm.out, HY.out, Hb.out]
              refine ⟨i + 1, by rw [opB, if_pos hz], by simp [hw1], Lib.hid (kq_next Hi.out hlt), ?_, Lib.hid (HC3.out.trans HC4.out)⟩
              rw [opR, opD, if_pos hz, if_pos hz, HR1'.out, HD1'.out, Hm.out, HY.out, HZZ.out]
              exact HD4
    · have hii : ¬ (i : Int) < (n : Int) := k_ncast hlt
      have hie : i = n := k_end Hi.out hlt
      subst hie
      obtain ⟨b, hb⟩ : ∃ b, opB RR fr e i = b := ⟨_, rfl⟩
      have Hb := Lib.hid hb
      rw [hb]
      clear hb
      have hs1 := HB1.out.size
      have hs2 := HB2.out.size
      have HRn : Hid (∀ wx, Chg (TR rl rr rd) w2 wx → Rg (wx.alloc (.cells #[.pointer (some ⟨x, 0, none⟩), .int .i64 (fr : Int), .int .i64 (i : Int), .int .i64 (ep : Int), .slice Af T.1.length cf] 131)) wx.heap.size x fr i ep T.1 (fun k => w1.heap.size ≤ k ∧ k < w2.heap.size)) := Lib.hid (fun wx hx => rg_new HB1.out H.out HF2.out hx)
      have HS1 := Lib.hid hs1
      clear hs1 hs2
      cases b with
      | false =>
        go_wp2
        go_ret
        refine ⟨_, _, rfl, ?_, HRn.out _ Hc.out, ⟨?_, fun k hk => Nat.le_trans HS1.out hk.1⟩, (Chg.of_below HB12.out).trans (Hc.out.trans (Chg.of_below ((Below.refl _ _).alloc (Nat.le_refl _) _)))⟩
        · rw [HE.out, opE, Hb.out, if_neg Bool.false_ne_true]
          exact HD.out.alloc _
        · exact Nat.le_trans HB12.out.size Hc.out.size
      | true =>
        go_wp2_with (go_at_call 59; (with_reducible refine (rsync_at HD).mono ?_); rintro en w4 ⟨rfl, HD4, HC4⟩)
        go_ret
        have hch := Hc.out.trans HC4.out
        refine ⟨_, _, rfl, ?_, HRn.out _ hch, ⟨?_, fun k hk => Nat.le_trans HS1.out hk.1⟩, (Chg.of_below HB12.out).trans (hch.trans (Chg.of_below ((Below.refl _ _).alloc (Nat.le_refl _) _)))⟩
        · rw [HE.out, opE, Hb.out, if_pos rfl]
          exact HD4.out.alloc _
        · exact Nat.le_trans HB12.out.size hch.size
end Go.Proofs.Ytmeoiennniknlaa.Log

namespace Go.Proofs.Ytmeoiennniknlaa.Log
open Go.Proofs.Ytmeoiennniknlaa.Frames
open Go.Proofs.Ytmeoiennniknlaa.Disk (Sec cur upd Dsk)
open Go.Proofs.Ytmeoiennniknlaa.RDisk (curL dirB curL_at dirB_at curL_length curL_upd dirB_upd curL_none dirB_none getD_of)
set_option linter.unusedVariables false
section
variable {w : World} {d lb mb : Nat} {L : List (List Int)} {M : Nat → Option (List Int)} {fr n e : Nat}
theorem mid_cur (h : Dsk w d lb mb L M) (hn : fr + n ≤ L.length) {i : Nat} (hi : i < n) : ((rdW L M fr n).drop (i * 8)).take 8 = cur L M (fr + i) := by
  rw [← rdW_mid h hn hi, List.drop_take]
  congr 1
  omega
theorem zl_cur (h : Dsk w d lb mb L M) (hn : fr + n ≤ L.length) (he : e ≤ n * 8) {i : Nat} (hi : i < n) : zl e i (cur L M (fr + i)) 8 = sect ((rdW L M fr n).take e) i := by
  rw [← mid_cur h hn hi]
  have hl := rdW_length h n hn
  exact zl_sect _ e i (by omega) (by omega)
theorem zb_cur (h : Dsk w d lb mb L M) (hn : fr + n ≤ L.length) (he : e ≤ n * 8) {i : Nat} (hi : i < n) : zb e i (cur L M (fr + i)) 8 = true ↔ ¬ sect ((rdW L M fr n).take e) i = cur L M (fr + i) := by
  have h8 := (cur_sec h (i := fr + i) (by omega)).1
  rw [zb_iff e i _ 8 (by omega), zl_cur h hn he hi]
theorem open_step (h : Dsk w d lb mb L M) (hn : fr + n ≤ L.length) (he : e ≤ n * 8) : ∀ i, i ≤ n →
    opR (curL L M) fr e i = curL L (clrM L M fr ((rdW L M fr n).take e) i) ∧ opD (curL L M) (dirB L M) fr e i = dirB L (clrM L M fr ((rdW L M fr n).take e) i) ∧ opB (curL L M) fr e i = clrB L M fr ((rdW L M fr n).take e) i
  | 0, _ => ⟨rfl, rfl, rfl⟩
  | i + 1, hi => by
    obtain ⟨h1, h2, h3⟩ := open_step h hn he i (by omega)
    have hg : (curL L M).getD (fr + i) [] = cur L M (fr + i) := getD_of (curL_at (by omega))
    unfold opR opD opB clrM clrB
    rw [hg]
    by_cases hc : sect ((rdW L M fr n).take e) i = cur L M (fr + i)
    · have hz : ¬ zb e i (cur L M (fr + i)) 8 = true := fun hb => (zb_cur h hn he (by omega)).1 hb hc
      rw [if_pos hc, if_pos hc, if_neg hz, if_neg hz, if_neg hz]
      exact ⟨h1, h2, h3⟩
    · have hz : zb e i (cur L M (fr + i)) 8 = true := (zb_cur h hn he (by omega)).2 hc
      rw [if_neg hc, if_neg hc, if_pos hz, if_pos hz, if_pos hz, zl_cur h hn he (by omega)]
      exact ⟨by rw [curL_upd (by omega), h1], by rw [dirB_upd (by omega), h2], rfl⟩
/-- The reference's device behind Open is the program's. -/
theorem open_same (h : Dsk w d lb mb L M) (hn : fr + n ≤ L.length) (he : e ≤ n * 8) :
    (opE L (curL L M) (dirB L M) fr e n).1 = (clrR L M fr n ((rdW L M fr n).take e)).1 ∧
    (opE L (curL L M) (dirB L M) fr e n).2.1 = curL (clrR L M fr n ((rdW L M fr n).take e)).1 (clrR L M fr n ((rdW L M fr n).take e)).2 ∧
    (opE L (curL L M) (dirB L M) fr e n).2.2 = dirB (clrR L M fr n ((rdW L M fr n).take e)).1 (clrR L M fr n ((rdW L M fr n).take e)).2 := by
  obtain ⟨h1, h2, h3⟩ := open_step h hn he n (Nat.le_refl _)
  unfold opE clrR
  rw [h1, h2, h3]
  by_cases hb : clrB L M fr ((rdW L M fr n).take e) n = true
  · rw [if_pos hb, if_pos hb]
    exact ⟨rfl, (curL_none _).symm, by rw [dirB_none, curL_length]⟩
  · rw [if_neg hb, if_neg hb]
    exact ⟨rfl, rfl, rfl⟩
theorem clrM_low (ws : List Int) : ∀ i j, j < i → cur L (clrM L M fr ws i) (fr + j) = sect ws j
  | 0, _, h => absurd h (Nat.not_lt_zero _)
  | i + 1, j, h => by
    unfold clrM
    by_cases hij : j = i
    · subst hij
      split
      · rename_i hc
        have h2 : ∀ i', cur L (clrM L M fr ws i') (fr + j) = cur L M (fr + j) ∨ j < i' := by
          intro i'
          induction i' with
          | zero => exact Or.inl rfl
          | succ i' ih =>
            rcases ih with ih | ih
            · by_cases hji : j = i'
              · exact Or.inr (by omega)
              · left
                unfold clrM
                split
                · exact ih
                · unfold cur upd at *
                  rw [if_neg (by omega)]
                  exact ih
            · exact Or.inr (by omega)
        rcases h2 j with h2 | h2
        · rw [h2]; exact hc.symm
        · omega
      · unfold cur upd; rw [if_pos rfl]; rfl
    · have ih := clrM_low ws i j (by omega)
      split
      · exact ih
      · unfold cur upd at *
        rw [if_neg (by omega)]
        exact ih
/-- What is read behind Open: the words, and zeros. -/
theorem clrR_cur (hn : fr + n ≤ L.length) (ws : List Int) {i : Nat} (hi : i < n) : cur (clrR L M fr n ws).1 (clrR L M fr n ws).2 (fr + i) = sect ws i := by
  unfold clrR
  split
  · show ((none : Option (List Int))).getD ((curL L (clrM L M fr ws n)).getD (fr + i) []) = sect ws i
    rw [Option.getD_none, getD_of (curL_at (by omega)), clrM_low ws n i hi]
  · exact clrM_low ws n i hi
theorem clrR_length (ws : List Int) : (clrR L M fr n ws).1.length = L.length := by
  unfold clrR
  split
  · exact curL_length _ _
  · rfl
end
end Go.Proofs.Ytmeoiennniknlaa.Log

namespace Go.Proofs.Ytmeoiennniknlaa.Log
open Go.RowKit Go.Shelf Go.Proofs.YtmeoiennniknlaaW.PrintWords Go.Proofs.Ytmeoiennniknlaa.Lb Go.Proofs.Ytmeoiennniknlaa.Frames
open Go.Proofs.Ytmeoiennniknlaa.Disk (Chg Chg.cell Sec secC secC_at agg8 thB Dsk cur upd)
open Go.Proofs.Ytmeoiennniknlaa.Anchor (Blk zero8 below_set8)
open Go.Proofs.Ytmeoiennniknlaa.RDisk (RDk curL)
set_option linter.unusedVariables false
set_option linter.unusedSimpArgs false

theorem dsk_drewN {w : World} {d lb mb : Nat} {L : List (List Int)} {M : Nat → Option (List Int)} (h : Dsk w d lb mb L M) (n : Nat) : Dsk (w.drewN n) d lb mb L M := h.below (pw_below_drewN (Below.refl _ w) _)
theorem wr_fz {a f z lw : Nat} (ha : a < lw) (hf : a / 8 = f) (hz : (lw - 1) / 8 = z) : f ≤ z := by omega
theorem wr_zn {a n z lw : Nat} (ha : a < lw) (hz : (lw - 1) / 8 = z) (hw : lw ≤ n * 8) : z < n := by omega
theorem wr_tdiv {z lw : Nat} (h : 0 < lw) (hz : (lw - 1) / 8 = z) : ((lw : Int) - 1).tdiv 8 = (z : Int) := by
  rw [Int.tdiv_eq_ediv_of_nonneg (by omega)]; omega
theorem wrapN {f : Nat} (h : f < 100000) : wrap64 (f : Int) = (f : Int) := by unfold wrap64; omega
theorem wrapN1 {f : Nat} (h : f < 100000) (h0 : 0 < f) : wrap64 ((f : Int) - 1) = (f : Int) - 1 := by unfold wrap64; omega
theorem wr_end {j q z f m : Nat} (h : j + q = z + 1 - f) (hm : f + j = m) (hlt : ¬ m ≤ z) : j = z + 1 - f := by omega
/-- j sectors written, from the f-th of the log on. -/
def wrM (M : Nat → Option (List Int)) (fr : Nat) (ws : List Int) (f : Nat) : Nat → Nat → Option (List Int)
  | 0 => M
  | j + 1 => upd (wrM M fr ws f j) (fr + (f + j)) (sect ws (f + j))

set_option maxRecDepth 100000 in
set_option maxHeartbeats 1000000 in
theorem write_any {w : World} {d lb mb g fr n ep : Nat} {L : List (List Int)} {M : Nat → Option (List Int)} {ws : List Int} {fs : List Fr} {OW OF : Nat → Prop} (h : Dsk w d lb mb L M) (hl : Lg w g d fr n ep ws fs OW OF) (a : Nat) (ha : a < ws.length) (hn : fr + n ≤ L.length) (hw : ws.length ≤ n * 8)
    (hg : ¬ TD d lb mb g) (hOW : ∀ k, OW k → ¬ TD d lb mb k) (hOF : ∀ k, OF k → ¬ TD d lb mb k) :
    Calls Try.prog 94 #[.pointer (some ⟨g, 0, none⟩), .int .i64 (a : Int)] w fun en w' => en = .returned (.tuple #[]) ∧ Dsk w' d lb mb L (wrM M fr ws (a / 8) ((ws.length - 1) / 8 + 1 - a / 8)) ∧ Lg w' g d fr n ep ws fs OW OF ∧ Chg (TD d lb mb) w w' := by
  have H := Lib.hid h
  have HL := Lib.hid hl
  have HN := Lib.hid hn
  have hl4 := h.len.2
  have HL4 := Lib.hid hl4
  have HW := Lib.hid hw
  obtain ⟨Aw, cw, Af, cf, h1, _⟩ := hl.mem
  have q := h1.cell
  obtain ⟨lw, hlw⟩ : ∃ lw, ws.length = lw := ⟨_, rfl⟩
  have HLW := Lib.hid hlw
  obtain ⟨f, hf⟩ : ∃ f, a / 8 = f := ⟨_, rfl⟩
  obtain ⟨z, hz⟩ : ∃ z, (lw - 1) / 8 = z := ⟨_, rfl⟩
  rw [hlw] at q ha hw ⊢
  rw [hf, hz]
  have HFZ : Hid (f ≤ z) := Lib.hid (wr_fz ha hf hz)
  have HZ : Hid (z < n) := Lib.hid (wr_zn ha hz hw)
  have HG := Lib.hid hg
  have HOW := Lib.hid hOW
  have HOF := Lib.hid hOF
  have HM0 : Hid (Dsk w.drew d lb mb L (wrM M fr ws f 0)) := Lib.hid (dsk_drew h)
  have HC0 : Hid (Chg (TD d lb mb) w w.drew) := Lib.hid (Chg.refl _ _).drew
  have HCL : Hid (∀ wx, Chg (TD d lb mb) w wx → Lg wx g d fr n ep ws fs OW OF) := Lib.hid (fun wx hx => hl.kept hx hg hOW hOF)
  have HW6 : Hid (ws.length ≤ 1000000) := Lib.hid (by omega)
  have HWS : Hid (WS ws) := by obtain ⟨_, _, _, _, _, h2, _⟩ := hl.mem; exact Lib.hid h2.words
  have hlw5 : lw < 100000 := by omega
  have ha5 : a < 100000 := by omega
  have hz5 : z < 100000 := by omega
  have hf5 : f < 100000 := by omega
  have i1 : (a : Int) / 8 = (f : Int) := by omega
  have i3 := wrapN1 hlw5 (Nat.zero_lt_of_lt ha)
  have i4 := wr_tdiv (Nat.zero_lt_of_lt ha) hz
  have i5 := wrapN hf5
  have i6 := wrapN hz5
  clear h hl h1 hn hl4 hlw hg hOW hOF hf hz hw ha hlw5 ha5 hz5 hf5
  go_enter Try.func94, Try.ntmps94
  go_wp2
  go_quiet (fail)
  go_wp2
  simp only [i4, i5, i6]
  clear q i1 i3 i4 i5 i6
  go_loopg [6] (z + 1 - f) (fun kq v6 wr => ∃ (j m : Nat), v6 = .int .i64 (m : Int) ∧ Hid (f + j = m) ∧ Hid (j + kq = z + 1 - f) ∧ Hid (Dsk wr d lb mb L (wrM M fr ws f j)) ∧ Hid (Chg (TD d lb mb) w wr))
  case atStart => exact ⟨0, f, rfl, Lib.hid rfl, Lib.hid (Nat.zero_add _), Lib.hid (dsk_drewN H.out _), Lib.hid (Chg.refl _ _).drewN _⟩
  case round =>
    obtain ⟨j, m, rfl, Hm, Hj, HD, HC⟩ := hrel
    by_cases hlt : m ≤ z
    · have hii : (m : Int) ≤ (z : Int) := by omega
      have Hjl : Hid (j < z + 1 - f) := Lib.hid (by have := Hm.out; have := HFZ.out; omega)
      obtain ⟨p, hp⟩ : ∃ p, fr + m = p := ⟨_, rfl⟩
      have Hp := Lib.hid hp
      have HmZ : Hid (m < 100000) := Lib.hid (by have := HZ.out; have := HL4.out; have := HN.out; omega)
      have Hpl : Hid (p < L.length) := Lib.hid (by have := HZ.out; have := HN.out; omega)
      have HS := Lib.hid (sect_sec HWS.out m)
      obtain ⟨s0, s1, s2, s3, s4, s5, s6, s7, hs⟩ := HS.out.open
      have HSS := Lib.hid hs
      have HS2 : Hid (Sec [s0, s1, s2, s3, s4, s5, s6, s7]) := by rw [← hs]; exact HS
      have HLg := Lib.hid (HCL.out _ HC.out)
      obtain ⟨Aw3, cw3, Af3, cf3, h31, _⟩ := HLg.out.mem
      have q3 := h31.cell
      have q30 : wr.cell? ⟨g, 0, none⟩ = some (.pointer (some ⟨d, 0, none⟩)) := q3 0
      have q31 : wr.cell? ⟨g, 1, none⟩ = some (.int .i64 (fr : Int)) := q3 1
      have hgl := h31.lt
      have hqf := ifw Hp.out (Nat.lt_of_lt_of_le Hpl.out (Nat.le_trans HL4.out (by decide)))
      have hwf := wfw Hp.out (Nat.lt_of_lt_of_le Hpl.out (Nat.le_trans HL4.out (by decide)))
      have hw1 := w1w HmZ.out
      clear hs h31 q3 hp
      go_wp2
      go_region_held3 (fun w' => w'.cell? ⟨g, 0, none⟩ = some (.pointer (some ⟨d, 0, none⟩)) ∧ w'.cell? ⟨g, 1, none⟩ = some (.int .i64 (fr : Int)))
        (first | go_keep)
        (first
          | (go_at_call 104; (with_reducible refine (sector_at (Lib.hid (HLg.out.below (RDisk.Below.drew' (Below.refl _ wr)))) HmZ HW6 HSS).mono ?_); rintro en w2 ⟨rfl, HB2⟩; have q40 : w2.cell? ⟨g, 0, none⟩ = some (.pointer (some ⟨d, 0, none⟩)) := (HB2.out.cell (p := ⟨g, 0, none⟩) hgl).trans q30; have q41 : w2.cell? ⟨g, 1, none⟩ = some (.int .i64 (fr : Int)) := (HB2.out.cell (p := ⟨g, 1, none⟩) hgl).trans q31)
          | (go_at_call 46; (with_reducible refine (dwrite_at (Lib.hid ((dsk_drew HD.out).below HB2.out)) Hpl HS2).mono ?_); rintro en w4 ⟨rfl, HD4, HC4⟩; have q50 : w4.cell? ⟨g, 0, none⟩ = some (.pointer (some ⟨d, 0, none⟩)) := (HC4.out.cell (p := ⟨g, 0, none⟩) (Nat.lt_of_lt_of_le hgl HB2.out.size) HG.out).trans q40; have q51 : w4.cell? ⟨g, 1, none⟩ = some (.int .i64 (fr : Int)) := (HC4.out.cell (p := ⟨g, 1, none⟩) (Nat.lt_of_lt_of_le hgl HB2.out.size) HG.out).trans q41))
      go_wp2
      go_roundg (gk - 1)
      case measure => exact kq_less Hj.out Hjl.out
      case rel =>
        refine ⟨j + 1, m + 1, by simp [hw1], Lib.hid (by rw [← Hm.out]; rfl), Lib.hid (kq_next Hj.out Hjl.out), ?_, Lib.hid (HC.out.trans ((Chg.refl _ _).drew.trans ((Chg.of_below HB2.out).trans HC4.out)))⟩
        rw [wrM, Hm.out, Hp.out, HSS.out]
        exact HD4
    · have hii : ¬ (m : Int) ≤ (z : Int) := by omega
      have hjz : j = z + 1 - f := wr_end Hj.out Hm.out hlt
      subst hjz
      go_wp2
      go_end0
      exact ⟨rfl, HD.out, HCL.out _ HC.out, HC.out⟩
end Go.Proofs.Ytmeoiennniknlaa.Log
