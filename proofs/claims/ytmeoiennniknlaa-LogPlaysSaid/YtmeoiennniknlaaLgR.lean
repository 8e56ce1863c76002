/- (*log.Log).Append: the laws of its two appends; its refusals. -/
import Derived.Test.YtmeoiennniknlaaLgThree
import Derived.Test.YtmeoiennniknlaaHeldK
import Derived.Deep.RegionLawGrows
namespace Go.Proofs.Ytmeoiennniknlaa.Log
open Go.RowKit Go.Shelf Go.Proofs.YtmeoiennniknlaaW.PrintWords Go.Proofs.Ytmeoiennniknlaa.Lb Go.Proofs.Ytmeoiennniknlaa.Frames
open Go.Proofs.Ytmeoiennniknlaa.Disk (Chg Chg.cell Sec secC secC_at agg8 thB Dsk cur upd)
open Go.Proofs.Ytmeoiennniknlaa.Anchor (Blk zero8 below_set8)
open Go.Proofs.Ytmeoiennniknlaa.RDisk (RDk curL)
set_option linter.unusedVariables false
set_option linter.unusedSimpArgs false

theorem ws_put {e n k m : Nat} {l ys : List Int} (h : ((fmark e n k l : Nat) : Int) :: l = ys) (hl : WS l) (hm : l.length = m) (hb : mayB (k : Int) m = true) : WS ys := by
  obtain ⟨h1, h2, h3⟩ := mayB_true.1 hb
  rw [← h]
  exact WS_put (by omega) (by omega) hl
section
variable {P : Program} {ops : Array Oper} {rest : List Oper} {o : Oper} {a : Act} {Q : Exit → Act → World → Prop} {Kc : Act → World → Prop} {E : Prop}
/-- append(words, ys...), the words full, or a row of the log's own. -/
theorem app_wrow_step {W : World} {O : Nat → Prop} (t e : TypeId) (ht : P.underlying t = some (.slice e)) (hinfo : (P.info? e).map (fun i => (i.zero, i.size, i.bytes)) = some (some (.int .u64 0), 1, 8)) (he : e = 30) (hgd : o.guard = none) (s x : Operand)
    (ho : o.op = .call { callee := .builtin .append, args := #[s, x], argTypes := #[t, t] }) (A : Option Addr) (n c : Nat) (ws : List Int) (A2 : Option Addr) (m c2 : Nat) (ys : List Int) (hs : a.eval s = .slice A n c) (hx : a.eval x = .slice A2 m c2)
    (HR : Hid (WRow W O A c ws)) (hn : Hid (ws.length = n)) (HC : Hid ((Kd.int .u64).C W A2 m ys)) (hys : Hid (WS ys)) (hm : Hid (0 < m)) (hl : Hid (n + m ≤ 1000000))
    (h : ∀ A1 c1 w1, Hid (WRow w1 (fun k => (O k ∨ W.heap.size ≤ k) ∧ k < w1.heap.size) A1 c1 (ws ++ ys)) → Hid (Chg O W w1) → Kc (a.put o.dst (.slice A1 (n + m) c1)) w1) :
    if Region.wanted o (yielded ops a.tmps) = true then Oper.wp P o a W Kc Q else Kc (a.put o.dst undef) W := by
  have en := hn.out
  subst en he
  have hym : ys.length = m := HC.out.1
  have hl' := hl.out
  have hm0 := hm.out
  have hw : Region.wanted o (yielded ops a.tmps) = true := by simp [Region.wanted, hgd]
  have fin : ∀ v1 w1, (Kd.int .u64).R 30 w1 0 (fun k => O k ∨ W.heap.size ≤ k) v1 (ws ++ ys) → Chg O W w1 → Kc (a.put o.dst v1) w1 := by
    intro v1 w1 h1 h2
    replace h1 := Kd.R_mono (Kd.R_bound h1) (fun k hk => (⟨hk.1, hk.2.2.1⟩ : (O k ∨ W.heap.size ≤ k) ∧ k < w1.heap.size))
    obtain ⟨A1, c1, rfl⟩ := Kd.R_slice h1
    have h3 := Kd.R_reads' h1
    have el : (ws ++ ys).length = ws.length + m := by rw [List.length_append, hym]
    rw [el] at h1 h3 ⊢
    refine h A1 c1 w1 (Lib.hid ⟨by rw [el]; exact h3.2.1, fun x hx => ?_, by rw [el]; exact Kd.R_F h1, Or.inr (by rw [el]; exact h1)⟩) (Lib.hid h2)
    rcases List.mem_append.1 hx with hx | hx
    · exact HR.out.words x hx
    · exact hys.out x hx
  rcases HR.out.kind with hfull | hown
  · obtain ⟨i0, hi, hzz⟩ := Option.map_eq_some_iff.1 hinfo
    simp only [Prod.mk.injEq] at hzz
    obtain ⟨hz0, hz1, hz2⟩ := hzz
    have hC := Kd.F_now HR.out.foot
    obtain ⟨ad, e2, _⟩ := C_cell (l := ys) (by rw [hym]; exact HC.out) 0 (by rw [hym]; exact hm.out)
    have hnone : A = none → ws.length = 0 ∧ c = 0 := by
      intro eA
      have h0 : ws.length = 0 := by
        rcases Nat.eq_zero_or_pos ws.length with h0 | h0
        · exact h0
        · obtain ⟨ad0, e3, _⟩ := C_cell hC 0 h0
          rw [eA] at e3; cases e3
      exact ⟨h0, by omega⟩
    have holds : ∀ (A' : Option Addr) (zs : List Int), (Kd.int .u64).C W A' zs.length zs → ∀ b, A' = some b → ∀ j u, (nums .u64 zs)[j]? = some u → W.cell? (b.add j) = some u := by
      intro A' zs hz b eb j u hu
      rw [nums, List.getElem?_map] at hu
      obtain ⟨z, hz1, rfl⟩ := Option.map_eq_some_iff.1 hu
      obtain ⟨hj, rfl⟩ := List.getElem?_eq_some_iff.1 hz1
      obtain ⟨b2, e3, hc⟩ := C_cell hz j hj
      rw [eb] at e3
      cases e3
      exact hc
    have hst := step_append_grows (E := Kc (a.put o.dst undef) W) (K := Kc) (Q := Q) (ops := ops) hgd s x t ho 30 i0 (.int .u64 0) 1 8 ht hi hz0 hz1 hz2 rfl (by decide) A ws.length c (nums .u64 ws) hs hnone (by simp [nums]) (holds A ws hC)
      ad m c2 (nums .u64 ys) (by rw [hx, e2]) (by simp [nums, hym]) (holds A2 ys (by rw [hym]; exact HC.out) ad e2) (Anchor.nums_one _ _) (by omega) (by simp only [maxLen]; omega) (by omega) (fun v' w' hown hgrow => ?_)
    · exact hst
    · refine fin v' w' ?_ (Chg.grown hgrow (fun k hk => by cases hk))
      have h2 : w'.ownsRow W.heap.size 30 1 v' (ws ++ ys).length (nums .u64 (ws ++ ys)) := by
        rw [nums_append, List.length_append, hym]; exact hown
      exact Kd.R_lower (Kd.R_of_own h2 (fun k hk => Or.inr (own_base h2 k hk))) (Nat.zero_le _)
  · refine Kd.R_append_rows_step (Kd.int .u64) (Rr := (Kd.int .u64).K W) (w0 := W) 0 hw s x t 30 (.int .u64 0) 8 ho ht hinfo rfl (by decide) (by decide) (.slice A ws.length c) ws ys A2 m c2 (fun k => O k ∨ W.heap.size ≤ k) (fun _ => False) hs hx (Kd.R_mono hown (fun k hk => Or.inl hk)) HC.out (fun y cs hy => ?_) (fun _ h => h.elim) (fun k hk => Or.inr hk) (Below.refl _ _) (Nat.zero_le _) (by omega) ?_
    · exact hy
    · intro v1 w1 h1 h2 h3 _
      exact fin v1 w1 h1 (Chg.grown h3 (fun k hk => hown.1 k hk))

/-- append(frames, f), f's words a row that the call has made. -/
theorem app_frow_step {W : World} {OF : Nat → Prop} (t : TypeId) (ht : P.underlying t = some (.slice 40)) (hinfo : (P.info? 40).map (fun i => (i.zero, i.size, i.bytes)) = some (some (.agg #[(.int .i64 0), (.slice none 0 0)]), kF.sz, 32)) (hgd : o.guard = none) (s x : Operand)
    (ho : o.op = .call { callee := .builtin .append, args := #[s, x], argTypes := #[t, t] }) (A : Option Addr) (n c : Nat) (fs : List Fr) (f : Fr) (m B : Nat) (A1 : Option Addr) (c1 : Nat) (hs : a.eval s = .slice A n c) (hx : a.eval x = .slice (some ⟨W.heap.size, 0, none⟩) 1 1)
    (HR : Hid (kF.R 40 W 0 OF (.slice A n c) fs)) (hn : Hid (fs.length = n)) (hfm : Hid (f.f1.length = m)) (hOF : Hid (∀ k, OF k → k < B)) (hB : Hid (B ≤ W.heap.size)) (HF : Hid ((Kd.int .u64).R 30 W B (fun _ => True) (.slice A1 m c1) f.f1)) (hl : Hid (n ≤ 1000000))
    (h : ∀ A3 c3 w3, Hid (kF.R 40 w3 0 (fun k => (OF k ∨ B ≤ k) ∧ k < w3.heap.size) (.slice A3 (n + 1) c3) (fs ++ [f])) → Hid (Chg OF W w3) → Kc (a.put o.dst (.slice A3 (n + 1) c3)) w3) :
    if Region.wanted o (yielded ops a.tmps) = true then Oper.wp P o a (W.alloc (.cells #[.int .i64 f.f0, .slice A1 m c1] 40)) Kc Q else Kc (a.put o.dst undef) (W.alloc (.cells #[.int .i64 f.f0, .slice A1 m c1] 40)) := by
  have en := hn.out
  have em := hfm.out
  subst en em
  have hw : Region.wanted o (yielded ops a.tmps) = true := by simp [Region.wanted, hgd]
  have hl' := hl.out
  obtain ⟨V, hV⟩ : ∃ V, V = W.alloc (.cells #[.int .i64 f.f0, .slice A1 f.f1.length c1] 40) := ⟨_, rfl⟩
  have bV : Below W.heap.size W V := by rw [hV]; exact (Below.refl _ W).alloc (Nat.le_refl _) _
  have hRV := Kd.R_below HR.out bV
  have hFV := Kd.R_below HF.out bV
  have hblk : Blk V W.heap.size [.int .i64 f.f0, .slice A1 f.f1.length c1] 40 := by rw [hV]; exact Blk.new W _ _
  rw [← hV]
  have hrow : ReadsRow (kF.M V 0 (fun k => B ≤ k)) kF.sz V (some ⟨W.heap.size, 0, none⟩) 1 [f] := by
    refine ⟨rfl, by decide, fun _ => ⟨_, rfl, fun j p hp => ?_⟩⟩
    obtain ⟨hj, rfl⟩ := List.getElem?_eq_some_iff.1 hp
    have hj0 : j = 0 := by simpa using hj
    subst hj0
    refine ⟨[.int .i64 f.f0, .slice A1 f.f1.length c1], rfl, PFramesGet.k40_mkM V 0 _ f (Kd.R_lower (Kd.R_mono (Kd.R_bound hFV) (fun k hk => hk.2.1)) (Nat.zero_le _)), fun i u hu => ?_⟩
    have h5 := hblk.cell i
    have e1 : (⟨W.heap.size, 0, none⟩ : Addr).add (0 * kF.sz + i) = ⟨W.heap.size, i, none⟩ := by rw [Nat.zero_mul, Nat.zero_add]; unfold Addr.add; split <;> simp_all
    rw [e1, h5]; exact hu
  refine Kd.R_append_rows_step kF (Rr := kF.M V 0 (fun k => B ≤ k)) (w0 := V) 0 hw s x t 40 _ 32 ho ht hinfo rfl (by decide) (by decide) (.slice A fs.length c) fs [f] _ 1 1 (fun k => OF k ∨ B ≤ k) (fun k => B ≤ k) hs hx (Kd.R_mono hRV (fun k hk => Or.inl hk)) hrow (fun _ _ h => h) (fun k hk => ⟨Or.inr hk, ?_⟩) (fun k hk => Or.inr (Nat.le_trans hB.out (Nat.le_trans bV.size hk))) (Below.refl _ _) (Nat.zero_le _) (by omega) ?_
  · intro e
    have h1 := hOF.out k (HR.out.1 k e.symm)
    omega
  · intro v1 w1 h1 h2 h3 _
    replace h1 := Kd.R_mono (Kd.R_bound h1) (fun k hk => (⟨hk.1, hk.2.2.1⟩ : (OF k ∨ B ≤ k) ∧ k < w1.heap.size))
    obtain ⟨A3, c3, rfl⟩ := Kd.R_slice h1
    have el : (fs ++ [f]).length = fs.length + 1 := by simp
    have h4 : fs.length + 1 = fs.length + 1 := rfl
    rw [el] at h1 ⊢
    exact h A3 c3 w1 (Lib.hid h1) (Lib.hid ((Chg.of_below bV).trans (Chg.grown h3 (fun k hk => HR.out.1 k hk))))
end
theorem lg_make {w W : World} {g d fr n ep b4 b5 : Nat} {ws ws' : List Int} {fs fs' : List Fr} {OW OF : Nat → Prop} (hl : Lg w g d fr n ep ws fs OW OF) (h4 : w.heap.size ≤ b4) (h45 : b4 ≤ b5) (h5 : b5 ≤ W.heap.size) {Aw Af : Option Addr} {cw cf : Nat}
    (hb : Blk W g [.pointer (some ⟨d, 0, none⟩), .int .i64 (fr : Int), .int .i64 (n : Int), .int .i64 (ep : Int), .slice Aw ws'.length cw, .slice Af fs'.length cf] 127) (hw : WRow W (fun k => (OW k ∨ b4 ≤ k) ∧ k < b5) Aw cw ws')
    (hf : kF.R 40 W 0 (fun k => (OF k ∨ b5 ≤ k) ∧ k < W.heap.size) (.slice Af fs'.length cf) fs') : Lg W g d fr n ep ws' fs' (fun k => (OW k ∨ b4 ≤ k) ∧ k < b5) (fun k => (OF k ∨ b5 ≤ k) ∧ k < W.heap.size) := by
  have hg := hl.lt
  refine ⟨fun h => ?_, fun h => ?_, fun k h1 h2 => ?_, fun k hk => Nat.lt_of_lt_of_le hk.2 h5, fun k hk => hk.2, Aw, cw, Af, cf, hb, hw, hf⟩
  · rcases h.1 with h | h
    · exact hl.gw h
    · omega
  · rcases h.1 with h | h
    · exact hl.gf h
    · omega
  · rcases h1.1 with a | a
    · rcases h2.1 with b | b
      · exact hl.apart k a b
      · have := hl.bw k a; omega
    · rcases h2.1 with b | b
      · have := hl.bf k b; omega
      · omega
theorem size_set (w : World) (p : Addr) (v : Value) : (w.setCell p v).heap.size = w.heap.size := by simp [World.setCell]
end Go.Proofs.Ytmeoiennniknlaa.Log
