/- The iterator of package frames: the frames of a stream, one by one. -/
import Derived.Test.YtmeoiennniknlaaFrAll
import Derived.Test.YtmeoiennniknlaaRange
import Derived.Test.YtmeoiennniknlaaStillIn
import Derived.Test.YtmeoiennniknlaaSumsIter
import Derived.Sort.CutIn
import Derived.Deep.RegionHeld3
namespace Go.Proofs.Ytmeoiennniknlaa.Frames
open Go.RowKit Go.Shelf Go.Proofs.YtmeoiennniknlaaW.PrintWords Go.Proofs.Ytmeoiennniknlaa.Lb Go.Proofs.Ytmeoiennniknlaa.Sums
attribute [local go_sem] Oper.semAt_some
set_option linter.unusedVariables false
set_option linter.unusedSimpArgs false

/-- What the iterator hands out: how many words are ahead of the frame's end; the frame, and where its words lie. -/
structure It where
  pos : Nat
  f : Fr
  A : Option Addr
  c : Nat
def It.enc (x : It) : Array Value := #[.int .i64 (x.pos : Int), .agg #[.int .i64 x.f.f0, .slice x.A x.f.f1.length x.c]]
/-- Its words lie in a row that someone has made. -/
def It.ok (W : World) (x : It) : Prop := x.f.f1.length ≤ x.c ∧ (Kd.int .u64).R 30 W 0 (fun _ => True) (.slice x.A x.f.f1.length x.c) x.f.f1

/-- What a round keeps: what lay ahead, the iterator's two boxes, and rows of words. -/
structure Keep (n0 s : Nat) (W W' : World) : Prop where
  below : Below n0 W W'
  box : ∀ (k : Nat), k = s ∨ k = s + 1 → W'.heap[k]? = W.heap[k]?
  row : ∀ (k : Nat) cs, W.heap[k]? = some (Obj.cells cs 30 (0, 0)) → W'.heap[k]? = some (Obj.cells cs 30 (0, 0))
theorem Keep.trans {n0 s : Nat} {A B C : World} (h : Keep n0 s A B) (k : Keep n0 s B C) : Keep n0 s A C :=
  ⟨h.below.trans k.below, fun j hj => (k.box j hj).trans (h.box j hj), fun j cs hj => k.row j cs (h.row j cs hj)⟩
theorem Keep.putObj {n0 s : Nat} {W : World} {l : Nat} {o o' : Obj} (h0 : n0 ≤ l) (hs : s + 1 < l) (hl : W.heap[l]? = some o) (ho : o.isCells = false) : Keep n0 s W (W.putObj l o') := by
  refine ⟨?_, fun k hk => World.putObj_heap_other (by omega), fun k cs hk => ?_⟩
  · exact (Below.refl n0 W).grown (grownBy_putObj' W l o') (by have := (Array.getElem?_eq_some_iff.1 hl).1; omega) (fun k hk => by cases hk; exact h0)
  · have hne : k ≠ l := by
      rintro rfl
      rw [hk] at hl
      cases hl
      simp [Obj.isCells] at ho
    exact (World.putObj_heap_other hne).trans hk

theorem ok_step {W W' : World} {x : It} (h : x.ok W) (hk : ∀ (k : Nat) cs, W.heap[k]? = some (Obj.cells cs 30 (0, 0)) → W'.heap[k]? = some (Obj.cells cs 30 (0, 0))) : x.ok W' := by
  refine ⟨h.1, Kd.R_mono (Kd.R_step (Kd.R_bound h.2) ?_) (fun _ _ => trivial)⟩
  rintro k ⟨_, _, _, q, hq, cells, hc⟩ _
  have hq2 : q = 30 := by simpa [Kd.int, Kd.scalar] using hq
  subst hq2
  rw [hk k cells hc, hc]
theorem ok_below {W W' : World} {x : It} (h : x.ok W) (hb : Below W.heap.size W W') : x.ok W' :=
  ok_step h fun k cs hk => (hb.block k (Array.getElem?_eq_some_iff.1 hk).1).trans hk

/-- What stands between two rounds. -/
structure Mid (e : Int) (l : List Int) (T : List Fr × Nat) (w : World) (s : Nat) (A0 : Option Addr) (c0 : Nat) (xs : List It) (pos : Nat) (W : World) : Prop where
  told : ∃ g, Told e l T g (xs.map (·.f)) pos
  last : pos = (xs.getLast?.map (·.pos)).getD 0
  ok : ∀ x ∈ xs, x.ok W
  below : Below w.heap.size w W
  size : s + 1 < W.heap.size
  box0 : W.cell? ⟨s, 0, none⟩ = some (.int .i64 e)
  box1 : W.cell? ⟨s + 1, 0, none⟩ = some (.slice A0 l.length c0)

theorem Mid.step {e : Int} {l : List Int} {T : List Fr × Nat} {w : World} {s : Nat} {A0 : Option Addr} {c0 : Nat} {xs : List It} {pos : Nat} {W W' : World} (h : Mid e l T w s A0 c0 xs pos W) (hb : Below W.heap.size W W') : Mid e l T w s A0 c0 xs pos W' :=
  ⟨h.told, h.last, fun x hx => ok_below (h.ok x hx) hb, h.below.trans (hb.mono h.below.size), Nat.lt_of_lt_of_le h.size hb.size, (hb.cell (p := ⟨s, 0, none⟩) (by have := h.size; show s < _; omega)).trans h.box0, (hb.cell (p := ⟨s + 1, 0, none⟩) h.size).trans h.box1⟩
theorem Mid.keep {e : Int} {l : List Int} {T : List Fr × Nat} {w : World} {s : Nat} {A0 : Option Addr} {c0 : Nat} {xs : List It} {pos : Nat} {W W' : World} (h : Mid e l T w s A0 c0 xs pos W) (hk : Keep w.heap.size s W W') : Mid e l T w s A0 c0 xs pos W' :=
  ⟨h.told, h.last, fun x hx => ok_step (h.ok x hx) hk.row, h.below.trans hk.below, Nat.lt_of_lt_of_le h.size hk.below.size,
    (World.cell?_of_block (a := ⟨s, 0, none⟩) (hk.box s (Or.inl rfl))).trans h.box0, (World.cell?_of_block (a := ⟨s + 1, 0, none⟩) (hk.box (s + 1) (Or.inr rfl))).trans h.box1⟩

theorem toNat_add (a b : Nat) : ((a : Int) + (b : Int)).toNat = a + b := by omega

/-- What the iterator tells at its end. -/
def Done (T : List Fr × Nat) (xs : List It) (W : World) : Prop := xs.map (·.f) = T.1 ∧ (xs.getLast?.map (·.pos)).getD 0 = T.2 ∧ ∀ x ∈ xs, x.ok W

set_option maxRecDepth 100000 in
set_option maxHeartbeats 2000000 in
theorem stream1_in (n : Nat) (hn : 1 ≤ n) (lp s : Nat) (w : World) (e : Int) (A0 : Option Addr) (c0 : Nat) (l : List Int) (hl : WS l) (hm : l.length ≤ 1000000000) (hc : l.length ≤ c0) (hC : (Kd.int .u64).C w A0 l.length l) (T : List Fr × Nat) (hT : T = allR e (l.length + 1) 0 l)
    (J : List It → World → Prop) (hJ : ∀ xs A B, J xs A → A.grownBy B none → J xs B)
    (hY : ∀ pre x W, J pre W → pre.length < l.length → YieldAt Fence.wide (n - 1) Try.prog lp x.enc W fun e W' => e = .returned (.bool true) ∧ J (pre ++ [x]) W' ∧ Keep w.heap.size s W W')
    (W : World) (hB : Below w.heap.size w W) (hs : s + 1 < W.heap.size) (hb0 : W.cell? ⟨s, 0, none⟩ = some (.int .i64 e)) (hb1 : W.cell? ⟨s + 1, 0, none⟩ = some (.slice A0 l.length c0)) (h0 : J [] W) :
    CallsIn Fence.wide n Try.prog 99 #[.func (.yield lp) #[] #[], .pointer (some ⟨s, 0, none⟩), .pointer (some ⟨s + 1, 0, none⟩)] W fun e W' => (∃ v, e = .returned v) ∧
      ∃ xs, Done T xs W' ∧ J xs W' := by
  have HL := Lib.hid hl
  have HC := Lib.hid hC
  have Hm := Lib.hid hm
  have Hc := Lib.hid hc
  have HJ := Lib.hid hJ
  have HY := Lib.hid hY
  have HM0 : Hid (Mid e l T w s A0 c0 [] 0 W) := Lib.hid ⟨⟨l.length + 1, by rw [hT]; exact ⟨by simp, by simp, by omega, by omega, by simp⟩⟩, rfl, by simp, hB, hs, hb0, hb1⟩
  have H0 := Lib.hid h0
  clear hl hC hm hc hJ hY hT hB hs hb0 hb1 h0
  have hmix : Try.prog.follows .mixedOrders = true := by kernel_rfl
  refine callsIn_of_wp Try.func99 rfl trivial ?_ rfl
  simp only [Try.ntmps99, List.size_toArray, List.length_cons, List.length_nil, Nat.reduceAdd, Nat.reduceSub, Array.replicate_succ, Array.replicate_zero, List.push_toArray, List.append_toArray, List.nil_append, List.cons_append]
  gi_wp2
  gi_loopw [4, 5] (fun v4 v5 wr => ∃ (xs : List It) (pos : Nat), v4 = .int .i64 (pos : Int) ∧ v5 = .int .i64 (xs.length : Int) ∧ Hid (J xs wr) ∧ Hid (Mid e l T w s A0 c0 xs pos wr))
    (fun v4 _ _ => l.length + 1 - (intOf v4).toNat)
  case atStart => exact ⟨[], 0, rfl, rfl, H0, HM0⟩
  case round =>
    obtain ⟨xs, pos, rfl, rfl, HJr, HM⟩ := hrel
    obtain ⟨g, hTold⟩ := HM.out.told
    have hposl := hTold.2.2.1
    obtain ⟨A', hcut, hA'⟩ := cut_words A0 c0 l Hc.out pos hposl
    obtain ⟨ls, hls⟩ : ∃ ls, l.drop pos = ls := ⟨_, rfl⟩
    rw [hls] at hcut hA'
    have Hls := Lib.hid hls
    have hsz := HM.out.size
    have hsz0 : s < wr.heap.size := by omega
    have hne0 : wr.heap.size ≠ s := by omega
    have hne1 : wr.heap.size ≠ s + 1 := by omega
    have hbx0 := HM.out.box0
    have hbx1 := HM.out.box1
    have Hget : Hid (∀ V, Below wr.heap.size wr V → Calls Try.prog 31 #[.int .i64 e, .int .i64 (xs.length : Int), .slice A' ls.length (c0 - pos)] V (GetP V (getR e (xs.length : Int) ls))) := Lib.hid (by
      intro V hV
      exact get_any V e (xs.length : Int) A' (c0 - pos) ls (fun y hy => HL.out y (List.mem_of_mem_drop (by rw [hls]; exact hy))) (by have := Hm.out; rw [← hls, List.length_drop]; omega) (by have := Hc.out; rw [← hls, List.length_drop]; omega)
        (hA' V (Kd.C_below HC.out (HM.out.below.trans (hV.mono HM.out.below.size)))))
    have HTold := Lib.hid hTold
    clear hls hA' hTold
    cases hg : getR e (xs.length : Int) ls with
    | none =>
      rw [hg] at Hget
      have hTe := HTold.out.none (by rw [Hls.out, List.length_map]; exact hg)
      have Hfin : Hid (∀ Wf, Below wr.heap.size wr Wf → Done T xs Wf ∧ J xs Wf) := Lib.hid (by
        intro Wf hWf
        refine ⟨⟨by rw [hTe], by rw [hTe, ← HM.out.last], fun x hx => ok_below (HM.out.ok x hx) hWf⟩, HJ.out _ _ _ HJr.out ⟨hWf.os, hWf.tape, hWf.output, hWf.size, fun k hk _ => hWf.block k hk⟩⟩)
      clear hg hTe
      gi_wp2
      gi_cut [8] from 9 (fun v8 wc => v8 = .bool false ∧ Hid (Below wr.heap.size wr wc))
      case first =>
        refine wpIn_wide.2 ?_
        go_region_held3 (fun w' => w'.cell? ⟨s, 0, none⟩ = some (.int .i64 e) ∧ w'.cell? ⟨s + 1, 0, none⟩ = some (.slice A0 l.length c0))
          (first | go_keep)
          (first
          | (go_at_call 31; refine (Hget.out wr.drew (Below.refl _ _).drew).mono ?_; rintro en w2 ⟨rfl, hb⟩; have Hb2 := Lib.hid ((Below.refl wr.heap.size wr).drew.trans hb); have j0 := (Hb2.out.cell (p := ⟨s, 0, none⟩) hsz0).trans hbx0; have j1 := (Hb2.out.cell (p := ⟨s + 1, 0, none⟩) hsz).trans hbx1; clear hb)
          | (go_at_call 31; refine (Hget.out (wr.drew.alloc (.cells #[.int .i64 0, .slice none 0 0] 40)) ((Below.refl _ _).drew.alloc (Nat.le_refl _) _)).mono ?_; rintro en w2 ⟨rfl, hb⟩; have k0 : w2.cell? ⟨wr.heap.size, 0, none⟩ = some (.int .i64 0) := (hb.cell (p := ⟨wr.heap.size, 0, none⟩) (by simp)).trans (by simp [go_sem]); have k1 : w2.cell? ⟨wr.heap.size, 1, none⟩ = some (.slice none 0 0) := (hb.cell (p := ⟨wr.heap.size, 1, none⟩) (by simp)).trans (by simp [go_sem]); have k2 : w2.frozen? ⟨wr.heap.size, 0, none⟩ = false := (hb.frozen (p := ⟨wr.heap.size, 0, none⟩) (by simp)).trans (by simp [go_sem]); have k3 : w2.frozen? ⟨wr.heap.size, 1, none⟩ = false := (hb.frozen (p := ⟨wr.heap.size, 1, none⟩) (by simp)).trans (by simp [go_sem]); have Hb2 := Lib.hid (((Below.refl wr.heap.size wr).drew.alloc (Nat.le_refl _) (.cells #[.int .i64 0, .slice none 0 0] 40)).trans (hb.mono (by simp))); have j0 := (Hb2.out.cell (p := ⟨s, 0, none⟩) hsz0).trans hbx0; have j1 := (Hb2.out.cell (p := ⟨s + 1, 0, none⟩) hsz).trans hbx1; clear hb))
        all_goals
          gi_wp2
          gi_meet
          case rel => exact ⟨rfl, by first | exact Lib.hid (Hb2.out.alloc Hb2.out.size _) | exact Lib.hid ((Hb2.out.setCell (Nat.le_refl _) _).setCell (Nat.le_refl _) _)⟩
      case rest =>
        obtain ⟨rfl, HWy⟩ := hcut
        gi_wp2_with (refine ⟨fun f hf => (by cases hf), ?_⟩)
        refine bodyPost_ret (results_none rfl _ _ _) rfl ?_
        exact ⟨⟨_, rfl⟩, xs, Hfin.out _ HWy.out⟩
    | some fm =>
      obtain ⟨f, m⟩ := fm
      rw [hg] at Hget
      have hTs := HTold.out.some (by rw [Hls.out, List.length_map]; exact hg)
      have hnl : xs.length ≤ 1000000000 := by
        have h1 := HTold.out.2.2.2.2
        have h2 := Hm.out
        rw [List.length_map] at h1
        omega
      have hpm : pos + m ≤ l.length := hTs.2.2.2.1
      have hxl : xs.length < l.length := by
        have h1 := HTold.out.2.2.2.2
        have h2 := (getR_facts hg).1
        rw [List.length_map] at h1
        omega
      have hwr : wrap64 ((pos : Int) + (m : Int)) = (pos : Int) + (m : Int) := by
        have h2 := Hm.out
        unfold wrap64; omega
      have hwn : wrap64 ((xs.length : Int) + 1) = (xs.length : Int) + 1 := by unfold wrap64; omega
      have Hf := Lib.hid (getR_facts hg)
      have Hpm := Lib.hid hpm
      have Hnext : Hid (∀ A1 c1 Wy W3, Below wr.heap.size wr Wy → It.ok Wy ⟨pos + m, f, A1, c1⟩ → Keep w.heap.size s Wy W3 → Mid e l T w s A0 c0 (xs ++ [⟨pos + m, f, A1, c1⟩]) (pos + m) W3) := Lib.hid (by
        intro A1 c1 Wy W3 h1 h2 h3
        have hM := HM.out.step h1
        refine Mid.keep ⟨⟨g - 1, by rw [List.map_append]; exact hTs.2⟩, by simp, ?_, hM.below, hM.size, hM.box0, hM.box1⟩ h3
        intro y hy
        rcases List.mem_append.1 hy with hy | hy
        · exact hM.ok y hy
        · rw [List.mem_singleton.1 hy]; exact h2)
      have HYx : Hid (∀ A1 c1 Wy, Below wr.heap.size wr Wy → YieldAt Fence.wide (n - 1) Try.prog lp #[.int .i64 ((pos : Int) + (m : Int)), .agg #[.int .i64 f.f0, .slice A1 f.f1.length c1]] Wy fun e W' => e = .returned (.bool true) ∧ J (xs ++ [⟨pos + m, f, A1, c1⟩]) W' ∧ Keep w.heap.size s Wy W') := Lib.hid (by
        intro A1 c1 Wy h1
        have h := HY.out xs ⟨pos + m, f, A1, c1⟩ Wy (HJ.out _ _ _ HJr.out ⟨h1.os, h1.tape, h1.output, h1.size, fun k hk _ => h1.block k hk⟩) hxl
        rw [It.enc] at h
        simp only [Int.natCast_add] at h
        exact h)
      have Hok : Hid (∀ A1 c1 V Wy, f.f1.length ≤ c1 → (Kd.int .u64).R 30 V wr.heap.size (fun _ => True) (.slice A1 f.f1.length c1) f.f1 → (∀ k cs, V.heap[k]? = some (Obj.cells cs 30 (0, 0)) → Wy.heap[k]? = some (Obj.cells cs 30 (0, 0))) → It.ok Wy ⟨pos + m, f, A1, c1⟩) := Lib.hid (by
        intro A1 c1 V Wy h1 h2 h3
        exact ok_step (W := V) ⟨h1, Kd.R_lower h2 (Nat.zero_le _)⟩ h3)
      clear hg hTs hpm hxl
      gi_wp2
      gi_cut [6, 7, 8] from 9 (fun v6 v7 v8 wc => ∃ (A1 : Option Addr) (c1 B : Nat), v6 = .pointer (some ⟨B, 0, none⟩) ∧ v7 = .int .i64 (m : Int) ∧ v8 = .bool true ∧ wc.cell? ⟨B, 0, none⟩ = some (.int .i64 f.f0) ∧ wc.cell? ⟨B, 1, none⟩ = some (.slice A1 f.f1.length c1) ∧ Hid (Below wr.heap.size wr wc) ∧ Hid (It.ok wc ⟨pos + m, f, A1, c1⟩))
      case first =>
        refine wpIn_wide.2 ?_
        go_region_held3 (fun w' => w'.cell? ⟨s, 0, none⟩ = some (.int .i64 e) ∧ w'.cell? ⟨s + 1, 0, none⟩ = some (.slice A0 l.length c0))
          (first | go_keep)
          (first
          | (go_at_call 31; refine (Hget.out wr.drew (Below.refl _ _).drew).mono ?_; rintro en w2 ⟨A1, c1, rfl, hl1, hC1, hR1, hb⟩; have Hb2 := Lib.hid ((Below.refl wr.heap.size wr).drew.trans hb); have j0 := (Hb2.out.cell (p := ⟨s, 0, none⟩) hsz0).trans hbx0; have j1 := (Hb2.out.cell (p := ⟨s + 1, 0, none⟩) hsz).trans hbx1; have HR1 := Lib.hid (Kd.R_lower (base' := wr.heap.size) hR1 (Nat.le_refl _)); clear hb hC1 hR1)
          | (go_at_call 31; refine (Hget.out (wr.drew.alloc (.cells #[.int .i64 0, .slice none 0 0] 40)) ((Below.refl _ _).drew.alloc (Nat.le_refl _) _)).mono ?_; rintro en w2 ⟨A1, c1, rfl, hl1, hC1, hR1, hb⟩; have k0 : w2.cell? ⟨wr.heap.size, 0, none⟩ = some (.int .i64 0) := (hb.cell (p := ⟨wr.heap.size, 0, none⟩) (by simp)).trans (by simp [go_sem]); have k1 : w2.cell? ⟨wr.heap.size, 1, none⟩ = some (.slice none 0 0) := (hb.cell (p := ⟨wr.heap.size, 1, none⟩) (by simp)).trans (by simp [go_sem]); have k2 : w2.frozen? ⟨wr.heap.size, 0, none⟩ = false := (hb.frozen (p := ⟨wr.heap.size, 0, none⟩) (by simp)).trans (by simp [go_sem]); have k3 : w2.frozen? ⟨wr.heap.size, 1, none⟩ = false := (hb.frozen (p := ⟨wr.heap.size, 1, none⟩) (by simp)).trans (by simp [go_sem]); have Hb2 := Lib.hid (((Below.refl wr.heap.size wr).drew.alloc (Nat.le_refl _) (.cells #[.int .i64 0, .slice none 0 0] 40)).trans (hb.mono (by simp))); have j0 := (Hb2.out.cell (p := ⟨s, 0, none⟩) hsz0).trans hbx0; have j1 := (Hb2.out.cell (p := ⟨s + 1, 0, none⟩) hsz).trans hbx1; have HR1 := Lib.hid (Kd.R_lower (base' := wr.heap.size) hR1 (by simp)); have Hob : Hid (w2.heap[wr.heap.size]? = some (Obj.cells #[.int .i64 0, .slice none 0 0] 40 (0, 0))) := Lib.hid ((hb.block wr.heap.size (by simp)).trans (World.alloc_heap_new wr.drew _)); clear hb hC1 hR1))
        all_goals
          gi_wp2
          gi_meet
          case rel =>
            first
              | (refine ⟨A1, c1, wr.heap.size, rfl, rfl, rfl, by simp [go_sem, k0, k1], by simp [go_sem, k0, k1], Lib.hid ((Hb2.out.setCell (Nat.le_refl _) _).setCell (Nat.le_refl _) _), Lib.hid (Hok.out A1 c1 w2 _ hl1 HR1.out ?_)⟩
                 intro k cs hk
                 have hne : k ≠ wr.heap.size := by
                   rintro rfl
                   rw [Hob.out] at hk
                   injection hk with hk
                   injection hk with _ hk _
                   exact absurd hk (by decide)
                 rw [Below.heap_setCell _ _ _ _ hne, Below.heap_setCell _ _ _ _ hne]; exact hk)
              | exact ⟨A1, c1, w2.heap.size, rfl, rfl, rfl, by simp [go_sem], by simp [go_sem], Lib.hid (Hb2.out.alloc Hb2.out.size _), Lib.hid (Hok.out A1 c1 w2 _ hl1 HR1.out (fun k cs hk => (Below.heap_alloc _ _ _ (Array.getElem?_eq_some_iff.1 hk).1).trans hk))⟩
      case rest =>
        obtain ⟨A1, c1, B, rfl, rfl, rfl, k0, k1, HWy, Hx⟩ := hcut
        obtain ⟨fn, tmps, assign, body, hy, hR⟩ := HYx.out A1 c1 wc HWy.out
        have HR := Lib.hid hR
        clear hR
        gi_wp2
        refine HR.out.mono ?_
        rintro en W3 ⟨rfl, hJ3, hK3⟩
        have HM3 := Lib.hid (Hnext.out A1 c1 _ W3 HWy.out Hx.out hK3)
        have HJ3 := Lib.hid hJ3
        clear hJ3 hK3 hy
        gi_wp2
        go_roundw
        case rel => exact ⟨xs ++ [⟨pos + m, f, A1, c1⟩], pos + m, by simp [hwr], by simp [hwn], HJ3, HM3⟩
        case measure =>
          have hlt : l.length + 1 - (pos + m) < l.length + 1 - pos := by
            have h1 := Hf.out.1
            have h2 := Hpm.out
            clear hwr hwn hnl hsz hsz0 hne0 hne1 hposl
            exact Nat.sub_lt_sub_left (by omega) (by omega)
          have e1 : (intOf (.int .i64 ((pos : Int) + (m : Int)))).toNat = pos + m := toNat_add pos m
          have e2 : (intOf (.int .i64 (pos : Int))).toNat = pos := rfl
          first
            | (rw [← e1, ← e2] at hlt; exact hlt)
            | (simp only [hwr]; rw [← e1, ← e2] at hlt; exact hlt)
end Go.Proofs.Ytmeoiennniknlaa.Frames
