/- All frames of a stream: the plain function, and the reference's All. The iterator of package frames: the frames of a stream, one by one. The contract of frames.All. The walk of the statement FramesGet. -/
import Derived.Test.YtmeoiennniknlaaFrC
import Derived.Test.YtmeoiennniknlaaLib0
import Derived.Test.YtmeoiennniknlaaSumsA
import Derived.Sort.CutIn
import Derived.Deep.RegionHeld3
import Derived.OwnWalkIn
namespace Go.Proofs.Ytmeoiennniknlaa.Frames
open Go.RowKit Go.Shelf Go.Proofs.YtmeoiennniknlaaW.PrintWords Go.Proofs.Ytmeoiennniknlaa.Lb Go.Proofs.Ytmeoiennniknlaa.Sums
set_option linter.unusedVariables false
set_option linter.unusedSimpArgs false

/-- All frames at the beginning of words, how many words they take. -/
def allR (e : Int) : Nat → Nat → List Int → List Fr × Nat
  | 0, _, _ => ([], 0)
  | g + 1, n, l => match getR e (n : Int) l with
    | none => ([], 0)
    | some (f, m) => (f :: (allR e g (n + 1) (l.drop m)).1, m + (allR e g (n + 1) (l.drop m)).2)

theorem getR_facts {e n : Int} {l : List Int} {f : Fr} {m : Nat} (h : getR e n l = some (f, m)) : m = 1 + f.f1.length ∧ m ≤ l.length ∧ f.f1.length ≤ 2000 ∧ (WS l → WS f.f1) ∧ 0 ≤ f.f0 := by
  by_cases h0 : l.length = 0 ∨ numB e = false ∨ numB n = false
  · rw [getR_none h0] at h; cases h
  · rw [getR_some h0 rfl rfl rfl rfl] at h
    split at h
    · cases h
    · rename_i h1
      simp only [not_or] at h1
      obtain ⟨h2, h3, _⟩ := h1
      simp only [Option.some.injEq, Prod.mk.injEq] at h
      obtain ⟨rfl, rfl⟩ := h
      have hm := mayB_true.1 ((Bool.not_eq_false _).mp h3)
      obtain ⟨M, hM⟩ : ∃ M, (l.getD 0 0).toNat / 4294967296 % 16777216 = M := ⟨_, rfl⟩
      rw [hM] at h2 hm ⊢
      refine ⟨?_, by omega, ?_, ?_, ?_⟩
      · simp only [List.length_drop, List.length_take]; omega
      · simp only [List.length_drop, List.length_take]; omega
      · intro hl y hy
        exact hl y (List.mem_of_mem_take (List.mem_of_mem_drop hy))
      · show (0 : Int) ≤ ((_ : Nat) : Int); omega

theorem infoFr : (Try.prog.info? 40).map (fun i => (i.zero, i.size, i.bytes)) = some (some (.agg #[(.int .i64 0), (.slice none 0 0)]), kF.sz, 32) := PFramesGet.info40

/-- What stands at a round of All: what is told so far, what is to come. -/
def Told (e : Int) (l : List Int) (T : List Fr × Nat) (g : Nat) (fs : List Fr) (pos : Nat) : Prop :=
  fs ++ (allR e g fs.length (l.drop pos)).1 = T.1 ∧ pos + (allR e g fs.length (l.drop pos)).2 = T.2 ∧ pos ≤ l.length ∧ l.length - pos < g ∧ fs.length ≤ pos
theorem Told.none {e : Int} {l : List Int} {T : List Fr × Nat} {g : Nat} {fs : List Fr} {pos : Nat} (h : Told e l T g fs pos) (hg : getR e (fs.length : Int) (l.drop pos) = none) : T = (fs, pos) := by
  obtain ⟨h1, h2, h3, h4, h5⟩ := h
  obtain ⟨g, rfl⟩ : ∃ g', g = g' + 1 := ⟨g - 1, by omega⟩
  rw [allR, hg] at h1 h2
  simp at h1 h2
  rw [Prod.ext_iff]; exact ⟨h1.symm, h2.symm⟩
theorem Told.some {e : Int} {l : List Int} {T : List Fr × Nat} {g : Nat} {fs : List Fr} {pos : Nat} {f : Fr} {m : Nat} (h : Told e l T g fs pos) (hg : getR e (fs.length : Int) (l.drop pos) = some (f, m)) : 0 < g ∧ Told e l T (g - 1) (fs ++ [f]) (pos + m) := by
  obtain ⟨h1, h2, h3, h4, h5⟩ := h
  obtain ⟨g, rfl⟩ : ∃ g', g = g' + 1 := ⟨g - 1, by omega⟩
  have hf := getR_facts hg
  rw [List.length_drop] at hf
  rw [allR, hg] at h1 h2
  simp only at h1 h2
  have e1 : (fs ++ [f]).length = fs.length + 1 := by simp
  rw [Nat.add_sub_cancel]
  refine ⟨by omega, ?_, ?_, by omega, by omega, by omega⟩
  · rw [e1, ← List.drop_drop, List.append_assoc]; exact h1
  · rw [e1, ← List.drop_drop, Nat.add_assoc]; exact h2

/-- The answer of All. -/
def AllP (w : World) (T : List Fr × Nat) (en : Ending) (w' : World) : Prop :=
  ∃ A c, en = .returned (.tuple #[.slice A T.1.length c, .int .i64 (T.2 : Int)]) ∧ kF.R 40 w' w.heap.size (fun _ => True) (.slice A T.1.length c) T.1 ∧ Below w.heap.size w w'

theorem cut_words (A : Option Addr) (c : Nat) (l : List Int) (hc : l.length ≤ c) (pos : Nat) (hp : pos ≤ l.length) : ∃ A', (∀ W : World, (Instr.slice 23 (.slice A l.length c) (some (.int .i64 (pos : Int))) none none).run Try.prog W = .ok (.slice A' (l.drop pos).length (c - pos)) W) ∧
    ∀ w : World, (Kd.int .u64).C w A l.length l → (Kd.int .u64).C w A' (l.drop pos).length (l.drop pos) := by
  obtain ⟨i0, hi0, hsz0⟩ := info_u64
  obtain ⟨A', h1, h2⟩ := print_cut_of (P := Try.prog) (Value.int .u64) (0 : Int) 23 30 .i64 Try.underlying23 hi0 hsz0 A l.length c pos hp
  refine ⟨A', fun W => by rw [List.length_drop]; exact h1 W, fun w h => ?_⟩
  have h3 := h2 w l hc (Kd.reads_of_C h)
  rw [List.length_drop]
  exact Kd.C_of_reads (h1 := fun _ => rfl) h3

set_option maxRecDepth 100000 in
set_option maxHeartbeats 2000000 in
theorem refAll_any (w : World) (e : Int) (A0 : Option Addr) (c0 : Nat) (l : List Int) (hl : WS l) (hm : l.length ≤ 1000000000) (hc : l.length ≤ c0) (hC : (Kd.int .u64).C w A0 l.length l) :
    Calls Try.prog 37 #[.int .i64 e, .slice A0 l.length c0] w (AllP w (allR e (l.length + 1) 0 l)) := by
  have HC := Lib.hid hC
  have HL := Lib.hid hl
  have HB := Lib.hid (Below.refl w.heap.size w)
  obtain ⟨T, hT⟩ : ∃ T, T = allR e (l.length + 1) 0 l := ⟨_, rfl⟩
  have HT := Lib.hid (show Told e l T (l.length + 1) [] 0 by rw [hT]; exact ⟨by simp, by simp, by omega, by omega, by simp⟩)
  rw [← hT]
  have Hm := Lib.hid hm
  have Hc := Lib.hid hc
  clear hC hl hT hm hc
  go_enter Try.func37, Try.ntmps37
  go_wp2
  go_loopg [6, 7] (l.length + 1) (fun kq v6 v7 wr => ∃ (fs : List Fr) (pos : Nat) (A : Option Addr) (c : Nat), v6 = .slice A fs.length c ∧ v7 = .int .i64 (pos : Int) ∧ Hid (kF.R 40 wr w.heap.size (fun _ => True) (.slice A fs.length c) fs) ∧ Hid (Told e l T kq fs pos) ∧ Hid (Below w.heap.size w wr))
  case atStart => exact ⟨[], 0, none, 0, rfl, rfl, Lib.hid (Kd.R_nil _ _ _ _ _), HT, HB⟩
  case round =>
    obtain ⟨fs, pos, A, c, rfl, rfl, HR, Ht, Hb⟩ := hrel
    obtain ⟨A', hcut, hA'⟩ := cut_words A0 c0 l Hc.out pos Ht.out.2.2.1
    obtain ⟨ls, hls⟩ : ∃ ls, l.drop pos = ls := ⟨_, rfl⟩
    rw [hls] at hcut hA'
    have Hls := Lib.hid hls
    have HCr := Lib.hid (hA' wr (Kd.C_below HC.out Hb.out))
    have hget := refGet_any wr e (fs.length : Int) A' (c0 - pos) ls (fun y hy => HL.out y (List.mem_of_mem_drop (by rw [hls]; exact hy))) (by have := Hm.out; rw [← hls, List.length_drop]; omega) (by have := Hc.out; rw [← hls, List.length_drop]; omega) HCr.out
    have hposc : pos ≤ c0 := Nat.le_trans Ht.out.2.2.1 Hc.out
    clear hls hA' HCr
    cases hg : getR e (fs.length : Int) ls with
    | none =>
      rw [hg] at hget
      have Hget := Lib.hid hget
      have hTe := Ht.out.none (by rw [Hls.out]; exact hg)
      have HTe := Lib.hid hTe
      clear hget hg hTe hposc
      go_wp2_with (go_at_call 35; (with_reducible refine Hget.out.mono ?_); rintro en w2 ⟨rfl, hb⟩; have Hb2 := Lib.hid (Hb.out.trans (hb.mono Hb.out.size)); have HR2 := Lib.hid (Kd.R_below HR.out hb); clear hb)
      rw [HTe.out]
      exact bodyPost_ret (v := .tuple #[.slice A fs.length c, .int .i64 (pos : Int)]) (by simp [results, Try.results37, go_sem]) rfl ⟨A, c, rfl, Kd.R_below HR2.out ((Below.refl _ _).alloc (Nat.le_refl _) _), Hb2.out.alloc Hb2.out.size _⟩
    | some fm =>
      obtain ⟨f, m⟩ := fm
      rw [hg] at hget
      have Hget := Lib.hid hget
      have hf := getR_facts hg
      have hTs := Ht.out.some (by rw [Hls.out]; exact hg)
      have hwr : wrap64 ((pos : Int) + (m : Int)) = (pos : Int) + (m : Int) := by
        have h1 := hTs.2.2.2.1
        have h2 := Hm.out
        unfold wrap64; omega
      have Hf := Lib.hid hf
      have HTs := Lib.hid hTs
      have Hfs : Hid (fs.length ≤ 1000000000) := Lib.hid (by have := Ht.out.2.2; have := Hm.out; omega)
      clear hget hg hTs hposc hf
      go_wp2_with (first
        | (go_at_call 35; (with_reducible refine Hget.out.mono ?_); rintro en w2 ⟨A1, c1, rfl, hl1, hC1, hR1, hb⟩; have HR1 := Lib.hid hR1; have Hb1 := Lib.hid hb; clear hb hR1 hC1)
        | (at_builtin; go_loud (refine Kd.R_append kF (w0 := w) w.heap.size rfl _ _ 42 40 _ 32 rfl Try.underlying42 infoFr rfl (by decide) (by decide) _ fs f [.int .i64 f.f0, .slice A1 f.f1.length c1] (fun _ => True) (fun k => wr.heap.size ≤ k) rfl (by simp [go_sem]) ?_ ?_ (fun _ _ => trivial) ?_ ?_ ?_ ?_ ?_); rotate_right; intro v1 w3 hR3 hb3 _ _; obtain ⟨A2, c2, rfl, hl2, _⟩ := Kd.R_reads hR3; have HR3 := Lib.hid hR3; have Hb3 := Lib.hid hb3; clear hR3 hb3))
      case refine_1 => exact PFramesGet.k40_mkM _ _ _ f (Kd.R_below (Kd.R_lower (Kd.R_mono (Kd.R_bound HR1.out) (fun k hk => hk.2.1)) Hb.out.size) ((Below.refl _ _).alloc (Nat.le_refl _) _))
      case refine_2 =>
        intro k hk
        refine ⟨trivial, fun e1 => ?_⟩
        have h := Kd.R_lt HR.out k e1.symm
        omega
      case refine_3 => exact Kd.R_below (Kd.R_below HR.out Hb1.out) ((Below.refl _ _).alloc (Nat.le_refl _) _)
      case refine_4 => exact (Hb.out.trans (Hb1.out.mono Hb.out.size)).alloc (Nat.le_trans Hb.out.size Hb1.out.size) _
      case refine_5 => rw [World.size_alloc]; have := Hb.out.size; have := Hb1.out.size; omega
      case refine_6 => have := Hfs.out; omega
      · go_roundg (gk - 1)
        case measure => have := HTs.out.1; omega
        case rel => exact ⟨fs ++ [f], pos + m, A2, c2, by simp, by simp [hwr], HR3, Lib.hid HTs.out.2, Hb3⟩
end Go.Proofs.Ytmeoiennniknlaa.Frames

namespace Go.Proofs.Ytmeoiennniknlaa.Frames
open Go.RowKit Go.Shelf Go.Proofs.YtmeoiennniknlaaW.PrintWords Go.Proofs.Ytmeoiennniknlaa.Lb Go.Proofs.Ytmeoiennniknlaa.Sums
attribute [local go_sem] Oper.semAt_some
set_option linter.unusedVariables false
set_option linter.unusedSimpArgs false

/-- What the iterator hands out: how many words are ahead of the frame's end; the frame, and where its words lie. -/
structure It where
  pos : Nat
  f : Fr
  A : Option Addr
  c : Nat
def It.enc (x : It) : Array Value := #[.int .i64 (x.pos : Int), .agg #[.int .i64 x.f.f0, .slice x.A x.f.f1.length x.c]]
/-- Its words lie in a row that someone has made. -/
def It.ok (B : Nat) (W : World) (x : It) : Prop := x.f.f1.length ≤ x.c ∧ (Kd.int .u64).R 30 W B (fun _ => True) (.slice x.A x.f.f1.length x.c) x.f.f1

/-- What a round keeps: what lay ahead, the iterator's two boxes, and rows of words. -/
structure Keep (n0 s : Nat) (W W' : World) : Prop where
  below : Below n0 W W'
  box : ∀ (k : Nat), k = s ∨ k = s + 1 → W'.heap[k]? = W.heap[k]?
  row : ∀ (k : Nat) cs, W.heap[k]? = some (Obj.cells cs 30 (0, 0)) → W'.heap[k]? = some (Obj.cells cs 30 (0, 0))
theorem Keep.trans {n0 s : Nat} {A B C : World} (h : Keep n0 s A B) (k : Keep n0 s B C) : Keep n0 s A C :=
  ⟨h.below.trans k.below, fun j hj => (k.box j hj).trans (h.box j hj), fun j cs hj => k.row j cs (h.row j cs hj)⟩
theorem Keep.putObj {n0 s : Nat} {W : World} {l : Nat} {o o' : Obj} (h0 : n0 ≤ l) (hs : s + 1 < l) (hl : W.heap[l]? = some o) (ho : o.isCells = false) : Keep n0 s W (W.putObj l o') := by
  refine ⟨?_, fun k hk => World.putObj_heap_other (by omega), fun k cs hk => ?_⟩
  · exact (Below.refl n0 W).grown (grownBy_putObj' W l o') (by have := (Array.getElem?_eq_some_iff.1 hl).1; omega) (fun k hk => by cases hk; exact h0)
  · have hne : k ≠ l := by
      rintro rfl
      rw [hk] at hl
      cases hl
      simp [Obj.isCells] at ho
    exact (World.putObj_heap_other hne).trans hk

theorem ok_step {B : Nat} {W W' : World} {x : It} (h : x.ok B W) (hk : ∀ (k : Nat) cs, W.heap[k]? = some (Obj.cells cs 30 (0, 0)) → W'.heap[k]? = some (Obj.cells cs 30 (0, 0))) : x.ok B W' := by
  refine ⟨h.1, Kd.R_mono (Kd.R_step (Kd.R_bound h.2) ?_) (fun _ _ => trivial)⟩
  rintro k ⟨_, _, _, q, hq, cells, hc⟩ _
  have hq2 : q = 30 := by simpa [Kd.int, Kd.scalar] using hq
  subst hq2
  rw [hk k cells hc, hc]
theorem ok_below {B : Nat} {W W' : World} {x : It} (h : x.ok B W) (hb : Below W.heap.size W W') : x.ok B W' :=
  ok_step h fun k cs hk => (hb.block k (Array.getElem?_eq_some_iff.1 hk).1).trans hk

/-- What stands between two rounds. -/
structure Mid (e : Int) (l : List Int) (T : List Fr × Nat) (w : World) (s : Nat) (A0 : Option Addr) (c0 : Nat) (xs : List It) (pos : Nat) (W : World) : Prop where
  told : ∃ g, Told e l T g (xs.map (·.f)) pos
  last : pos = (xs.getLast?.map (·.pos)).getD 0
  ok : ∀ x ∈ xs, x.ok w.heap.size W
  below : Below w.heap.size w W
  size : s + 1 < W.heap.size
  box0 : W.cell? ⟨s, 0, none⟩ = some (.int .i64 e)
  box1 : W.cell? ⟨s + 1, 0, none⟩ = some (.slice A0 l.length c0)

theorem Mid.step {e : Int} {l : List Int} {T : List Fr × Nat} {w : World} {s : Nat} {A0 : Option Addr} {c0 : Nat} {xs : List It} {pos : Nat} {W W' : World} (h : Mid e l T w s A0 c0 xs pos W) (hb : Below W.heap.size W W') : Mid e l T w s A0 c0 xs pos W' :=
  ⟨h.told, h.last, fun x hx => ok_below (h.ok x hx) hb, h.below.trans (hb.mono h.below.size), Nat.lt_of_lt_of_le h.size hb.size, (hb.cell (p := ⟨s, 0, none⟩) (by have := h.size; show s < _; omega)).trans h.box0, (hb.cell (p := ⟨s + 1, 0, none⟩) h.size).trans h.box1⟩
theorem Mid.keep {e : Int} {l : List Int} {T : List Fr × Nat} {w : World} {s : Nat} {A0 : Option Addr} {c0 : Nat} {xs : List It} {pos : Nat} {W W' : World} (h : Mid e l T w s A0 c0 xs pos W) (hk : Keep w.heap.size s W W') : Mid e l T w s A0 c0 xs pos W' :=
  ⟨h.told, h.last, fun x hx => ok_step (h.ok x hx) hk.row, h.below.trans hk.below, Nat.lt_of_lt_of_le h.size hk.below.size,
    (World.cell?_of_block (a := ⟨s, 0, none⟩) (hk.box s (Or.inl rfl))).trans h.box0, (World.cell?_of_block (a := ⟨s + 1, 0, none⟩) (hk.box (s + 1) (Or.inr rfl))).trans h.box1⟩

theorem toNat_add (a b : Nat) : ((a : Int) + (b : Int)).toNat = a + b := by omega

/-- What the iterator tells at its end. -/
def Done (B : Nat) (T : List Fr × Nat) (xs : List It) (W : World) : Prop := xs.map (·.f) = T.1 ∧ (xs.getLast?.map (·.pos)).getD 0 = T.2 ∧ ∀ x ∈ xs, x.ok B W

set_option maxRecDepth 100000 in
set_option maxHeartbeats 2000000 in
theorem stream1_in (n : Nat) (hn : 1 ≤ n) (lp s : Nat) (w : World) (e : Int) (A0 : Option Addr) (c0 : Nat) (l : List Int) (hl : WS l) (hm : l.length ≤ 1000000000) (hc : l.length ≤ c0) (hC : (Kd.int .u64).C w A0 l.length l) (T : List Fr × Nat) (hT : T = allR e (l.length + 1) 0 l)
    (J : List It → World → Prop) (hJ : ∀ xs A B, J xs A → A.grownBy B none → J xs B)
    (hY : ∀ pre x W, J pre W → pre.length < l.length → YieldAt Fence.wide (n - 1) Try.prog lp x.enc W fun e W' => e = .returned (.bool true) ∧ J (pre ++ [x]) W' ∧ Keep w.heap.size s W W')
    (W : World) (hB : Below w.heap.size w W) (hs : s + 1 < W.heap.size) (hb0 : W.cell? ⟨s, 0, none⟩ = some (.int .i64 e)) (hb1 : W.cell? ⟨s + 1, 0, none⟩ = some (.slice A0 l.length c0)) (h0 : J [] W) :
    CallsIn Fence.wide n Try.prog 99 #[.func (.yield lp) #[] #[], .pointer (some ⟨s, 0, none⟩), .pointer (some ⟨s + 1, 0, none⟩)] W fun e W' => (∃ v, e = .returned v) ∧
      ∃ xs, Done w.heap.size T xs W' ∧ J xs W' := by
  have HL := Lib.hid hl
  have HC := Lib.hid hC
  have Hm := Lib.hid hm
  have Hc := Lib.hid hc
  have HJ := Lib.hid hJ
  have HY := Lib.hid hY
  have HM0 : Hid (Mid e l T w s A0 c0 [] 0 W) := Lib.hid ⟨⟨l.length + 1, by rw [hT]; exact ⟨by simp, by simp, by omega, by omega, by simp⟩⟩, rfl, by simp, hB, hs, hb0, hb1⟩
  have H0 := Lib.hid h0
  clear hl hC hm hc hJ hY hT hB hs hb0 hb1 h0
  have hmix : Try.prog.follows .mixedOrders = true := by kernel_rfl
  refine callsIn_of_wp Try.func99 rfl trivial ?_ rfl
  simp only [Try.ntmps99, List.size_toArray, List.length_cons, List.length_nil, Nat.reduceAdd, Nat.reduceSub, Array.replicate_succ, Array.replicate_zero, List.push_toArray, List.append_toArray, List.nil_append, List.cons_append]
  gi_wp2
  gi_loopw [4, 5] (fun v4 v5 wr => ∃ (xs : List It) (pos : Nat), v4 = .int .i64 (pos : Int) ∧ v5 = .int .i64 (xs.length : Int) ∧ Hid (J xs wr) ∧ Hid (Mid e l T w s A0 c0 xs pos wr))
    (fun v4 _ _ => l.length + 1 - (intOf v4).toNat)
  case atStart => exact ⟨[], 0, rfl, rfl, H0, HM0⟩
  case round =>
    obtain ⟨xs, pos, rfl, rfl, HJr, HM⟩ := hrel
    obtain ⟨g, hTold⟩ := HM.out.told
    have hposl := hTold.2.2.1
    obtain ⟨A', hcut, hA'⟩ := cut_words A0 c0 l Hc.out pos hposl
    obtain ⟨ls, hls⟩ : ∃ ls, l.drop pos = ls := ⟨_, rfl⟩
    rw [hls] at hcut hA'
    have Hls := Lib.hid hls
    have hsz := HM.out.size
    have hsz0 : s < wr.heap.size := by omega
    have hne0 : wr.heap.size ≠ s := by omega
    have hne1 : wr.heap.size ≠ s + 1 := by omega
    have hbx0 := HM.out.box0
    have hbx1 := HM.out.box1
    have Hget : Hid (∀ V, Below wr.heap.size wr V → Calls Try.prog 31 #[.int .i64 e, .int .i64 (xs.length : Int), .slice A' ls.length (c0 - pos)] V (GetP V (getR e (xs.length : Int) ls))) := Lib.hid (by
      intro V hV
      exact get_any V e (xs.length : Int) A' (c0 - pos) ls (fun y hy => HL.out y (List.mem_of_mem_drop (by rw [hls]; exact hy))) (by have := Hm.out; rw [← hls, List.length_drop]; omega) (by have := Hc.out; rw [← hls, List.length_drop]; omega)
        (hA' V (Kd.C_below HC.out (HM.out.below.trans (hV.mono HM.out.below.size)))))
    have HTold := Lib.hid hTold
    clear hls hA' hTold
    cases hg : getR e (xs.length : Int) ls with
    | none =>
      rw [hg] at Hget
      have hTe := HTold.out.none (by rw [Hls.out, List.length_map]; exact hg)
      have Hfin : Hid (∀ Wf, Below wr.heap.size wr Wf → Done w.heap.size T xs Wf ∧ J xs Wf) := Lib.hid (by
        intro Wf hWf
        refine ⟨⟨by rw [hTe], by rw [hTe, ← HM.out.last], fun x hx => ok_below (HM.out.ok x hx) hWf⟩, HJ.out _ _ _ HJr.out ⟨hWf.os, hWf.tape, hWf.output, hWf.size, fun k hk _ => hWf.block k hk⟩⟩)
      clear hg hTe
      gi_wp2
      gi_cut [8] from 9 (fun v8 wc => v8 = .bool false ∧ Hid (Below wr.heap.size wr wc))
      case first =>
        refine wpIn_wide.2 ?_
        go_region_held3 (fun w' => w'.cell? ⟨s, 0, none⟩ = some (.int .i64 e) ∧ w'.cell? ⟨s + 1, 0, none⟩ = some (.slice A0 l.length c0))
          (first | go_keep)
          (first
          | (go_at_call 31; refine (Hget.out wr.drew (Below.refl _ _).drew).mono ?_; rintro en w2 ⟨rfl, hb⟩; have Hb2 := Lib.hid ((Below.refl wr.heap.size wr).drew.trans hb); have j0 := (Hb2.out.cell (p := ⟨s, 0, none⟩) hsz0).trans hbx0; have j1 := (Hb2.out.cell (p := ⟨s + 1, 0, none⟩) hsz).trans hbx1; clear hb)
          | (go_at_call 31; refine (Hget.out (wr.drew.alloc (.cells #[.int .i64 0, .slice none 0 0] 40)) ((Below.refl _ _).drew.alloc (Nat.le_refl _) _)).mono ?_; rintro en w2 ⟨rfl, hb⟩; have k0 : w2.cell? ⟨wr.heap.size, 0, none⟩ = some (.int .i64 0) := (hb.cell (p := ⟨wr.heap.size, 0, none⟩) (by simp)).trans (by simp [go_sem]); have k1 : w2.cell? ⟨wr.heap.size, 1, none⟩ = some (.slice none 0 0) := (hb.cell (p := ⟨wr.heap.size, 1, none⟩) (by simp)).trans (by simp [go_sem]); have k2 : w2.frozen? ⟨wr.heap.size, 0, none⟩ = false := (hb.frozen (p := ⟨wr.heap.size, 0, none⟩) (by simp)).trans (by simp [go_sem]); have k3 : w2.frozen? ⟨wr.heap.size, 1, none⟩ = false := (hb.frozen (p := ⟨wr.heap.size, 1, none⟩) (by simp)).trans (by simp [go_sem]); have Hb2 := Lib.hid (((Below.refl wr.heap.size wr).drew.alloc (Nat.le_refl _) (.cells #[.int .i64 0, .slice none 0 0] 40)).trans (hb.mono (by simp))); have j0 := (Hb2.out.cell (p := ⟨s, 0, none⟩) hsz0).trans hbx0; have j1 := (Hb2.out.cell (p := ⟨s + 1, 0, none⟩) hsz).trans hbx1; clear hb))
        all_goals
          gi_wp2
          gi_meet
          case rel => exact ⟨rfl, by first | exact Lib.hid (Hb2.out.alloc Hb2.out.size _) | exact Lib.hid ((Hb2.out.setCell (Nat.le_refl _) _).setCell (Nat.le_refl _) _)⟩
      case rest =>
        obtain ⟨rfl, HWy⟩ := hcut
        gi_wp2_with (refine ⟨fun f hf => (by cases hf), ?_⟩)
        refine bodyPost_ret (results_none rfl _ _ _) rfl ?_
        exact ⟨⟨_, rfl⟩, xs, Hfin.out _ HWy.out⟩
    | some fm =>
      obtain ⟨f, m⟩ := fm
      rw [hg] at Hget
      have hTs := HTold.out.some (by rw [Hls.out, List.length_map]; exact hg)
      have hnl : xs.length ≤ 1000000000 := by
        have h1 := HTold.out.2.2.2.2
        have h2 := Hm.out
        rw [List.length_map] at h1
        omega
      have hpm : pos + m ≤ l.length := hTs.2.2.2.1
      have hxl : xs.length < l.length := by
        have h1 := HTold.out.2.2.2.2
        have h2 := (getR_facts hg).1
        rw [List.length_map] at h1
        omega
      have hwr : wrap64 ((pos : Int) + (m : Int)) = (pos : Int) + (m : Int) := by
        have h2 := Hm.out
        unfold wrap64; omega
      have hwn : wrap64 ((xs.length : Int) + 1) = (xs.length : Int) + 1 := by unfold wrap64; omega
      have Hf := Lib.hid (getR_facts hg)
      have Hpm := Lib.hid hpm
      have Hnext : Hid (∀ A1 c1 Wy W3, Below wr.heap.size wr Wy → It.ok w.heap.size Wy ⟨pos + m, f, A1, c1⟩ → Keep w.heap.size s Wy W3 → Mid e l T w s A0 c0 (xs ++ [⟨pos + m, f, A1, c1⟩]) (pos + m) W3) := Lib.hid (by
        intro A1 c1 Wy W3 h1 h2 h3
        have hM := HM.out.step h1
        refine Mid.keep ⟨⟨g - 1, by rw [List.map_append]; exact hTs.2⟩, by simp, ?_, hM.below, hM.size, hM.box0, hM.box1⟩ h3
        intro y hy
        rcases List.mem_append.1 hy with hy | hy
        · exact hM.ok y hy
        · rw [List.mem_singleton.1 hy]; exact h2)
      have HYx : Hid (∀ A1 c1 Wy, Below wr.heap.size wr Wy → YieldAt Fence.wide (n - 1) Try.prog lp #[.int .i64 ((pos : Int) + (m : Int)), .agg #[.int .i64 f.f0, .slice A1 f.f1.length c1]] Wy fun e W' => e = .returned (.bool true) ∧ J (xs ++ [⟨pos + m, f, A1, c1⟩]) W' ∧ Keep w.heap.size s Wy W') := Lib.hid (by
        intro A1 c1 Wy h1
        have h := HY.out xs ⟨pos + m, f, A1, c1⟩ Wy (HJ.out _ _ _ HJr.out ⟨h1.os, h1.tape, h1.output, h1.size, fun k hk _ => h1.block k hk⟩) hxl
        rw [It.enc] at h
        simp only [Int.natCast_add] at h
        exact h)
      have Hok : Hid (∀ A1 c1 V Wy, f.f1.length ≤ c1 → (Kd.int .u64).R 30 V wr.heap.size (fun _ => True) (.slice A1 f.f1.length c1) f.f1 → (∀ k cs, V.heap[k]? = some (Obj.cells cs 30 (0, 0)) → Wy.heap[k]? = some (Obj.cells cs 30 (0, 0))) → It.ok w.heap.size Wy ⟨pos + m, f, A1, c1⟩) := Lib.hid (by
        intro A1 c1 V Wy h1 h2 h3
        exact ok_step (W := V) ⟨h1, Kd.R_lower h2 HM.out.below.size⟩ h3)
      clear hg hTs hpm hxl
      gi_wp2
      gi_cut [6, 7, 8] from 9 (fun v6 v7 v8 wc => ∃ (A1 : Option Addr) (c1 B : Nat), v6 = .pointer (some ⟨B, 0, none⟩) ∧ v7 = .int .i64 (m : Int) ∧ v8 = .bool true ∧ wc.cell? ⟨B, 0, none⟩ = some (.int .i64 f.f0) ∧ wc.cell? ⟨B, 1, none⟩ = some (.slice A1 f.f1.length c1) ∧ Hid (Below wr.heap.size wr wc) ∧ Hid (It.ok w.heap.size wc ⟨pos + m, f, A1, c1⟩))
      case first =>
        refine wpIn_wide.2 ?_
        go_region_held3 (fun w' => w'.cell? ⟨s, 0, none⟩ = some (.int .i64 e) ∧ w'.cell? ⟨s + 1, 0, none⟩ = some (.slice A0 l.length c0))
          (first | go_keep)
          (first
          | (go_at_call 31; refine (Hget.out wr.drew (Below.refl _ _).drew).mono ?_; rintro en w2 ⟨A1, c1, rfl, hl1, hC1, hR1, hb⟩; have Hb2 := Lib.hid ((Below.refl wr.heap.size wr).drew.trans hb); have j0 := (Hb2.out.cell (p := ⟨s, 0, none⟩) hsz0).trans hbx0; have j1 := (Hb2.out.cell (p := ⟨s + 1, 0, none⟩) hsz).trans hbx1; have HR1 := Lib.hid (Kd.R_lower (base' := wr.heap.size) hR1 (Nat.le_refl _)); clear hb hC1 hR1)
          | (go_at_call 31; refine (Hget.out (wr.drew.alloc (.cells #[.int .i64 0, .slice none 0 0] 40)) ((Below.refl _ _).drew.alloc (Nat.le_refl _) _)).mono ?_; rintro en w2 ⟨A1, c1, rfl, hl1, hC1, hR1, hb⟩; have k0 : w2.cell? ⟨wr.heap.size, 0, none⟩ = some (.int .i64 0) := (hb.cell (p := ⟨wr.heap.size, 0, none⟩) (by simp)).trans (by simp [go_sem]); have k1 : w2.cell? ⟨wr.heap.size, 1, none⟩ = some (.slice none 0 0) := (hb.cell (p := ⟨wr.heap.size, 1, none⟩) (by simp)).trans (by simp [go_sem]); have k2 : w2.frozen? ⟨wr.heap.size, 0, none⟩ = false := (hb.frozen (p := ⟨wr.heap.size, 0, none⟩) (by simp)).trans (by simp [go_sem]); have k3 : w2.frozen? ⟨wr.heap.size, 1, none⟩ = false := (hb.frozen (p := ⟨wr.heap.size, 1, none⟩) (by simp)).trans (by simp [go_sem]); have Hb2 := Lib.hid (((Below.refl wr.heap.size wr).drew.alloc (Nat.le_refl _) (.cells #[.int .i64 0, .slice none 0 0] 40)).trans (hb.mono (by simp))); have j0 := (Hb2.out.cell (p := ⟨s, 0, none⟩) hsz0).trans hbx0; have j1 := (Hb2.out.cell (p := ⟨s + 1, 0, none⟩) hsz).trans hbx1; have HR1 := Lib.hid (Kd.R_lower (base' := wr.heap.size) hR1 (by simp)); have Hob : Hid (w2.heap[wr.heap.size]? = some (Obj.cells #[.int .i64 0, .slice none 0 0] 40 (0, 0))) := Lib.hid ((hb.block wr.heap.size (by simp)).trans (World.alloc_heap_new wr.drew _)); clear hb hC1 hR1))
        all_goals
          gi_wp2
          gi_meet
          case rel =>
            first
              | (refine ⟨A1, c1, wr.heap.size, rfl, rfl, rfl, by simp [go_sem, k0, k1], by simp [go_sem, k0, k1], Lib.hid ((Hb2.out.setCell (Nat.le_refl _) _).setCell (Nat.le_refl _) _), Lib.hid (Hok.out A1 c1 w2 _ hl1 HR1.out ?_)⟩
                 intro k cs hk
                 have hne : k ≠ wr.heap.size := by
                   rintro rfl
                   rw [Hob.out] at hk
                   injection hk with hk
                   injection hk with _ hk _
                   exact absurd hk (by decide)
                 rw [Below.heap_setCell _ _ _ _ hne, Below.heap_setCell _ _ _ _ hne]; exact hk)
              | exact ⟨A1, c1, w2.heap.size, rfl, rfl, rfl, by simp [go_sem], by simp [go_sem], Lib.hid (Hb2.out.alloc Hb2.out.size _), Lib.hid (Hok.out A1 c1 w2 _ hl1 HR1.out (fun k cs hk => (Below.heap_alloc _ _ _ (Array.getElem?_eq_some_iff.1 hk).1).trans hk))⟩
      case rest =>
        obtain ⟨A1, c1, B, rfl, rfl, rfl, k0, k1, HWy, Hx⟩ := hcut
        obtain ⟨fn, tmps, assign, body, hy, hR⟩ := HYx.out A1 c1 wc HWy.out
        have HR := Lib.hid hR
        clear hR
        gi_wp2
        refine HR.out.mono ?_
        rintro en W3 ⟨rfl, hJ3, hK3⟩
        have HM3 := Lib.hid (Hnext.out A1 c1 _ W3 HWy.out Hx.out hK3)
        have HJ3 := Lib.hid hJ3
        clear hJ3 hK3 hy
        gi_wp2
        go_roundw
        case rel => exact ⟨xs ++ [⟨pos + m, f, A1, c1⟩], pos + m, by simp [hwr], by simp [hwn], HJ3, HM3⟩
        case measure =>
          have hlt : l.length + 1 - (pos + m) < l.length + 1 - pos := by
            have h1 := Hf.out.1
            have h2 := Hpm.out
            clear hwr hwn hnl hsz hsz0 hne0 hne1 hposl
            exact Nat.sub_lt_sub_left (by omega) (by omega)
          have e1 : (intOf (.int .i64 ((pos : Int) + (m : Int)))).toNat = pos + m := toNat_add pos m
          have e2 : (intOf (.int .i64 (pos : Int))).toNat = pos := rfl
          first
            | (rw [← e1, ← e2] at hlt; exact hlt)
            | (simp only [hwr]; rw [← e1, ← e2] at hlt; exact hlt)
end Go.Proofs.Ytmeoiennniknlaa.Frames

namespace Go.Proofs.Ytmeoiennniknlaa.Frames
open Go.RowKit Go.Shelf Go.Proofs.YtmeoiennniknlaaW.PrintWords Go.Proofs.Ytmeoiennniknlaa.Lb Go.Proofs.Ytmeoiennniknlaa.Sums
attribute [local go_sem] Oper.semAt_some
set_option linter.unusedVariables false
set_option linter.unusedSimpArgs false

def It.cells (x : It) : List Value := [.int .i64 x.f.f0, .slice x.A x.f.f1.length x.c]
def lastPos (xs : List It) : Nat := (xs.getLast?.map (·.pos)).getD 0

/-- What stands between two rounds of All: b its first box. -/
structure AI (w : World) (e : Int) (A0 : Option Addr) (n c0 : Nat) (b : Nat) (xs : List It) (W : World) : Prop where
  out : ∃ v, Boxed W b 42 v ∧ W.ownsRow w.heap.size 40 2 v xs.length (xs.flatMap It.cells) ∧ True
  last : Boxed W (b + 1) 3 (.int .i64 (lastPos xs : Int))
  box0 : Boxed W (b + 2) 3 (.int .i64 e)
  box1 : Boxed W (b + 3) 23 (.slice A0 n c0)
  below : Below w.heap.size w W
theorem Boxed.cellsKept {W W' : World} {B : Nat} {t : TypeId} {v : Value} {row : Option Nat} (h : Boxed W B t v) (hg : W.grownBy W' row) (hr : ∀ r, row = some r → ∃ o : Obj, W.heap[r]? = some o ∧ o.isCells = false) : Boxed W' B t v :=
  h.kept hg (fun e' => by
    obtain ⟨o, ho, hc⟩ := hr B e'.symm
    rw [show W.heap[B]? = _ from h] at ho; cases ho; cases hc)
theorem AI.own {w : World} {e : Int} {A0 : Option Addr} {n c0 b : Nat} {B : Nat} (hB : w.heap.size ≤ B) : OwnFrom B (AI w e A0 n c0 b) := by
  intro xs X Y row h hg hr
  have hr2 : ∀ r, row = some r → ∃ o : Obj, X.heap[r]? = some o ∧ o.isCells = false := fun r hrr => (hr r hrr).2
  exact ⟨holdsRow_own w.heap.size b 42 40 2 (fun xs : List It => xs.length) (fun xs => xs.flatMap It.cells) (fun _ _ => True) xs X Y row h.out hg hr2,
    Boxed.cellsKept h.last hg hr2, Boxed.cellsKept h.box0 hg hr2, Boxed.cellsKept h.box1 hg hr2, ownFrom_below (β := Unit) (Nat.le_refl _) hB () X Y row h.below hg hr⟩
theorem Done.own {T : List Fr × Nat} {B B' : Nat} : OwnFrom B (Done B' T) := by
  intro xs X Y row h hg hr
  refine ⟨h.1, h.2.1, fun x hx => ok_step (h.2.2 x hx) fun k cs hk => ?_⟩
  refine (hg.block k (Array.getElem?_eq_some_iff.1 hk).1 ?_).trans hk
  intro e
  obtain ⟨_, o, ho, hc⟩ := hr k e.symm
  rw [hk] at ho
  cases ho
  simp [Obj.isCells] at hc

/-- The answer of frames.All. -/
def AllC (w : World) (T : List Fr × Nat) (en : Ending) (w' : World) : Prop :=
  ∃ A c, en = .returned (.tuple #[.slice A T.1.length c, .int .i64 (T.2 : Int)]) ∧ T.1.length ≤ c ∧ kF.C w' A T.1.length T.1 ∧ Below w.heap.size w w'

set_option maxRecDepth 100000 in
set_option maxHeartbeats 400000 in
theorem stream_any (w : World) (e : Int) (A0 : Option Addr) (n c0 : Nat) :
    Calls Try.prog 75 #[.int .i64 e, .slice A0 n c0] w fun en w' => en = .returned (.func (.func 99) #[] #[.pointer (some ⟨w.heap.size, 0, none⟩), .pointer (some ⟨w.heap.size + 1, 0, none⟩)]) ∧
      w' = (w.alloc (.cells #[.int .i64 e] 3)).alloc (.cells #[.slice A0 n c0] 23) := by
  go_enter Try.func75, Try.ntmps75
  go_wp2
  go_ret
  exact ⟨by simp, rfl⟩

theorem Keep.ofBelow {n0 s : Nat} {W W' : World} (h0 : n0 ≤ W.heap.size) (hs : s + 1 < W.heap.size) (h : Below W.heap.size W W') : Keep n0 s W W' :=
  ⟨h.mono h0, fun k hk => h.block k (by omega), fun k cs hk => (h.block k (Array.getElem?_eq_some_iff.1 hk).1).trans hk⟩
theorem lastPos_snoc (xs : List It) (x : It) : lastPos (xs ++ [x]) = x.pos := by simp [lastPos]

/-- Behind a round's append and its two stores. -/
theorem AI.next {w : World} {e : Int} {A0 : Option Addr} {n c0 b : Nat} {pre : List It} {W w1 : World} (hI : AI w e A0 n c0 b pre W) (hwb : w.heap.size ≤ b) (x : It) {v v' : Value} {tmp : Obj} (hv : Boxed W b 42 v) (hrow : W.ownsRow w.heap.size 40 2 v pre.length (pre.flatMap It.cells))
    (hown : w1.ownsRow w.heap.size 40 2 v' (pre.length + 1) (pre.flatMap It.cells ++ x.cells)) (hgrow : (W.alloc tmp).grownBy w1 v.ownBlock) :
    KeepsOthers W ((w1.setCell ⟨b, 0, none⟩ v').setCell ⟨b + 1, 0, none⟩ (.int .i64 (x.pos : Int))) ∧ Keep w.heap.size (b + 2) W ((w1.setCell ⟨b, 0, none⟩ v').setCell ⟨b + 1, 0, none⟩ (.int .i64 (x.pos : Int))) ∧
      AI w e A0 n c0 b (pre ++ [x]) ((w1.setCell ⟨b, 0, none⟩ v').setCell ⟨b + 1, 0, none⟩ (.int .i64 (x.pos : Int))) := by
  have hW : w.heap.size ≤ W.heap.size := hI.below.size
  obtain ⟨g1, g2, g3, g4, g5⟩ := hv.appended (by decide) hrow hW hwb hown hgrow
  have hlast1 : Boxed w1 (b + 1) 3 (.int .i64 (lastPos pre : Int)) := (hI.last.alloc tmp).kept hgrow (hI.last.not_row (by decide) hrow)
  have hx0 : Boxed w1 (b + 2) 3 (.int .i64 e) := (hI.box0.alloc tmp).kept hgrow (hI.box0.not_row (by decide) hrow)
  have hx1 : Boxed w1 (b + 3) 23 (.slice A0 n c0) := (hI.box1.alloc tmp).kept hgrow (hI.box1.not_row (by decide) hrow)
  have hl2 : Boxed (w1.setCell ⟨b, 0, none⟩ v') (b + 1) 3 (.int .i64 (lastPos pre : Int)) := hlast1.other (by omega) _
  have hb : Below w.heap.size W ((w1.setCell ⟨b, 0, none⟩ v').setCell ⟨b + 1, 0, none⟩ (.int .i64 (x.pos : Int))) := g5.setCell (p := ⟨b + 1, 0, none⟩) (by show w.heap.size ≤ b + 1; omega) _
  have hx0' : Boxed ((w1.setCell ⟨b, 0, none⟩ v').setCell ⟨b + 1, 0, none⟩ (.int .i64 (x.pos : Int))) (b + 2) 3 (.int .i64 e) := (hx0.other (by omega) _).other (by omega) _
  have hx1' : Boxed ((w1.setCell ⟨b, 0, none⟩ v').setCell ⟨b + 1, 0, none⟩ (.int .i64 (x.pos : Int))) (b + 3) 23 (.slice A0 n c0) := (hx1.other (by omega) _).other (by omega) _
  refine ⟨g4.trans (KeepsOthers.setCell _ _ _), ⟨hb, ?_, ?_⟩, ⟨⟨v', g2.other (by omega) _, ?_, trivial⟩, ?_, hx0', hx1', hI.below.trans hb⟩⟩
  · rintro k (rfl | rfl)
    · exact (show _ = _ from hx0').trans (show _ = _ from hI.box0).symm
    · exact (show _ = _ from hx1').trans (show _ = _ from hI.box1).symm
  · intro k cs hk
    have hkl : k < W.heap.size := (Array.getElem?_eq_some_iff.1 hk).1
    have hne : ∀ (t : TypeId) (B : Nat) (u : Value), t ≠ 30 → Boxed W B t u → k ≠ B := by
      rintro t B u ht hB rfl
      rw [show W.heap[k]? = _ from hB] at hk
      injection hk with hk
      injection hk with _ hk _
      exact ht hk
    have hne3 : some k ≠ v.ownBlock := by
      intro h
      obtain ⟨cells, hc⟩ := own_typed hrow k h.symm
      rw [hc] at hk
      injection hk with hk
      injection hk with _ hk _
      exact absurd hk (by decide)
    rw [Below.heap_setCell _ _ _ _ (hne _ _ _ (by decide) hI.last), Below.heap_setCell _ _ _ _ (hne _ _ _ (by decide) hv), hgrow.block k (by simp; omega) hne3, Below.heap_alloc _ _ _ hkl]
    exact hk
  · rw [List.length_append, List.flatMap_append]
    simp only [List.flatMap_cons, List.flatMap_nil, List.append_nil, List.length_cons, List.length_nil, Nat.zero_add]
    exact g3.kept (grownBy_setCell' _ _ _) (.inr (Ne.symm (hl2.not_row (by decide) g3)))
  · rw [lastPos_snoc]; exact hl2.set _

theorem its_reps {W : World} {B : Nat} {v : Value} (hv : ∀ k, v.ownBlock = some k → ∃ cells, W.heap[k]? = some (.cells cells 40 (0, 0))) : ∀ (xs : List It), (∀ x ∈ xs, x.ok B W) → Reps (kF.M W B (fun k => True ∧ some k ≠ v.ownBlock)) 2 (xs.map (·.f)) (xs.flatMap It.cells)
  | [], _ => Reps.none _ _
  | x :: xs, h => by
    have h1 := h x List.mem_cons_self
    have h2 : (Kd.int .u64).R 30 W B (fun k => True ∧ some k ≠ v.ownBlock) (.slice x.A x.f.f1.length x.c) x.f.f1 := by
      cases hb : v.ownBlock with
      | none => exact Kd.R_mono h1.2 (fun k _ => ⟨trivial, by simp⟩)
      | some g =>
        obtain ⟨cells, hc⟩ := hv g hb
        exact Kd.R_mono (Kd.R_types h1.2 hc (by intro q hq; have : q = 30 := by simpa [Kd.int, Kd.scalar] using hq
                                                rw [this]; decide)) (fun k hk => ⟨trivial, fun e => hk.2 (Option.some.inj e)⟩)
    have hx : Reps (kF.M W B (fun k => True ∧ some k ≠ v.ownBlock)) 2 [x.f] x.cells := by
      have := (Reps.none (kF.M W B (fun k => True ∧ some k ≠ v.ownBlock)) 2).snoc (p := x.f) (c := x.cells) (PFramesGet.k40_mkM W B _ x.f h2) rfl
      simpa using this
    have := Kd.reps_append hx (its_reps hv xs (fun y hy => h y (List.mem_cons_of_mem _ hy)))
    simpa using this

set_option maxRecDepth 100000 in
set_option maxHeartbeats 2000000 in
theorem all_in (n : Nat) (hn : 3 ≤ n) (w : World) (e : Int) (A0 : Option Addr) (c0 : Nat) (l : List Int) (hl : WS l) (hm : l.length ≤ 1000000000) (hc : l.length ≤ c0) (hC : (Kd.int .u64).C w A0 l.length l) :
    CallsIn Fence.wide n Try.prog 36 #[.int .i64 e, .slice A0 l.length c0] w (AllP w (allR e (l.length + 1) 0 l)) := by
  obtain ⟨T, hT⟩ : ∃ T, T = allR e (l.length + 1) 0 l := ⟨_, rfl⟩
  rw [← hT]
  have HT := Lib.hid hT
  have HC := Lib.hid hC
  have HL := Lib.hid hl
  have Hm := Lib.hid hm
  have Hc := Lib.hid hc
  have h1 : 1 ≤ n := by omega
  clear hT hC hl hm hc
  refine callsIn_of_wp_marks Try.func36 rfl trivial ?_ rfl
  simp only [Try.ntmps36, List.size_toArray, List.length_cons, List.length_nil, Nat.reduceAdd, Nat.reduceSub, Array.replicate_succ, Array.replicate_zero, List.push_toArray, List.append_toArray, List.nil_append, List.cons_append]
  gi_wp2_with (first | (refine ⟨trivial, ?_⟩; gi_at_call 75; refine (callsIn_wide.2 (stream_any _ _ _ _ _)).mono ?_; rintro en w' ⟨rfl, rfl⟩) | (gi_at_call 75; refine (callsIn_wide.2 (stream_any _ _ _ _ _)).mono ?_; rintro en w' ⟨rfl, rfl⟩))
  obtain ⟨W4, hW4⟩ : ∃ W4, W4 = (((w.alloc (.cells #[.slice none 0 0] 42)).alloc (.cells #[.int .i64 0] 3)).alloc (.cells #[.int .i64 e] 3)).alloc (.cells #[.slice A0 l.length c0] 23) := ⟨_, rfl⟩
  have hsz : W4.heap.size = w.heap.size + 4 := by rw [hW4]; simp
  have hB4 : Below w.heap.size w W4 := by
    rw [hW4]
    exact ((((Below.refl _ w).alloc (Nat.le_refl _) _).alloc (by simp) _).alloc (by simp; omega) _).alloc (by simp; omega) _
  have hI4 : AI w e A0 l.length c0 w.heap.size [] W4 := by
    refine ⟨⟨.slice none 0 0, ?_, ⟨rfl, Or.inl ⟨rfl, rfl⟩⟩, trivial⟩, ?_, ?_, ?_, hB4⟩
    · rw [hW4]; exact (((Boxed.new w _ _).alloc _).alloc _).alloc _
    · rw [hW4]; have := ((Boxed.new (w.alloc (.cells #[.slice none 0 0] 42)) 3 (.int .i64 0)).alloc (.cells #[.int .i64 e] 3)).alloc (.cells #[.slice A0 l.length c0] 23); simpa [lastPos] using this
    · rw [hW4]; have := (Boxed.new ((w.alloc (.cells #[.slice none 0 0] 42)).alloc (.cells #[.int .i64 0] 3)) 3 (.int .i64 e)).alloc (.cells #[.slice A0 l.length c0] 23); simpa using this
    · rw [hW4]; have := Boxed.new (((w.alloc (.cells #[.slice none 0 0] 42)).alloc (.cells #[.int .i64 0] 3)).alloc (.cells #[.int .i64 e] 3)) 23 (.slice A0 l.length c0); simpa using this
  rw [← hW4]
  clear hW4
  refine RangeW.tells h1 (gf := 99) rfl (enters_of Try.func99 (by kernel_rfl) rfl) It.enc (fun _ => rfl) (Keep w.heap.size (w.heap.size + 2)) Keep.trans ?keep l.length (AI w e A0 l.length c0 w.heap.size) (Done w.heap.size T) (AI.own (by omega)) Done.own hI4 ?iter
    (fun x a' W => ∃ b, a' = { tmps := #[.int .i64 e, .slice A0 l.length c0, undef, undef, .slice none 0 0, .int .i64 0, .pointer (some ⟨w.heap.size, 0, none⟩), .pointer (some ⟨w.heap.size + 1, 0, none⟩), .int .i64 (x.pos : Int), .pointer (some ⟨b, 0, none⟩), .int .i64 e, .slice A0 l.length c0, .func (.func 99) #[] #[.pointer (some ⟨w.heap.size + 1 + 1, 0, none⟩), .pointer (some ⟨w.heap.size + 1 + 1 + 1, 0, none⟩)], .int .i64 (x.pos : Int), .agg #[.int .i64 x.f.f0, .slice x.A x.f.f1.length x.c], undef, undef, undef, undef, undef, undef, undef], defers := [] } ∧ W.heap[b]? = some (Obj.cells x.cells.toArray 40 (0, 0))) ?axown ?assign ?body ?done
  case keep =>
    intro W lp o o' h2 h3 h4
    exact Keep.putObj (by omega) (by omega) h3 h4
  case iter =>
    intro lp J W hB hJ hY h0
    have hI' := hI4
    exact stream1_in (n - 1) (by omega) lp (w.heap.size + 2) w e A0 c0 l HL.out Hm.out Hc.out HC.out T HT.out J hJ hY W (hB4.trans (hB.mono (by omega))) (by have := hB.size; omega)
      ((hB.cell (p := ⟨w.heap.size + 2, 0, none⟩) (by show w.heap.size + 2 < _; omega)).trans hI4.box0.cell) ((hB.cell (p := ⟨w.heap.size + 3, 0, none⟩) (by show w.heap.size + 3 < _; omega)).trans hI4.box1.cell) h0
  case axown =>
    rintro x a' _ X Y row ⟨b, ha, hb⟩ hg hr
    refine ⟨b, ha, (hg.block b (Array.getElem?_eq_some_iff.1 hb).1 ?_).trans hb⟩
    intro e1
    obtain ⟨_, o, ho, hc⟩ := hr b e1.symm
    rw [hb] at ho
    cases ho
    simp [Obj.isCells] at hc
  case assign =>
    intro lp pre x W K hI hK
    have HK := Lib.hid hK
    have HI := Lib.hid hI
    clear hK hI
    simp only [It.enc]
    gi_wp2
    refine HK.out _ _ (KeepsOthers.alloc _ _) (Keep.ofBelow HI.out.below.size (by have := HI.out.box1.lt; omega) ((Below.refl _ W).alloc (Nat.le_refl _) _)) ((AI.own (B := w.heap.size) (by omega)).alloc _ HI.out) ⟨W.heap.size, ?_, World.alloc_heap_new W _⟩
    simp
  case body =>
    rintro lp pre x a' W hI ⟨b, rfl, hb⟩ hlen
    obtain ⟨v, hv, hrow, _⟩ := hI.out
    have hb0 : W.cell? ⟨b, 0, none⟩ = some (.int .i64 x.f.f0) := by simp [World.cell?, hb, It.cells]
    have hb1 : W.cell? ⟨b, 1, none⟩ = some (.slice x.A x.f.f1.length x.c) := by simp [World.cell?, hb, It.cells]
    have hvc := hv.cell
    have hbW : w.heap.size ≤ W.heap.size := hI.below.size
    have hpl : pre.length ≤ 1000000000 := by have := Hm.out; omega
    obtain ⟨i0, hi0, hz⟩ := Option.map_eq_some_iff.1 infoFr
    simp only [Prod.mk.injEq] at hz
    obtain ⟨hz0, hz1, hz2⟩ := hz
    have HI := Lib.hid hI
    have Hv := Lib.hid hv
    have Hrow := Lib.hid hrow
    have Hi0 := Lib.hid hi0
    have Hz := Lib.hid (And.intro hz0 (And.intro hz1 hz2))
    have Hpl := Lib.hid hpl
    have HbW := Lib.hid hbW
    have Hnews : Hid (∀ j u, x.cells[j]? = some u → (W.alloc (.cells #[.int .i64 x.f.f0, .slice x.A x.f.f1.length x.c] 40)).cell? ((⟨W.heap.size, 0, none⟩ : Addr).add j) = some u) := Lib.hid (fun j u h => World.news_of_block (cs := x.cells.toArray) (t := 40) (fr := (0, 0)) (heap_alloc_new W (.cells x.cells.toArray 40)) j u (by simpa using h))
    clear hI hv hrow hb hi0 hz0 hz1 hz2 hpl hbW hlen hI4 hB4
    gi_wp2_with (gi_at_builtin; refine wpListIn_append_own (W.alloc (.cells #[.int .i64 x.f.f0, .slice x.A x.f.f1.length x.c] 40)) rfl _ _ 42 rfl w.heap.size 40 i0 (.agg #[.int .i64 0, .slice none 0 0]) 2 32 Try.underlying42 Hi0.out Hz.out.1 Hz.out.2.1 Hz.out.2.2 rfl (by decide) v pre.length (pre.flatMap It.cells) rfl (Hrow.out.alloc _) ⟨W.heap.size, 0, none⟩ 1 1 x.cells (by simp [go_sem]) rfl Hnews.out (by intro u hu; simp [It.cells] at hu; rcases hu with rfl | rfl <;> rfl) (by have := Hpl.out; simp only [maxLen]; omega) (by have := Hpl.out; omega) (by have := HbW.out; simp; omega) ?_; intro v' w1 hown hgrow _; obtain ⟨g, cap, rfl⟩ := ownsRow_succ hown; have Hown := Lib.hid hown; have Hgrow := Lib.hid hgrow; have d0 := ((Hv.out.alloc (.cells #[.int .i64 x.f.f0, .slice x.A x.f.f1.length x.c] 40)).kept hgrow (Hv.out.not_row (by decide) Hrow.out)).cell; have d1 := ((Hv.out.alloc (.cells #[.int .i64 x.f.f0, .slice x.A x.f.f1.length x.c] 40)).kept hgrow (Hv.out.not_row (by decide) Hrow.out)).frozen; have d2 := ((HI.out.last.alloc (.cells #[.int .i64 x.f.f0, .slice x.A x.f.f1.length x.c] 40)).kept hgrow (HI.out.last.not_row (by decide) Hrow.out)).cell; have d3 := ((HI.out.last.alloc (.cells #[.int .i64 x.f.f0, .slice x.A x.f.f1.length x.c] 40)).kept hgrow (HI.out.last.not_row (by decide) Hrow.out)).frozen; clear hown hgrow)
    exact HI.out.next (Nat.le_refl _) x Hv.out Hrow.out Hown.out Hgrow.out
  case done =>
    intro D xs W hD hDone hI hK
    have hsl : ∀ V, Done w.heap.size T xs V → AI w e A0 l.length c0 w.heap.size xs V → ∃ A c, Boxed V w.heap.size 42 (.slice A T.1.length c) ∧ kF.R 40 V w.heap.size (fun _ => True) (.slice A T.1.length c) T.1 := by
      intro V h2 h3
      obtain ⟨v, hv, hrow, _⟩ := h3.out
      have hR : kF.R 40 V w.heap.size (fun _ => True) v (xs.map (·.f)) := ⟨fun _ _ => trivial, xs.flatMap It.cells, by rw [List.length_map]; exact hrow, its_reps (own_typed hrow) xs h2.2.2⟩
      obtain ⟨A, c, rfl⟩ := Kd.R_slice hR
      rw [h2.1] at hv hR
      exact ⟨A, c, hv, hR⟩
    obtain ⟨A, c, hv, g1⟩ := hsl W hDone hI
    have hvc := hv.cell
    have hlc := hI.last.cell
    rw [show lastPos xs = T.2 from hDone.2.1] at hlc
    have Hsl := Lib.hid hsl
    have HI := Lib.hid hI
    have HD := Lib.hid hDone
    have HK := Lib.hid hK
    have Hv := Lib.hid hv
    clear hsl hI hDone hK hv g1 hB4 hI4
    gi_wp2
    refine wpIn_wide.2 ?_
    go_quiet (fail)
    gi_wp2
    refine ⟨by simp, .inl ⟨_, _, rfl, run_takeDeferred (w := W.drewN nq) HK.out, ?_⟩⟩
    refine ⟨.tuple #[.slice A T.1.length c, .int .i64 (T.2 : Int)], by simp [results, Try.results36, go_sem], ?_⟩
    have hk' : (W.drewN nq).heap[D]? = some (.deferred (some [])) := HK.out
    have hg : W.grownBy (W.drewN nq) none := ⟨rfl, rfl, rfl, Nat.le_refl _, fun _ _ _ => rfl⟩
    have o1 : OwnFrom w.heap.size (AI w e A0 l.length c0 w.heap.size) := AI.own (Nat.le_refl _)
    have o2 : OwnFrom w.heap.size (Done w.heap.size T) := Done.own
    have i1 := o1.putObj (.deferred none) (o1 _ _ _ none HI.out hg (fun r h => by cases h)) (by omega) hk' rfl
    have i2 := o2.putObj (.deferred none) (o2 _ _ _ none HD.out hg (fun r h => by cases h)) (by omega) hk' rfl
    obtain ⟨A2, c2, hv2, g1⟩ := Hsl.out _ i2 i1
    have hne : w.heap.size ≠ D := by
      rintro rfl
      rw [show (W.drewN nq).heap[w.heap.size]? = _ from Hv.out] at hk'
      cases hk'
    have e1 : some (Obj.cells #[Value.slice A2 T.1.length c2] 42 (0, 0)) = some (Obj.cells #[Value.slice A T.1.length c] 42 (0, 0)) := (show _ = _ from hv2).symm.trans ((World.putObj_heap_other hne).trans (show (W.drewN nq).heap[w.heap.size]? = _ from Hv.out))
    simp only [Option.some.injEq, Obj.cells.injEq, Array.mk.injEq, List.cons.injEq, Value.slice.injEq, and_true, true_and] at e1
    obtain ⟨rfl, rfl⟩ := e1
    exact ⟨A2, c2, rfl, g1, i1.below⟩
end Go.Proofs.Ytmeoiennniknlaa.Frames

namespace Go.Proofs.Ytmeoiennniknlaa.Frames
open Go.RowKit Go.Shelf Go.Proofs.YtmeoiennniknlaaW.PrintWords Go.Proofs.Ytmeoiennniknlaa.Lb Go.Proofs.Ytmeoiennniknlaa.Sums
set_option linter.unusedVariables false
set_option linter.unusedSimpArgs false

theorem all_own (w : World) (e : Int) (A0 : Option Addr) (c0 : Nat) (l : List Int) (hl : WS l) (hm : l.length ≤ 1000000000) (hc : l.length ≤ c0) (hC : (Kd.int .u64).C w A0 l.length l) :
    Calls Try.prog 36 #[.int .i64 e, .slice A0 l.length c0] w (AllP w (allR e (l.length + 1) 0 l)) :=
  callsIn_wide.1 (all_in 3 (by omega) w e A0 c0 l hl hm hc hC)
theorem all_any (w : World) (e : Int) (A0 : Option Addr) (c0 : Nat) (l : List Int) (hl : WS l) (hm : l.length ≤ 1000000000) (hc : l.length ≤ c0) (hC : (Kd.int .u64).C w A0 l.length l) :
    Calls Try.prog 36 #[.int .i64 e, .slice A0 l.length c0] w (AllC w (allR e (l.length + 1) 0 l)) := by
  refine (all_own w e A0 c0 l hl hm hc hC).mono ?_
  rintro en w' ⟨A, c, h1, h2, h3⟩
  obtain ⟨_, g1, g2⟩ := Kd.R_reads' h2
  exact ⟨A, c, h1, g1, g2, h3⟩
theorem refAll_C (w : World) (e : Int) (A0 : Option Addr) (c0 : Nat) (l : List Int) (hl : WS l) (hm : l.length ≤ 1000000000) (hc : l.length ≤ c0) (hC : (Kd.int .u64).C w A0 l.length l) :
    Calls Try.prog 37 #[.int .i64 e, .slice A0 l.length c0] w (AllC w (allR e (l.length + 1) 0 l)) := by
  refine (refAll_any w e A0 c0 l hl hm hc hC).mono ?_
  rintro en w' ⟨A, c, h1, h2, h3⟩
  obtain ⟨_, g1, g2⟩ := Kd.R_reads' h2
  exact ⟨A, c, h1, g1, g2, h3⟩
theorem allR_len (e : Int) : ∀ g n l, (allR e g n l).1.length ≤ g ∧ ∀ f ∈ (allR e g n l).1, f.f1.length ≤ 2000
  | 0, _, _ => ⟨Nat.le_refl _, fun f hf => by cases hf⟩
  | g + 1, n, l => by
    rw [allR]
    cases hg : getR e (n : Int) l with
    | none => exact ⟨Nat.zero_le _, fun f hf => by cases hf⟩
    | some fm =>
      obtain ⟨f, m⟩ := fm
      obtain ⟨h1, h2⟩ := allR_len e g (n + 1) (l.drop m)
      refine ⟨by simpa using h1, fun y hy => ?_⟩
      rcases List.mem_cons.1 hy with rfl | hy
      · exact (getR_facts hg).2.2.1
      · exact h2 y hy

def gk (r : Option (Fr × Nat)) : Int := match r with | none => 0 | some (f, _) => f.f0
def gw (r : Option (Fr × Nat)) : List Int := match r with | none => [] | some (f, _) => f.f1
def gm (r : Option (Fr × Nat)) : Nat := match r with | none => 0 | some (_, m) => m
theorem getP_U {w w' : World} {r : Option (Fr × Nat)} {en : Ending} (h : GetP w r en w') : ∃ A1 c1, en = .returned (.tuple #[.agg #[.int .i64 (gk r), .slice A1 (gw r).length c1], .int .i64 (gm r : Int), .bool r.isSome]) ∧ (gw r).length ≤ c1 ∧
    (Kd.int .u64).C w' A1 (gw r).length (gw r) ∧ Below w.heap.size w w' := by
  cases r with
  | none => exact ⟨none, 0, h.1, Nat.le_refl _, Kd.C_nil _ _, h.2⟩
  | some fm =>
    obtain ⟨A1, c1, h1, h2, h3, _, h5⟩ := h
    exact ⟨A1, c1, h1, h2, h3, h5⟩
theorem gw_len {e n : Int} {l : List Int} : (gw (getR e n l)).length ≤ 2000 := by
  cases h : getR e n l with
  | none => exact Nat.zero_le _
  | some fm => exact (getR_facts (f := fm.1) (m := fm.2) h).2.2.1

set_option maxRecDepth 100000 in
set_option maxHeartbeats 400000 in
theorem getLaw_out (w : World) (e n : Int) (A : Option Addr) (m c : Nat) (h : 3000 < m) :
    Calls Try.prog 8 #[.int .i64 e, .int .i64 n, .slice A m c] w fun en w' => en = .returned (.bool true) ∧ Below w.heap.size w w' := by
  have hi : (3000 : Int) < (m : Int) := by omega
  go_enter Try.func8, Try.ntmps8
  go_wp2_with (go_at_call 25; (with_reducible refine (alive6_any _).mono ?_); rintro en w1 ⟨rfl, hb⟩; have Hb1 := Lib.hid hb; clear hb)
  go_ret
  exact ⟨rfl, Hb1.out⟩

set_option maxRecDepth 100000 in
set_option maxHeartbeats 2000000 in
theorem getLaw_any (w : World) (e n : Int) (A : Option Addr) (c : Nat) (l : List Int) (hl : WS l) (hm : l.length ≤ 3000) (hc : l.length ≤ c) (hC : (Kd.int .u64).C w A l.length l) :
    Calls Try.prog 8 #[.int .i64 e, .int .i64 n, .slice A l.length c] w fun en w' => en = .returned (.bool true) ∧ Below w.heap.size w w' := by
  have HC := Lib.hid hC
  obtain ⟨r, hr⟩ : ∃ r, r = getR e n l := ⟨_, rfl⟩
  obtain ⟨k, hk⟩ : ∃ k, k = gk r := ⟨_, rfl⟩
  obtain ⟨ws, hws⟩ : ∃ ws, ws = gw r := ⟨_, rfl⟩
  obtain ⟨m, hm2⟩ : ∃ m, m = gm r := ⟨_, rfl⟩
  obtain ⟨b, hb⟩ : ∃ b, b = r.isSome := ⟨_, rfl⟩
  have Hwl : Hid (ws.length ≤ 2000) := Lib.hid (by rw [hws, hr]; exact gw_len)
  obtain ⟨T, hT⟩ : ∃ T, T = allR e (l.length + 1) 0 l := ⟨_, rfl⟩
  have HTl : Hid (T.1.length ≤ 3001 ∧ ∀ f ∈ T.1, f.f1.length ≤ 2000) := Lib.hid (by
    rw [hT]
    have := allR_len e (l.length + 1) 0 l
    exact ⟨by omega, this.2⟩)
  have Hget : Hid (∀ W, Hid (Below w.heap.size w W) → Calls Try.prog 31 #[.int .i64 e, .int .i64 n, .slice A l.length c] W fun en w' => ∃ A1 c1, en = .returned (.tuple #[.agg #[.int .i64 k, .slice A1 ws.length c1], .int .i64 (m : Int), .bool b]) ∧ ws.length ≤ c1 ∧ (Kd.int .u64).C w' A1 ws.length ws ∧ Below W.heap.size W w') := Lib.hid (by
    intro W hW
    rw [hk, hws, hm2, hb, hr]
    exact (get_any W e n A c l hl (by omega) hc (Kd.C_below hC hW.out)).mono fun en w' h => getP_U h)
  have Hrget : Hid (∀ W, Hid (Below w.heap.size w W) → Calls Try.prog 35 #[.int .i64 e, .int .i64 n, .slice A l.length c] W fun en w' => ∃ A1 c1, en = .returned (.tuple #[.agg #[.int .i64 k, .slice A1 ws.length c1], .int .i64 (m : Int), .bool b]) ∧ ws.length ≤ c1 ∧ (Kd.int .u64).C w' A1 ws.length ws ∧ Below W.heap.size W w') := Lib.hid (by
    intro W hW
    rw [hk, hws, hm2, hb, hr]
    exact (refGet_any W e n A c l hl (by omega) hc (Kd.C_below hC hW.out)).mono fun en w' h => getP_U h)
  have Hall : Hid (∀ W, Hid (Below w.heap.size w W) → Calls Try.prog 36 #[.int .i64 e, .slice A l.length c] W (AllC W T)) := Lib.hid (by
    intro W hW
    rw [hT]
    exact all_any W e A c l hl (by omega) hc (Kd.C_below hC hW.out))
  have Hrall : Hid (∀ W, Hid (Below w.heap.size w W) → Calls Try.prog 37 #[.int .i64 e, .slice A l.length c] W (AllC W T)) := Lib.hid (by
    intro W hW
    rw [hT]
    exact refAll_C W e A c l hl (by omega) hc (Kd.C_below hC hW.out))
  have hmi : (l.length : Int) ≤ 3000 := by omega
  clear hr hk hws hm2 hb hT hl hm hc hC
  go_enter Try.func8, Try.ntmps8
  go_wp2_with (first
    | (go_at_call 25; (with_reducible refine (alive6_any _).mono ?_); rintro en w1 ⟨rfl, hb⟩; have Hb1 := Lib.hid hb; clear hb)
    | (go_at_call 31; (with_reducible refine (Hget.out _ Hb1).mono ?_); rintro en w2 ⟨A2, c2, rfl, hl2, hC2, hb⟩; have HC2 := Lib.hid hC2; have Hb2 := Lib.hid (Hb1.out.trans (hb.mono Hb1.out.size)); have Hb3 := Lib.hid (Hb2.out.alloc Hb2.out.size (.cells #[.int .i64 k, .slice A2 ws.length c2] 40)); clear hb hC2)
    | (go_at_call 35; (with_reducible refine (Hrget.out _ Hb3).mono ?_); rintro en w4 ⟨A4, c4, rfl, hl4, hC4, hb⟩; have HC4 := Lib.hid hC4; have HC24 := Lib.hid (Kd.C_below (Kd.C_below HC2.out ((Below.refl _ _).alloc (Nat.le_refl _) (.cells #[.int .i64 k, .slice A2 ws.length c2] 40))) hb); have p0 : w4.cell? ⟨w2.heap.size, 0, none⟩ = some (.int .i64 k) := (hb.cell (p := ⟨w2.heap.size, 0, none⟩) (by simp)).trans (by simp [go_sem]); have p1 : w4.cell? ⟨w2.heap.size, 1, none⟩ = some (.slice A2 ws.length c2) := (hb.cell (p := ⟨w2.heap.size, 1, none⟩) (by simp)).trans (by simp [go_sem]); have hs4 : w2.heap.size < w4.heap.size := (by have := hb.size; simp at this; omega); have Hb4 := Lib.hid (Hb3.out.trans (hb.mono Hb3.out.size)); clear hb hC4)
    | (go_at_call 34; have hsame := same_one (w4.alloc (.cells #[.int .i64 k, .slice A4 ws.length c4] 40)) k ws (Nat.le_trans Hwl.out (by decide)) A2 A4 c2 c4 hl2 (Kd.C_below HC24.out ((Below.refl _ _).alloc (Nat.le_refl _) _)) hl4 (Kd.C_below HC4.out ((Below.refl _ _).alloc (Nat.le_refl _) _)); rw [World.size_alloc] at hsame; (with_reducible refine hsame.mono ?_); rintro en w6 ⟨rfl, hb⟩; have Hb5 := Hb4.out.alloc Hb4.out.size (.cells #[.int .i64 k, .slice A4 ws.length c4] 40); have Hb6 := Lib.hid (Hb5.trans (hb.mono (by have := Hb4.out.size; omega))); clear hb Hb5 hsame)
    | (go_at_call 36; (with_reducible refine (Hall.out _ Hb6).mono ?_); rintro en w7 ⟨A7, c7, rfl, hl7, hC7, hb⟩; have HC7 := Lib.hid hC7; have Hb7 := Lib.hid (Hb6.out.trans (hb.mono Hb6.out.size)); clear hb hC7)
    | (go_at_call 37; (with_reducible refine (Hrall.out _ Hb7).mono ?_); rintro en w8 ⟨A8, c8, rfl, hl8, hC8, hb⟩; have HC8 := Lib.hid hC8; have HC78 := Lib.hid (Kd.C_below HC7.out hb); have Hb8 := Lib.hid (Hb7.out.trans (hb.mono Hb7.out.size)); clear hb hC8)
    | (go_at_call 34; (with_reducible refine (same_any _ _ _ _ _ _ (Nat.lt_of_le_of_lt HTl.out.1 (by decide)) (fun f hf => Nat.lt_of_le_of_lt (HTl.out.2 f hf) (by decide)) HC78.out hl7 HC8.out hl8).mono ?_); rintro en w9 ⟨rfl, hb⟩; have Hb9 := Lib.hid (Hb8.out.trans (hb.mono Hb8.out.size)); clear hb))
  go_ret
  exact ⟨rfl, Hb9.out⟩

theorem getLaw (w : World) (e n : Int) (A : Option Addr) (c : Nat) (l : List Int) (hl : WS l) (hc : l.length ≤ c) (hC : (Kd.int .u64).C w A l.length l) :
    Calls Try.prog 8 #[.int .i64 e, .int .i64 n, .slice A l.length c] w fun en w' => en = .returned (.bool true) ∧ Below w.heap.size w w' := by
  by_cases h : 3000 < l.length
  · exact getLaw_out w e n A l.length c h
  · exact getLaw_any w e n A c l hl (by omega) hc hC
theorem framesGet_law (W : World) (x0 : Int) (w0 : (Lit.int .i64 x0).wf = true) (x1 : Int) (w1 : (Lit.int .i64 x1).wf = true) {a2 : Option Addr} {cap2 : Nat} (l2 : List Int) (hm2 : l2.length ≤ maxLen) (y2 : l2.length * 8 ≤ 140737488351232) (hw2 : ∀ x ∈ l2, (Lit.int .u64 x).wf = true) (hc2 : l2.length ≤ cap2) (hr2 : (Kd.int .u64).C W a2 l2.length l2) :
    Calls Try.prog 8 #[.int .i64 x0, .int .i64 x1, .slice a2 l2.length cap2] W fun e W' => e = .returned (.bool true) ∧ Below W.heap.size W W' :=
  getLaw W x0 x1 a2 cap2 l2 (fun x hx => by have := Go.bounds_u64 (hw2 x hx); omega) hc2 hr2
end Go.Proofs.Ytmeoiennniknlaa.Frames
