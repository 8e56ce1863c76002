/- All frames of a stream: the plain function, and the reference's All. -/
import Derived.Test.YtmeoiennniknlaaFrOne
namespace Go.Proofs.Ytmeoiennniknlaa.Frames
open Go.RowKit Go.Shelf Go.Proofs.YtmeoiennniknlaaW.PrintWords Go.Proofs.Ytmeoiennniknlaa.Lb Go.Proofs.Ytmeoiennniknlaa.Sums
set_option linter.unusedVariables false
set_option linter.unusedSimpArgs false

/-- All frames at the beginning of words, how many words they take. -/
def allR (e : Int) : Nat → Nat → List Int → List Fr × Nat
  | 0, _, _ => ([], 0)
  | g + 1, n, l => match getR e (n : Int) l with
    | none => ([], 0)
    | some (f, m) => (f :: (allR e g (n + 1) (l.drop m)).1, m + (allR e g (n + 1) (l.drop m)).2)

theorem getR_facts {e n : Int} {l : List Int} {f : Fr} {m : Nat} (h : getR e n l = some (f, m)) : m = 1 + f.f1.length ∧ m ≤ l.length ∧ f.f1.length ≤ 2000 ∧ (WS l → WS f.f1) ∧ 0 ≤ f.f0 := by
  by_cases h0 : l.length = 0 ∨ numB e = false ∨ numB n = false
  · rw [getR_none h0] at h; cases h
  · rw [getR_some h0 rfl rfl rfl rfl] at h
    split at h
    · cases h
    · rename_i h1
      simp only [not_or] at h1
      obtain ⟨h2, h3, _⟩ := h1
      simp only [Option.some.injEq, Prod.mk.injEq] at h
      obtain ⟨rfl, rfl⟩ := h
      have hm := mayB_true.1 ((Bool.not_eq_false _).mp h3)
      obtain ⟨M, hM⟩ : ∃ M, (l.getD 0 0).toNat / 4294967296 % 16777216 = M := ⟨_, rfl⟩
      rw [hM] at h2 hm ⊢
      refine ⟨?_, by omega, ?_, ?_, ?_⟩
      · simp only [List.length_drop, List.length_take]; omega
      · simp only [List.length_drop, List.length_take]; omega
      · intro hl y hy
        exact hl y (List.mem_of_mem_take (List.mem_of_mem_drop hy))
      · show (0 : Int) ≤ ((_ : Nat) : Int); omega

theorem infoFr : (Try.prog.info? 40).map (fun i => (i.zero, i.size, i.bytes)) = some (some (.agg #[(.int .i64 0), (.slice none 0 0)]), kF.sz, 32) := PFramesGet.info40

/-- What stands at a round of All: what is told so far, what is to come. -/
def Told (e : Int) (l : List Int) (T : List Fr × Nat) (g : Nat) (fs : List Fr) (pos : Nat) : Prop :=
  fs ++ (allR e g fs.length (l.drop pos)).1 = T.1 ∧ pos + (allR e g fs.length (l.drop pos)).2 = T.2 ∧ pos ≤ l.length ∧ l.length - pos < g ∧ fs.length ≤ pos
theorem Told.none {e : Int} {l : List Int} {T : List Fr × Nat} {g : Nat} {fs : List Fr} {pos : Nat} (h : Told e l T g fs pos) (hg : getR e (fs.length : Int) (l.drop pos) = none) : T = (fs, pos) := by
  obtain ⟨h1, h2, h3, h4, h5⟩ := h
  obtain ⟨g, rfl⟩ : ∃ g', g = g' + 1 := ⟨g - 1, by omega⟩
  rw [allR, hg] at h1 h2
  simp at h1 h2
  rw [Prod.ext_iff]; exact ⟨h1.symm, h2.symm⟩
theorem Told.some {e : Int} {l : List Int} {T : List Fr × Nat} {g : Nat} {fs : List Fr} {pos : Nat} {f : Fr} {m : Nat} (h : Told e l T g fs pos) (hg : getR e (fs.length : Int) (l.drop pos) = some (f, m)) : 0 < g ∧ Told e l T (g - 1) (fs ++ [f]) (pos + m) := by
  obtain ⟨h1, h2, h3, h4, h5⟩ := h
  obtain ⟨g, rfl⟩ : ∃ g', g = g' + 1 := ⟨g - 1, by omega⟩
  have hf := getR_facts hg
  rw [List.length_drop] at hf
  rw [allR, hg] at h1 h2
  simp only at h1 h2
  have e1 : (fs ++ [f]).length = fs.length + 1 := by simp
  rw [Nat.add_sub_cancel]
  refine ⟨by omega, ?_, ?_, by omega, by omega, by omega⟩
  · rw [e1, ← List.drop_drop, List.append_assoc]; exact h1
  · rw [e1, ← List.drop_drop, Nat.add_assoc]; exact h2

/-- The answer of All. -/
def AllP (w : World) (T : List Fr × Nat) (en : Ending) (w' : World) : Prop :=
  ∃ A c, en = .returned (.tuple #[.slice A T.1.length c, .int .i64 (T.2 : Int)]) ∧ kF.R 40 w' w.heap.size (fun _ => True) (.slice A T.1.length c) T.1 ∧ Below w.heap.size w w'

theorem cut_words (A : Option Addr) (c : Nat) (l : List Int) (hc : l.length ≤ c) (pos : Nat) (hp : pos ≤ l.length) : ∃ A', (∀ W : World, (Instr.slice 23 (.slice A l.length c) (some (.int .i64 (pos : Int))) none none).run Try.prog W = .ok (.slice A' (l.drop pos).length (c - pos)) W) ∧
    ∀ w : World, (Kd.int .u64).C w A l.length l → (Kd.int .u64).C w A' (l.drop pos).length (l.drop pos) := by
  obtain ⟨i0, hi0, hsz0⟩ := info_u64
  obtain ⟨A', h1, h2⟩ := print_cut_of (P := Try.prog) (Value.int .u64) (0 : Int) 23 30 .i64 Try.underlying23 hi0 hsz0 A l.length c pos hp
  refine ⟨A', fun W => by rw [List.length_drop]; exact h1 W, fun w h => ?_⟩
  have h3 := h2 w l hc (Kd.reads_of_C h)
  rw [List.length_drop]
  exact Kd.C_of_reads (h1 := fun _ => rfl) h3

set_option maxRecDepth 100000 in
set_option maxHeartbeats 2000000 in
theorem refAll_any (w : World) (e : Int) (A0 : Option Addr) (c0 : Nat) (l : List Int) (hl : WS l) (hm : l.length ≤ 1000000000) (hc : l.length ≤ c0) (hC : (Kd.int .u64).C w A0 l.length l) :
    Calls Try.prog 37 #[.int .i64 e, .slice A0 l.length c0] w (AllP w (allR e (l.length + 1) 0 l)) := by
  have HC := Lib.hid hC
  have HL := Lib.hid hl
  have HB := Lib.hid (Below.refl w.heap.size w)
  obtain ⟨T, hT⟩ : ∃ T, T = allR e (l.length + 1) 0 l := ⟨_, rfl⟩
  have HT := Lib.hid (show Told e l T (l.length + 1) [] 0 by rw [hT]; exact ⟨by simp, by simp, by omega, by omega, by simp⟩)
  rw [← hT]
  have Hm := Lib.hid hm
  have Hc := Lib.hid hc
  clear hC hl hT hm hc
  go_enter Try.func37, Try.ntmps37
  go_wp2
  go_loopg [6, 7] (l.length + 1) (fun kq v6 v7 wr => ∃ (fs : List Fr) (pos : Nat) (A : Option Addr) (c : Nat), v6 = .slice A fs.length c ∧ v7 = .int .i64 (pos : Int) ∧ Hid (kF.R 40 wr w.heap.size (fun _ => True) (.slice A fs.length c) fs) ∧ Hid (Told e l T kq fs pos) ∧ Hid (Below w.heap.size w wr))
  case atStart => exact ⟨[], 0, none, 0, rfl, rfl, Lib.hid (Kd.R_nil _ _ _ _ _), HT, HB⟩
  case round =>
    obtain ⟨fs, pos, A, c, rfl, rfl, HR, Ht, Hb⟩ := hrel
    obtain ⟨A', hcut, hA'⟩ := cut_words A0 c0 l Hc.out pos Ht.out.2.2.1
    obtain ⟨ls, hls⟩ : ∃ ls, l.drop pos = ls := ⟨_, rfl⟩
    rw [hls] at hcut hA'
    have Hls := Lib.hid hls
    have HCr := Lib.hid (hA' wr (Kd.C_below HC.out Hb.out))
    have hget := refGet_any wr e (fs.length : Int) A' (c0 - pos) ls (fun y hy => HL.out y (List.mem_of_mem_drop (by rw [hls]; exact hy))) (by have := Hm.out; rw [← hls, List.length_drop]; omega) (by have := Hc.out; rw [← hls, List.length_drop]; omega) HCr.out
    have hposc : pos ≤ c0 := Nat.le_trans Ht.out.2.2.1 Hc.out
    clear hls hA' HCr
    cases hg : getR e (fs.length : Int) ls with
    | none =>
      rw [hg] at hget
      have Hget := Lib.hid hget
      have hTe := Ht.out.none (by rw [Hls.out]; exact hg)
      have HTe := Lib.hid hTe
      clear hget hg hTe hposc
      go_wp2_with (go_at_call 35; (with_reducible refine Hget.out.mono ?_); rintro en w2 ⟨rfl, hb⟩; have Hb2 := Lib.hid (Hb.out.trans (hb.mono Hb.out.size)); have HR2 := Lib.hid (Kd.R_below HR.out hb); clear hb)
      rw [HTe.out]
      exact bodyPost_ret (v := .tuple #[.slice A fs.length c, .int .i64 (pos : Int)]) (by simp [results, Try.results37, go_sem]) rfl ⟨A, c, rfl, Kd.R_below HR2.out ((Below.refl _ _).alloc (Nat.le_refl _) _), Hb2.out.alloc Hb2.out.size _⟩
    | some fm =>
      obtain ⟨f, m⟩ := fm
      rw [hg] at hget
      have Hget := Lib.hid hget
      have hf := getR_facts hg
      have hTs := Ht.out.some (by rw [Hls.out]; exact hg)
      have hwr : wrap64 ((pos : Int) + (m : Int)) = (pos : Int) + (m : Int) := by
        have h1 := hTs.2.2.2.1
        have h2 := Hm.out
        unfold wrap64; omega
      have Hf := Lib.hid hf
      have HTs := Lib.hid hTs
      have Hfs : Hid (fs.length ≤ 1000000000) := Lib.hid (by have := Ht.out.2.2; have := Hm.out; omega)
      clear hget hg hTs hposc hf
      go_wp2_with (first
        | (go_at_call 35; (with_reducible refine Hget.out.mono ?_); rintro en w2 ⟨A1, c1, rfl, hl1, hC1, hR1, hb⟩; have HR1 := Lib.hid hR1; have Hb1 := Lib.hid hb; clear hb hR1 hC1)
        | (at_builtin; go_loud (refine Kd.R_append kF (w0 := w) w.heap.size rfl _ _ 42 40 _ 32 rfl Try.underlying42 infoFr rfl (by decide) (by decide) _ fs f [.int .i64 f.f0, .slice A1 f.f1.length c1] (fun _ => True) (fun k => wr.heap.size ≤ k) rfl (by simp [go_sem]) ?_ ?_ (fun _ _ => trivial) ?_ ?_ ?_ ?_ ?_); rotate_right; intro v1 w3 hR3 hb3 _ _; obtain ⟨A2, c2, rfl, hl2, _⟩ := Kd.R_reads hR3; have HR3 := Lib.hid hR3; have Hb3 := Lib.hid hb3; clear hR3 hb3))
      case refine_1 => exact PFramesGet.k40_mkM _ _ _ f (Kd.R_below (Kd.R_lower (Kd.R_mono (Kd.R_bound HR1.out) (fun k hk => hk.2.1)) Hb.out.size) ((Below.refl _ _).alloc (Nat.le_refl _) _))
      case refine_2 =>
        intro k hk
        refine ⟨trivial, fun e1 => ?_⟩
        have h := Kd.R_lt HR.out k e1.symm
        omega
      case refine_3 => exact Kd.R_below (Kd.R_below HR.out Hb1.out) ((Below.refl _ _).alloc (Nat.le_refl _) _)
      case refine_4 => exact (Hb.out.trans (Hb1.out.mono Hb.out.size)).alloc (Nat.le_trans Hb.out.size Hb1.out.size) _
      case refine_5 => rw [World.size_alloc]; have := Hb.out.size; have := Hb1.out.size; omega
      case refine_6 => have := Hfs.out; omega
      · go_roundg (gk - 1)
        case measure => have := HTs.out.1; omega
        case rel => exact ⟨fs ++ [f], pos + m, A2, c2, by simp, by simp [hwr], HR3, Lib.hid HTs.out.2, Hb3⟩
end Go.Proofs.Ytmeoiennniknlaa.Frames
