/- The contract of frames.All. -/
import Derived.Test.YtmeoiennniknlaaFrStream
import Derived.OwnWalkIn
namespace Go.Proofs.Ytmeoiennniknlaa.Frames
open Go.RowKit Go.Shelf Go.Proofs.YtmeoiennniknlaaW.PrintWords Go.Proofs.Ytmeoiennniknlaa.Lb Go.Proofs.Ytmeoiennniknlaa.Sums
attribute [local go_sem] Oper.semAt_some
set_option linter.unusedVariables false
set_option linter.unusedSimpArgs false

def It.cells (x : It) : List Value := [.int .i64 x.f.f0, .slice x.A x.f.f1.length x.c]
def lastPos (xs : List It) : Nat := (xs.getLast?.map (·.pos)).getD 0

/-- What stands between two rounds of All: b its first box. -/
structure AI (w : World) (e : Int) (A0 : Option Addr) (n c0 : Nat) (b : Nat) (xs : List It) (W : World) : Prop where
  out : ∃ v, Boxed W b 42 v ∧ W.ownsRow w.heap.size 40 2 v xs.length (xs.flatMap It.cells) ∧ True
  last : Boxed W (b + 1) 3 (.int .i64 (lastPos xs : Int))
  box0 : Boxed W (b + 2) 3 (.int .i64 e)
  box1 : Boxed W (b + 3) 23 (.slice A0 n c0)
  below : Below w.heap.size w W
theorem Boxed.cellsKept {W W' : World} {B : Nat} {t : TypeId} {v : Value} {row : Option Nat} (h : Boxed W B t v) (hg : W.grownBy W' row) (hr : ∀ r, row = some r → ∃ o : Obj, W.heap[r]? = some o ∧ o.isCells = false) : Boxed W' B t v :=
  h.kept hg (fun e' => by
    obtain ⟨o, ho, hc⟩ := hr B e'.symm
    rw [show W.heap[B]? = _ from h] at ho; cases ho; cases hc)
theorem AI.own {w : World} {e : Int} {A0 : Option Addr} {n c0 b : Nat} {B : Nat} (hB : w.heap.size ≤ B) : OwnFrom B (AI w e A0 n c0 b) := by
  intro xs X Y row h hg hr
  have hr2 : ∀ r, row = some r → ∃ o : Obj, X.heap[r]? = some o ∧ o.isCells = false := fun r hrr => (hr r hrr).2
  exact ⟨holdsRow_own w.heap.size b 42 40 2 (fun xs : List It => xs.length) (fun xs => xs.flatMap It.cells) (fun _ _ => True) xs X Y row h.out hg hr2,
    Boxed.cellsKept h.last hg hr2, Boxed.cellsKept h.box0 hg hr2, Boxed.cellsKept h.box1 hg hr2, ownFrom_below (β := Unit) (Nat.le_refl _) hB () X Y row h.below hg hr⟩
theorem Done.own {T : List Fr × Nat} {B : Nat} : OwnFrom B (Done T) := by
  intro xs X Y row h hg hr
  refine ⟨h.1, h.2.1, fun x hx => ok_step (h.2.2 x hx) fun k cs hk => ?_⟩
  refine (hg.block k (Array.getElem?_eq_some_iff.1 hk).1 ?_).trans hk
  intro e
  obtain ⟨_, o, ho, hc⟩ := hr k e.symm
  rw [hk] at ho
  cases ho
  simp [Obj.isCells] at hc

/-- The answer of frames.All. -/
def AllC (w : World) (T : List Fr × Nat) (en : Ending) (w' : World) : Prop :=
  ∃ A c, en = .returned (.tuple #[.slice A T.1.length c, .int .i64 (T.2 : Int)]) ∧ T.1.length ≤ c ∧ kF.C w' A T.1.length T.1 ∧ Below w.heap.size w w'

set_option maxRecDepth 100000 in
set_option maxHeartbeats 400000 in
theorem stream_any (w : World) (e : Int) (A0 : Option Addr) (n c0 : Nat) :
    Calls Try.prog 75 #[.int .i64 e, .slice A0 n c0] w fun en w' => en = .returned (.func (.func 99) #[] #[.pointer (some ⟨w.heap.size, 0, none⟩), .pointer (some ⟨w.heap.size + 1, 0, none⟩)]) ∧
      w' = (w.alloc (.cells #[.int .i64 e] 3)).alloc (.cells #[.slice A0 n c0] 23) := by
  go_enter Try.func75, Try.ntmps75
  go_wp2
  go_ret
  exact ⟨by simp, rfl⟩

theorem Keep.ofBelow {n0 s : Nat} {W W' : World} (h0 : n0 ≤ W.heap.size) (hs : s + 1 < W.heap.size) (h : Below W.heap.size W W') : Keep n0 s W W' :=
  ⟨h.mono h0, fun k hk => h.block k (by omega), fun k cs hk => (h.block k (Array.getElem?_eq_some_iff.1 hk).1).trans hk⟩
theorem lastPos_snoc (xs : List It) (x : It) : lastPos (xs ++ [x]) = x.pos := by simp [lastPos]

/-- Behind a round's append and its two stores. -/
theorem AI.next {w : World} {e : Int} {A0 : Option Addr} {n c0 b : Nat} {pre : List It} {W w1 : World} (hI : AI w e A0 n c0 b pre W) (hwb : w.heap.size ≤ b) (x : It) {v v' : Value} {tmp : Obj} (hv : Boxed W b 42 v) (hrow : W.ownsRow w.heap.size 40 2 v pre.length (pre.flatMap It.cells))
    (hown : w1.ownsRow w.heap.size 40 2 v' (pre.length + 1) (pre.flatMap It.cells ++ x.cells)) (hgrow : (W.alloc tmp).grownBy w1 v.ownBlock) :
    KeepsOthers W ((w1.setCell ⟨b, 0, none⟩ v').setCell ⟨b + 1, 0, none⟩ (.int .i64 (x.pos : Int))) ∧ Keep w.heap.size (b + 2) W ((w1.setCell ⟨b, 0, none⟩ v').setCell ⟨b + 1, 0, none⟩ (.int .i64 (x.pos : Int))) ∧
      AI w e A0 n c0 b (pre ++ [x]) ((w1.setCell ⟨b, 0, none⟩ v').setCell ⟨b + 1, 0, none⟩ (.int .i64 (x.pos : Int))) := by
  have hW : w.heap.size ≤ W.heap.size := hI.below.size
  obtain ⟨g1, g2, g3, g4, g5⟩ := hv.appended (by decide) hrow hW hwb hown hgrow
  have hlast1 : Boxed w1 (b + 1) 3 (.int .i64 (lastPos pre : Int)) := (hI.last.alloc tmp).kept hgrow (hI.last.not_row (by decide) hrow)
  have hx0 : Boxed w1 (b + 2) 3 (.int .i64 e) := (hI.box0.alloc tmp).kept hgrow (hI.box0.not_row (by decide) hrow)
  have hx1 : Boxed w1 (b + 3) 23 (.slice A0 n c0) := (hI.box1.alloc tmp).kept hgrow (hI.box1.not_row (by decide) hrow)
  have hl2 : Boxed (w1.setCell ⟨b, 0, none⟩ v') (b + 1) 3 (.int .i64 (lastPos pre : Int)) := hlast1.other (by omega) _
  have hb : Below w.heap.size W ((w1.setCell ⟨b, 0, none⟩ v').setCell ⟨b + 1, 0, none⟩ (.int .i64 (x.pos : Int))) := g5.setCell (p := ⟨b + 1, 0, none⟩) (by show w.heap.size ≤ b + 1; omega) _
  have hx0' : Boxed ((w1.setCell ⟨b, 0, none⟩ v').setCell ⟨b + 1, 0, none⟩ (.int .i64 (x.pos : Int))) (b + 2) 3 (.int .i64 e) := (hx0.other (by omega) _).other (by omega) _
  have hx1' : Boxed ((w1.setCell ⟨b, 0, none⟩ v').setCell ⟨b + 1, 0, none⟩ (.int .i64 (x.pos : Int))) (b + 3) 23 (.slice A0 n c0) := (hx1.other (by omega) _).other (by omega) _
  refine ⟨g4.trans (KeepsOthers.setCell _ _ _), ⟨hb, ?_, ?_⟩, ⟨⟨v', g2.other (by omega) _, ?_, trivial⟩, ?_, hx0', hx1', hI.below.trans hb⟩⟩
  · rintro k (rfl | rfl)
    · exact (show _ = _ from hx0').trans (show _ = _ from hI.box0).symm
    · exact (show _ = _ from hx1').trans (show _ = _ from hI.box1).symm
  · intro k cs hk
    have hkl : k < W.heap.size := (Array.getElem?_eq_some_iff.1 hk).1
    have hne : ∀ (t : TypeId) (B : Nat) (u : Value), t ≠ 30 → Boxed W B t u → k ≠ B := by
      rintro t B u ht hB rfl
      rw [show W.heap[k]? = _ from hB] at hk
      injection hk with hk
      injection hk with _ hk _
      exact ht hk
    have hne3 : some k ≠ v.ownBlock := by
      intro h
      obtain ⟨cells, hc⟩ := own_typed hrow k h.symm
      rw [hc] at hk
      injection hk with hk
      injection hk with _ hk _
      exact absurd hk (by decide)
    rw [Below.heap_setCell _ _ _ _ (hne _ _ _ (by decide) hI.last), Below.heap_setCell _ _ _ _ (hne _ _ _ (by decide) hv), hgrow.block k (by simp; omega) hne3, Below.heap_alloc _ _ _ hkl]
    exact hk
  · rw [List.length_append, List.flatMap_append]
    simp only [List.flatMap_cons, List.flatMap_nil, List.append_nil, List.length_cons, List.length_nil, Nat.zero_add]
    exact g3.kept (grownBy_setCell' _ _ _) (.inr (Ne.symm (hl2.not_row (by decide) g3)))
  · rw [lastPos_snoc]; exact hl2.set _

theorem its_reps {W : World} : ∀ (xs : List It), (∀ x ∈ xs, x.ok W) → Reps (kF.K W) 2 (xs.map (·.f)) (xs.flatMap It.cells)
  | [], _ => Reps.none _ _
  | x :: xs, h => by
    have h1 := h x List.mem_cons_self
    have hx : Reps (kF.K W) 2 [x.f] x.cells := by
      have := (Reps.none (kF.K W) 2).snoc (p := x.f) (c := x.cells) (PFramesGet.k40_mk W x.f h1.1 (Kd.R_reads' h1.2).2.2) rfl
      simpa using this
    have := Kd.reps_append hx (its_reps xs (fun y hy => h y (List.mem_cons_of_mem _ hy)))
    simpa using this

set_option maxRecDepth 100000 in
set_option maxHeartbeats 2000000 in
theorem all_in (n : Nat) (hn : 3 ≤ n) (w : World) (e : Int) (A0 : Option Addr) (c0 : Nat) (l : List Int) (hl : WS l) (hm : l.length ≤ 1000000000) (hc : l.length ≤ c0) (hC : (Kd.int .u64).C w A0 l.length l) :
    CallsIn Fence.wide n Try.prog 36 #[.int .i64 e, .slice A0 l.length c0] w (AllC w (allR e (l.length + 1) 0 l)) := by
  obtain ⟨T, hT⟩ : ∃ T, T = allR e (l.length + 1) 0 l := ⟨_, rfl⟩
  rw [← hT]
  have HT := Lib.hid hT
  have HC := Lib.hid hC
  have HL := Lib.hid hl
  have Hm := Lib.hid hm
  have Hc := Lib.hid hc
  have h1 : 1 ≤ n := by omega
  clear hT hC hl hm hc
  refine callsIn_of_wp_marks Try.func36 rfl trivial ?_ rfl
  simp only [Try.ntmps36, List.size_toArray, List.length_cons, List.length_nil, Nat.reduceAdd, Nat.reduceSub, Array.replicate_succ, Array.replicate_zero, List.push_toArray, List.append_toArray, List.nil_append, List.cons_append]
  gi_wp2_with (first | (refine ⟨trivial, ?_⟩; gi_at_call 75; refine (callsIn_wide.2 (stream_any _ _ _ _ _)).mono ?_; rintro en w' ⟨rfl, rfl⟩) | (gi_at_call 75; refine (callsIn_wide.2 (stream_any _ _ _ _ _)).mono ?_; rintro en w' ⟨rfl, rfl⟩))
  obtain ⟨W4, hW4⟩ : ∃ W4, W4 = (((w.alloc (.cells #[.slice none 0 0] 42)).alloc (.cells #[.int .i64 0] 3)).alloc (.cells #[.int .i64 e] 3)).alloc (.cells #[.slice A0 l.length c0] 23) := ⟨_, rfl⟩
  have hsz : W4.heap.size = w.heap.size + 4 := by rw [hW4]; simp
  have hB4 : Below w.heap.size w W4 := by
    rw [hW4]
    exact ((((Below.refl _ w).alloc (Nat.le_refl _) _).alloc (by simp) _).alloc (by simp; omega) _).alloc (by simp; omega) _
  have hI4 : AI w e A0 l.length c0 w.heap.size [] W4 := by
    refine ⟨⟨.slice none 0 0, ?_, ⟨rfl, Or.inl ⟨rfl, rfl⟩⟩, trivial⟩, ?_, ?_, ?_, hB4⟩
    · rw [hW4]; exact (((Boxed.new w _ _).alloc _).alloc _).alloc _
    · rw [hW4]; have := ((Boxed.new (w.alloc (.cells #[.slice none 0 0] 42)) 3 (.int .i64 0)).alloc (.cells #[.int .i64 e] 3)).alloc (.cells #[.slice A0 l.length c0] 23); simpa [lastPos] using this
    · rw [hW4]; have := (Boxed.new ((w.alloc (.cells #[.slice none 0 0] 42)).alloc (.cells #[.int .i64 0] 3)) 3 (.int .i64 e)).alloc (.cells #[.slice A0 l.length c0] 23); simpa using this
    · rw [hW4]; have := Boxed.new (((w.alloc (.cells #[.slice none 0 0] 42)).alloc (.cells #[.int .i64 0] 3)).alloc (.cells #[.int .i64 e] 3)) 23 (.slice A0 l.length c0); simpa using this
  rw [← hW4]
  clear hW4
  refine RangeW.tells h1 (gf := 99) rfl (enters_of Try.func99 (by kernel_rfl) rfl) It.enc (fun _ => rfl) (Keep w.heap.size (w.heap.size + 2)) Keep.trans ?keep l.length (AI w e A0 l.length c0 w.heap.size) (Done T) (AI.own (by omega)) Done.own hI4 ?iter
    (fun x a' W => ∃ b, a' = { tmps := #[.int .i64 e, .slice A0 l.length c0, undef, undef, .slice none 0 0, .int .i64 0, .pointer (some ⟨w.heap.size, 0, none⟩), .pointer (some ⟨w.heap.size + 1, 0, none⟩), .int .i64 (x.pos : Int), .pointer (some ⟨b, 0, none⟩), .int .i64 e, .slice A0 l.length c0, .func (.func 99) #[] #[.pointer (some ⟨w.heap.size + 1 + 1, 0, none⟩), .pointer (some ⟨w.heap.size + 1 + 1 + 1, 0, none⟩)], .int .i64 (x.pos : Int), .agg #[.int .i64 x.f.f0, .slice x.A x.f.f1.length x.c], undef, undef, undef, undef, undef, undef, undef], defers := [] } ∧ W.heap[b]? = some (Obj.cells x.cells.toArray 40 (0, 0))) ?axown ?assign ?body ?done
  case keep =>
    intro W lp o o' h2 h3 h4
    exact Keep.putObj (by omega) (by omega) h3 h4
  case iter =>
    intro lp J W hB hJ hY h0
    have hI' := hI4
    exact stream1_in (n - 1) (by omega) lp (w.heap.size + 2) w e A0 c0 l HL.out Hm.out Hc.out HC.out T HT.out J hJ hY W (hB4.trans (hB.mono (by omega))) (by have := hB.size; omega)
      ((hB.cell (p := ⟨w.heap.size + 2, 0, none⟩) (by show w.heap.size + 2 < _; omega)).trans hI4.box0.cell) ((hB.cell (p := ⟨w.heap.size + 3, 0, none⟩) (by show w.heap.size + 3 < _; omega)).trans hI4.box1.cell) h0
  case axown =>
    rintro x a' _ X Y row ⟨b, ha, hb⟩ hg hr
    refine ⟨b, ha, (hg.block b (Array.getElem?_eq_some_iff.1 hb).1 ?_).trans hb⟩
    intro e1
    obtain ⟨_, o, ho, hc⟩ := hr b e1.symm
    rw [hb] at ho
    cases ho
    simp [Obj.isCells] at hc
  case assign =>
    intro lp pre x W K hI hK
    have HK := Lib.hid hK
    have HI := Lib.hid hI
    clear hK hI
    simp only [It.enc]
    gi_wp2
    refine HK.out _ _ (KeepsOthers.alloc _ _) (Keep.ofBelow HI.out.below.size (by have := HI.out.box1.lt; omega) ((Below.refl _ W).alloc (Nat.le_refl _) _)) ((AI.own (B := w.heap.size) (by omega)).alloc _ HI.out) ⟨W.heap.size, ?_, World.alloc_heap_new W _⟩
    simp
  case body =>
    rintro lp pre x a' W hI ⟨b, rfl, hb⟩ hlen
    obtain ⟨v, hv, hrow, _⟩ := hI.out
    have hb0 : W.cell? ⟨b, 0, none⟩ = some (.int .i64 x.f.f0) := by simp [World.cell?, hb, It.cells]
    have hb1 : W.cell? ⟨b, 1, none⟩ = some (.slice x.A x.f.f1.length x.c) := by simp [World.cell?, hb, It.cells]
    have hvc := hv.cell
    have hbW : w.heap.size ≤ W.heap.size := hI.below.size
    have hpl : pre.length ≤ 1000000000 := by have := Hm.out; omega
    obtain ⟨i0, hi0, hz⟩ := Option.map_eq_some_iff.1 infoFr
    simp only [Prod.mk.injEq] at hz
    obtain ⟨hz0, hz1, hz2⟩ := hz
    have HI := Lib.hid hI
    have Hv := Lib.hid hv
    have Hrow := Lib.hid hrow
    have Hi0 := Lib.hid hi0
    have Hz := Lib.hid (And.intro hz0 (And.intro hz1 hz2))
    have Hpl := Lib.hid hpl
    have HbW := Lib.hid hbW
    have Hnews : Hid (∀ j u, x.cells[j]? = some u → (W.alloc (.cells #[.int .i64 x.f.f0, .slice x.A x.f.f1.length x.c] 40)).cell? ((⟨W.heap.size, 0, none⟩ : Addr).add j) = some u) := Lib.hid (fun j u h => World.news_of_block (cs := x.cells.toArray) (t := 40) (fr := (0, 0)) (heap_alloc_new W (.cells x.cells.toArray 40)) j u (by simpa using h))
    clear hI hv hrow hb hi0 hz0 hz1 hz2 hpl hbW hlen hI4 hB4
    gi_wp2_with (gi_at_builtin; refine wpListIn_append_own (W.alloc (.cells #[.int .i64 x.f.f0, .slice x.A x.f.f1.length x.c] 40)) rfl _ _ 42 rfl w.heap.size 40 i0 (.agg #[.int .i64 0, .slice none 0 0]) 2 32 Try.underlying42 Hi0.out Hz.out.1 Hz.out.2.1 Hz.out.2.2 rfl (by decide) v pre.length (pre.flatMap It.cells) rfl (Hrow.out.alloc _) ⟨W.heap.size, 0, none⟩ 1 1 x.cells (by simp [go_sem]) rfl Hnews.out (by intro u hu; simp [It.cells] at hu; rcases hu with rfl | rfl <;> rfl) (by have := Hpl.out; simp only [maxLen]; omega) (by have := Hpl.out; omega) (by have := HbW.out; simp; omega) ?_; intro v' w1 hown hgrow _; obtain ⟨g, cap, rfl⟩ := ownsRow_succ hown; have Hown := Lib.hid hown; have Hgrow := Lib.hid hgrow; have d0 := ((Hv.out.alloc (.cells #[.int .i64 x.f.f0, .slice x.A x.f.f1.length x.c] 40)).kept hgrow (Hv.out.not_row (by decide) Hrow.out)).cell; have d1 := ((Hv.out.alloc (.cells #[.int .i64 x.f.f0, .slice x.A x.f.f1.length x.c] 40)).kept hgrow (Hv.out.not_row (by decide) Hrow.out)).frozen; have d2 := ((HI.out.last.alloc (.cells #[.int .i64 x.f.f0, .slice x.A x.f.f1.length x.c] 40)).kept hgrow (HI.out.last.not_row (by decide) Hrow.out)).cell; have d3 := ((HI.out.last.alloc (.cells #[.int .i64 x.f.f0, .slice x.A x.f.f1.length x.c] 40)).kept hgrow (HI.out.last.not_row (by decide) Hrow.out)).frozen; clear hown hgrow)
    exact HI.out.next (Nat.le_refl _) x Hv.out Hrow.out Hown.out Hgrow.out
  case done =>
    intro D xs W hD hDone hI hK
    have hsl : ∀ V, Done T xs V → AI w e A0 l.length c0 w.heap.size xs V → ∃ A c, Boxed V w.heap.size 42 (.slice A T.1.length c) ∧ T.1.length ≤ c ∧ kF.C V A T.1.length T.1 := by
      intro V h2 h3
      obtain ⟨v, hv, hrow, _⟩ := h3.out
      obtain ⟨A, c, rfl, g1, g2⟩ := OwnRow.reads (R := kF.K V) (size := 2) (w := V) (base := w.heap.size) (e := 40) (v := v) (ps := xs.map (·.f)) ⟨xs.flatMap It.cells, by simpa using hrow, its_reps xs h2.2.2⟩
      rw [h2.1] at hv g1 g2
      exact ⟨A, c, hv, g1, g2⟩
    obtain ⟨A, c, hv, g1, g2⟩ := hsl W hDone hI
    have hvc := hv.cell
    have hlc := hI.last.cell
    rw [show lastPos xs = T.2 from hDone.2.1] at hlc
    have Hsl := Lib.hid hsl
    have HI := Lib.hid hI
    have HD := Lib.hid hDone
    have HK := Lib.hid hK
    have Hv := Lib.hid hv
    clear hsl hI hDone hK hv g1 g2 hB4 hI4
    gi_wp2
    refine wpIn_wide.2 ?_
    go_quiet (fail)
    gi_wp2
    refine ⟨by simp, .inl ⟨_, _, rfl, run_takeDeferred (w := W.drewN nq) HK.out, ?_⟩⟩
    refine ⟨.tuple #[.slice A T.1.length c, .int .i64 (T.2 : Int)], by simp [results, Try.results36, go_sem], ?_⟩
    have hk' : (W.drewN nq).heap[D]? = some (.deferred (some [])) := HK.out
    have hg : W.grownBy (W.drewN nq) none := ⟨rfl, rfl, rfl, Nat.le_refl _, fun _ _ _ => rfl⟩
    have o1 : OwnFrom w.heap.size (AI w e A0 l.length c0 w.heap.size) := AI.own (Nat.le_refl _)
    have o2 : OwnFrom w.heap.size (Done T) := Done.own
    have i1 := o1.putObj (.deferred none) (o1 _ _ _ none HI.out hg (fun r h => by cases h)) (by omega) hk' rfl
    have i2 := o2.putObj (.deferred none) (o2 _ _ _ none HD.out hg (fun r h => by cases h)) (by omega) hk' rfl
    obtain ⟨A2, c2, hv2, g1, g2⟩ := Hsl.out _ i2 i1
    have hne : w.heap.size ≠ D := by
      rintro rfl
      rw [show (W.drewN nq).heap[w.heap.size]? = _ from Hv.out] at hk'
      cases hk'
    have e1 : some (Obj.cells #[Value.slice A2 T.1.length c2] 42 (0, 0)) = some (Obj.cells #[Value.slice A T.1.length c] 42 (0, 0)) := (show _ = _ from hv2).symm.trans ((World.putObj_heap_other hne).trans (show (W.drewN nq).heap[w.heap.size]? = _ from Hv.out))
    simp only [Option.some.injEq, Obj.cells.injEq, Array.mk.injEq, List.cons.injEq, Value.slice.injEq, and_true, true_and] at e1
    obtain ⟨rfl, rfl⟩ := e1
    exact ⟨A2, c2, rfl, g1, g2, i1.below⟩
end Go.Proofs.Ytmeoiennniknlaa.Frames
