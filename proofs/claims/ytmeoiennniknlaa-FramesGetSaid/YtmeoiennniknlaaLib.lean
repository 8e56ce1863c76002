/- Small laws for walks: append, literals, with the result's length as the caller spells it. -/
import Derived.Test.YtmeoiennniknlaaWWords
import Derived.Lib.Hide
namespace Go.Proofs.Ytmeoiennniknlaa.Lb
open Go.RowKit Go.Proofs.YtmeoiennniknlaaW.PrintWords
set_option linter.unusedVariables false
set_option linter.unusedSimpArgs false

/-- Lists of numbers as the model has them. -/
def il (l : List Nat) : List Int := l.map fun (n : Nat) => (n : Int)
theorem il_length (l : List Nat) : (il l).length = l.length := by simp [il]
theorem il_append (a b : List Nat) : il (a ++ b) = il a ++ il b := by simp [il]
theorem il_cons (a : Nat) (b : List Nat) : il (a :: b) = (a : Int) :: il b := by simp [il]
theorem rd_il (l : List Nat) (k : Nat) (h : k < l.length) : rd (il l) (k : Int) = ((l[k] : Nat) : Int) := by
  simp [rd, il, List.getD_eq_getElem?_getD, h]
/-- A list of such, out of numbers that are such. -/
theorem il_of (l : List Int) (h : ∀ x ∈ l, 0 ≤ x) : il (l.map Int.toNat) = l := by
  unfold il
  rw [List.map_map]
  conv => rhs; rw [← List.map_id l]
  apply List.map_congr_left
  intro x hx
  have := h x hx
  simp [Function.comp]
  omega

/-- A slice of whole numbers that is read, by its cells. -/
theorem C_of_cells (k : IntKind) {w : World} {ad : Addr} {l : List Int} (hn : l.length ≤ 9223372036854775807) (h : ∀ j (hj : j < l.length), w.cell? (ad.add j) = some (.int k l[j])) : (Kd.int k).C w (some ad) l.length l := by
  refine ⟨rfl, hn, fun _ => ⟨ad, rfl, fun j p hp => ⟨[.int k p], rfl, rfl, fun i u hu => ?_⟩⟩⟩
  obtain ⟨hj, rfl⟩ := List.getElem?_eq_some_iff.1 hp
  have hi : i = 0 := by
    rcases i with _ | i
    · rfl
    · simp at hu
  subst hi
  simp at hu
  subst hu
  have := h j hj
  simpa [Kd.int, Kd.scalar] using this

/-- A row of whole numbers of one's own: where it lies, what a store makes of it. -/
theorem R_form {k : IntKind} {e : TypeId} {w : World} {base : Nat} {A1 : Option Addr} {c1 L : Nat} {zs : List Int} (h : (Kd.int k).R e w base (fun _ => True) (.slice A1 L c1) zs) (hL : 0 < L) (hz : zs.length = L) :
    ∃ g, A1 = some ⟨g, 0, none⟩ ∧ base ≤ g ∧ (∀ i, i < L → w.cell? ⟨g, i, none⟩ = some (.int k (zs.getD i 0)) ∧ w.frozen? ⟨g, i, none⟩ = false) ∧
      (∀ i x, i < L → (Kd.int k).R e (w.setCell ⟨g, i, none⟩ (.int k x)) base (fun _ => True) (.slice (some ⟨g, 0, none⟩) L c1) (zs.set i x)) := by
  have ho := Kd.own_of_R h
  have ho' : w.ownsRow base e 1 (.slice A1 L c1) L (nums k zs) := by rw [hz] at ho; exact ho
  obtain ⟨g, cap, hv, hgb, hgl⟩ := ho'.form hL
  simp only [Value.slice.injEq] at hv
  obtain ⟨rfl, _, rfl⟩ := hv
  refine ⟨g, rfl, hgb, fun i hi => ?_, fun i x hi => ?_⟩
  · have := own_at ho' (i : Int) (by omega) (by omega)
    simpa [rd] using this
  · have hs := (own_store ho' (i : Int) x).1
    simp only [Int.toNat_natCast] at hs
    refine Kd.R_of_own ?_ (fun _ _ => trivial)
    have e1 : (zs.set i x).length = L := by rw [List.length_set, hz]
    rw [e1]; exact hs

/-- xs[a:b] of a slice that isn't nil. -/
theorem mid_ints {P : Program} (t e : TypeId) {i : TypeInfo} (k : IntKind) (ht : P.underlying t = some (.slice e)) (hi : P.info? e = some i) (hsz : i.size = 1) (ad : Addr) (c : Nat) (l : List Int) (a b : Nat) (hab : a ≤ b) (hb : b ≤ l.length) (hc : l.length ≤ c) :
    ∃ ad', (∀ W : World, (Instr.slice t (.slice (some ad) l.length c) (some (.int .i64 (a : Int))) (some (.int .i64 (b : Int))) none).run P W = .ok (.slice (some ad') (b - a) (c - a)) W) ∧
      (∀ w : World, (Kd.int k).C w (some ad) l.length l → (Kd.int k).C w (some ad') (b - a) ((l.take b).drop a)) := by
  refine ⟨if c = a then ad else ad.add a, fun W => ?_, fun w h => ?_⟩
  · have hel : P.elem t = e := by simp [Program.elem, ht]
    have hu : P.underlying t = some (.slice (P.elem t)) := by rw [hel]; exact ht
    rw [run_slice_lh W t (some ad) l.length c hu .i64 .i64 (a : Int) (b : Int) (by omega) (by omega) (by omega), hel]
    by_cases h : c = a <;> simp [sizeOf, typeInfo, hi, hsz, sliced, Result.andThen, h]
  · have h1 : ReadsOf (Value.int k) (0 : Int) w (some ad) l.length l := Kd.reads_of_C h
    have h2 := (h1.take_ b hb).drop_ (c := c) a hab (by omega)
    have h3 := Kd.C_of_reads (h1 := fun _ => rfl) h2
    have e1 : (if c = a then some ad else (some ad).map (·.add a)) = some (if c = a then ad else ad.add a) := by
      by_cases h : c = a <;> simp [h]
    rw [e1] at h3
    exact h3

section
variable {P : Program} {ops : Array Oper} {rest : List Oper} {o : Oper} {a : Act} {Q : Exit → Act → World → Prop}

theorem below_base {B : Nat} {w0 W w1 : World} (h : Below B w0 W) : B ≤ w0.heap.size → B ≤ W.heap.size := fun hb => Nat.le_trans hb h.size

/-- append(v, ys...): whole numbers. -/
theorem app_ints {w0 W : World} (k : IntKind) (t e : TypeId) (bytes : Nat) (ht : P.underlying t = some (.slice e)) (hinfo : (P.info? e).map (fun i => (i.zero, i.size, i.bytes)) = some (some (.int k 0), 1, bytes)) (hb0 : 0 < bytes)
    (hgd : o.guard = none) (s x : Operand) (ho : o.op = .call { callee := .builtin .append, args := #[s, x], argTypes := #[t, t] })
    (v : Value) (xs ys zs : List Int) (A : Option Addr) (m c L : Nat) (hs : a.eval s = v) (hx : a.eval x = .slice A m c)
    (HO : (Kd.int k).R e W w0.heap.size (fun _ => True) v xs) (HR : (Kd.int k).C W A m ys) (HB : Below w0.heap.size w0 W) (hz : xs ++ ys = zs) (hL : zs.length = L) (hl : L * bytes ≤ 140737488355328)
    (h : ∀ A1 c1 w1, L ≤ c1 → (Kd.int k).C w1 A1 L zs → (Kd.int k).R e w1 w0.heap.size (fun _ => True) (.slice A1 L c1) zs → Below w0.heap.size w0 w1 → wpList P ops Q rest (a.put o.dst (.slice A1 L c1)) w1) :
    wpList P ops Q (o :: rest) a W := by
  have hm : ys.length = m := HR.1
  refine Kd.R_append_row (Value.int k) 0 (w0 := w0) w0.heap.size hgd s x t e (.int k 0) bytes ho ht hinfo rfl hb0 v xs ys A m c (fun _ => True) hs hx (fun _ _ => trivial) HO HR HB HB.size (by
    have : xs.length + m = L := by rw [← hL, ← hz, List.length_append, hm]
    rw [this]; exact hl) ?_
  intro v1 w1 HR1 hb1 _ _
  rw [hz] at HR1
  obtain ⟨A1, c1, hv, hl1, hC1⟩ := Kd.R_reads HR1
  rw [hL] at hv hl1 hC1
  subst hv
  exact h A1 c1 w1 hl1 hC1 HR1 hb1

/-- What a literal of whole numbers owns. -/
theorem lit_R (w0 W : World) (hB : Below w0.heap.size w0 W) (k : IntKind) (e : TypeId) (xs : List Int) (hm : xs.length ≤ 9223372036854775807) :
    (Kd.int k).R e (W.alloc (.cells (nums k xs).toArray e)) w0.heap.size (fun _ => True) (.slice (some ⟨W.heap.size, 0, none⟩) xs.length xs.length) xs :=
  Kd.R_of_own (own_lit W w0.heap.size e k xs hB.size hm) (fun _ _ => trivial)
/-- append(literal, ys...): whole numbers; ys was read in w0. -/
theorem app_lit_ints {w0 W : World} (k : IntKind) (t e : TypeId) (bytes : Nat) (ht : P.underlying t = some (.slice e)) (hinfo : (P.info? e).map (fun i => (i.zero, i.size, i.bytes)) = some (some (.int k 0), 1, bytes)) (hb0 : 0 < bytes)
    (hgd : o.guard = none) (s x : Operand) (ho : o.op = .call { callee := .builtin .append, args := #[s, x], argTypes := #[t, t] })
    (xs ys zs : List Int) (A : Option Addr) (m c L n : Nat) (cs : Array Value) (hcs : (nums k xs).toArray = cs) (hn : xs.length = n) (hs : a.eval s = .slice (some ⟨W.heap.size, 0, none⟩) n n) (hx : a.eval x = .slice A m c)
    (HR : Hid ((Kd.int k).C w0 A m ys)) (HB : Hid (Below w0.heap.size w0 W)) (hz : xs ++ ys = zs) (hL : zs.length = L) (hl : L * bytes ≤ 140737488355328)
    (h : ∀ A1 c1 w1, L ≤ c1 → Hid ((Kd.int k).C w1 A1 L zs) → Hid ((Kd.int k).R e w1 w0.heap.size (fun _ => True) (.slice A1 L c1) zs) → Hid (Below w0.heap.size w0 w1) → wpList P ops Q rest (a.put o.dst (.slice A1 L c1)) w1) :
    wpList P ops Q (o :: rest) a (W.alloc (.cells cs e)) := by
  subst hcs; subst hn
  have hl2 : xs.length ≤ L := by rw [← hL, ← hz, List.length_append]; omega
  have hl3 : L ≤ 140737488355328 := Nat.le_trans (Nat.le_mul_of_pos_right _ hb0) hl
  have hB1 := HB.out.alloc HB.out.size (.cells (nums k xs).toArray e)
  exact app_ints (w0 := w0) k t e bytes ht hinfo hb0 hgd s x ho _ xs ys zs A m c L hs hx (lit_R w0 W HB.out k e xs (by omega)) (Kd.C_below HR.out hB1) hB1 hz hL hl (fun A1 c1 w1 h1 h2 h3 h4 => h A1 c1 w1 h1 (Lib.hid h2) (Lib.hid h3) (Lib.hid h4))
/-- The same in a region that draws its order. -/
theorem app_lit_ints_step {Kc : Act → World → Prop} {w0 W : World} (k : IntKind) (t e : TypeId) (bytes : Nat) (ht : P.underlying t = some (.slice e)) (hinfo : (P.info? e).map (fun i => (i.zero, i.size, i.bytes)) = some (some (.int k 0), 1, bytes)) (hb0 : 0 < bytes)
    (hw : Region.wanted o (yielded ops a.tmps) = true) (s x : Operand) (ho : o.op = .call { callee := .builtin .append, args := #[s, x], argTypes := #[t, t] })
    (xs ys zs : List Int) (A : Option Addr) (m c L n : Nat) (cs : Array Value) (hcs : (nums k xs).toArray = cs) (hn : xs.length = n) (hs : a.eval s = .slice (some ⟨W.heap.size, 0, none⟩) n n) (hx : a.eval x = .slice A m c)
    (HR : Hid ((Kd.int k).C w0 A m ys)) (HB : Hid (Below w0.heap.size w0 W)) (hz : xs ++ ys = zs) (hL : zs.length = L) (hl : L * bytes ≤ 140737488355328)
    (h : ∀ A1 c1 w1, L ≤ c1 → Hid ((Kd.int k).C w1 A1 L zs) → Hid ((Kd.int k).R e w1 w0.heap.size (fun _ => True) (.slice A1 L c1) zs) → Hid (Below w0.heap.size w0 w1) → Kc (a.put o.dst (.slice A1 L c1)) w1) :
    if Region.wanted o (yielded ops a.tmps) = true then Oper.wp P o a (W.alloc (.cells cs e)) Kc Q else Kc (a.put o.dst undef) (W.alloc (.cells cs e)) := by
  subst hcs; subst hn
  have hm : ys.length = m := HR.out.1
  have hl2 : xs.length ≤ L := by rw [← hL, ← hz, List.length_append]; omega
  have hl3 : L ≤ 140737488355328 := Nat.le_trans (Nat.le_mul_of_pos_right _ hb0) hl
  have hB1 := HB.out.alloc HB.out.size (.cells (nums k xs).toArray e)
  refine Kd.R_append_rows_step (Kd.int k) (Rr := (Kd.int k).K W) (w0 := w0) w0.heap.size hw s x t e (.int k 0) bytes ho ht hinfo rfl (Nat.zero_lt_one) hb0 _ xs ys A m c (fun _ => True) (fun k' => w0.heap.size + 1 ≤ k' ∧ False) hs hx (lit_R w0 W HB.out k e xs (by omega)) (Kd.C_below HR.out hB1) (fun _ _ h => h) (fun _ h => h.2.elim) (fun _ _ => trivial) hB1 hB1.size (by
    have : xs.length + m = L := by rw [← hL, ← hz, List.length_append, hm]
    rw [this]; exact hl) ?_
  intro v1 w1 HR1 hb1 _ _
  rw [hz] at HR1
  obtain ⟨A1, c1, hv, hl1, hC1⟩ := Kd.R_reads HR1
  rw [hL] at hv hl1 hC1
  subst hv
  exact h A1 c1 w1 hl1 (Lib.hid hC1) (Lib.hid HR1) (Lib.hid hb1)
end
end Go.Proofs.Ytmeoiennniknlaa.Lb
