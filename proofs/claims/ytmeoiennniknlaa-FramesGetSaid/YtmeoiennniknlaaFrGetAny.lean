/- The contract of frames.Get. -/
import Derived.Test.YtmeoiennniknlaaFrGet
namespace Go.Proofs.Ytmeoiennniknlaa.Frames
open Go.RowKit Go.Shelf Go.Proofs.YtmeoiennniknlaaW.PrintWords Go.Proofs.Ytmeoiennniknlaa.Lb Go.Proofs.Ytmeoiennniknlaa.Sums
set_option linter.unusedVariables false
set_option linter.unusedSimpArgs false

/-- What Get gives. -/
def GetP (w : World) (r : Option (Fr × Nat)) (e : Ending) (w' : World) : Prop :=
  match r with
  | none => NoFr w e w'
  | some (f, m) => ∃ A1 c1, e = .returned (.tuple #[.agg #[.int .i64 f.f0, .slice A1 f.f1.length c1], .int .i64 (m : Int), .bool true]) ∧ f.f1.length ≤ c1 ∧
    (Kd.int .u64).C w' A1 f.f1.length f.f1 ∧ (Kd.int .u64).R 30 w' w.heap.size (fun _ => True) (.slice A1 f.f1.length c1) f.f1 ∧ Below w.heap.size w w'

theorem C_cell {k : IntKind} {w : World} {A : Option Addr} {l : List Int} (h : (Kd.int k).C w A l.length l) (j : Nat) (hj : j < l.length) : ∃ ad, A = some ad ∧ w.cell? (ad.add j) = some (.int k l[j]) := by
  obtain ⟨ad, c, e, _, hK, hc⟩ := Kd.C_get h 0 (j : Int) (by omega) (by omega)
  subst e
  refine ⟨ad, rfl, ?_⟩
  have e1 : l.getD (j : Int).toNat 0 = l[j] := by simp [List.getD_eq_getElem?_getD, hj]
  rw [e1] at hK
  obtain rfl : c = [.int k l[j]] := hK
  have := hc 0 _ rfl
  simpa [Kd.int, Kd.scalar] using this

theorem getR_none {e n : Int} {l : List Int} (h : l.length = 0 ∨ numB e = false ∨ numB n = false) : getR e n l = none := by
  unfold getR; rw [if_pos h]
theorem getR_some {e n : Int} {l : List Int} (h : ¬(l.length = 0 ∨ numB e = false ∨ numB n = false)) {x K M : Nat} {ws : List Int} (hx : (l.getD 0 0).toNat = x) (hK : x / 72057594037927936 = K) (hM : x / 4294967296 % 16777216 = M) (hw : (l.take (1 + M)).drop 1 = ws) :
    getR e n l = if l.length < 1 + M ∨ mayB (K : Int) M = false ∨ fmark e.toNat n.toNat K ws ≠ x then none else some (⟨K, ws⟩, 1 + M) := by
  subst hK hM hw hx
  unfold getR; rw [if_neg h]

theorem get_any (w : World) (e n : Int) (A : Option Addr) (c : Nat) (l : List Int) (hl : WS l) (hm : l.length * 8 ≤ 140737488351232) (hc : l.length ≤ c) (hC : (Kd.int .u64).C w A l.length l) :
    Calls Try.prog 31 #[.int .i64 e, .int .i64 n, .slice A l.length c] w (GetP w (getR e n l)) := by
  by_cases h : l.length = 0 ∨ numB e = false ∨ numB n = false
  · rw [getR_none h]
    exact get_no1 w e n A l.length c (by omega) h
  · have hl0 : 0 < l.length := by
      rcases Nat.eq_zero_or_pos l.length with h0 | h0
      · exact absurd (Or.inl h0) h
      · exact h0
    have he : numB e = true := by
      cases h1 : numB e with
      | true => rfl
      | false => exact absurd (Or.inr (Or.inl h1)) h
    have hn : numB n = true := by
      cases h1 : numB n with
      | true => rfl
      | false => exact absurd (Or.inr (Or.inr h1)) h
    obtain ⟨ad, rfl, hcell⟩ := C_cell hC 0 hl0
    obtain ⟨x, hx⟩ : ∃ x : Nat, (l.getD 0 0).toNat = x := ⟨_, rfl⟩
    have h0 : l.getD 0 0 = l[0] := by simp [List.getD_eq_getElem?_getD, hl0]
    have hb := hl l[0] (List.getElem_mem hl0)
    have hx2 : (l[0] : Int) = (x : Int) := by rw [← hx, h0]; omega
    have hxl : x < 18446744073709551616 := by omega
    rw [hx2] at hcell
    have hcell : w.cell? ad = some (.int .u64 (x : Int)) := by simpa [Addr.add] using hcell
    obtain ⟨K, hK⟩ : ∃ K, x / 72057594037927936 = K := ⟨_, rfl⟩
    obtain ⟨M, hM⟩ : ∃ M, x / 4294967296 % 16777216 = M := ⟨_, rfl⟩
    obtain ⟨ws, hws⟩ : ∃ ws, (l.take (1 + M)).drop 1 = ws := ⟨_, rfl⟩
    rw [getR_some h hx hK hM hws]
    by_cases h2 : l.length < 1 + M
    · rw [if_pos (Or.inl h2)]
      exact get_no2 w e n he hn ad c x K M l hl0 hm hxl hK hM hcell h2
    · obtain ⟨e1, e2⟩ := numB_true.1 he
      obtain ⟨n1, n2⟩ := numB_true.1 hn
      have ee : ((e.toNat : Nat) : Int) = e := by omega
      have en : ((n.toNat : Nat) : Int) = n := by omega
      have H := get_main w e.toNat n.toNat (by omega) (by omega) ad c x K M l ws hl hc hm hxl hK hM hcell hC (by omega) hws.symm (mayB (K : Int) M) (((fmark e.toNat n.toNat K ws : Nat) : Int) != (x : Int)) rfl (fun _ => rfl)
      rw [ee, en] at H
      refine H.mono fun en w' ⟨h3, h4⟩ => ?_
      by_cases h5 : mayB (K : Int) M = true ∧ (((fmark e.toNat n.toNat K ws : Nat) : Int) != (x : Int)) = false
      · rw [if_neg]
        · exact h3 h5
        · rintro (h6 | h6 | h6)
          · exact h2 h6
          · rw [h5.1] at h6; cases h6
          · have := h5.2
            simp only [bne_eq_false_iff_eq] at this
            omega
      · rw [if_pos]
        · exact h4 h5
        · cases h7 : mayB (K : Int) M with
          | false => exact Or.inr (Or.inl rfl)
          | true =>
            refine Or.inr (Or.inr fun h8 => h5 ⟨h7, ?_⟩)
            rw [h8]; simp
end Go.Proofs.Ytmeoiennniknlaa.Frames
