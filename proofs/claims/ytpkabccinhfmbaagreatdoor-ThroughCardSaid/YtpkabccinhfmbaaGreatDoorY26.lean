/-
  An argument that is a slice of raw things: read as a list.
-/
import Derived.Test.YtpkabccinhfmbaaGreatDoorY03
import Derived.Test.YtpkabccinhfmbaaGreatDoorY25
set_option linter.unusedVariables false
set_option linter.unusedSimpArgs false
namespace Go.Proofs.YtpkabccinhfmbaaGreatDoor
open Go.RowKit Go.ChangeShapes Go.WideShapes Go.Deep

theorem wf_i64 {n : Int} (h : (Lit.int .i64 n).wf = true) : -9223372036854775808 ≤ n ∧ n ≤ 9223372036854775807 := by
  simp [Lit.wf] at h
  have e : IntKind.i64.min = -9223372036854775808 := by decide
  rw [e] at h; exact h
section
variable {H : Type} {enc : TypeId × Value → H} {P : Program} {w : World}
/-- a slice of structs of three numbers and a text -/
theorem open_things {t e : TypeId} {f0 f1 f2 f3 : Field} {v : Value} {d : DataW H} {p : List MemPlace} (ht : P.underlying t = some (.slice e)) (he : P.underlying e = some (.struct #[f0, f1, f2, f3]))
    (hone : oneCellFields P #[f0, f1, f2, f3] = true) (hC : P.cellsOf e = 4) (u0 : P.underlying f0.type = some (.int .i64)) (u1 : P.underlying f1.type = some (.int .i64)) (u2 : P.underlying f2.type = some (.int .i64)) (u3 : P.underlying f3.type = some .string)
    (hv : v.cells.toList = [v]) (h : DataW.Trod enc P w 0 (fun _ => true) true t v d p) :
    ∃ (l : List (Int × Int × Int × List UInt8)) (A : Option Addr) (cap : Nat), v = .slice A l.length cap ∧ Rd w A (things l) ∧ l.length ≤ maxLen ∧ (∀ c ∈ l, c.2.2.2.length ≤ maxLen) ∧ ∀ t ∈ l, (-9223372036854775808 ≤ t.1 ∧ t.1 ≤ 9223372036854775807) ∧ (-9223372036854775808 ≤ t.2.1 ∧ t.2.1 ≤ 9223372036854775807) ∧ (-9223372036854775808 ≤ t.2.2.1 ∧ t.2.2.1 ≤ 9223372036854775807) := by
  obtain ⟨fuel, hf⟩ := h
  rw [hv] at hf
  rcases open_slice ht hf with ⟨h0, hx⟩ | ⟨a, len, cap, m, n, D, Pl, hcs, hb, hl, hm, hmm, hx, hi⟩
  · simp only [List.cons.injEq, and_true] at h0
    subst h0
    exact ⟨[], none, 0, rfl, .inl rfl, by simp, fun c hc => by simp at hc, fun c hc => by simp at hc⟩
  · simp only [List.cons.injEq, and_true] at hcs
    subst hcs
    simp only [ite_true] at hmm
    subst hmm
    have hd : d = .slice ((List.range len).map D) ((List.range (m - len)).map fun j => D (len + j)) := (Prod.mk.inj hx).1
    have key : ∀ i, i < len → ∃ c : Int × Int × Int × List UInt8, w.cell? (a.add (i * 4)) = some (.int .i64 c.1) ∧ w.cell? (a.add (i * 4 + 1)) = some (.int .i64 c.2.1) ∧ w.cell? (a.add (i * 4 + 2)) = some (.int .i64 c.2.2.1) ∧ w.cell? (a.add (i * 4 + 3)) = some (.string (S c.2.2.2)) ∧
        c.2.2.2.length ≤ maxLen ∧ (-9223372036854775808 ≤ c.1 ∧ c.1 ≤ 9223372036854775807) ∧ (-9223372036854775808 ≤ c.2.1 ∧ c.2.1 ≤ 9223372036854775807) ∧ (-9223372036854775808 ≤ c.2.2.1 ∧ c.2.2.1 ≤ 9223372036854775807) := by
      intro i hil
      obtain ⟨cs', hc, htr⟩ := hi i (by omega)
      rw [hC] at hc
      obtain ⟨ys, n', _, hy, hlen, hyl, hfl⟩ := DataW.trod_struct he htr
      obtain ⟨_, hcl, hat⟩ := World.cells?_some hc
      have hc4 : cs'.length = 4 := hcl
      match cs', hc4 with
      | [x0, x1, x2, x3], _ =>
        obtain ⟨o0, k0⟩ := hone_of hone 0 f0 rfl
        obtain ⟨o1, k1⟩ := hone_of hone 1 f1 rfl
        obtain ⟨o2, k2⟩ := hone_of hone 2 f2 rfl
        obtain ⟨o3, k3⟩ := hone_of hone 3 f3 rfl
        match ys, hyl with
        | [y0, y1, y2, y3], _ =>
          have g0 := hfl 0 f0 rfl
          have g1 := hfl 1 f1 rfl
          have g2 := hfl 2 f2 rfl
          have g3 := hfl 3 f3 rfl
          rw [o0, k0] at g0
          rw [o1, k1] at g1
          rw [o2, k2] at g2
          rw [o3, k3] at g3
          obtain ⟨n0, e0, z0, b0⟩ := DataW.trod_int u0 (show DataW.trod enc P w 0 (fun _ => true) true n' f0.type [x0] = some y0 from g0)
          obtain ⟨n1, e1, z1, b1⟩ := DataW.trod_int u1 (show DataW.trod enc P w 0 (fun _ => true) true n' f1.type [x1] = some y1 from g1)
          obtain ⟨n2, e2, z2, b2⟩ := DataW.trod_int u2 (show DataW.trod enc P w 0 (fun _ => true) true n' f2.type [x2] = some y2 from g2)
          obtain ⟨s3, e3, z3, b3⟩ := DataW.trod_string u3 (show DataW.trod enc P w 0 (fun _ => true) true n' f3.type [x3] = some y3 from g3)
          simp only [List.cons.injEq, and_true] at e0 e1 e2 e3
          subst e0 e1 e2 e3
          have q := fun j hj => hat j hj
          refine ⟨⟨n0, n1, n2, s3.data.toList⟩, ?_, ?_, ?_, ?_, ?_, wf_i64 b0, wf_i64 b1, wf_i64 b2⟩
          · have := q 0 (by omega); rw [Go.Deep.add_add] at this; simpa using this
          · have := q 1 (by omega); rw [Go.Deep.add_add] at this; simpa using this
          · have := q 2 (by omega); rw [Go.Deep.add_add] at this; simpa using this
          · have := q 3 (by omega); rw [Go.Deep.add_add] at this; rw [S_of]; simpa using this
          · simpa using b3
    obtain ⟨l, hll, hQ⟩ := list_of len _ key
    subst hll
    refine ⟨l, some a, m, rfl, ?_, ?_, ?_, ?_⟩
    · cases l with
      | nil => exact .inl rfl
      | cons x r =>
        have hsp : a.spot = none := World.cell?_spot (w := w) (v := .int .i64 x.1) (by have h0 := (hQ 0 (by simp)).1; simp only [Nat.zero_mul, Addr.add, ite_true] at h0; exact h0)
        obtain ⟨b, o, sp⟩ := a
        simp only at hsp
        subst hsp
        refine .inr ⟨b, o, rfl, fun k u hu => ?_⟩
        have hk := (List.getElem?_eq_some_iff.1 hu).1
        rw [things_len] at hk
        have hi2 : k / 4 < (x :: r).length := by omega
        obtain ⟨q0, q1, q2, q3, _⟩ := hQ (k / 4) hi2
        obtain ⟨c0, c1, c2, c3⟩ := things_get (x :: r) (k / 4) hi2
        have hadd : ∀ n : Nat, (⟨b, o, none⟩ : Addr).add n = ⟨b, o + n, none⟩ := by
          intro n; unfold Addr.add; split
          · rename_i h0; rw [h0]; rfl
          · rfl
        rw [hadd] at q0 q1 q2 q3
        have h4 : k % 4 = 0 ∨ k % 4 = 1 ∨ k % 4 = 2 ∨ k % 4 = 3 := by omega
        rcases h4 with h4 | h4 | h4 | h4
        · rw [show k / 4 * 4 = k by omega] at q0 c0; rw [q0, ← c0, hu]
        · rw [show k / 4 * 4 + 1 = k by omega] at q1 c1; rw [q1, ← c1, hu]
        · rw [show k / 4 * 4 + 2 = k by omega] at q2 c2; rw [q2, ← c2, hu]
        · rw [show k / 4 * 4 + 3 = k by omega] at q3 c3; rw [q3, ← c3, hu]
    · omega
    · intro c hc
      obtain ⟨i, hi', rfl⟩ := List.getElem_of_mem hc
      exact (hQ i hi').2.2.2.2.1
    · intro c hc
      obtain ⟨i, hi', rfl⟩ := List.getElem_of_mem hc
      exact (hQ i hi').2.2.2.2.2
end
end Go.Proofs.YtpkabccinhfmbaaGreatDoor
