/-
  The program: a name set into a header in two parts.
-/
import Derived.Test.YtkooakadckjpkaaGreatDoorTarH
import Derived.Test.YtkooakadckjpkaaGreatDoorTarM
namespace Go.Proofs.YtkooakadckjpkaaGreatDoor
open Go.RowKit

def strSize : Value → Nat | .string s => s.size | _ => 0
theorem trim_app (a b : List UInt8) : Lib.trimPrefix (a ++ b) a = b := by
  unfold Lib.trimPrefix Lib.hasPrefix; simp
theorem trim_slash {p : List UInt8} (h : p.head? ≠ some 47) : Lib.trimPrefix p [47] = p := by
  unfold Lib.trimPrefix Lib.hasPrefix
  cases p with
  | nil => simp
  | cons x r =>
    have hx : ¬ (47 : UInt8) = x := fun e => h (by rw [← e]; rfl)
    simp [List.isPrefixOf, hx]
theorem joinB_head {es : List (List UInt8)} (hE : NameE es) : (joinB es).head? ≠ some 47 := by
  cases es with
  | nil => exact absurd rfl hE.ne
  | cons x r =>
    have hx : x ≠ [] := fun e => hE.first (by rw [e]; rfl)
    have hm := (hE.each x (by simp)).1
    cases x with
    | nil => exact absurd rfl hx
    | cons c t =>
      have hc : ¬ c = 47 := fun e => hm (by rw [e]; simp)
      cases r with
      | nil => simpa [joinB] using hc
      | cons y s => simpa [joinB] using hc
theorem take_ne {es : List (List UInt8)} (hE : NameE es) (k : Nat) (hk : k < es.length) (h0 : 0 < k) : joinB (es.take k) ≠ [] := by
  refine joinB_nil ?_ ?_
  · intro e he
    obtain ⟨i, hi, rfl⟩ := List.getElem_of_mem he
    rw [List.length_take] at hi
    rw [List.getElem_take]
    exact hE.inner i (by omega)
  · intro e; have := congrArg List.length e; rw [List.length_take, List.length_nil] at this; omega
theorem take_join {es : List (List UInt8)} (hE : NameE es) (k : Nat) (hk : k + 1 < es.length) : inB (joinB (es.take k)) es[k] = joinB (es.take (k + 1)) := by
  rw [joinB_take es k (by omega)]
  unfold inB
  by_cases h0 : k = 0
  · subst h0; rw [if_pos rfl, List.take_zero]; simp [joinB]
  · rw [if_neg h0, if_neg]
    rintro (e | e)
    · exact take_ne hE k (by omega) (by omega) e
    · exact hE.inner k hk e

set_option maxHeartbeats 2000000 in
theorem name_any (g : Nat) (L : List UInt8) (es : List (List UInt8)) (w : World) (hE : NameE es) (hl : (joinB es).length ≤ 190) (hH : Hdr w g L) (hS : Std w) :
    Calls Tryz.prog 51 #[.pointer (some ⟨g, 0, none⟩), .string (S (joinB es))] w fun e w' => e = .returned (.tuple #[]) ∧ Hdr w' g (setB (setB L 345 (splB (joinB es)).1) 0 (splB (joinB es)).2) ∧ Below g w w' := by
  have HE := Lib.hid hE
  have HH := Lib.hid hH
  have HS := Lib.hid hS
  have hlt := hH.lt
  have hn : 0 < es.length := List.length_pos_iff.2 hE.ne
  have hsp := split_len hE hl
  clear hE hH hS
  go_enter Tryz.func51, Tryz.ntmps51
  go_wp2
  try rw [show (ByteArray.mk #[]) = S [] from rfl]
  go_loopw [4, 5] (fun a r wr => ∃ k : Nat, k < es.length ∧ a = .string (S (joinB (es.take k))) ∧ r = .string (S (joinB (es.drop k))) ∧ Hid (k = 0 ∨ 100 < (joinB (es.drop (k - 1))).length) ∧ Hid (Below w.heap.size w wr)) (fun _ r _ => strSize r)
  case atStart => exact ⟨0, hn, rfl, rfl, .inl rfl, Below.refl _ _⟩
  case round =>
    obtain ⟨k, hk, rfl, rfl, hK, hB⟩ := hrel
    have hdl : (joinB (es.drop k)).length ≤ 190 := by
      by_cases h0 : k = 0
      · subst h0; rw [List.drop_zero]; exact hl
      · rw [joinB_split es k (by omega) hk] at hl; simp at hl; omega
    by_cases hgt : 100 < (joinB (es.drop k)).length
    · have hk1 : k + 1 < es.length := by
        by_cases h : k + 1 < es.length
        · exact h
        · rw [joinB_drop_last es k (by omega)] at hgt
          have := (HE.out.each es[k] (List.getElem_mem _)).2; omega
      have hd := Lib.hid (joinB_drop es k hk1)
      have h47 := Lib.hid (HE.out.each es[k] (List.getElem_mem _)).1
      have he64 := (HE.out.each es[k] (List.getElem_mem _)).2
      have htk := Lib.hid (take_join HE.out k hk1)
      have htl : (joinB (es.take k)).length ≤ 190 := by
        by_cases h0 : k = 0
        · subst h0; simp [joinB]
        · rw [joinB_split es k (by omega) hk] at hl; simp at hl; omega
      have hrl : (joinB (es.drop (k + 1))).length ≤ 190 := by rw [hd.out] at hdl; simp at hdl; omega
      have hC := Lib.hid (cut1_any es[k] (joinB (es.drop (k + 1))) wr (HS.out.below hB.out) h47.out (by omega))
      rw [← hd.out] at hC
      have hmeas := Lib.hid (show (joinB (es.drop (k + 1))).length < (joinB (es.drop k)).length by rw [hd.out]; simp; omega)
      generalize hx : es[k] = x at *
      go_wp2_with fail
      refine hC.out.mono ?_
      rintro e w1 ⟨rfl, hb1⟩
      have hB1 := Lib.hid (hB.out.trans (hb1.mono hB.out.size))
      clear hC hb1 hdl
      go_wp2_with fail
      refine (joinP_any (joinB (es.take k)) x _ (by omega)).mono ?_
      rintro e w2 ⟨rfl, rfl⟩
      rw [htk.out]
      go_wp2_with fail
      go_round
      case rel => exact ⟨k + 1, hk1, rfl, rfl, .inr (by rw [Nat.add_sub_cancel]; exact hgt), hB1.out⟩
      case measure => simp [strSize]; exact hmeas.out
    · have hle : (joinB (es.drop k)).length ≤ 100 := by omega
      have hspl := Lib.hid (show splB (joinB es) = (joinB (es.take k), joinB (es.drop k)) by
        by_cases h0 : k = 0
        · subst h0; rw [List.drop_zero] at hle ⊢; rw [split_none hle]; rfl
        · exact split_here HE.out k (by omega) hk (by rcases hK.out with h | h; exact absurd h h0; exact h) hle)
      have htr := Lib.hid (show Lib.trimPrefix (Lib.trimPrefix (joinB es) (joinB (es.take k))) [47] = joinB (es.drop k) by
        by_cases h0 : k = 0
        · subst h0
          rw [List.take_zero, List.drop_zero]
          show Lib.trimPrefix (Lib.trimPrefix (joinB es) []) [47] = _
          have : Lib.trimPrefix (joinB es) [] = joinB es := trim_app [] (joinB es)
          rw [this, trim_slash (joinB_head HE.out)]
        · rw [joinB_split es k (by omega) hk, trim_app]
          exact trim_app [47] _)
      rw [hspl.out] at hsp
      have hsp1 := hsp.1
      have H1 := Lib.hid (HH.out.below hB.out)
      clear hsp hK hgt
      generalize hA : joinB (es.take k) = A at *
      generalize hR : joinB (es.drop k) = R at *
      generalize hP : joinB es = P at *
      clear hA hR
      replace hsp1 : A.length ≤ 155 := hsp1
      go_wp2_with fail
      refine (text_any g L 345 A _ H1.out (by omega) (by omega)).mono ?_
      rintro e w1 ⟨rfl, hw1⟩
      have H2 := Lib.hid (H1.out.set 345 A (by omega))
      have B2 := Lib.hid (below_setCells (Nat.le_refl g) (A.map fun x => Value.int .u8 (x.toNat : Int)) 345 wr (hB.out.mono (Nat.le_of_lt hlt)))
      rw [← hw1] at H2 B2
      clear hw1
      go_wp2_with fail
      refine (trim_any P A _).mono ?_
      rintro e w2 ⟨rfl, rfl⟩
      generalize hT1 : Lib.trimPrefix P A = T1 at htr ⊢
      go_wp2_with fail
      refine (trim_any T1 [47] _).mono ?_
      rintro e w2 ⟨rfl, rfl⟩
      rw [htr.out]
      go_wp2_with fail
      refine (text_any g (setB L 345 A) 0 R _ H2.out (by omega) (by omega)).mono ?_
      rintro e w3 ⟨rfl, hw3⟩
      have H3 := Lib.hid (H2.out.set 0 R (by omega))
      have B3 := Lib.hid (below_setCells (Nat.le_refl g) (R.map fun x => Value.int .u8 (x.toNat : Int)) 0 _ B2.out)
      rw [← hw3] at H3 B3
      clear hw3
      go_wp2_with fail
      go_end0
      exact ⟨rfl, by rw [hP, hspl.out]; exact H3.out, B3.out⟩
end Go.Proofs.YtkooakadckjpkaaGreatDoor
