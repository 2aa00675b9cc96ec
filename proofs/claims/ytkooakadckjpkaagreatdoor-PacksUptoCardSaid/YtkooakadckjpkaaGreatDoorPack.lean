/-
  layers.Pack, plain.Pack, and the law Packs.
-/
import Derived.Test.YtkooakadckjpkaaGreatDoorTarU
import Derived.Test.YtkooakadckjpkaaGreatDoorVal
import Derived.Test.YtkooakadckjpkaaGreatDoorRefF
import Derived.Test.YtkooakadckjpkaaGreatDoorTell
namespace Go.Proofs.YtkooakadckjpkaaGreatDoor
open Go.RowKit

theorem First.exists (f : Nat → Bool) (n : Nat) : ∃ r, First f n r := by
  induction n with
  | zero => exact ⟨-1, .inr ⟨rfl, fun j hj => by omega⟩⟩
  | succ n ih =>
    obtain ⟨r, hr⟩ := ih
    rcases hr with ⟨i, hi, rfl, h1, h2⟩ | ⟨rfl, h⟩
    · exact ⟨i, .inl ⟨i, by omega, rfl, h1, h2⟩⟩
    · cases hf : f n with
      | true => exact ⟨n, .inl ⟨n, by omega, rfl, hf, h⟩⟩
      | false =>
        refine ⟨-1, .inr ⟨rfl, fun j hj => ?_⟩⟩
        by_cases e : j = n
        · rw [e]; exact hf
        · exact h j (by omega)
theorem fit_is_small {c : Ent} (h : Fit c) : Small c := by
  obtain ⟨h1, h2, h3, h4, h5, h6⟩ := fit_small h
  refine ⟨by omega, h4, h2, h3, fun k4 => ?_, h5⟩
  have hp : c.path ≠ [] := fun e => by have := h.2.2 e; omega
  exact List.length_pos_iff.2 (partsB_ne hp)
theorem none_barred {l : List Ent} (h : First (barR l) l.length (-1)) : l.length ≤ 80 ∧ ∀ c ∈ l, Fit c := by
  have ha : ∀ j, j < l.length → barR l j = false := by
    rcases h with ⟨i, _, e, _⟩ | ⟨_, h⟩
    · omega
    · exact h
  refine ⟨?_, fun c hc => ?_⟩
  · by_cases hl : l.length ≤ 80
    · exact hl
    · have h80 := ha 80 (by omega)
      rw [barR_shape (c := l[80]'(by omega)) (List.getElem?_eq_getElem (by omega)) (by simp [shapeR])] at h80
      cases h80
  · obtain ⟨i, hi, rfl⟩ := List.getElem_of_mem hc
    exact barR_fit (List.getElem?_eq_getElem hi) (ha i hi)
theorem entB_len {c : Ent} (h : Fit c) : (entB c).length ≤ 20000 := by
  obtain ⟨h1, h2, h3, h4, h5, h6⟩ := fit_small h
  have hn := name_len h
  have hs := splB_len (namB c)
  have hm := octB_len c.mode.toNat 10 (by omega)
  have hd := octB_len (dataB c).length 10 (by unfold dataB; split; omega; simp)
  have hdl : (dataB c).length ≤ 4096 := by unfold dataB; split; omega; simp
  have hll : (linkB c).length ≤ 4096 := by unfold linkB; split; omega; simp
  have h0 := octB_len 0 10 (by omega)
  have b1 := filB_len' (splB (namB c)).2 100
  have b2 := filB_len' (splB (namB c)).1 155
  have b3 := filB_len' (linkB c) 100
  have b4 := filB_len' [] 64
  have b5 := filB_len' [] 12
  have b6 := filB_len' [] ((512 - (dataB c).length % 512) % 512)
  have d1 := digB_len' c.mode.toNat 7
  have d2 := digB_len' 0 7
  have d3 := digB_len' (dataB c).length 11
  have d4 := digB_len' 0 11
  have hh : (headB c).length ≤ 1000 := by unfold headB; simp only [List.length_append]; omega
  have ht : (tailB c).length ≤ 8000 := by
    unfold tailB; simp only [List.length_append, List.length_cons, List.length_nil] at b4 b5 ⊢; omega
  have s1 := sumB_le (headB c)
  have s2 := sumB_le (tailB c)
  have hto := octB_len (totB c) 10 (by unfold totB; omega)
  have d5 := digB_len' (totB c) 6
  unfold entB
  simp only [List.length_append, List.length_cons, List.length_nil] at b6 ⊢
  omega
theorem packsB_len {l : List Ent} (h : ∀ c ∈ l, Fit c) : (packsB l).length ≤ l.length * 20000 := by
  induction l with
  | nil => simp [packsB]
  | cons c r ih =>
    have h1 := entB_len (h c (by simp))
    have h2 := ih (fun x hx => h x (by simp [hx]))
    have e : packsB (c :: r) = entB c ++ packsB r := by simp [packsB]
    rw [e, List.length_append, List.length_cons]; omega

theorem at_any (n : Int) (k : Nat) (w : World) (hn : ¬ n = 0) :
    Calls Tryz.prog 16 #[.int .i64 n, .int .i64 k] w fun e w' => ∃ g, e = .returned (.iface 45 (.pointer (some ⟨g, 0, none⟩))) ∧ w'.cell? ⟨g, 0, none⟩ = some (.int .i64 n) ∧ w'.cell? ⟨g, 0 + 1, none⟩ = some (.int .i64 k) ∧ Below w.heap.size w w' := by
  have h1 : ¬ (k : Int) < 0 := by omega
  have f0 : (n == 0) = false := by simpa using hn
  go_enter Tryz.func16, Tryz.ntmps16
  go_wp2
  go_ret
  exact ⟨w.heap.size, rfl, by simp, by simp, (Below.refl _ _).alloc (Nat.le_refl _) _⟩

/-- what layers.Pack answers -/
def PackL (l : List Ent) (r : Int) (W : World) (e : Ending) (w' : World) : Prop :=
  (r = -1 ∧ e = .returned (.tuple #[.string (S (packB l)), .nilIface]) ∧ Below W.heap.size W w') ∨
  ∃ g k : Nat, r = k ∧ e = .returned (.tuple #[.string (S []), .iface 45 (.pointer (some ⟨g, 0, none⟩))]) ∧ w'.cell? ⟨g, 0, none⟩ = some (.int .i64 3) ∧ w'.cell? ⟨g, 0 + 1, none⟩ = some (.int .i64 k) ∧ Below W.heap.size W w'
def packPl (l : List Ent) (r : Int) : Value := if r = -1 then .tuple #[.string (S (packB l)), .int .i64 0, .int .i64 (-1)] else .tuple #[.string (S []), .int .i64 3, .int .i64 r]

set_option maxHeartbeats 2000000 in
theorem packL_any (l : List Ent) (A : Option Addr) (cap : Nat) (w : World) (hw : Std w) (hT : Tz w) (hr : Rd w A (ents l)) (hl : l.length ≤ 2000000000) (hs : ∀ e ∈ l, e.path.length ≤ 2000000000 ∧ e.data.length ≤ 2000000000) (r : Int) (hF : First (barR l) l.length r) :
    Calls Tryz.prog 7 #[.slice A l.length cap] w (PackL l r w) := by
  have HV := Lib.hid (valid_any l A cap w hw hr hl hs)
  have HF := Lib.hid hF
  have HW := Lib.hid hw
  have HT := Lib.hid hT
  have HR := Lib.hid hr
  clear hw hT hr hs hF
  go_enter Tryz.func7, Tryz.ntmps7
  go_wp2_with fail
  refine HV.out.mono ?_
  rintro e w1 ⟨r', rfl, hf, hb1⟩
  obtain rfl := bars_same HF.out hf
  clear HV hf
  have HB := Lib.hid hb1
  clear hb1
  rcases HF.out with ⟨k, hk, rfl, _⟩ | ⟨rfl, _⟩
  · clear HF
    go_wp2_with fail
    refine (at_any 3 k _ (by omega)).mono ?_
    rintro e w2 ⟨g, rfl, h0, h1, hb2⟩
    have H0 := Lib.hid h0
    have H1 := Lib.hid h1
    have HB2 := Lib.hid (HB.out.trans (hb2.mono HB.out.size))
    clear h0 h1 hb2
    go_wp2_with fail
    go_ret2
    exact .inr ⟨g, k, rfl, rfl, H0.out, H1.out, HB2.out⟩
  · obtain ⟨hl80, hfit⟩ := none_barred HF.out
    have hz := packsB_len hfit
    have HFit := Lib.hid hfit
    clear hfit HF
    go_wp2_with fail
    refine (packP_any l A cap _ (HR.out.below HB.out) (by omega) (by omega) HFit.out (HW.out.below HB.out) (HT.out.below HB.out)).mono ?_
    rintro e w2 ⟨rfl, hb2⟩
    go_wp2_with fail
    go_ret2
    exact .inl ⟨rfl, rfl, HB.out.trans (hb2.mono HB.out.size)⟩

set_option maxHeartbeats 2000000 in
theorem packPl_any (l : List Ent) (A : Option Addr) (cap : Nat) (w : World) (hw : Std w) (hT : Tz w) (hg : ErrT w) (hr : Rd w A (ents l)) (hl : l.length ≤ 2000000000) (hs : ∀ e ∈ l, e.path.length ≤ 2000000000 ∧ e.data.length ≤ 2000000000) (r : Int) (hF : First (barR l) l.length r) :
    Calls Tryz.prog 4 #[.slice A l.length cap] w fun e w' => e = .returned (packPl l r) ∧ Below w.heap.size w w' := by
  have HL := Lib.hid (packL_any l A cap w hw hT hr hl hs r hF)
  have HG := Lib.hid hg
  clear hw hT hg hr hs hF
  go_enter Tryz.func4, Tryz.ntmps4
  go_wp2_with fail
  refine HL.out.mono ?_
  rintro e w1 (⟨rfl, rfl, hb1⟩ | ⟨g, k, rfl, rfl, h0, h1, hb1⟩)
  · have X := Lib.hid (show packPl l (-1) = .tuple #[.string (S (packB l)), .int .i64 0, .int .i64 (-1)] from if_pos rfl)
    have HB := Lib.hid hb1
    clear hb1 HL
    go_wp2_with fail
    refine (tell_nil _).mono ?_
    rintro e w2 ⟨rfl, hb2⟩
    go_wp2_with fail
    go_ret3
    exact ⟨by rw [X.out]; rfl, HB.out.trans (hb2.mono HB.out.size)⟩
  · have X := Lib.hid (show packPl l (k : Int) = .tuple #[.string (S []), .int .i64 3, .int .i64 k] from if_neg (by omega))
    have HB := Lib.hid hb1
    have H0 := Lib.hid h0
    have H1 := Lib.hid h1
    clear hb1 HL h0 h1
    go_wp2_with fail
    refine (tell_at g 0 3 k _ (HG.out.below HB.out) H0.out H1.out).mono ?_
    rintro e w2 ⟨rfl, hb2⟩
    go_wp2_with fail
    go_ret3
    exact ⟨by rw [X.out]; rfl, HB.out.trans (hb2.mono HB.out.size)⟩

set_option maxHeartbeats 2000000 in
theorem packs_any (l : List Ent) (A : Option Addr) (cap : Nat) (w : World) (hw : Std w) (hT : Tz w) (hg : ErrT w) (hr : Rd w A (ents l)) (hl : l.length ≤ 2000000000) (hs : ∀ e ∈ l, e.path.length ≤ 2000000000 ∧ e.data.length ≤ 2000000000) :
    Calls Tryz.prog 3 #[.slice A l.length cap] w fun e w' => e = .returned (.bool true) ∧ Below w.heap.size w w' := by
  obtain ⟨r, hF⟩ := First.exists (barR l) l.length
  have HP := Lib.hid (packPl_any l A cap w hw hT hg hr hl hs r hF)
  have HF := Lib.hid hF
  have HW := Lib.hid hw
  have HT := Lib.hid hT
  have HG := Lib.hid hg
  have HR := Lib.hid hr
  have HS := Lib.hid hs
  clear hw hT hg hr hs hF
  rcases HF.out with ⟨k, hk, rfl, _⟩ | ⟨rfl, _⟩
  · have X := Lib.hid (show packPl l (k : Int) = .tuple #[.string (S []), .int .i64 3, .int .i64 k] from if_neg (by omega))
    have Y := Lib.hid (show packPl [] (-1) = .tuple #[.string (S (List.replicate 1024 0)), .int .i64 0, .int .i64 (-1)] from by rw [packPl, if_pos rfl]; rfl)
    have hlz : (List.replicate 1024 (0 : UInt8)).length = 1024 := List.length_replicate
    generalize List.replicate 1024 (0 : UInt8) = z at Y hlz
    have HZ := Lib.hid hlz
    clear hlz
    go_enter Tryz.func3, Tryz.ntmps3
    go_wp2_with fail
    refine HP.out.mono ?_
    rintro e w1 ⟨rfl, hb1⟩
    rw [X.out]
    have HB1 := Lib.hid hb1
    clear hb1 HP
    go_wp2_with fail
    refine (barred_any l A cap _ (HR.out.below HB1.out) hl HS.out).mono ?_
    rintro e w2 ⟨r', rfl, hf, hb2⟩
    obtain rfl := First.uniq HF.out hf (fun _ _ _ _ => rfl)
    have HB2 := Lib.hid (HB1.out.trans (hb2.mono HB1.out.size))
    clear hf hb2 HB1
    go_wp2_with fail
    refine (packPl_any [] none 0 _ (HW.out.below HB2.out) (HT.out.below HB2.out) (HG.out.below HB2.out) (.inl rfl) (by simp) (by simp) (-1) (.inr ⟨rfl, fun j hj => by simp at hj⟩)).mono ?_
    rintro e w3 ⟨rfl, hb3⟩
    rw [Y.out]
    have HB3 := Lib.hid (HB2.out.trans (hb3.mono HB2.out.size))
    have hlz := HZ.out
    clear hb3 HB2
    go_wp2_with fail
    go_ret
    exact ⟨by simp, HB3.out⟩
  · have X := Lib.hid (show packPl l (-1) = .tuple #[.string (S (packB l)), .int .i64 0, .int .i64 (-1)] from if_pos rfl)
    obtain ⟨hl80, hfit⟩ := none_barred HF.out
    have hz := packsB_len hfit
    have HFit := Lib.hid hfit
    clear hfit
    go_enter Tryz.func3, Tryz.ntmps3
    go_wp2_with fail
    refine HP.out.mono ?_
    rintro e w1 ⟨rfl, hb1⟩
    rw [X.out]
    have HB1 := Lib.hid hb1
    clear hb1 HP
    go_wp2_with fail
    refine (barred_any l A cap _ (HR.out.below HB1.out) hl HS.out).mono ?_
    rintro e w2 ⟨r', rfl, hf, hb2⟩
    obtain rfl := First.uniq HF.out hf (fun _ _ _ _ => rfl)
    have HB2 := Lib.hid (HB1.out.trans (hb2.mono HB1.out.size))
    clear hf hb2 HB1
    go_wp2_with fail
    refine (packR_any l A cap _ (HR.out.below HB2.out) (by omega) (by omega) (fun c hc => fit_is_small (HFit.out c hc))).mono ?_
    rintro e w3 ⟨rfl, hb3⟩
    have HB3 := Lib.hid (HB2.out.trans (hb3.mono HB2.out.size))
    clear hb3 HB2
    go_wp2_with fail
    go_ret
    exact ⟨by simp, HB3.out⟩
end Go.Proofs.YtkooakadckjpkaaGreatDoor
