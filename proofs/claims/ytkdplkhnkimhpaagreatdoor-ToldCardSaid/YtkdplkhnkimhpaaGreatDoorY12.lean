/-
  The program: a blob is kept, looked for, put.
-/
import Derived.Deep.RegionHeld3
import Derived.Test.YtkdplkhnkimhpaaGreatDoorY11
set_option linter.unusedVariables false
set_option linter.unusedSimpArgs false
namespace Go.Proofs.YtkdplkhnkimhpaaGreatDoor
open Go.RowKit

/-- the bytes of the first k files, one name aside -/
def usedK (D : DiskL) (x : List UInt8) : Nat → Nat
  | 0 => 0
  | k + 1 => usedK D x k + (if D.ns.getD k [] = x then 0 else (D.ds.getD k []).length)
theorem used_le {D : DiskL} {n : Nat} (h : Small D n) (x : List UInt8) : ∀ k, usedK D x k ≤ 5000 * k
  | 0 => by simp [usedK]
  | k + 1 => by
    have h1 := used_le h x k
    have h2 := getD_le (k := k) h.data
    unfold usedK
    split <;> omega
set_option maxRecDepth 100000 in
set_option maxHeartbeats 2000000 in
theorem used_any {w : World} {B fb : Nat} {v1 v2 v3 : Value} {q : Int} {na n : Nat} {D : DiskL} (h : DiskV w B fb v1 v2 v3 q na D) (hs : Small D n) (hn : n ≤ 800) (x : List UInt8) :
    Calls Tryz.prog 86 #[.pointer (some ⟨fb, 0, none⟩), .string (S x)] w fun e w' => e = .returned (.int .i64 (usedK D x D.ns.length : Nat)) ∧ Below w.heap.size w w' := by
  have HV := Lib.hid h
  have HS := Lib.hid hs
  have hfew := hs.few
  have HU := Lib.hid (used_le hs x)
  clear h hs
  obtain ⟨a1, n1, hv1⟩ := HV.out.r1.form
  subst hv1
  obtain ⟨c0, _⟩ := HV.out.cells
  go_enter Tryz.func86, Tryz.ntmps86
  go_wp2
  go_loopw [12, 4] (fun i t wr => ∃ k : Nat, k ≤ D.ns.length ∧ i = .int .i64 k ∧ t = .int .i64 (usedK D x k : Nat) ∧ Hid (Below w.heap.size w wr)) (fun i _ _ => D.ns.length - (intOf i).toNat)
  case atStart => exact ⟨0, Nat.zero_le _, rfl, rfl, Lib.hid (Below.refl _ _)⟩
  case round =>
    obtain ⟨k, hk, rfl, rfl, HB⟩ := hrel
    by_cases hlt : k < D.ns.length
    · have HVr := Lib.hid (HV.out.below HB.out)
      obtain ⟨g1, m1, hv, _, _, d1, _⟩ := HVr.out.r1.at k hlt
      cases hv
      have hk2 : k < D.ds.length := by rw [← HS.out.same]; exact hlt
      obtain ⟨g2, m2, hv, _, _, d2, _⟩ := HVr.out.r2.at k hk2
      subst hv
      obtain ⟨_, c1, _⟩ := HVr.out.cells
      have hu := HU.out k
      have HE := Lib.hid (show usedK D x (k + 1) = usedK D x k + (if D.ns.getD k [] = x then 0 else (D.ds.getD k []).length) from rfl)
      have hdl := getD_le (k := k) HS.out.data
      generalize usedK D x k = u at hu HE ⊢
      generalize D.ns.getD k [] = nm at d1 HE
      generalize D.ds.getD k [] = da at d2 HE hdl
      have hki : (k : Int) < (D.ns.length : Int) := by omega
      have hki2 : (k : Int) < (D.ds.length : Int) := by omega
      have hwr : IntKind.i64.wrap ((u : Int) + (da.length : Int)) = ((u + da.length : Nat) : Int) := by rw [IntKind.wrap_i64] <;> omega
      clear HVr
      by_cases hx : nm = x
      · have HE2 := Lib.hid (show usedK D x (k + 1) = u by rw [HE.out, if_pos hx]; rfl)
        subst hx
        clear HE
        go_wp2
        go_roundw
        case rel => exact ⟨k + 1, by omega, by go_num, by rw [HE2.out], HB⟩
        case measure => simp [intOf]; omega
      · have HE2 := Lib.hid (show usedK D x (k + 1) = u + da.length by rw [HE.out, if_neg hx])
        have f1 : (nm == x) = false := by rw [beq_eq_false_iff_ne]; exact hx
        clear HE
        go_wp2
        go_roundw
        case rel => exact ⟨k + 1, by omega, by go_num, by rw [HE2.out]; push_cast; rfl, HB⟩
        case measure => simp [intOf]; omega
    · obtain rfl : k = D.ns.length := by omega
      go_wp2
      go_ret
      exact ⟨rfl, HB.out⟩
set_option maxRecDepth 100000 in
set_option maxHeartbeats 4000000 in
theorem keep_any {w : World} {B fb : Nat} {na : Nat} {D : DiskL} (h : DiskAt w B fb 16777216 na D) (hB : B ≤ w.heap.size) (hna : na ≤ 900) (n : Nat) (hn : n ≤ 700) (hs : Small D n) (x d : List UInt8) (hx : 1 ≤ x.length) (hx2 : x.length ≤ 99) (hd : d.length ≤ 5000) :
    Calls Tryz.prog 58 #[.pointer (some ⟨fb, 0, none⟩), .string (S x), .string (S d)] w fun e w' => e = .returned (.bool true) ∧ DiskAt w' B fb 16777216 (na + 4) (keepD D x d) ∧ Below B w w' ∧ KeepE w w' := by
  obtain ⟨v1, v2, v3, h⟩ := h
  have HV := Lib.hid h
  have HS := Lib.hid hs
  have hu := used_le hs x D.ns.length
  have hfew := hs.few
  obtain ⟨_, _, _, c3, _⟩ := h.cells
  have HK := Lib.hid (show keepD D x d = wrD (rmD (wrD D (asideB x) d) (asideB x)) x (rdD (wrD D (asideB x) d) (asideB x)) from rfl)
  have HS1 := Lib.hid (hs.wr (aside_len x hx2) hd)
  obtain ⟨u, hue⟩ : ∃ u, usedK D x D.ns.length = u := ⟨_, rfl⟩
  have HUs := Lib.hid (fun wx (hb : Below w.heap.size w wx) => by have := used_any (h.below hb) hs (by omega) x; rw [hue] at this; exact this)
  rw [hue] at hu
  obtain ⟨ax, has⟩ : ∃ ax, asideB x = ax := ⟨_, rfl⟩
  have hax : 116 :: List.take (x.length - 1) x.tail = ax := by
    rw [← has]; unfold asideB
    rw [List.take_of_length_le (by simp), List.drop_one]
  rw [has] at HK HS1
  have HAx := Lib.hid hax
  have hal : ax.length ≤ 99 := by rw [← has]; simp [asideB]; omega
  have hwr : IntKind.i64.wrap ((u : Int) + (d.length : Int)) = ((u : Int) + (d.length : Int)) := by rw [IntKind.wrap_i64] <;> omega
  have hroom : ¬ (16777216 : Int) < (u : Int) + (d.length : Int) := by omega
  have hx1 : (1 : Int) ≤ (x.length : Int) := by omega
  clear h hs hue has hax hu
  go_enter Tryz.func58, Tryz.ntmps58
  go_upto_region 1 with fail
  go_region_held3 (fun w' => w'.cell? ⟨fb, 3, none⟩ = some (.int .i64 16777216)) (go_keep) (first
    | (go_at_call 86; refine (HUs.out _ (by exact ⟨rfl, rfl, rfl, Nat.le_refl _, fun _ _ => rfl⟩)).mono ?_; rintro e1 w1 ⟨rfl, hb1⟩; have HB1 : Hid (Below w.heap.size w w1) := Lib.hid ((below_drew2 (Below.refl w.heap.size w)).trans hb1); obtain ⟨_, _, _, k3, _⟩ := (HV.out.below HB1.out).cells; clear hb1))
  have HV1 := Lib.hid (HV.out.below HB1.out)
  have HBB := Lib.hid (show Below B w w1 from HB1.out.mono hB)
  have hB1 := Nat.le_trans hB HBB.out.size
  go_upto_region 4 with fail
  go_wp2_with fail
  rw [HAx.out]
  refine (doW_any ⟨_, _, _, HV1.out⟩ hB1 (by omega) n (by omega) HS.out ax [] d).mono ?_
  rintro e w2 ⟨rfl, hd2, hb2, hk2⟩
  have HD2 := Lib.hid hd2
  have HK2 := Lib.hid ((KeepE.below HB1.out).trans hk2)
  have HB2 := Lib.hid (HBB.out.trans hb2)
  have hB2 := Nat.le_trans hB HB2.out.size
  clear hd2 hb2 hk2
  go_wp2_with fail
  refine (doS_any HD2.out hB2 (by omega) (n + 1) (by omega) HS1.out ax [] []).mono ?_
  rintro e w3 ⟨rfl, hd3, hb3, hk3⟩
  have HD3 := Lib.hid hd3
  have HK3 := Lib.hid (HK2.out.trans hk3)
  have HB3 := Lib.hid (HB2.out.trans hb3)
  have hB3 := Nat.le_trans hB HB3.out.size
  clear hd3 hb3 hk3 HD2 HB2 hB2
  go_wp2_with fail
  refine (doR_any HD3.out hB3 (by omega) (n + 1) (by omega) HS1.out ax x []).mono ?_
  rintro e w4 ⟨rfl, hd4, hb4, hk4⟩
  rw [← HK.out] at hd4
  have HD4 := Lib.hid hd4
  have HK4 := Lib.hid (HK3.out.trans hk4)
  have HB4 := Lib.hid (HB3.out.trans hb4)
  have hB4 := Nat.le_trans hB HB4.out.size
  clear hd4 hb4 hk4 HD3 HB3 hB3
  have HS4 := Lib.hid (HS.out.keep hx2 hd)
  go_wp2_with fail
  refine (doN_any HD4.out hB4 (by omega) (n + 2) (by omega) HS4.out [] [] []).mono ?_
  rintro e w5 ⟨rfl, hd5, hb5, hk5⟩
  have HD5 := Lib.hid hd5
  have HK5 := Lib.hid (HK4.out.trans hk5)
  have HB5 := Lib.hid (HB4.out.trans hb5)
  clear hd5 hb5 hk5
  go_wp2
  go_ret
  exact ⟨rfl, HD5.out, HB5.out, HK5.out⟩
end Go.Proofs.YtkdplkhnkimhpaaGreatDoor
