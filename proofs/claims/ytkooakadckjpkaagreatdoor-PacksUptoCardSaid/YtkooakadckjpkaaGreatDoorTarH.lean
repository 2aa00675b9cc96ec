/-
  The program: a number set into a header in octal digits.
-/
import Derived.Test.YtkooakadckjpkaaGreatDoorTarG
import Derived.Test.YtkooakadckjpkaaGreatDoorTarL
namespace Go.Proofs.YtkooakadckjpkaaGreatDoor
open Go.RowKit

theorem formatI_any (n : Nat) (w : World) (hT : Tz w) (hn : n < 4294967290) :
    Calls Tryz.prog 77 #[.int .i64 n, .int .i64 8] w fun e w' => e = .returned (.string (S (octB n))) ∧ Below w.heap.size w w' := by
  go_enter Tryz.func77, Tryz.ntmps77
  go_wp2_with fail
  refine (formatBits_any n _ hT hn).mono ?_
  rintro e w1 ⟨rfl, hb1⟩
  go_wp2_with fail
  go_ret
  exact ⟨rfl, hb1⟩
theorem format_any (n : Nat) (w : World) (hT : Tz w) (hn : n < 4294967290) :
    Calls Tryz.prog 68 #[.int .i64 n, .int .i64 8] w fun e w' => e = .returned (.string (S (octB n))) ∧ Below w.heap.size w w' := by
  go_enter Tryz.func68, Tryz.ntmps68
  go_wp2_with fail
  refine (formatI_any n _ hT hn).mono ?_
  rintro e w1 ⟨rfl, hb1⟩
  go_wp2_with fail
  go_ret
  exact ⟨rfl, hb1⟩

theorem Hdr.below {w w' : World} {g : Nat} {L : List UInt8} (h : Hdr w g L) (hb : Below w.heap.size w w') : Hdr w' g L := by
  obtain ⟨h1, h2⟩ := h
  have hg : g < w.heap.size := World.block_lt_of_cell? w _ (h2.cell (i := 0) (by omega))
  refine ⟨h1, ?_⟩
  obtain ⟨c, hc, hcc⟩ := h2
  exact ⟨c, (hb.block g hg).trans hc, hcc⟩
theorem Hdr.lt {w : World} {g : Nat} {L : List UInt8} (h : Hdr w g L) : g < w.heap.size := World.block_lt_of_cell? w _ (h.2.cell (i := 0) (by omega))

set_option maxHeartbeats 1000000 in
theorem num_any (g : Nat) (L : List UInt8) (a k n : Nat) (w : World) (hH : Hdr w g L) (hT : Tz w) (ha : a + k ≤ 512) (hk : (octB n).length ≤ k) (hk2 : k ≤ 100) (hn : n < 4294967290) :
    Calls Tryz.prog 52 #[.pointer (some ⟨g, 0, none⟩), .int .i64 a, .int .i64 k, .int .i64 n] w fun e w' => e = .returned (.tuple #[]) ∧ Hdr w' g (setB L a (numB n k)) ∧ Below g w w' := by
  have ho := octB_pos n
  have X := Lib.hid (show numB n k = List.replicate (k - (octB n).length) 48 ++ octB n from rfl)
  have Y := Lib.hid (numB_len n k hk)
  have HH := Lib.hid hH
  have hF := Lib.hid (format_any n w hT hn)
  have hlt := hH.lt
  clear hH hT
  generalize octB n = o at *
  go_enter Tryz.func52, Tryz.ntmps52
  go_wp2_with fail
  refine hF.out.mono ?_
  rintro e w1 ⟨rfl, hb1⟩
  have H1 := Lib.hid (HH.out.below hb1)
  have B1 := Lib.hid hb1
  clear hb1 HH hF
  have hkk : (k : Int) - (o.length : Int) = ((k - o.length : Nat) : Int) := by omega
  go_wp2_with fail
  refine (repeat_any 48 (k - o.length) _ (by omega)).mono ?_
  rintro e w2 ⟨rfl, hb2⟩
  have H2 := Lib.hid (H1.out.below hb2)
  have B2 := Lib.hid (B1.out.trans (hb2.mono B1.out.size))
  have hl : (List.replicate (k - o.length) (48 : UInt8)).length ≤ 1000 := by simp; omega
  have hl2 : o.length ≤ 1000 := by omega
  rw [X.out] at Y
  generalize List.replicate (k - o.length) (48 : UInt8) = z at *
  clear hb2 B1 H1 hkk
  go_wp2_with fail
  refine (text_any g L a (z ++ o) _ H2.out (by rw [Y.out]; omega) (by omega)).mono ?_
  rintro e w3 ⟨rfl, rfl⟩
  go_wp2_with fail
  go_end0
  exact ⟨rfl, by rw [X.out, ← List.map_append]; exact H2.out.set a _ (by rw [Y.out]; omega), below_setCells (Nat.le_refl _) _ _ _ (B2.out.mono (Nat.le_of_lt hlt))⟩
end Go.Proofs.YtkooakadckjpkaaGreatDoor
