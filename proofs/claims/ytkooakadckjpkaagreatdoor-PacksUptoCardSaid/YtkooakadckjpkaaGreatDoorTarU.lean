/-
  The program: an archive.
-/
import Derived.Test.YtkooakadckjpkaaGreatDoorTarT
import Derived.Test.YtkooakadckjpkaaGreatDoorTarD
namespace Go.Proofs.YtkooakadckjpkaaGreatDoor
open Go.RowKit

theorem entB_pos (c : Ent) : 0 < (entB c).length := by unfold entB tailB; simp; omega
set_option maxHeartbeats 4000000 in
set_option maxRecDepth 100000 in
theorem packP_any (l : List Ent) (A : Option Addr) (cap : Nat) (w : World) (hr : Rd w A (ents l)) (hl : l.length ≤ 4294967290) (hz : (packsB l).length ≤ 3000000000) (hc : ∀ c ∈ l, Fit c) (hS : Std w) (hT : Tz w) :
    Calls Tryz.prog 17 #[.slice A l.length cap] w fun e w' => e = .returned (.string (S (packB l))) ∧ Below w.heap.size w w' := by
  have HF := Lib.hid hc
  have HS := Lib.hid hS
  have HT := Lib.hid hT
  have hb0 := Bld.new w.heap.size w (Nat.le_refl _)
  have hB0 := (Below.refl w.heap.size w).alloc (Nat.le_refl _) (.cells #[.pointer none, .slice none 0 0] tBld)
  have HB0 := Lib.hid hB0
  have Hb0 := Lib.hid hb0
  have HR := Lib.hid hr
  clear hc hS hT hb0 hB0 hr
  go_enter Tryz.func17, Tryz.ntmps17
  go_wp2
  try rw [show (ByteArray.mk #[]) = S [] from rfl]
  go_loopw [8] (fun i wr => ∃ k : Nat, k ≤ l.length ∧ i = .int .i64 k ∧ Hid (Bld w.heap.size w.heap.size (packsB (l.take k)) wr) ∧ Hid (Below w.heap.size w wr)) (fun i _ => l.length - (intOf i).toNat)
  case atStart => exact ⟨0, Nat.zero_le _, rfl, Hb0.out, HB0.out⟩
  case round =>
    obtain ⟨k, hk, rfl, HBd, HB⟩ := hrel
    have hq := packsB_le l k
    by_cases hlt : k < l.length
    · obtain ⟨b, o, rfl, hbb, c0, c1, c2, c3⟩ := ents_at HR.out HB.out k hlt
      have hq2 := packsB_le l (k + 1)
      have X := Lib.hid (packsB_take l k hlt)
      rw [packsB_take l k hlt, List.length_append] at hq2
      obtain ⟨c, hcc⟩ : ∃ c, l[k] = c := ⟨_, rfl⟩
      have hfit := Lib.hid (hcc ▸ HF.out _ (List.getElem_mem hlt))
      rw [hcc] at c0 c1 c2 c3 X hq2
      have hkl : (k : Int) < (l.length : Int) := by omega
      have HB1 := Lib.hid (HB.out.alloc HB.out.size (.cells #[.string (S c.path), .int .i64 c.kind, .int .i64 c.mode, .string (S c.data)] 36))
      have HBd1 := Lib.hid (HBd.out.after ((Below.refl _ _).alloc (Nat.le_refl _) (.cells #[.string (S c.path), .int .i64 c.kind, .int .i64 c.mode, .string (S c.data)] 36)))
      have hpos := entB_pos c
      clear hcc
      go_wp2_with fail
      refine (entryP_any c _ hfit.out (HS.out.below HB1.out) (HT.out.below HB1.out)).mono ?_
      rintro e w2 ⟨A2, cap2, rfl, hr2, hb2⟩
      have HR2 := Lib.hid hr2
      have HB2 := Lib.hid (HB1.out.trans (hb2.mono HB1.out.size))
      have HBd2 := Lib.hid (HBd1.out.after hb2)
      clear hr2 hb2 HB1 HBd1 c0 c1 c2 c3 HB HBd
      generalize hE : entB c = E at *
      clear hE
      go_wp2_with fail
      refine (write_any HBd2.out HR2.out hpos (by omega) HB2.out.size).mono ?_
      rintro e w3 ⟨rfl, hbd3, hb3⟩
      have HB3 := Lib.hid (HB2.out.trans hb3)
      have HBd3 := Lib.hid hbd3
      clear hbd3 hb3
      go_wp2_with fail
      go_round
      case rel => exact ⟨k + 1, by omega, by go_num, by rw [X.out]; exact HBd3.out, HB3.out⟩
      case measure => simp [intOf]; omega
    · obtain rfl : k = l.length := by omega
      have X := Lib.hid (show packB l = packsB l ++ List.replicate 1024 0 by simp [packB, packsB, filB])
      have hlz : (List.replicate 1024 (0 : UInt8)).length ≤ 1024 := by rw [List.length_replicate]; omega
      have hRp := Lib.hid (repeat_any 0 1024 wr (by omega))
      generalize List.replicate 1024 (0 : UInt8) = z at *
      go_wp2_with fail
      refine hRp.out.mono ?_
      rintro e w2 ⟨rfl, hb2⟩
      have HBd2 := Lib.hid (HBd.out.after hb2)
      have HB2 := Lib.hid (HB.out.trans (hb2.mono HB.out.size))
      clear hb2 hRp HBd HB
      go_wp2_with fail
      refine (writeString_any HBd2.out (by omega) HB2.out.size).mono ?_
      rintro e w3 ⟨rfl, hbd3, hb3, _⟩
      have HB3 := Lib.hid (HB2.out.trans hb3)
      have HBd3 := Lib.hid hbd3
      clear hbd3 hb3
      go_wp2_with fail
      refine (bldString_any HBd3.out HB3.out.size).mono ?_
      rintro e w4 ⟨rfl, hb4⟩
      go_wp2_with fail
      go_ret
      exact ⟨ret_str X.out.symm, HB3.out.trans hb4⟩
end Go.Proofs.YtkooakadckjpkaaGreatDoor
