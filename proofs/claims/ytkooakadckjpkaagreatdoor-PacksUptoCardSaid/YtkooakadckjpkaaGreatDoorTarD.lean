/-
  The document's answer: an archive.
-/
import Derived.Test.YtkooakadckjpkaaGreatDoorTarC
namespace Go.Proofs.YtkooakadckjpkaaGreatDoor
open Go.RowKit

theorem entryR_any (c : Ent) (h : Small c) (w : World) :
    Calls Tryz.prog 13 #[c.agg] w fun e w' => e = .returned (.string (S (entB c))) ∧ Below w.heap.size w w' := by
  obtain ⟨p, k, m, d⟩ := c
  obtain ⟨h1, h2, h3, h4, h5, h6⟩ := h
  simp only at h1 h2 h3 h4 h5 h6
  obtain ⟨m, rfl⟩ : ∃ n : Nat, m = n := ⟨m.toNat, by omega⟩
  rw [show Ent.agg ⟨p, k, m, d⟩ = .agg #[.string (S p), .int .i64 k, .int .i64 m, .string (S d)] from rfl]
  by_cases k1 : k = 1
  · subst k1; exact entryR_dir p d m w h1 h2 (by omega)
  by_cases k2 : k = 2
  · subst k2; exact entryR_file p d m w h1 h2 (by omega)
  by_cases k3 : k = 3
  · subst k3; exact entryR_link p d m w h1 h2 (by omega) (h6 rfl)
  exact entryR_mark p d k m w h1 h2 (by omega) k1 k2 k3 h5

def packsB (l : List Ent) : List UInt8 := (l.map entB).flatten
theorem packsB_take (l : List Ent) (k : Nat) (h : k < l.length) : packsB (l.take (k + 1)) = packsB (l.take k) ++ entB l[k] := by
  rw [List.take_succ_eq_append_getElem h]; simp only [packsB, List.map_append, List.flatten_append, List.map_cons, List.map_nil, List.flatten_cons, List.flatten_nil, List.append_nil]
theorem packsB_le (l : List Ent) (k : Nat) : (packsB (l.take k)).length ≤ (packsB l).length := by
  have e : packsB l = packsB (l.take k) ++ packsB (l.drop k) := by
    unfold packsB; rw [← List.flatten_append, ← List.map_append, List.take_append_drop]
  rw [e]; simp

set_option maxHeartbeats 2000000 in
theorem packR_any (l : List Ent) (A : Option Addr) (cap : Nat) (w : World) (hr : Rd w A (ents l)) (hl : l.length ≤ 4294967290) (hz : (packsB l).length ≤ 4000000000) (hc : ∀ c ∈ l, Small c) :
    Calls Tryz.prog 6 #[.slice A l.length cap] w fun e w' => e = .returned (.string (S (packB l))) ∧ Below w.heap.size w w' := by
  have hc := Lib.hid hc
  go_enter Tryz.func6, Tryz.ntmps6
  go_wp2
  try rw [show (ByteArray.mk #[]) = S [] from rfl]
  go_loopw [3, 4] (fun v i wr => ∃ k : Nat, k ≤ l.length ∧ i = .int .i64 k ∧ v = .string (S (packsB (l.take k))) ∧ Hid (Below w.heap.size w wr)) (fun _ i _ => l.length - (intOf i).toNat)
  case atStart => exact ⟨0, Nat.zero_le _, rfl, rfl, Below.refl _ _⟩
  case round =>
    obtain ⟨k, hk, rfl, rfl, hB⟩ := hrel
    have hq := packsB_le l k
    by_cases hlt : k < l.length
    · obtain ⟨b, o, rfl, hbb, c0, c1, c2, c3⟩ := ents_at hr hB.out k hlt
      have hq2 := packsB_le l (k + 1)
      have X := Lib.hid (packsB_take l k hlt)
      rw [packsB_take l k hlt, List.length_append] at hq2
      have hE := Lib.hid (fun w => entryR_any l[k] (hc.out _ (List.getElem_mem hlt)) w)
      clear hr
      go_wp2_with fail
      refine (hE.out _).mono ?_
      rintro e w2 ⟨rfl, hb2⟩
      have hB2 := Lib.hid (hB.out.trans (hb2.mono hB.out.size))
      clear hE
      generalize hEE : entB l[k] = E at X hq2 ⊢
      clear hEE
      go_wp2_with fail
      go_round
      case rel => exact ⟨k + 1, by omega, by go_num, str_eq X.out.symm, hB2.out⟩
      case measure => simp [intOf]; omega
    · obtain rfl : k = l.length := by omega
      rw [List.take_length]
      clear hr
      go_wp2_with fail
      refine (filled_any [] 1024 (by simp) (by omega) _).mono ?_
      rintro e w' ⟨rfl, rfl⟩
      have X := Lib.hid (show packB l = packsB l ++ filB [] 1024 from rfl)
      have lz := filB_len' [] 1024
      replace lz : (filB [] 1024).length ≤ 1024 := by simp only [List.length_nil] at lz; omega
      generalize hfz : filB [] 1024 = z at X lz ⊢
      go_wp2_with fail
      go_ret
      exact ⟨ret_str X.out.symm, hB.out⟩
end Go.Proofs.YtkooakadckjpkaaGreatDoor
