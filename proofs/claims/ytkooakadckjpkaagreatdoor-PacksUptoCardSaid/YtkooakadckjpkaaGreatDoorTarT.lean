/-
  The program: an archive's entry, of whatever kind; a builder takes bytes.
-/
import Derived.Test.YtkooakadckjpkaaGreatDoorTarSdir
import Derived.Test.YtkooakadckjpkaaGreatDoorTarSlink
import Derived.Test.YtkooakadckjpkaaGreatDoorTarSfile
import Derived.Test.YtkooakadckjpkaaGreatDoorTarSfileD
import Derived.Test.YtkooakadckjpkaaGreatDoorTarSgone
import Derived.Test.YtkooakadckjpkaaGreatDoorTarSclear
namespace Go.Proofs.YtkooakadckjpkaaGreatDoor
open Go.RowKit

theorem fit_small {c : Ent} (h : Fit c) : c.path.length ≤ 170 ∧ 0 ≤ c.mode ∧ c.mode ≤ 511 ∧ c.data.length ≤ 4096 ∧ (c.kind = 3 → c.data.length ≤ 100) ∧ (c.kind = 1 ∨ c.kind = 2 ∨ c.kind = 3 ∨ c.kind = 4 ∨ c.kind = 5) := by
  obtain ⟨hp, hg, h0⟩ := h
  obtain ⟨hl, _⟩ := pathB_ok hp
  refine ⟨hl, ?_⟩
  rcases hg with hg | hg
  · unfold goodB modeE at hg
    split at hg
    · rename_i k1
      simp only [Bool.and_eq_true, decide_eq_true_eq, List.isEmpty_iff] at hg
      obtain ⟨⟨h1, h2⟩, h3⟩ := hg
      rw [h3]; exact ⟨h1, h2, by simp, by simp, .inl k1⟩
    · split at hg
      · rename_i _ k2
        simp only [Bool.and_eq_true, decide_eq_true_eq] at hg
        obtain ⟨⟨h1, h2⟩, h3⟩ := hg
        exact ⟨h1, h2, h3, by intro e; omega, .inr (.inl k2)⟩
      · split at hg
        · rename_i _ _ k3
          simp only [Bool.and_eq_true, decide_eq_true_eq, targetB] at hg
          obtain ⟨h1, _, _, h3⟩ := hg
          exact ⟨by omega, by omega, by omega, fun _ => h3, .inr (.inr (.inl k3))⟩
        · cases hg
  · unfold markB at hg
    simp only [Bool.and_eq_true, Bool.or_eq_true, decide_eq_true_eq, List.isEmpty_iff] at hg
    obtain ⟨⟨h1, h2⟩, h3⟩ := hg
    rw [h3]
    exact ⟨by omega, by omega, by simp, by simp, by omega⟩
theorem entryP_any (c : Ent) (w : World) (hF : Fit c) (hS : Std w) (hT : Tz w) :
    Calls Tryz.prog 31 #[c.agg] w (EntOut (entB c) w) := by
  obtain ⟨h1, h2, h3, h4, h5, h6⟩ := fit_small hF
  have h0 := hF.2.2
  obtain ⟨p, k, m, d⟩ := c
  simp only at h0 h1 h2 h3 h4 h5 h6
  obtain ⟨m, rfl⟩ : ∃ n : Nat, m = n := ⟨m.toNat, by omega⟩
  rw [show Ent.agg ⟨p, k, m, d⟩ = .agg #[.string (S p), .int .i64 k, .int .i64 m, .string (S d)] from rfl]
  rcases h6 with rfl | rfl | rfl | rfl | rfl
  · exact entryP_dir p d m w hF (by omega) h4 h1 hS hT
  · by_cases hd : d = []
    · subst hd; exact entryP_file p m w hF (by omega) h1 hS hT
    · exact entryP_fileD p d m w hF (by omega) h4 h1 hd hS hT
  · exact entryP_link p d m w hF (by omega) h4 h1 (h5 rfl) hS hT
  · exact entryP_gone p d m w hF (by omega) h4 h1 (fun e => by have := h0 e; omega) hS hT
  · exact entryP_clear p d m w hF (by omega) h4 h1 hS hT

theorem Rd.far {w : World} {A : Option Addr} {cs : List Value} (h : Rd w A cs) (b : Nat) (hb : ∀ a, A = some a → a.block ≠ b) (o : Nat) (v : Value) : Rd (w.setCell ⟨b, o, none⟩ v) A cs := by
  rcases h with h | ⟨g, o', rfl, hc⟩
  · exact .inl h
  · refine .inr ⟨g, o', rfl, fun i u hu => ?_⟩
    rw [World.cell?_setCell_other _ _ _ _ (by intro e; have := congrArg Addr.block e; exact hb _ rfl this.symm)]; exact hc i u hu
theorem copyCheck_rd {B b : Nat} {bs : List Value} {w : World} (h : Lib.IsBuilder tBld tByte B b bs w) {A : Option Addr} {cs : List Value} (hr : Rd w A cs) (hn : ∀ a, A = some a → a.block ≠ b) :
    Calls Tryz.prog 48 #[.pointer (some ⟨b, 0, none⟩)] w fun e w' => e = .returned (.tuple #[]) ∧ Lib.BuilderAt tBld tByte B b (.pointer (some ⟨b, 0, none⟩)) bs w' ∧ Below B w w' ∧ w'.heap.size = w.heap.size ∧ Rd w' A cs := by
  rcases h with h | h
  · refine (copyCheck_fresh b w h.cell0 h.shape h.frozen0).mono ?_
    rintro e w' ⟨rfl, rfl⟩
    exact ⟨rfl, h.used _, (Below.refl B w).setCell (p := ⟨b, 0, none⟩) h.1 _, by simp, hr.far b hn 0 _⟩
  · refine (copyCheck_used b w h.cell0).mono ?_
    rintro e w' ⟨rfl, rfl⟩
    exact ⟨rfl, h, Below.refl B _, rfl, hr⟩
theorem bytesV_cells (l : List UInt8) : bytesV l = Lib.byteCells l := rfl
/-- bytes that are read do not lie in a builder -/
theorem Rd.notBld {B b : Nat} {l s : List UInt8} {A : Option Addr} {w : World} (h : Bld B b l w) (hr : Rd w A (bytesV s)) (hs : 0 < s.length) : ∀ a, A = some a → a.block ≠ b := by
  rintro a rfl e
  rcases hr with h0 | ⟨g, o, ha, hc⟩
  · have := congrArg List.length h0; rw [bytesV_len, List.length_nil] at this; omega
  · obtain rfl := Option.some.inj ha
    subst e
    have h1 := hc 0 _ (List.getElem?_eq_getElem (show 0 < (bytesV s).length by rw [bytesV_len]; exact hs))
    have key : ∀ p, Lib.BuilderAt tBld tByte B g (.pointer p) (Lib.byteCells l) w → False := by
      intro p ⟨hB, v, hbk, hown, _⟩
      obtain ⟨ao, c, rfl⟩ := ownsRow_form hown
      rw [Nat.add_zero] at h1
      have h2 : w.cell? ⟨g, o, none⟩ = #[Value.pointer p, .slice ao (Lib.byteCells l).length c][o]? := cell_of_row w g o _ _ _ hbk
      rw [h2] at h1
      have hv : (bytesV s)[0]'(by rw [bytesV_len]; exact hs) = .int .u8 (s[0].toNat : Int) := by simp [bytesV]
      rw [hv] at h1
      match o, h1 with
      | 0, h1 => simp at h1
      | 1, h1 => simp at h1
      | (n + 2), h1 => simp at h1
    rcases h with h | h
    · exact key _ h
    · exact key _ h

set_option maxHeartbeats 2000000 in
set_option maxRecDepth 100000 in
theorem write_any {B b : Nat} {l s : List UInt8} {A : Option Addr} {cap : Nat} {w : World} (h : Bld B b l w) (hr : Rd w A (bytesV s)) (hs0 : 0 < s.length) (hlen : l.length + s.length ≤ 4000000000) (hBw : B ≤ w.heap.size) :
    Calls Tryz.prog 30 #[.pointer (some ⟨b, 0, none⟩), .slice A s.length cap] w fun e w' => e = .returned (.tuple #[.int .i64 s.length, .nilIface]) ∧ Bld B b (l ++ s) w' ∧ Below B w w' := by
  obtain ⟨i0, hi, hz0, hz1, hz2⟩ := info_parts (show (Tryz.prog.info? tByte).map (fun i => (i.zero, i.size, i.bytes)) = some (some (.int .u8 0), 1, 1) by kernel_rfl)
  have hll : (Lib.byteCells l).length = l.length := Lib.byteCells_length l
  have hn := Lib.hid (Rd.notBld h hr hs0)
  have HS := Lib.hid hBw
  have HH := Lib.hid h
  have HR := Lib.hid hr
  clear h hBw hr
  go_enter Tryz.func30, Tryz.ntmps30
  go_wp2_with fail
  refine (copyCheck_rd HH.out HR.out hn.out).mono ?_
  rintro e1 w1 ⟨rfl, h1, hb1, hs1, hr1⟩
  obtain ⟨hB, v, hbk, hown, hne⟩ := h1
  have HS1 := Lib.hid hs1
  have HB := Lib.hid hB
  have HBK := Lib.hid hbk
  have HO := Lib.hid hown
  have HN := Lib.hid hne
  have c0 : w1.cell? ⟨b, 0, none⟩ = some (.pointer (some ⟨b, 0, none⟩)) := by rw [Lib.cell_of_heap hbk]; rfl
  have c1 : w1.cell? ⟨b, 1, none⟩ = some v := by rw [Lib.cell_of_heap hbk]; rfl
  have f1 : w1.frozen? ⟨b, 1, none⟩ = false := Lib.frozen_of_heap hbk 1
  have hlt : b < w1.heap.size := World.block_lt_of_cell? w1 _ c0
  obtain ⟨g, o, rfl, _, hcells⟩ := hr1.at 0 (by rw [bytesV_len]; exact hs0)
  have HC := Lib.hid (show ∀ j u, (bytesV s)[j]? = some u → w1.cell? ((⟨g, o, none⟩ : Addr).add j) = some u by
    intro j u hu
    have := hcells j u hu
    rw [show (⟨g, o, none⟩ : Addr).add j = ⟨g, o + j, none⟩ from by simp [Addr.add]]
    exact this)
  have hone := Lib.hid (show ∀ u ∈ bytesV s, u.oneCell' = true by
    intro u hu
    unfold bytesV at hu
    obtain ⟨x, _, rfl⟩ := List.mem_map.1 hu; rfl)
  have hbl := Lib.hid (bytesV_len s)
  clear hB hbk hown hne hs1 hcells hr1 hn HR HH
  go_wp2_with (at_builtin; refine wpList_append_own _ rfl _ _ 57 rfl B tByte i0 (.int .u8 0) 1 1 Tryz.underlying57 hi hz0 hz1 hz2 rfl (by decide) _ _ _ rfl HO.out ⟨g, o, none⟩ s.length cap (bytesV s) rfl (by rw [hbl.out]; omega) HC.out hone.out (by rw [hll]; unfold maxLen; omega) (by rw [hll]; omega) (by have := HS1.out; have := HS.out; omega) ?_; intro v' w2 hown2 hgr2 _; have HO2 := Lib.hid hown2; have HG2 := Lib.hid hgr2; obtain ⟨g', cap', rfl⟩ := ownsRow_form hown2; have hb2 : w2.heap[b]? = some (.cells #[.pointer (some ⟨b, 0, none⟩), v] tBld (0, 0)) := (by rw [hgr2.block b hlt (fun e => HN.out e.symm)]; exact HBK.out); have HB2 := Lib.hid hb2; have d1 : w2.cell? ⟨b, 1, none⟩ = some v := (by rw [Lib.cell_of_heap hb2]; rfl); have f2 : w2.frozen? ⟨b, 1, none⟩ = false := Lib.frozen_of_heap hb2 1; clear hown2 hgr2 hb2)
  go_ret2
  refine ⟨by simp, .inr ?_, ?_⟩
  · refine Lib.BuilderAt.put (T := tBld) (e := tByte) HB.out HB2.out (bs' := Lib.byteCells (l ++ s)) ?_ (by decide)
    have h3 := HO2.out
    rw [hll, bytesV_cells] at h3
    rw [show Lib.byteCells (l ++ s) = Lib.byteCells l ++ Lib.byteCells s from by unfold Lib.byteCells; rw [List.map_append], List.length_append, hll, Lib.byteCells_length]
    exact h3
  · exact (hb1.grown HG2.out (by have := HS1.out; have := HS.out; omega) (fun k hk => (HO.out.lt k hk).1)).setCell (p := ⟨b, 1, none⟩) HB.out _
end Go.Proofs.YtkooakadckjpkaaGreatDoor
