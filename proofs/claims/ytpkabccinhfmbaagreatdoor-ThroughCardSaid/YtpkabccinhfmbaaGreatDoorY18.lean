/-
  The library: ParseInt of octal digits.
  The keeper's answer: noughts, head, field, value.
  The keeper's answer: is a header right.
-/
import Derived.Deep.DeepCutAuto
import Derived.BigQuiet
import Derived.StillTailTactics
import Derived.WalkSmall
import Derived.BigRegion
import Derived.Test.YtpkabccinhfmbaaGreatDoorY01
import Derived.Test.YtpkabccinhfmbaaGreatDoorY17
set_option linter.unusedVariables false
set_option linter.unusedSimpArgs false
namespace Go.Proofs.YtpkabccinhfmbaaGreatDoor
open Go.RowKit

theorem val_fold (t : List UInt8) : ∀ a : Nat, a ≤ t.foldl (fun n c => 8 * n + (c.toNat - 48)) a := by
  induction t with
  | nil => intro a; exact Nat.le_refl _
  | cons c t ih => intro a; exact Nat.le_trans (by omega) (ih (8 * a + (c.toNat - 48)))
theorem val_take (s : List UInt8) (k : Nat) : valB (s.take k) ≤ valB s := by
  have h := val_fold (s.drop k) (valB (s.take k))
  have e : valB s = (s.drop k).foldl (fun n c => 8 * n + (c.toNat - 48)) (valB (s.take k)) := by
    conv => lhs; rw [← List.take_append_drop k s]
    unfold valB
    rw [List.foldl_append]
  rw [e]; exact h
set_option maxRecDepth 100000 in
set_option maxHeartbeats 4000000 in
theorem puint_any (s : List UInt8) (w : World) (h0 : 0 < s.length) (hl : s.length ≤ 20) (hd : ∀ c ∈ s, 48 ≤ c.toNat ∧ c.toNat ≤ 55) (hv : valB s < 2147483648) :
    Calls Tryz.prog 105 #[.string (S s), .int .i64 8, .int .i64 32] w fun e w' => e = .returned (.tuple #[.int .u64 (valB s : Nat), .nilIface]) ∧ Below w.heap.size w w' := by
  obtain ⟨c0, ob, hcv, hbf⟩ := buf_of_string (P := Tryz.prog) w 9 95 5 s (by kernel_rfl) (by kernel_rfl) (by kernel_rfl) w.heap.size (Nat.le_refl _) (by omega)
  have HC := Lib.hid hbf
  have HBC := Lib.hid (Below.alloc (below_drew2 (Below.refl w.heap.size w)) (Nat.le_refl _) ob)
  have HD := Lib.hid hd
  have HVt := Lib.hid (fun k => val_take s k)
  have hem : s.isEmpty = false := by cases s with
    | nil => simp at h0
    | cons x r => rfl
  clear hbf hd
  go_enter Tryz.func105, Tryz.ntmps105
  go_wp2
  obtain ⟨CU, hCU⟩ : ∃ CU : Int, CU = 2305843009213693952 := ⟨_, rfl⟩
  obtain ⟨MU, hMU⟩ : ∃ MU : Int, MU = 4294967295 := ⟨_, rfl⟩
  rw [show Value.int IntKind.u64 2305843009213693952 = Value.int IntKind.u64 CU by rw [hCU], show Value.int IntKind.u64 4294967295 = Value.int IntKind.u64 MU by rw [hMU]]
  have HCU := Lib.hid hCU
  have HMU := Lib.hid hMU
  clear hCU hMU
  go_loopw [101, 13, 12] (fun i v us wr => ∃ k : Nat, k ≤ s.length ∧ i = .int .i64 k ∧ v = .int .u64 (valB (s.take k) : Nat) ∧ us = .bool false ∧ Hid (Below (w.drew.alloc ob).heap.size (w.drew.alloc ob) wr)) (fun i _ _ _ => s.length - (intOf i).toNat)
  case atStart => exact ⟨0, Nat.zero_le _, rfl, rfl, rfl, Lib.hid (Below.refl _ _)⟩
  case round =>
    obtain ⟨k, hk, rfl, rfl, rfl, HB⟩ := hrel
    by_cases hlt : k < s.length
    · obtain ⟨b, o, hbo, _, hc⟩ := HC.out.rd.at k (by rw [u8s_len]; exact hlt)
      cases hbo
      have g0 := (HB.out.cell (p := ⟨w.heap.size, 0 + k, none⟩) HC.out.lt).trans (hc _ _ (u8s_get s k hlt))
      rw [Nat.zero_add] at g0
      have hcd := HD.out _ (List.getElem_mem hlt)
      have hvt := HVt.out (k + 1)
      have HE := Lib.hid (show valB (s.take (k + 1)) = 8 * valB (s.take k) + (s[k].toNat - 48) by rw [List.take_succ_eq_append_getElem hlt, val_snoc])
      rw [HE.out] at hvt
      obtain ⟨c, hcc⟩ : ∃ c, s[k].toNat = c := ⟨_, rfl⟩
      rw [hcc] at g0 hcd HE hvt
      clear hc hcc
      generalize valB (s.take k) = v at HE hvt ⊢
      have HCd := Lib.hid hcd
      have hb1 : (48 : Int) ≤ (c : Int) := by omega
      have hb2 : (c : Int) ≤ 55 := by omega
      have hcut : ¬ CU ≤ (v : Int) := by have := HCU.out; omega
      have hmax : ¬ MU < (v : Int) * 8 + ((c : Int) - 48) := by have := HMU.out; omega
      have hvb : (v : Int) ≤ 268435456 := by omega
      have HVB := Lib.hid hvt
      have h95 : ((c : Int) == 95) = false := by rw [beq_eq_false_iff_ne]; omega
      have hki : (k : Int) < (s.length : Int) := by omega
      clear hcd hvt hcv hem h0 hv
      go_wp2
      go_roundw
      case rel => exact ⟨k + 1, by omega, by go_num, by rw [HE.out]; have := HCd.out; congr 1; omega, rfl, HB⟩
      case measure => simp [intOf]; omega
    · obtain rfl : k = s.length := by omega
      rw [List.take_length] at *
      have HB2 := Lib.hid (HBC.out.trans (HB.out.mono HBC.out.size))
      clear hcv hem
      go_wp2
      go_ret2
      exact ⟨rfl, HB2.out⟩
set_option maxRecDepth 100000 in
set_option maxHeartbeats 4000000 in
theorem pintI_any (s : List UInt8) (w : World) (h0 : 0 < s.length) (hl : s.length ≤ 20) (hd : ∀ c ∈ s, 48 ≤ c.toNat ∧ c.toNat ≤ 55) (hv : valB s < 2147483648) :
    Calls Tryz.prog 83 #[.string (S s), .int .i64 8, .int .i64 32] w fun e w' => e = .returned (.tuple #[.int .i64 (valB s : Nat), .nilIface]) ∧ Below w.heap.size w w' := by
  have HU := Lib.hid (puint_any s w h0 hl hd hv)
  have HV := Lib.hid hv
  have hem : s.isEmpty = false := by cases s with
    | nil => simp at h0
    | cons x r => rfl
  have hd0 := hd _ (List.getElem_mem h0)
  obtain ⟨c, hc⟩ : ∃ c, s[0].toNat = c := ⟨_, rfl⟩
  rw [hc] at hd0
  have h43 : ((c : Int) == 43) = false := by rw [beq_eq_false_iff_ne]; omega
  have h45 : ((c : Int) == 45) = false := by rw [beq_eq_false_iff_ne]; omega
  have h0i : (0 : Int) < (s.length : Int) := by omega
  obtain ⟨v, hvv⟩ : ∃ v, valB s = v := ⟨_, rfl⟩
  rw [hvv] at HU HV ⊢
  clear hd hd0 hv hvv
  go_enter Tryz.func83, Tryz.ntmps83
  go_wp2_with fail
  refine HU.out.mono ?_
  rintro e w1 ⟨rfl, hb⟩
  have HB := Lib.hid hb
  clear hb hem
  go_upto_region 17 with fail
  obtain ⟨CU, hCU⟩ : ∃ CU : Int, CU = 2147483648 := ⟨_, rfl⟩
  rw [show Value.int IntKind.u64 2147483648 = Value.int IntKind.u64 CU by rw [hCU]]
  have hcut : ¬ CU ≤ (v : Int) := by have := HV.out; omega
  have hvb : (v : Int) ≤ 4000000000 := by have := HV.out; omega
  clear hCU
  go_wp2
  go_ret2
  exact ⟨rfl, HB.out⟩
set_option maxHeartbeats 2000000 in
theorem pint_any (s : List UInt8) (w : World) (h0 : 0 < s.length) (hl : s.length ≤ 20) (hd : ∀ c ∈ s, 48 ≤ c.toNat ∧ c.toNat ≤ 55) (hv : valB s < 2147483648) :
    Calls Tryz.prog 67 #[.string (S s), .int .i64 8, .int .i64 32] w fun e w' => e = .returned (.tuple #[.int .i64 (valB s : Nat), .nilIface]) ∧ Below w.heap.size w w' := by
  have HU := Lib.hid (pintI_any s w h0 hl hd hv)
  generalize valB s = v at HU ⊢
  clear hd hv
  go_enter Tryz.func67, Tryz.ntmps67
  go_wp2_with fail
  refine HU.out.mono ?_
  rintro e w1 ⟨rfl, hb⟩
  have HB := Lib.hid hb
  clear hb
  go_wp2
  go_ret2
  exact ⟨rfl, HB.out⟩
end Go.Proofs.YtpkabccinhfmbaaGreatDoor
namespace Go.Proofs.YtpkabccinhfmbaaGreatDoor
open Go.RowKit

set_option maxHeartbeats 4000000 in
theorem noughts_any (s : List UInt8) (w : World) (hz : ∀ x ∈ s, x = 0) (hl : s.length ≤ 1000000) :
    Calls Tryz.prog 9 #[.string (S s)] w fun e w' => e = .returned (.bool true) ∧ w = w' := by
  have HZ := Lib.hid hz
  clear hz
  go_enter Tryz.func9, Tryz.ntmps9
  go_wp2
  go_loop [3] (fun v => ∃ k : Nat, k ≤ s.length ∧ v = .int .i64 k) (fun v => s.length - (intOf v).toNat)
  case atStart => exact ⟨0, Nat.zero_le _, rfl⟩
  case round =>
    obtain ⟨k, hk, rfl⟩ := hrel
    by_cases hlt : k < s.length
    · have hkl : (k : Int) < (s.length : Int) := by omega
      have h0 : ((s[k].toNat : Int) != 0) = false := by rw [HZ.out _ (List.getElem_mem hlt)]; rfl
      go_wp2
      go_round
      case rel => exact ⟨k + 1, by omega, by go_num⟩
      case measure => simp [intOf]; omega
    · obtain rfl : k = s.length := by omega
      go_wp2
      go_ret
      exact ⟨rfl, rfl⟩
set_option maxHeartbeats 4000000 in
theorem head_any (s p : List UInt8) (w : World) (hz : ∀ x ∈ p, x ≠ 0) (n : Nat) (hs : s = p ++ List.replicate n 0) (hl : s.length ≤ 1000000) :
    Calls Tryz.prog 18 #[.string (S s)] w fun e w' => e = .returned (.tuple #[.int .i64 (p.length : Nat), .bool true]) ∧ w = w' := by
  have HZ := Lib.hid hz
  have hsl : s.length = p.length + n := by rw [hs]; simp
  have HS := Lib.hid hs
  clear hz hs
  have HSL := Lib.hid hsl
  clear hsl
  go_enter Tryz.func18, Tryz.ntmps18
  go_wp2
  go_loop [4] (fun v => ∃ k : Nat, k ≤ p.length ∧ v = .int .i64 k) (fun v => p.length - (intOf v).toNat)
  case atStart => exact ⟨0, Nat.zero_le _, rfl⟩
  case round =>
    obtain ⟨k, hk, rfl⟩ := hrel
    by_cases hlt : k < p.length
    · have hks : k < s.length := by have := HSL.out; omega
      have hkl : (k : Int) < (s.length : Int) := by omega
      have h0 : ((s[k].toNat : Int) == 0) = false := by
        have e : s[k] = p[k] := by simp only [HS.out]; rw [List.getElem_append_left hlt]
        rw [e, beq_eq_false_iff_ne]
        intro x
        exact HZ.out _ (List.getElem_mem hlt) (UInt8.toNat_inj.1 (show p[k].toNat = 0 by omega))
      go_wp2
      go_round
      case rel => exact ⟨k + 1, by omega, by go_num⟩
      case measure => simp [intOf]; omega
    · obtain rfl : k = p.length := by omega
      by_cases hn : n = 0
      · have hpe : p.length = s.length := by have := HSL.out; omega
        rw [hpe]
        go_wp2
        go_ret2
        exact ⟨rfl, rfl⟩
      · have hks : p.length < s.length := by have := HSL.out; omega
        have hkl : (p.length : Int) < (s.length : Int) := by omega
        have hd : s.drop p.length = List.replicate n 0 := by rw [HS.out]; simp
        have h0 : ((s[p.length].toNat : Int) == 0) = true := by
          have e : s[p.length] = 0 := by simp only [HS.out]; rw [List.getElem_append_right (Nat.le_refl _)]; simp
          rw [e]; rfl
        have HN := Lib.hid (noughts_any (s.drop p.length) w (by rw [hd]; intro x hx; exact (List.mem_replicate.1 hx).2) (by simp; omega))
        clear hd
        go_wp2_with fail
        refine HN.out.mono ?_
        rintro e w1 ⟨rfl, rfl⟩
        go_wp2_with fail
        go_ret2
        exact ⟨rfl, rfl⟩
set_option maxHeartbeats 4000000 in
theorem field_any (s t : List UInt8) (w : World) (hs : s = t ++ [0]) (hd : ∀ c ∈ t, 48 ≤ c.toNat ∧ c.toNat ≤ 55) (hl : s.length ≤ 1000000) :
    Calls Tryz.prog 19 #[.string (S s)] w fun e w' => e = .returned (.bool true) ∧ w = w' := by
  have HD := Lib.hid hd
  have HSL := Lib.hid (show s.length = t.length + 1 by rw [hs]; simp)
  have HS := Lib.hid hs
  clear hd hs
  go_enter Tryz.func19, Tryz.ntmps19
  go_wp2
  go_loop [3] (fun v => ∃ k : Nat, k ≤ t.length ∧ v = .int .i64 k) (fun v => t.length - (intOf v).toNat)
  case atStart => exact ⟨0, Nat.zero_le _, rfl⟩
  case round =>
    obtain ⟨k, hk, rfl⟩ := hrel
    by_cases hlt : k < t.length
    · have hks : k < s.length := by have := HSL.out; omega
      have hkl : (k : Int) < (s.length : Int) := by omega
      have hkm : (k : Int) < (s.length : Int) - 1 := by have := HSL.out; omega
      obtain ⟨h1, h2⟩ := HD.out _ (List.getElem_mem hlt)
      have e : s[k] = t[k] := by simp only [HS.out]; rw [List.getElem_append_left hlt]
      rw [← e] at h1 h2
      have g1 : ¬ ((s[k].toNat : Int) < 48) := by omega
      have g2 : ¬ (55 < (s[k].toNat : Int)) := by omega
      clear e h1 h2
      go_wp2
      go_round
      case rel => exact ⟨k + 1, by omega, by go_num⟩
      case measure => simp [intOf]; omega
    · obtain rfl : k = t.length := by omega
      have hm : s.length - 1 = t.length := by have := HSL.out; omega
      have hkm : ¬ ((t.length : Int) < (s.length : Int) - 1) := by have := HSL.out; omega
      have hks : t.length < s.length := by have := HSL.out; omega
      have hwr : IntKind.i64.wrap ((s.length : Int) - 1) = (t.length : Int) := by rw [IntKind.wrap_i64]; have := HSL.out; omega
      have h0 : ((s[t.length].toNat : Int) == 0) = true := by
        have e : s[t.length] = 0 := by simp only [HS.out]; rw [List.getElem_append_right (Nat.le_refl _)]; simp
        rw [e]; rfl
      go_wp2
      go_ret
      exact ⟨rfl, rfl⟩
set_option maxHeartbeats 4000000 in
theorem value_any (s t : List UInt8) (w : World) (hs : s = t ++ [0]) (hd : ∀ c ∈ t, 48 ≤ c.toNat ∧ c.toNat ≤ 55) (hl : s.length ≤ 1000000) (hv : valB t ≤ 100000000) :
    Calls Tryz.prog 20 #[.string (S s)] w fun e w' => e = .returned (.int .i64 (valB t : Nat)) ∧ w = w' := by
  have HD := Lib.hid hd
  have HVt := Lib.hid (fun k => val_take t k)
  have HSL := Lib.hid (show s.length = t.length + 1 by rw [hs]; simp)
  have HS := Lib.hid hs
  have HV := Lib.hid hv
  clear hd hs hv
  go_enter Tryz.func20, Tryz.ntmps20
  go_wp2
  go_loop [4, 3] (fun i v => ∃ k : Nat, k ≤ t.length ∧ i = .int .i64 k ∧ v = .int .i64 (valB (t.take k) : Nat)) (fun i _ => t.length - (intOf i).toNat)
  case atStart => exact ⟨0, Nat.zero_le _, rfl, rfl⟩
  case round =>
    obtain ⟨k, hk, rfl, rfl⟩ := hrel
    by_cases hlt : k < t.length
    · have hks : k < s.length := by have := HSL.out; omega
      have hkl : (k : Int) < (s.length : Int) := by omega
      have hkm : (k : Int) < (s.length : Int) - 1 := by have := HSL.out; omega
      obtain ⟨h1, h2⟩ := HD.out _ (List.getElem_mem hlt)
      have e : s[k] = t[k] := by simp only [HS.out]; rw [List.getElem_append_left hlt]
      have HE := Lib.hid (show valB (t.take (k + 1)) = 8 * valB (t.take k) + (t[k].toNat - 48) by rw [List.take_succ_eq_append_getElem hlt, val_snoc])
      have hvt := HVt.out (k + 1)
      rw [HE.out] at hvt
      rw [← e] at h1 h2 HE hvt
      clear e
      have hvv := HV.out
      obtain ⟨c, hcc⟩ : ∃ c, s[k].toNat = c := ⟨_, rfl⟩
      have f0 : (s[k].toNat : Int) = (c : Int) := by rw [hcc]
      rw [hcc] at h1 h2 HE hvt
      generalize valB (t.take k) = v at HE hvt ⊢
      have hw1 : IntKind.u8.wrap ((c : Int) - 48) = ((c - 48 : Nat) : Int) := by
        have : ((c : Int) - 48) = ((c - 48 : Nat) : Int) := by omega
        rw [this, IntKind.wrap_u8]; omega
      clear hcc
      go_wp2
      go_round
      case rel => exact ⟨k + 1, by omega, by go_num, by rw [HE.out]; congr 1⟩
      case measure => simp [intOf]; omega
    · obtain rfl : k = t.length := by omega
      rw [List.take_length] at *
      have hkm : ¬ ((t.length : Int) < (s.length : Int) - 1) := by have := HSL.out; omega
      go_wp2
      go_ret
      exact ⟨rfl, rfl⟩
end Go.Proofs.YtpkabccinhfmbaaGreatDoor
namespace Go.Proofs.YtpkabccinhfmbaaGreatDoor
open Go.RowKit

theorem below_drewQ {B n : Nat} {a w : World} (h : Below B a w) : Below B a (w.drewN n) := ⟨h.os, h.tape, h.output, h.size, h.block⟩
def atC : List Value := [.int .i64 100, .int .i64 108, .int .i64 116, .int .i64 124, .int .i64 136, .int .i64 329, .int .i64 337]
def toC : List Value := [.int .i64 108, .int .i64 116, .int .i64 124, .int .i64 136, .int .i64 148, .int .i64 337, .int .i64 345]
theorem atC_get (i : Nat) (h : i < 7) : atC[i]? = some (.int .i64 (atF i)) ∧ toC[i]? = some (.int .i64 (toF i)) := by
  match i, h with
  | 0, _ => exact ⟨rfl, rfl⟩
  | 1, _ => exact ⟨rfl, rfl⟩
  | 2, _ => exact ⟨rfl, rfl⟩
  | 3, _ => exact ⟨rfl, rfl⟩
  | 4, _ => exact ⟨rfl, rfl⟩
  | 5, _ => exact ⟨rfl, rfl⟩
  | 6, _ => exact ⟨rfl, rfl⟩
theorem rd_new (w : World) (cs : List Value) (t : TypeId) : Rd (w.alloc (.cells cs.toArray t)) (some ⟨w.heap.size, 0, none⟩) cs := by
  refine .inr ⟨_, 0, rfl, fun i u hu => ?_⟩
  rw [cell_of_row _ _ _ _ _ _ (Go.heap_alloc_new w _)]
  simpa using hu
theorem rd_row {w : World} {g : Nat} {cs : List Value} (h : Rd w (some ⟨g, 0, none⟩) cs) {i : Nat} {u : Value} (hu : cs[i]? = some u) : w.cell? ⟨g, i, none⟩ = some u := by
  obtain rfl | ⟨b, o, e, hc⟩ := h
  · cases hu
  · cases e; simpa using hc i u hu

set_option maxRecDepth 100000 in
set_option maxHeartbeats 8000000 in
theorem ustar_any (b p l q : List UInt8) (n : Nat) (flag : UInt8) (h : Ust b p l q n flag) (w : World) :
    Calls Tryz.prog 8 #[.string (S b)] w fun e w' => e = .returned (.tuple #[.int .i64 n, .bool true]) ∧ Below w.heap.size w w' := by
  have hlen := h.hlen
  have K1 := Lib.hid (fun wx => head_any (b.take 100) p wx h.pnz _ h.name (by simp; omega))
  have K2 := Lib.hid (fun wx => head_any ((b.drop 157).take 100) l wx h.lnz _ h.link (by simp; omega))
  have K3 := Lib.hid (fun wx => head_any ((b.drop 345).take 155) q wx h.qnz _ h.pre (by simp; omega))
  have K4 := Lib.hid (fun wx => noughts_any ((b.drop 265).take 64) wx (by rw [h.rest]; intro x hx; exact (List.mem_replicate.1 hx).2) (by simp; omega))
  have K5 := Lib.hid (fun wx => noughts_any ((b.drop 500).take 12) wx (by rw [h.fin]; intro x hx; exact (List.mem_replicate.1 (List.mem_of_mem_take hx)).2) (by simp; omega))
  have KF := Lib.hid (fun (i : Nat) (hi : i < 7) (wx : World) => (show Calls Tryz.prog 19 #[.string (S ((b.drop (atF i)).take (toF i - atF i)))] wx fun e w' => e = .returned (.bool true) ∧ w' = wx by
    obtain ⟨t, ht⟩ := h.flds i hi
    exact (field_any _ t wx ht.1 ht.2 (by simp; omega)).mono fun _ _ ⟨a, b⟩ => ⟨a, b.symm⟩))
  have KS := Lib.hid (fun (wx : World) => (show Calls Tryz.prog 19 #[.string (S ((b.drop 148).take 7))] wx fun e w' => e = .returned (.bool true) ∧ wx = w' by
    obtain ⟨t, ht, _⟩ := h.sum
    exact field_any _ t wx ht.1 ht.2 (by simp; omega)))
  have hsk := skB_le b 512
  have V1 := Lib.hid (fun (wx : World) => (show Calls Tryz.prog 20 #[.string (S ((b.drop 124).take 12))] wx fun e w' => e = .returned (.int .i64 n) ∧ wx = w' by
    obtain ⟨t, ht, hv⟩ := h.size
    have := value_any _ t wx ht.1 ht.2 (by simp; omega) (by have := h.nle; omega); rw [hv] at this; exact this))
  have V2 := Lib.hid (fun (wx : World) => (show Calls Tryz.prog 20 #[.string (S ((b.drop 108).take 8))] wx fun e w' => e = .returned (.int .i64 0) ∧ wx = w' by
    obtain ⟨t, ht, hv⟩ := h.uid
    have := value_any _ t wx ht.1 ht.2 (by simp; omega) (by omega); rw [hv] at this; exact this))
  have V3 := Lib.hid (fun (wx : World) => (show Calls Tryz.prog 20 #[.string (S ((b.drop 116).take 8))] wx fun e w' => e = .returned (.int .i64 0) ∧ wx = w' by
    obtain ⟨t, ht, hv⟩ := h.gid
    have := value_any _ t wx ht.1 ht.2 (by simp; omega) (by omega); rw [hv] at this; exact this))
  have V4 := Lib.hid (fun (wx : World) => (show Calls Tryz.prog 20 #[.string (S ((b.drop 136).take 12))] wx fun e w' => e = .returned (.int .i64 0) ∧ wx = w' by
    obtain ⟨t, ht, hv⟩ := h.time
    have := value_any _ t wx ht.1 ht.2 (by simp; omega) (by omega); rw [hv] at this; exact this))
  have V5 := Lib.hid (fun (wx : World) => (show Calls Tryz.prog 20 #[.string (S ((b.drop 148).take 7))] wx fun e w' => e = .returned (.int .i64 ((256 + skB b 512 : Nat) : Int)) ∧ wx = w' by
    obtain ⟨t, ht, hv⟩ := h.sum
    have := value_any _ t wx ht.1 ht.2 (by simp; omega) (by omega); rw [hv] at this; exact this))
  have hmg := h.magic
  have HH := Lib.hid h
  have hp0 : ((p.length : Int) == 0) = false := by rw [beq_eq_false_iff_ne]; have := h.pl.1; omega
  clear h hsk
  go_enter Tryz.func8, Tryz.ntmps8
  go_wp2_with fail
  refine (K1.out _).mono ?_
  rintro _ w1 ⟨rfl, rfl⟩
  go_wp2_with fail
  refine (K2.out _).mono ?_
  rintro _ w1 ⟨rfl, rfl⟩
  go_wp2_with fail
  refine (K3.out _).mono ?_
  rintro _ w1 ⟨rfl, rfl⟩
  go_wp2_with fail
  refine (K4.out _).mono ?_
  rintro _ w1 ⟨rfl, rfl⟩
  go_wp2_with fail
  refine (K5.out _).mono ?_
  rintro _ w1 ⟨rfl, rfl⟩
  clear K1 K2 K3 K4 K5
  go_upto_region 8 with fail
  clear hmg
  go_upto_region 10 with fail
  have HRa := Lib.hid (rd_new w atC 3)
  have hz1 : (w.alloc (.cells atC.toArray 3)).heap.size = w.heap.size + 1 := by simp
  have HRb := Lib.hid (rd_new (w.alloc (.cells atC.toArray 3)) toC 3)
  rw [hz1] at HRb
  have hb1 : Below (w.alloc (.cells atC.toArray 3)).heap.size (w.alloc (.cells atC.toArray 3)) ((w.alloc (.cells atC.toArray 3)).alloc (.cells toC.toArray 3)) := (Below.refl _ _).alloc (Nat.le_refl _) _
  have HRa2 := Lib.hid (HRa.out.below hb1)
  have HBw := Lib.hid (((Below.refl w.heap.size w).alloc (Nat.le_refl _) (.cells atC.toArray 3)).trans (hb1.mono (by omega)))
  clear HRa hb1 hz1
  change Code.wp _ _ _ _ ((w.alloc (.cells atC.toArray 3)).alloc (.cells toC.toArray 3))
  generalize (w.alloc (.cells atC.toArray 3)).alloc (.cells toC.toArray 3) = w2 at HRb HRa2 HBw ⊢
  generalize hg0 : w.heap.size = g0
  generalize hg1 : g0 + 1 = g1
  have hA := Lib.hid (fun (wr : World) (h : Below w2.heap.size w2 wr) (i : Nat) (hi : i < 7) => rd_row (HRa2.out.below h) (atC_get i hi).1)
  have hT := Lib.hid (fun (wr : World) (h : Below w2.heap.size w2 wr) (i : Nat) (hi : i < 7) => rd_row (HRb.out.below h) (atC_get i hi).2)
  rw [hg0] at hA
  rw [hg0, hg1] at hT
  clear HRa2 HRb
  go_wp2
  go_loopw [14] (fun vi wr => ∃ i : Nat, i ≤ 7 ∧ vi = .int .i64 i ∧ Hid (Below w2.heap.size w2 wr)) (fun vi _ => 7 - (intOf vi).toNat)
  case atStart => exact ⟨0, Nat.zero_le _, rfl, Lib.hid (Below.refl _ _)⟩
  case round =>
    obtain ⟨i, hi, rfl, HB⟩ := hrel
    by_cases hlt : i < 7
    · have c1 := hA.out wr HB.out i hlt
      have c2 := hT.out wr HB.out i hlt
      have hxy := atF_le i
      have GJ := Lib.hid (KF.out i hlt)
      generalize atF i = x at c1 GJ hxy
      generalize toF i = y at c2 GJ hxy
      obtain ⟨hx1, hx2⟩ := hxy
      have hi7 : (i : Int) < 7 := by omega
      have hxy2 : (x : Int) ≤ (y : Int) := by omega
      have hyb : (y : Int) ≤ 512 := by omega
      go_upto_region 13 with fail
      go_quiet (exact Calls.quiet_of_same (GJ.out _))
      go_wp2
      go_roundw
      case rel => exact ⟨i + 1, by omega, by go_num, Lib.hid (below_drewQ HB.out)⟩
      case measure => simp [intOf]; omega
    · obtain rfl : i = 7 := by omega
      clear KF hA hT
      have HBx := Lib.hid (HBw.out.trans (HB.out.mono HBw.out.size))
      clear HB HBw
      go_upto_region 16 with fail
      go_wp2
      go_loopw [17, 16] (fun vi vs wx => ∃ k : Nat, k ≤ 512 ∧ vi = .int .i64 k ∧ vs = .int .i64 ((256 + skB b k : Nat) : Int) ∧ wx = wr) (fun vi _ _ => 512 - (intOf vi).toNat)
      case atStart => exact ⟨0, Nat.zero_le _, rfl, rfl, rfl⟩
      case round =>
        obtain ⟨k, hk, rfl, rfl, rfl⟩ := hrel
        have hs1 := skB_le b k
        by_cases hlt : k < 512
        · have hkb : k < b.length := by omega
          have hss := skB_succ b k
          obtain ⟨u, hu⟩ : ∃ u, b[k] = u := ⟨_, rfl⟩
          rw [List.getD_eq_getElem?_getD, List.getElem?_eq_getElem hkb, hu, Option.getD_some] at hss
          obtain ⟨s1, hs1'⟩ : ∃ s1, skB b (k + 1) = s1 := ⟨_, rfl⟩
          rw [hs1'] at hss
          have HS1 := Lib.hid hs1'
          clear hs1'
          generalize skB b k = s0 at hss hs1 ⊢
          have hu8 := u.toNat_lt
          by_cases hlo : k < 148
          · rw [if_pos (.inl hlo)] at hss
            have hlo' : (k : Int) < 148 := by omega
            have HSS := Lib.hid hss
            clear hss
            go_wp2
            go_roundw
            case rel =>
              refine ⟨k + 1, by omega, by go_num, ?_, trivial⟩
              rw [HS1.out, HSS.out]; go_num
            case measure => simp [intOf]; omega
          · have hlo' : ¬ (k : Int) < 148 := by omega
            by_cases hhi : 155 < k
            · rw [if_pos (.inr hhi)] at hss
              have hhi' : (155 : Int) < (k : Int) := by omega
              have HSS := Lib.hid hss
              clear hss
              go_wp2
              go_roundw
              case rel =>
                refine ⟨k + 1, by omega, by go_num, ?_, trivial⟩
                rw [HS1.out, HSS.out]; go_num
              case measure => simp [intOf]; omega
            · rw [if_neg (by omega), Nat.add_zero] at hss
              have hhi' : ¬ (155 : Int) < (k : Int) := by omega
              have HSS := Lib.hid hss
              clear hss
              go_wp2
              go_roundw
              case rel =>
                refine ⟨k + 1, by omega, by go_num, ?_, trivial⟩
                rw [HS1.out, HSS.out]
              case measure => simp [intOf]; omega
        · obtain rfl : k = 512 := by omega
          generalize skB b 512 = s0 at V5 hs1 ⊢
          have hss : (((256 + s0 : Nat) : Int) == ((256 + s0 : Nat) : Int)) = true := beq_self_eq_true _
          clear hlt hk
          go_upto_region 22 with fail
          go_wp2_with fail
          refine (KS.out _).mono ?_
          rintro _ w3 ⟨rfl, rfl⟩
          go_wp2_with fail
          refine (V1.out _).mono ?_
          rintro _ w3 ⟨rfl, rfl⟩
          have hfl := HH.out.isflag
          have hsp := HH.out.space
          have h156 : 156 < b.length := by omega
          have h155 : 155 < b.length := by omega
          have h0 : 0 < b.length := by omega
          rw [List.getElem?_eq_getElem h156] at hfl
          have hfl := Option.some.inj hfl
          rw [List.getElem?_eq_getElem h155] at hsp
          have hsp := Option.some.inj hsp
          have hsl := Lib.hid HH.out.slash
          have hkd := HH.out.kind
          have hql := HH.out.ql
          have hpl := HH.out.pl
          obtain ⟨m, hm⟩ : ∃ m, p.length = m + 1 := ⟨p.length - 1, by omega⟩
          have hmb : m < b.length := by omega
          clear HH
          rw [hm] at hp0 hkd hpl ⊢
          clear hm
          rcases hkd with ⟨hf, hn, hl, hlast⟩ | ⟨hf, hn, hl⟩ | ⟨hf, hl⟩
          · subst hf hn hl
            rw [Nat.add_sub_cancel, List.getElem?_eq_getElem hmb] at hlast
            have hlast := Option.some.inj hlast
            go_upto_region 29 with fail
            go_wp2_with fail
            refine (V2.out _).mono ?_
            rintro _ w4 ⟨rfl, rfl⟩
            go_wp2_with fail
            refine (V3.out _).mono ?_
            rintro _ w5 ⟨rfl, rfl⟩
            go_wp2_with fail
            refine (V4.out _).mono ?_
            rintro _ w6 ⟨rfl, rfl⟩
            by_cases hqe : q = []
            · subst hqe
              have hq0 : ((([] : List UInt8).length : Int) == 0) = true := rfl
              go_upto_region 31 with fail
              go_wp2_with fail
              refine (V5.out _).mono ?_
              rintro _ w7 ⟨rfl, rfl⟩
              go_wp2_with fail
              go_ret2
              exact ⟨rfl, HBx.out⟩
            · obtain ⟨hq1, hq2⟩ := hsl.out.resolve_left hqe
              have hql0 : 0 < q.length := List.length_pos_iff.2 hqe
              have hq0 : ((q.length : Int) == 0) = false := by rw [beq_eq_false_iff_ne]; omega
              have hqb : 344 + q.length < b.length := by omega
              rw [List.getElem?_eq_getElem hqb] at hq1
              rw [List.getElem?_eq_getElem h0] at hq2
              have hq1 : ((b[344 + q.length].toNat : Int) != 47) = true := bne_iff_ne.2 fun e => hq1 (congrArg some (UInt8.toNat_inj.1 (show b[344 + q.length].toNat = 47 by omega)))
              have hq2 : ((b[0].toNat : Int) != 47) = true := bne_iff_ne.2 fun e => hq2 (congrArg some (UInt8.toNat_inj.1 (show b[0].toNat = 47 by omega)))
              go_upto_region 31 with fail
              go_wp2_with fail
              refine (V5.out _).mono ?_
              rintro _ w7 ⟨rfl, rfl⟩
              go_wp2_with fail
              go_ret2
              exact ⟨rfl, HBx.out⟩
          · subst hf hn
            have hl0 : 0 < l.length := List.length_pos_iff.2 hl
            generalize l.length = ll at hl0 ⊢
            go_upto_region 29 with fail
            go_wp2_with fail
            refine (V2.out _).mono ?_
            rintro _ w4 ⟨rfl, rfl⟩
            go_wp2_with fail
            refine (V3.out _).mono ?_
            rintro _ w5 ⟨rfl, rfl⟩
            go_wp2_with fail
            refine (V4.out _).mono ?_
            rintro _ w6 ⟨rfl, rfl⟩
            by_cases hqe : q = []
            · subst hqe
              have hq0 : ((([] : List UInt8).length : Int) == 0) = true := rfl
              go_upto_region 31 with fail
              go_wp2_with fail
              refine (V5.out _).mono ?_
              rintro _ w7 ⟨rfl, rfl⟩
              go_wp2_with fail
              go_ret2
              exact ⟨rfl, HBx.out⟩
            · obtain ⟨hq1, hq2⟩ := hsl.out.resolve_left hqe
              have hql0 : 0 < q.length := List.length_pos_iff.2 hqe
              have hq0 : ((q.length : Int) == 0) = false := by rw [beq_eq_false_iff_ne]; omega
              have hqb : 344 + q.length < b.length := by omega
              rw [List.getElem?_eq_getElem hqb] at hq1
              rw [List.getElem?_eq_getElem h0] at hq2
              have hq1 : ((b[344 + q.length].toNat : Int) != 47) = true := bne_iff_ne.2 fun e => hq1 (congrArg some (UInt8.toNat_inj.1 (show b[344 + q.length].toNat = 47 by omega)))
              have hq2 : ((b[0].toNat : Int) != 47) = true := bne_iff_ne.2 fun e => hq2 (congrArg some (UInt8.toNat_inj.1 (show b[0].toNat = 47 by omega)))
              go_upto_region 31 with fail
              go_wp2_with fail
              refine (V5.out _).mono ?_
              rintro _ w7 ⟨rfl, rfl⟩
              go_wp2_with fail
              go_ret2
              exact ⟨rfl, HBx.out⟩
          · subst hf hl
            go_upto_region 29 with fail
            go_wp2_with fail
            refine (V2.out _).mono ?_
            rintro _ w4 ⟨rfl, rfl⟩
            go_wp2_with fail
            refine (V3.out _).mono ?_
            rintro _ w5 ⟨rfl, rfl⟩
            go_wp2_with fail
            refine (V4.out _).mono ?_
            rintro _ w6 ⟨rfl, rfl⟩
            by_cases hqe : q = []
            · subst hqe
              have hq0 : ((([] : List UInt8).length : Int) == 0) = true := rfl
              go_upto_region 31 with fail
              go_wp2_with fail
              refine (V5.out _).mono ?_
              rintro _ w7 ⟨rfl, rfl⟩
              go_wp2_with fail
              go_ret2
              exact ⟨rfl, HBx.out⟩
            · obtain ⟨hq1, hq2⟩ := hsl.out.resolve_left hqe
              have hql0 : 0 < q.length := List.length_pos_iff.2 hqe
              have hq0 : ((q.length : Int) == 0) = false := by rw [beq_eq_false_iff_ne]; omega
              have hqb : 344 + q.length < b.length := by omega
              rw [List.getElem?_eq_getElem hqb] at hq1
              rw [List.getElem?_eq_getElem h0] at hq2
              have hq1 : ((b[344 + q.length].toNat : Int) != 47) = true := bne_iff_ne.2 fun e => hq1 (congrArg some (UInt8.toNat_inj.1 (show b[344 + q.length].toNat = 47 by omega)))
              have hq2 : ((b[0].toNat : Int) != 47) = true := bne_iff_ne.2 fun e => hq2 (congrArg some (UInt8.toNat_inj.1 (show b[0].toNat = 47 by omega)))
              go_upto_region 31 with fail
              go_wp2_with fail
              refine (V5.out _).mono ?_
              rintro _ w7 ⟨rfl, rfl⟩
              go_wp2_with fail
              go_ret2
              exact ⟨rfl, HBx.out⟩
end Go.Proofs.YtpkabccinhfmbaaGreatDoor
