/-
  The document's answer: the words of a block.
  The document's answer: the state behind a block.
  The document's answer: the digest of a text, whole.
-/
import Derived.StillTailTactics
import Derived.Deep.RegionHeld3
import Derived.Deep.AppendLies
import Derived.Test.YtafokdidpbainaaGreatDoorY00
import Derived.Test.YtafokdidpbainaaGreatDoorY04
import Derived.Test.YtafokdidpbainaaGreatDoorY06
import Derived.Test.YtafokdidpbainaaGreatDoorY14
set_option linter.unusedVariables false
set_option linter.unusedSimpArgs false
namespace Go.Proofs.YtafokdidpbainaaGreatDoor
open Go.RowKit

theorem wr2 (x y : W32) : IntKind.i64.wrap ((tn x : Int) + (tn y : Int)) = (tn x : Int) + (tn y : Int) := by
  have := tn_lt x; have := tn_lt y
  rw [IntKind.wrap_i64] <;> omega
theorem wr3 (x y z : W32) : IntKind.i64.wrap ((tn x : Int) + (tn y : Int) + (tn z : Int)) = (tn x : Int) + (tn y : Int) + (tn z : Int) := by
  have := tn_lt x; have := tn_lt y; have := tn_lt z
  rw [IntKind.wrap_i64] <;> omega
theorem wr4 (x y z u : W32) : IntKind.i64.wrap ((tn x : Int) + (tn y : Int) + (tn z : Int) + (tn u : Int)) = (tn x : Int) + (tn y : Int) + (tn z : Int) + (tn u : Int) := by
  have := tn_lt x; have := tn_lt y; have := tn_lt z; have := tn_lt u
  rw [IntKind.wrap_i64] <;> omega
theorem tm4 (x y z u : W32) : Int.tmod ((tn x : Int) + (tn y : Int) + (tn z : Int) + (tn u : Int)) 4294967296 = (tn (x + y + z + u) : Int) := by
  rw [Int.tmod_eq_emod_of_nonneg (by omega), tn_sum4]
attribute [go_sem] wr2 wr3 wr4 tm4
/-- a row of numbers of one's own -/
abbrev OwnI (w : World) (B : Nat) (v : Value) (l : List W32) : Prop := w.ownsRow B 3 1 v l.length (i64s l)
theorem own_snocI {w : World} {B : Nat} {v : Value} {l : List W32} {x : W32} (h : w.ownsRow B 3 1 v (l.length + 1) (i64s l ++ [.int .i64 (tn x : Int)])) : OwnI w B v (l ++ [x]) := by
  unfold OwnI
  rw [show i64s (l ++ [x]) = i64s l ++ [.int .i64 (tn x : Int)] by simp [i64s], List.length_append, List.length_singleton]
  exact h
theorem own_eqI {w : World} {B : Nat} {v v' : Value} {l l' : List W32} (h : OwnI w B v l) (ev : v = v') (e : l = l') : OwnI w B v' l' := by subst ev; subst e; exact h
theorem Rd.at' {w : World} {bo oo : Nat} {l : List W32} (h : Rd w (some ⟨bo, oo, none⟩) (i64s l)) {k : Nat} (hk : k < l.length) : w.cell? ⟨bo, oo + k, none⟩ = some (.int .i64 ((tn (l.getD k 0) : Nat) : Int)) := by
  obtain ⟨b, o, he, hb, hc⟩ := h.at k (by rw [i64s_len]; exact hk)
  cases he
  rw [List.getD_eq_getElem?_getD, List.getElem?_eq_getElem hk]
  exact hc k _ (i64s_get l k hk)
theorem cell1_new (w : World) (v : Value) (t : TypeId) : ∀ j u, [v][j]? = some u → (w.alloc (.cells #[v] t)).cell? ((⟨w.heap.size, 0, none⟩ : Addr).add j) = some u := by
  intro j u h
  match j, h with
  | 0, h => simp at h; subst h; simp [Addr.add]
theorem idxI (b o n c k : Nat) (h : k < n) : ∀ w' : World, (Instr.indexAt 108 (.slice (some ⟨b, o, none⟩) n c) (.int .i64 (k : Int))).run Tryz.prog w' = .ok (.pointer (some ⟨b, o + k, none⟩)) w' := by
  intro w'
  rw [run_indexAt_slice (P := Tryz.prog) w' 108 ⟨b, o, none⟩ n c .i64 (k : Int) (by kernel_rfl), if_pos ⟨by omega, by omega⟩, show (sizeOf (Tryz.prog.elem 108)).run Tryz.prog w' = .ok 1 w' from by kernel_rfl]
  simp [Result.andThen, Addr.add]
set_option maxRecDepth 100000 in
set_option maxHeartbeats 4000000 in
theorem spread_any (b : List UInt8) (A : Option Addr) (cap : Nat) (w : World) (hr : Rd w A (u8s b)) (hl : 64 ≤ b.length) (hl2 : b.length ≤ 4000000000) :
    Calls Tryz.prog 85 #[.slice A b.length cap] w fun e w' => ∃ v, e = .returned v ∧ OwnI w' w.heap.size v (schL b 64) ∧ Below w.heap.size w w' := by
  obtain ⟨i0, hi0, hz0, hz1, hz2⟩ := info_parts (show (Tryz.prog.info? 3).map (fun i => (i.zero, i.size, i.bytes)) = some (some (.int .i64 0), 1, 8) by kernel_rfl)
  have HR := Lib.hid hr
  clear hr
  go_enter Tryz.func85, Tryz.ntmps85
  go_wp2
  go_loopw [4, 3] (fun i vo wr => ∃ n : Nat, n ≤ 64 ∧ i = .int .i64 n ∧ Hid (OwnI wr w.heap.size vo (schL b n)) ∧ Hid (Below w.heap.size w wr)) (fun i _ _ => 64 - (intOf i).toNat)
  case atStart => exact ⟨0, by omega, rfl, Lib.hid (World.ownsRow_nil _ _ _ _), Lib.hid (Below.refl _ _)⟩
  case round =>
    obtain ⟨n, hn, rfl, HO, HB⟩ := hrel
    obtain ⟨av, cv, hve⟩ := ownsRow_form HO.out
    subst hve
    have hsl := schL_len b n
    have HSL := Lib.hid hsl
    have HOn := Lib.hid (show wr.ownsRow w.heap.size 3 1 (.slice av n cv) n (i64s (schL b n)) by have h := HO.out; unfold OwnI at h; rw [hsl] at h; exact h)
    have HBd := Lib.hid (fun o : Obj => (Below.alloc (below_drew2 (Below.refl wr.heap.size wr)) (Nat.le_refl _) o : Below wr.heap.size wr (wr.drew.alloc o)))
    by_cases hlt : n < 64
    · by_cases h16 : n < 16
      · obtain ⟨m, hm⟩ : ∃ m : Nat, m = 4 * n := ⟨_, rfl⟩
        have hwm : IntKind.i64.wrap (4 * (n : Int)) = (m : Int) := by rw [IntKind.wrap_i64] <;> omega
        obtain ⟨k1, hk1⟩ : ∃ k : Nat, m + 1 = k := ⟨_, rfl⟩
        obtain ⟨k2, hk2⟩ : ∃ k : Nat, m + 2 = k := ⟨_, rfl⟩
        obtain ⟨k3, hk3⟩ : ∃ k : Nat, m + 3 = k := ⟨_, rfl⟩
        have hmb : m + 3 < b.length := by omega
        obtain ⟨bb, ob, hAe, hbb, hc⟩ := HR.out.at m (by rw [u8s_len]; omega)
        subst hAe
        have c0 := (HB.out.cell (p := ⟨bb, ob + m, none⟩) hbb).trans (hc _ _ (u8s_get b m (by omega)))
        have c1 := (HB.out.cell (p := ⟨bb, ob + (m + 1), none⟩) hbb).trans (hc _ _ (u8s_get b (m + 1) (by omega)))
        have c2 := (HB.out.cell (p := ⟨bb, ob + (m + 2), none⟩) hbb).trans (hc _ _ (u8s_get b (m + 2) (by omega)))
        have c3 := (HB.out.cell (p := ⟨bb, ob + (m + 3), none⟩) hbb).trans (hc _ _ (u8s_get b (m + 3) (by omega)))
        have HE := Lib.hid (be_cells (b := b) (n := n) (m := m) hm hmb)
        simp only [hk1, hk2, hk3] at c1 c2 c3 HE
        generalize b[m] = y0 at c0 HE
        generalize b[k1] = y1 at c1 HE
        generalize b[k2] = y2 at c2 HE
        generalize b[k3] = y3 at c3 HE
        have l0 := y0.toNat_lt
        have l1 := y1.toNat_lt
        have l2 := y2.toNat_lt
        have l3 := y3.toNat_lt
        generalize y0.toNat = a0 at c0 HE l0
        generalize y1.toNat = a1 at c1 HE l1
        generalize y2.toNat = a2 at c2 HE l2
        generalize y3.toNat = a3 at c3 HE l3
        have x1 : IntKind.i64.wrap ((m : Int) + 1) = (k1 : Int) := by rw [IntKind.wrap_i64] <;> omega
        have x2 : IntKind.i64.wrap ((m : Int) + 2) = (k2 : Int) := by rw [IntKind.wrap_i64] <;> omega
        have x3 : IntKind.i64.wrap ((m : Int) + 3) = (k3 : Int) := by rw [IntKind.wrap_i64] <;> omega
        have i0' : (m : Int) < (b.length : Int) := by omega
        have i1 : (k1 : Int) < (b.length : Int) := by omega
        have i2 : (k2 : Int) < (b.length : Int) := by omega
        have i3 : (k3 : Int) < (b.length : Int) := by omega
        obtain ⟨p1, hp1⟩ : ∃ p : Nat, a0 * 256 = p := ⟨_, rfl⟩
        obtain ⟨p2, hp2⟩ : ∃ p : Nat, p1 + a1 = p := ⟨_, rfl⟩
        obtain ⟨p3, hp3⟩ : ∃ p : Nat, p2 * 256 = p := ⟨_, rfl⟩
        obtain ⟨p4, hp4⟩ : ∃ p : Nat, p3 + a2 = p := ⟨_, rfl⟩
        obtain ⟨p5, hp5⟩ : ∃ p : Nat, p4 * 256 = p := ⟨_, rfl⟩
        obtain ⟨p6, hp6⟩ : ∃ p : Nat, p5 + a3 = p := ⟨_, rfl⟩
        have q0 : IntKind.i64.wrap (a0 : Int) = (a0 : Int) := by rw [IntKind.wrap_i64] <;> omega
        have q1 : IntKind.i64.wrap (a1 : Int) = (a1 : Int) := by rw [IntKind.wrap_i64] <;> omega
        have q2 : IntKind.i64.wrap (a2 : Int) = (a2 : Int) := by rw [IntKind.wrap_i64] <;> omega
        have q3 : IntKind.i64.wrap (a3 : Int) = (a3 : Int) := by rw [IntKind.wrap_i64] <;> omega
        have r1 : IntKind.i64.wrap ((a0 : Int) * 256) = (p1 : Int) := by rw [IntKind.wrap_i64] <;> omega
        have r2 : IntKind.i64.wrap ((p1 : Int) + (a1 : Int)) = (p2 : Int) := by rw [IntKind.wrap_i64] <;> omega
        have r3 : IntKind.i64.wrap ((p2 : Int) * 256) = (p3 : Int) := by rw [IntKind.wrap_i64] <;> omega
        have r4 : IntKind.i64.wrap ((p3 : Int) + (a2 : Int)) = (p4 : Int) := by rw [IntKind.wrap_i64] <;> omega
        have r5 : IntKind.i64.wrap ((p4 : Int) * 256) = (p5 : Int) := by rw [IntKind.wrap_i64] <;> omega
        have r6 : IntKind.i64.wrap ((p5 : Int) + (a3 : Int)) = (p6 : Int) := by rw [IntKind.wrap_i64] <;> omega
        have HP := Lib.hid (show (p6 : Int) = (tn (be b n) : Int) by
          rw [HE.out, tn, BitVec.toNat_ofNat, Nat.mod_eq_of_lt (by omega)]; omega)
        clear hc hm hmb hk1 hk2 hk3 hp1 hp2 hp3 hp4 hp5 hp6 HE
        go_upto_region 6 with fail
        have hWs := HB.out.size
        have hbw : bb < wr.heap.size := World.block_lt_of_cell? wr _ c0
        go_region_held3 (fun w' => w'.cell? ⟨bb, ob + m, none⟩ = some (.int .u8 (a0 : Int)) ∧ w'.cell? ⟨bb, ob + k1, none⟩ = some (.int .u8 (a1 : Int)) ∧ w'.cell? ⟨bb, ob + k2, none⟩ = some (.int .u8 (a2 : Int)) ∧ w'.cell? ⟨bb, ob + k3, none⟩ = some (.int .u8 (a3 : Int))) (go_keep) (first | (refine step_append_lies _ (by rfl) (.tmp 15) (.tmp 49) 108 (by rfl) w.heap.size 3 i0 (.int .i64 0) 1 8 Tryz.underlying108 hi0 hz0 hz1 hz2 (by rfl) (by decide) (.slice av n cv) n (i64s (schL b n)) (by rfl) (ownsRow_below HOn.out (HBd.out _)) ⟨_, 0, none⟩ 1 1 [.int .i64 (p6 : Int)] (by rfl) (by rfl) (cell1_new _ _ _) (by simp [Value.oneCell']) (by decide) (by unfold maxLen; omega) (by omega) (by simp; omega) _ (by rfl) ?_; intro g' c' w5 hown5 hgr5 _ _; have HB5 := Lib.hid ((HB.out.trans ((HBd.out _).mono HB.out.size)).grown hgr5 (by simp; omega) (own_le HOn.out)); have HO5 := Lib.hid hown5; have d0 := (HB5.out.cell (p := ⟨bb, ob + m, none⟩) hbb).trans ((HB.out.cell (p := ⟨bb, ob + m, none⟩) hbb).symm.trans c0); have d1 := (HB5.out.cell (p := ⟨bb, ob + k1, none⟩) hbb).trans ((HB.out.cell (p := ⟨bb, ob + k1, none⟩) hbb).symm.trans c1); have d2 := (HB5.out.cell (p := ⟨bb, ob + k2, none⟩) hbb).trans ((HB.out.cell (p := ⟨bb, ob + k2, none⟩) hbb).symm.trans c2); have d3 := (HB5.out.cell (p := ⟨bb, ob + k3, none⟩) hbb).trans ((HB.out.cell (p := ⟨bb, ob + k3, none⟩) hbb).symm.trans c3); clear hown5 hgr5))
        go_wp2
        go_roundw
        case rel => exact ⟨n + 1, by omega, by go_num, Lib.hid (by
          have h := HO5.out
          rw [HP.out] at h
          have h2 := own_snocI (l := schL b n) (by rw [HSL.out]; exact h)
          rw [schL, nxtW, if_pos h16]
          refine own_eqI h2 ?_ rfl
          simp), HB5⟩
        case measure => simp [intOf]; omega
      · obtain ⟨k15, ek15⟩ : ∃ k : Nat, k = n - 15 := ⟨_, rfl⟩
        obtain ⟨k2, ek2⟩ : ∃ k : Nat, k = n - 2 := ⟨_, rfl⟩
        obtain ⟨k7, ek7⟩ : ∃ k : Nat, k = n - 7 := ⟨_, rfl⟩
        obtain ⟨k16, ek16⟩ : ∃ k : Nat, k = n - 16 := ⟨_, rfl⟩
        have x15 : IntKind.i64.wrap ((n : Int) - 15) = (k15 : Int) := by rw [IntKind.wrap_i64] <;> omega
        have y15 : (n : Int) - 15 = (k15 : Int) := by omega
        have z15 : IntKind.i64.wrap (k15 : Int) = (k15 : Int) := by rw [IntKind.wrap_i64] <;> omega
        have i15 : (k15 : Int) < (n : Int) := by omega
        have x2 : IntKind.i64.wrap ((n : Int) - 2) = (k2 : Int) := by rw [IntKind.wrap_i64] <;> omega
        have y2 : (n : Int) - 2 = (k2 : Int) := by omega
        have z2 : IntKind.i64.wrap (k2 : Int) = (k2 : Int) := by rw [IntKind.wrap_i64] <;> omega
        have i2 : (k2 : Int) < (n : Int) := by omega
        have x7 : IntKind.i64.wrap ((n : Int) - 7) = (k7 : Int) := by rw [IntKind.wrap_i64] <;> omega
        have y7 : (n : Int) - 7 = (k7 : Int) := by omega
        have z7 : IntKind.i64.wrap (k7 : Int) = (k7 : Int) := by rw [IntKind.wrap_i64] <;> omega
        have i7 : (k7 : Int) < (n : Int) := by omega
        have x16 : IntKind.i64.wrap ((n : Int) - 16) = (k16 : Int) := by rw [IntKind.wrap_i64] <;> omega
        have y16 : (n : Int) - 16 = (k16 : Int) := by omega
        have z16 : IntKind.i64.wrap (k16 : Int) = (k16 : Int) := by rw [IntKind.wrap_i64] <;> omega
        have i16 : (k16 : Int) < (n : Int) := by omega
        have hrd : Rd wr av (i64s (schL b n)) := by
          obtain ⟨A', c', hv, _, _, h⟩ := Rd.of_own HOn.out
          cases hv; exact h
        obtain ⟨bo, cvv, hvf, _, _⟩ := HOn.out.form (by omega)
        have hAo : av = some ⟨bo, 0, none⟩ := by injection hvf
        have HAo := Lib.hid hAo
        rw [hAo] at hrd
        have c15 := hrd.at' (k := k15) (by omega)
        have c2 := hrd.at' (k := k2) (by omega)
        have c7 := hrd.at' (k := k7) (by omega)
        have c16 := hrd.at' (k := k16) (by omega)
        have j15 := idxI bo 0 n cv k15 (by omega)
        have j2 := idxI bo 0 n cv k2 (by omega)
        have j7 := idxI bo 0 n cv k7 (by omega)
        have j16 := idxI bo 0 n cv k16 (by omega)
        rw [← hAo] at j15 j2 j7 j16
        rw [Nat.zero_add] at c15 c2 c7 c16
        simp only [Nat.zero_add] at j15 j2 j7 j16
        have HLt := Lib.hid (show k15 < n ∧ k2 < n ∧ k7 < n ∧ k16 < n by omega)
        clear hvf
        have HN := Lib.hid (show nxtW b (schL b n) n = (schL b n).getD k16 0 + sg0 ((schL b n).getD k15 0) + (schL b n).getD k7 0 + sg1 ((schL b n).getD k2 0) by rw [nxtW, if_neg h16, ek15, ek2, ek16, ek7])
        generalize (schL b n).getD k15 0 = w115 at c15 HN
        generalize (schL b n).getD k2 0 = w102 at c2 HN
        generalize (schL b n).getD k7 0 = w107 at c7 HN
        generalize (schL b n).getD k16 0 = w116 at c16 HN
        clear hrd ek15 ek2 ek7 ek16 hAo
        have R7 := Lib.hid (show ∀ W : World, Calls Tryz.prog 87 #[.int .i64 (tn w115 : Int), .int .i64 7] W (fun e w' => e = .returned (.int .i64 (tn (rr w115 7) : Int)) ∧ ∃ m, w' = W.drewN m) from fun W => turn_any w115 7 (by decide) (by decide) W)
        have R18 := Lib.hid (show ∀ W : World, Calls Tryz.prog 87 #[.int .i64 (tn w115 : Int), .int .i64 18] W (fun e w' => e = .returned (.int .i64 (tn (rr w115 18) : Int)) ∧ ∃ m, w' = W.drewN m) from fun W => turn_any w115 18 (by decide) (by decide) W)
        have R17 := Lib.hid (show ∀ W : World, Calls Tryz.prog 87 #[.int .i64 (tn w102 : Int), .int .i64 17] W (fun e w' => e = .returned (.int .i64 (tn (rr w102 17) : Int)) ∧ ∃ m, w' = W.drewN m) from fun W => turn_any w102 17 (by decide) (by decide) W)
        have R19 := Lib.hid (show ∀ W : World, Calls Tryz.prog 87 #[.int .i64 (tn w102 : Int), .int .i64 19] W (fun e w' => e = .returned (.int .i64 (tn (rr w102 19) : Int)) ∧ ∃ m, w' = W.drewN m) from fun W => turn_any w102 19 (by decide) (by decide) W)
        go_wp2_with fail
        refine (R7.out _).mono ?_
        rintro e w3 ⟨rfl, m, rfl⟩
        generalize hD : World.drewN wr _ = wd0
        have eD : World.cell? wr = World.cell? wd0 := by rw [← hD]; rfl
        have HO20 := Lib.hid (show World.ownsRow wd0 w.heap.size 3 1 (.slice av n cv) n (i64s (schL b n)) by rw [← hD]; exact HOn.out)
        have HB20 := Lib.hid (show Below w.heap.size w wd0 by rw [← hD]; exact ⟨HB.out.os, HB.out.tape, HB.out.output, HB.out.size, HB.out.block⟩)
        rw [eD] at c15 c2 c7 c16
        clear hD eD
        go_wp2_with fail
        refine (R18.out _).mono ?_
        rintro e w3 ⟨rfl, m, rfl⟩
        generalize hD : World.drewN wd0 _ = wd1
        have eD : World.cell? wd0 = World.cell? wd1 := by rw [← hD]; rfl
        have HO21 := Lib.hid (show World.ownsRow wd1 w.heap.size 3 1 (.slice av n cv) n (i64s (schL b n)) by rw [← hD]; exact HO20.out)
        have HB21 := Lib.hid (show Below w.heap.size w wd1 by rw [← hD]; exact ⟨HB20.out.os, HB20.out.tape, HB20.out.output, HB20.out.size, HB20.out.block⟩)
        rw [eD] at c15 c2 c7 c16
        clear hD eD
        go_wp2_with fail
        refine (R17.out _).mono ?_
        rintro e w3 ⟨rfl, m, rfl⟩
        generalize hD : World.drewN wd1 _ = wd2
        have eD : World.cell? wd1 = World.cell? wd2 := by rw [← hD]; rfl
        have HO22 := Lib.hid (show World.ownsRow wd2 w.heap.size 3 1 (.slice av n cv) n (i64s (schL b n)) by rw [← hD]; exact HO21.out)
        have HB22 := Lib.hid (show Below w.heap.size w wd2 by rw [← hD]; exact ⟨HB21.out.os, HB21.out.tape, HB21.out.output, HB21.out.size, HB21.out.block⟩)
        rw [eD] at c15 c2 c7 c16
        clear hD eD
        go_wp2_with fail
        refine (R19.out _).mono ?_
        rintro e w3 ⟨rfl, m, rfl⟩
        generalize hD : World.drewN wd2 _ = wd3
        have eD : World.cell? wd2 = World.cell? wd3 := by rw [← hD]; rfl
        have HO23 := Lib.hid (show World.ownsRow wd3 w.heap.size 3 1 (.slice av n cv) n (i64s (schL b n)) by rw [← hD]; exact HO22.out)
        have HB23 := Lib.hid (show Below w.heap.size w wd3 by rw [← hD]; exact ⟨HB22.out.os, HB22.out.tape, HB22.out.output, HB22.out.size, HB22.out.block⟩)
        rw [eD] at c15 c2 c7 c16
        clear hD eD
        have HBe := Lib.hid (fun o : Obj => (Below.alloc (below_drew2 (Below.refl wd3.heap.size wd3)) (Nat.le_refl _) o : Below wd3.heap.size wd3 (wd3.drew.alloc o)))
        have hWs := HB23.out.size
        have hbw : bo < wd3.heap.size := World.block_lt_of_cell? wd3 _ c15
        obtain ⟨Z, hZ⟩ : ∃ Z : W32, (rr w115 7 ^^^ rr w115 18 ^^^ (w115 >>> 3)) + (rr w102 17 ^^^ rr w102 19 ^^^ (w102 >>> 10)) + w107 + w116 = Z := ⟨_, rfl⟩
        have HZ := Lib.hid hZ
        have hs8 := tn_shr3 w115
        have hs9 := tn_shr10 w102
        clear hZ
        go_upto_region 11 with fail
        go_region_held3 (fun w' => w'.cell? ⟨bo, k15, none⟩ = some (.int .i64 ((tn w115 : Nat) : Int)) ∧ w'.cell? ⟨bo, k2, none⟩ = some (.int .i64 ((tn w102 : Nat) : Int)) ∧ w'.cell? ⟨bo, k7, none⟩ = some (.int .i64 ((tn w107 : Nat) : Int)) ∧ w'.cell? ⟨bo, k16, none⟩ = some (.int .i64 ((tn w116 : Nat) : Int))) (go_keep) (first | (refine step_append_keeps _ (by rfl) (.tmp 75) (.tmp 110) 108 (by rfl) w.heap.size 3 i0 (.int .i64 0) 8 Tryz.underlying108 hi0 hz0 hz1 hz2 (by rfl) (.slice av n cv) n (i64s (schL b n)) (by rfl) (ownsRow_below HO23.out (HBe.out _)) ⟨_, 0, none⟩ 1 1 [.int .i64 ((tn ((rr w115 7 ^^^ rr w115 18 ^^^ (w115 >>> 3)) + (rr w102 17 ^^^ rr w102 19 ^^^ (w102 >>> 10)) + w107 + w116) : Nat) : Int)] (by rfl) (by rfl) (cell1_new _ _ _) (by simp [Value.oneCell']) (by decide) (by unfold maxLen; omega) (by omega) (by simp; omega) _ (by rfl) ?_; intro g' c' w5 hown5 hgr5 hkp; have HB5 := Lib.hid ((HB23.out.trans ((HBe.out _).mono HB23.out.size)).grown hgr5 (by simp; omega) (own_le HO23.out)); have HO5 := Lib.hid hown5; have d15 := (hkp bo cv (by rw [HAo.out]) k15 HLt.out.1).trans (((HBe.out _).cell (p := ⟨bo, k15, none⟩) hbw).trans c15); have d2 := (hkp bo cv (by rw [HAo.out]) k2 HLt.out.2.1).trans (((HBe.out _).cell (p := ⟨bo, k2, none⟩) hbw).trans c2); have d7 := (hkp bo cv (by rw [HAo.out]) k7 HLt.out.2.2.1).trans (((HBe.out _).cell (p := ⟨bo, k7, none⟩) hbw).trans c7); have d16 := (hkp bo cv (by rw [HAo.out]) k16 HLt.out.2.2.2).trans (((HBe.out _).cell (p := ⟨bo, k16, none⟩) hbw).trans c16); clear hown5 hgr5 hkp))
        all_goals go_wp2
        all_goals go_roundw
        all_goals first
          | exact ⟨n + 1, by omega, by go_num, Lib.hid (by
              have h := HO5.out
              have h2 := own_snocI (l := schL b n) (by rw [HSL.out]; exact h)
              rw [schL, HN.out]
              refine own_eqI h2 (by simp) ?_
              congr 2
              unfold sg0 sg1
              ac_rfl), HB5⟩
          | (simp [intOf]; omega)
    · obtain rfl : n = 64 := by omega
      go_wp2
      go_ret
      exact ⟨_, rfl, HO.out, HB.out⟩
end Go.Proofs.YtafokdidpbainaaGreatDoor
namespace Go.Proofs.YtafokdidpbainaaGreatDoor
open Go.RowKit

theorem wr5 (x y z u v : W32) : IntKind.i64.wrap ((tn x : Int) + (tn y : Int) + (tn z : Int) + (tn u : Int) + (tn v : Int)) = (tn x : Int) + (tn y : Int) + (tn z : Int) + (tn u : Int) + (tn v : Int) := by
  have := tn_lt x; have := tn_lt y; have := tn_lt z; have := tn_lt u; have := tn_lt v
  rw [IntKind.wrap_i64] <;> omega
theorem tm2 (x y : W32) : Int.tmod ((tn x : Int) + (tn y : Int)) 4294967296 = (tn (x + y) : Int) := by
  rw [Int.tmod_eq_emod_of_nonneg (by omega), tn_addM]
theorem tn_not64 (x : W32) : IntKind.i64.wrap (4294967295 - (tn x : Int)) = (tn (~~~x) : Int) := by
  have := tn_lt x
  have e : (tn (~~~x) : Int) = 4294967295 - (tn x : Int) := by
    unfold tn at *
    rw [BitVec.toNat_not]; omega
  rw [e, IntKind.wrap_i64] <;> omega
theorem wrA (a b c d e x y : W32) : IntKind.i64.wrap ((tn a : Int) + (tn b : Int) + (tn c : Int) + (tn d : Int) + (tn e : Int) + ((tn x : Int) + (tn y : Int))) = (tn a : Int) + (tn b : Int) + (tn c : Int) + (tn d : Int) + (tn e : Int) + ((tn x : Int) + (tn y : Int)) := by
  have := tn_lt a; have := tn_lt b; have := tn_lt c; have := tn_lt d; have := tn_lt e; have := tn_lt x; have := tn_lt y
  rw [IntKind.wrap_i64] <;> omega
theorem wrE (x a b c d e : W32) : IntKind.i64.wrap ((tn x : Int) + ((tn a : Int) + (tn b : Int) + (tn c : Int) + (tn d : Int) + (tn e : Int))) = (tn x : Int) + ((tn a : Int) + (tn b : Int) + (tn c : Int) + (tn d : Int) + (tn e : Int)) := by
  have := tn_lt a; have := tn_lt b; have := tn_lt c; have := tn_lt d; have := tn_lt e; have := tn_lt x
  rw [IntKind.wrap_i64] <;> omega
theorem tmA (a b c d e x y : W32) : Int.tmod ((tn a : Int) + (tn b : Int) + (tn c : Int) + (tn d : Int) + (tn e : Int) + ((tn x : Int) + (tn y : Int))) 4294967296 = (tn (a + b + c + d + e + x + y) : Int) := by
  rw [Int.tmod_eq_emod_of_nonneg (by omega)]
  unfold tn
  rw [BitVec.toNat_add, BitVec.toNat_add, BitVec.toNat_add, BitVec.toNat_add, BitVec.toNat_add, BitVec.toNat_add]
  omega
theorem tmE (x a b c d e : W32) : Int.tmod ((tn x : Int) + ((tn a : Int) + (tn b : Int) + (tn c : Int) + (tn d : Int) + (tn e : Int))) 4294967296 = (tn (x + (a + b + c + d + e)) : Int) := by
  rw [Int.tmod_eq_emod_of_nonneg (by omega)]
  unfold tn
  rw [BitVec.toNat_add, BitVec.toNat_add, BitVec.toNat_add, BitVec.toNat_add, BitVec.toNat_add]
  omega
attribute [go_sem] wr5 tm2 tn_not64 wrA wrE tmA tmE
theorem tm_any (m : Nat) (x : W32) (h : m % 4294967296 = tn x) : Int.tmod (m : Int) 4294967296 = (tn x : Int) := by
  rw [Int.tmod_eq_emod_of_nonneg (by omega)]; omega
theorem tn_sum_mod (x y : W32) (m k : Nat) (h1 : m % 4294967296 = tn x) (h2 : k % 4294967296 = tn y) : (m + k) % 4294967296 = tn (x + y) := by
  unfold tn at *
  rw [BitVec.toNat_add]; omega
/-- eight words in memory -/
def l8 (s : St8) : List W32 := [s.a, s.b, s.c, s.d, s.e, s.f, s.g, s.h]
theorem l8_at (s : St8) : ∀ n, n < 8 → (l8 s).getD n 0 = s.at n
  | 0, _ => rfl
  | 1, _ => rfl
  | 2, _ => rfl
  | 3, _ => rfl
  | 4, _ => rfl
  | 5, _ => rfl
  | 6, _ => rfl
  | 7, _ => rfl
theorem l8_get (s : St8) (n : Nat) (h : n < 8) : (i64s (l8 s))[n]? = some (.int .i64 ((tn (s.at n) : Nat) : Int)) := by
  rw [i64s_get _ _ (show n < (l8 s).length from h), ← l8_at s n h, List.getD_eq_getElem?_getD, List.getElem?_eq_getElem (show n < (l8 s).length from h)]; rfl
/-- .. as a row of the call's own -/
abbrev Row8 (w : World) (g : Nat) (f : Nat → W32) : Prop := w.rowIs g 3 8 (fun j => .int .i64 ((tn (f j) : Nat) : Int))
theorem Row8.rd {w : World} {g : Nat} {s : St8} (h : Row8 w g s.at) : Rd w (some ⟨g, 0, none⟩) (i64s (l8 s)) := by
  refine .inr ⟨g, 0, rfl, fun i u hu => ?_⟩
  have hi : i < 8 := by have := (List.getElem?_eq_some_iff.1 hu).1; rw [i64s_len] at this; exact this
  rw [l8_get s i hi] at hu
  cases hu
  rw [Nat.zero_add]; exact h.cell hi
theorem row8_new (w : World) (s : St8) : Row8 (w.alloc (.cells #[.int .i64 (tn s.a : Int), .int .i64 (tn s.b : Int), .int .i64 (tn s.c : Int), .int .i64 (tn s.d : Int), .int .i64 (tn s.e : Int), .int .i64 (tn s.f : Int), .int .i64 (tn s.g : Int), .int .i64 (tn s.h : Int)] 3)) w.heap.size s.at :=
  World.rowIs_alloc w _ 3 _ (by
    intro i hi
    match i, hi with
    | 0, _ => rfl
    | 1, _ => rfl
    | 2, _ => rfl
    | 3, _ => rfl
    | 4, _ => rfl
    | 5, _ => rfl
    | 6, _ => rfl
    | 7, _ => rfl)
set_option maxRecDepth 100000 in
set_option maxHeartbeats 4000000 in
theorem blockR_any (s : St8) (b : List UInt8) (A Ah : Option Addr) (cap caph : Nat) (w : World) (hr : Rd w A (u8s b)) (hh : Rd w Ah (i64s (l8 s))) (hl : 64 ≤ b.length) (hl2 : b.length ≤ 4000000000) :
    Calls Tryz.prog 60 #[.slice Ah 8 caph, .slice A b.length cap] w fun e w' => ∃ A', e = .returned (.slice A' 8 8) ∧ Rd w' A' (i64s (l8 (blockW keysW s b))) ∧ Below w.heap.size w w' := by
  obtain ⟨i0, hi0, hz0, hz1, hz2⟩ := info_parts (show (Tryz.prog.info? 3).map (fun i => (i.zero, i.size, i.bytes)) = some (some (.int .i64 0), 1, 8) by kernel_rfl)
  have HSp := Lib.hid (spread_any b A cap w hr hl hl2)
  have HH := Lib.hid hh
  clear hr hh
  go_enter Tryz.func60, Tryz.ntmps60
  go_wp2_with fail
  refine HSp.out.mono ?_
  rintro e w1 ⟨v5, rfl, ho5, hb1⟩
  obtain ⟨a5, c5, rfl⟩ := ownsRow_form ho5
  obtain ⟨A5, c5', hv5, _, _, hrd5⟩ := Rd.of_own ho5
  cases hv5
  rw [schL_len] at ho5 ⊢
  have HR5 := Lib.hid hrd5
  have HB1 := Lib.hid hb1
  clear ho5 hb1 hrd5 HSp
  go_wp2_with fail
  refine (keys_any _).mono ?_
  rintro e w2 ⟨A6, rfl, hrd6, hb2⟩
  have HR52 := Lib.hid (HR5.out.below hb2)
  have HR6 := Lib.hid hrd6
  have HB2 := Lib.hid (HB1.out.trans (hb2.mono HB1.out.size))
  clear hrd6 hb2 HR5 HB1
  obtain ⟨bh, oh, rfl, hbh, hch⟩ := HH.out.at 0 (by simp [i64s_len, l8])
  have HCh := Lib.hid (fun (wx : World) (hb : Below w.heap.size w wx) (n : Nat) (hn : n < 8) => (hb.cell (p := ⟨bh, oh + n, none⟩) hbh).trans (hch n _ (l8_get s n hn)))
  have HX := Lib.hid (show ∀ j u, (i64s (l8 s))[j]? = some u → w2.cell? ((⟨bh, oh, none⟩ : Addr).add j) = some u by
    intro j u hj
    rw [Addr.add_lit]
    exact (HB2.out.cell (p := ⟨bh, oh + j, none⟩) hbh).trans (hch j u hj))
  clear hch
  go_wp2_with (at_builtin; refine wpList_append_own _ rfl _ _ 108 rfl w.heap.size 3 i0 (.int .i64 0) 1 8 Tryz.underlying108 hi0 hz0 hz1 hz2 rfl (by decide) (.slice none 0 0) 0 [] rfl (World.ownsRow_nil _ _ _ _) ⟨bh, oh, none⟩ 8 caph (i64s (l8 s)) rfl rfl HX.out (by simp [i64s, Value.oneCell']) (by decide) (by decide) HB2.out.size ?_; intro v' w3 hown3 hgr3 _; have HB3 := Lib.hid (HB2.out.grown hgr3 HB2.out.size (fun q hq => by cases hq)); have HO3 := Lib.hid hown3; have HR53 := Lib.hid (HR52.out.grown hgr3 (fun a _ h => by cases h)); have HR63 := Lib.hid (HR6.out.grown hgr3 (fun a _ h => by cases h)); clear hown3 hgr3)
  clear HR52 HR6 HB2 HX
  obtain ⟨gv, cv, hvv, _, hgl⟩ := HO3.out.form (by omega)
  rw [show 0 + 8 = 8 from rfl] at hvv
  subst hvv
  obtain ⟨A7, c7', hv7, _, _, hrd7⟩ := Rd.of_own HO3.out
  cases hv7
  rw [List.nil_append] at hrd7
  have HR7 := Lib.hid hrd7
  have hw3 := HB3.out.size
  clear hrd7 HO3
  obtain ⟨b5, o5, rfl, hb5, hc5⟩ := HR53.out.at 0 (by rw [i64s_len, schL_len]; omega)
  obtain ⟨b6, o6, rfl, hb6, hc6⟩ := HR63.out.at 0 (by rw [i64s_len]; decide)
  have HC5 := Lib.hid (fun (wx : World) (hb : Below w3.heap.size w3 wx) (n : Nat) (hn : n < 64) => (hb.cell (p := ⟨b5, o5 + n, none⟩) hb5).trans (HR53.out.at' (k := n) (by rw [schL_len]; exact hn)))
  have HC6 := Lib.hid (fun (wx : World) (hb : Below w3.heap.size w3 wx) (n : Nat) (hn : n < 64) => (hb.cell (p := ⟨b6, o6 + n, none⟩) hb6).trans (HR63.out.at' (k := n) hn))
  clear hc5 hc6 HR53 HR63
  go_loopw [8, 7] (fun i v wr => ∃ (n : Nat) (A' : Option Addr) (c' : Nat), n ≤ 64 ∧ i = .int .i64 n ∧ v = .slice A' 8 c' ∧ Hid (Rd wr A' (i64s (l8 (rounds keysW b s n)))) ∧ Hid (Below w3.heap.size w3 wr) ∧ Hid (n = 0 ∨ ∃ g, A' = some ⟨g, 0, none⟩ ∧ c' = 8 ∧ w.heap.size ≤ g ∧ Row8 wr g (rounds keysW b s n).at)) (fun i _ _ => 64 - (intOf i).toNat)
  case atStart => exact ⟨0, _, _, by omega, rfl, rfl, HR7, Lib.hid (Below.refl _ _), Lib.hid (.inl rfl)⟩
  case round =>
    clear HR7 hgl
    obtain ⟨n, Av, cv, hn, rfl, rfl, HV, HB, HW⟩ := hrel
    by_cases hlt : n < 64
    · have cw := HC5.out _ HB.out n hlt
      have ck := HC6.out _ HB.out n hlt
      have HS := Lib.hid (show rounds keysW b s (n + 1) = roundW (rounds keysW b s n) (keysW.getD n 0) ((schL b 64).getD n 0) from rfl)
      generalize (schL b 64).getD n 0 = wn at cw HS
      generalize keysW.getD n 0 = kn at ck HS
      generalize rounds keysW b s n = r at HV HS
      obtain ⟨bv, ov, rfl, hbv, hcv⟩ := HV.out.at 0 (by simp [i64s_len, l8])
      obtain ⟨a0, b0, c0, d0, e0, f0, g0, h0⟩ := r
      have v0 : wr.cell? ⟨bv, ov, none⟩ = some (.int .i64 ((tn a0 : Nat) : Int)) := hcv 0 _ rfl
      have v1 : wr.cell? ⟨bv, ov + 1, none⟩ = some (.int .i64 ((tn b0 : Nat) : Int)) := hcv 1 _ rfl
      have v2 : wr.cell? ⟨bv, ov + 2, none⟩ = some (.int .i64 ((tn c0 : Nat) : Int)) := hcv 2 _ rfl
      have v3 : wr.cell? ⟨bv, ov + 3, none⟩ = some (.int .i64 ((tn d0 : Nat) : Int)) := hcv 3 _ rfl
      have v4 : wr.cell? ⟨bv, ov + 4, none⟩ = some (.int .i64 ((tn e0 : Nat) : Int)) := hcv 4 _ rfl
      have v5 : wr.cell? ⟨bv, ov + 5, none⟩ = some (.int .i64 ((tn f0 : Nat) : Int)) := hcv 5 _ rfl
      have v6 : wr.cell? ⟨bv, ov + 6, none⟩ = some (.int .i64 ((tn g0 : Nat) : Int)) := hcv 6 _ rfl
      have v7 : wr.cell? ⟨bv, ov + 7, none⟩ = some (.int .i64 ((tn h0 : Nat) : Int)) := hcv 7 _ rfl
      clear hcv HV HW
      have i64n : (n : Int) < 64 := by omega
      have R6 := Lib.hid (show ∀ W : World, Calls Tryz.prog 87 #[.int .i64 (tn e0 : Int), .int .i64 6] W (fun e w' => e = .returned (.int .i64 (tn (rr e0 6) : Int)) ∧ ∃ m, w' = W.drewN m) from fun W => turn_any e0 6 (by decide) (by decide) W)
      have R11 := Lib.hid (show ∀ W : World, Calls Tryz.prog 87 #[.int .i64 (tn e0 : Int), .int .i64 11] W (fun e w' => e = .returned (.int .i64 (tn (rr e0 11) : Int)) ∧ ∃ m, w' = W.drewN m) from fun W => turn_any e0 11 (by decide) (by decide) W)
      have R25 := Lib.hid (show ∀ W : World, Calls Tryz.prog 87 #[.int .i64 (tn e0 : Int), .int .i64 25] W (fun e w' => e = .returned (.int .i64 (tn (rr e0 25) : Int)) ∧ ∃ m, w' = W.drewN m) from fun W => turn_any e0 25 (by decide) (by decide) W)
      have R2 := Lib.hid (show ∀ W : World, Calls Tryz.prog 87 #[.int .i64 (tn a0 : Int), .int .i64 2] W (fun e w' => e = .returned (.int .i64 (tn (rr a0 2) : Int)) ∧ ∃ m, w' = W.drewN m) from fun W => turn_any a0 2 (by decide) (by decide) W)
      have R13 := Lib.hid (show ∀ W : World, Calls Tryz.prog 87 #[.int .i64 (tn a0 : Int), .int .i64 13] W (fun e w' => e = .returned (.int .i64 (tn (rr a0 13) : Int)) ∧ ∃ m, w' = W.drewN m) from fun W => turn_any a0 13 (by decide) (by decide) W)
      have R22 := Lib.hid (show ∀ W : World, Calls Tryz.prog 87 #[.int .i64 (tn a0 : Int), .int .i64 22] W (fun e w' => e = .returned (.int .i64 (tn (rr a0 22) : Int)) ∧ ∃ m, w' = W.drewN m) from fun W => turn_any a0 22 (by decide) (by decide) W)
      go_wp2_with fail
      refine (R6.out _).mono ?_
      rintro e wz ⟨rfl, m, rfl⟩
      generalize hD : World.drewN wr _ = wa
      have eD : World.cell? wr = World.cell? wa := by rw [← hD]; rfl
      have HB10 := Lib.hid (show Below w3.heap.size w3 wa by rw [← hD]; exact ⟨HB.out.os, HB.out.tape, HB.out.output, HB.out.size, HB.out.block⟩)
      rw [eD] at v0 v1 v2 v3 v4 v5 v6 v7 cw ck
      clear hD eD
      go_wp2_with fail
      refine (R11.out _).mono ?_
      rintro e wz ⟨rfl, m, rfl⟩
      generalize hD : World.drewN wa _ = wb
      have eD : World.cell? wa = World.cell? wb := by rw [← hD]; rfl
      have HB11 := Lib.hid (show Below w3.heap.size w3 wb by rw [← hD]; exact ⟨HB10.out.os, HB10.out.tape, HB10.out.output, HB10.out.size, HB10.out.block⟩)
      rw [eD] at v0 v1 v2 v3 v4 v5 v6 v7 cw ck
      clear hD eD
      go_wp2_with fail
      refine (R25.out _).mono ?_
      rintro e wz ⟨rfl, m, rfl⟩
      generalize hD : World.drewN wb _ = wd
      have eD : World.cell? wb = World.cell? wd := by rw [← hD]; rfl
      have HB12 := Lib.hid (show Below w3.heap.size w3 wd by rw [← hD]; exact ⟨HB11.out.os, HB11.out.tape, HB11.out.output, HB11.out.size, HB11.out.block⟩)
      rw [eD] at v0 v1 v2 v3 v4 v5 v6 v7 cw ck
      clear hD eD
      go_upto_region 10 with fail
      go_quiet (fail)
      generalize hD : World.drewN wd _ = we
      have eD : World.cell? wd = World.cell? we := by rw [← hD]; rfl
      have HB13 := Lib.hid (show Below w3.heap.size w3 we by rw [← hD]; exact ⟨HB12.out.os, HB12.out.tape, HB12.out.output, HB12.out.size, HB12.out.block⟩)
      rw [eD] at v0 v1 v2 v3 v4 v5 v6 v7 cw ck
      clear hD eD
      go_upto_region 11 with fail
      go_quiet (fail)
      generalize hD : World.drewN we _ = wf
      have eD : World.cell? we = World.cell? wf := by rw [← hD]; rfl
      have HB14 := Lib.hid (show Below w3.heap.size w3 wf by rw [← hD]; exact ⟨HB13.out.os, HB13.out.tape, HB13.out.output, HB13.out.size, HB13.out.block⟩)
      rw [eD] at v0 v1 v2 v3 v4 v5 v6 v7 cw ck
      clear hD eD
      clear cw ck
      go_wp2_with fail
      refine (R2.out _).mono ?_
      rintro e wz ⟨rfl, m, rfl⟩
      generalize hD : World.drewN wf _ = wg
      have eD : World.cell? wf = World.cell? wg := by rw [← hD]; rfl
      have HB15 := Lib.hid (show Below w3.heap.size w3 wg by rw [← hD]; exact ⟨HB14.out.os, HB14.out.tape, HB14.out.output, HB14.out.size, HB14.out.block⟩)
      rw [eD] at v0 v1 v2 v3 v4 v5 v6 v7
      clear hD eD
      go_wp2_with fail
      refine (R13.out _).mono ?_
      rintro e wz ⟨rfl, m, rfl⟩
      generalize hD : World.drewN wg _ = wh
      have eD : World.cell? wg = World.cell? wh := by rw [← hD]; rfl
      have HB16 := Lib.hid (show Below w3.heap.size w3 wh by rw [← hD]; exact ⟨HB15.out.os, HB15.out.tape, HB15.out.output, HB15.out.size, HB15.out.block⟩)
      rw [eD] at v0 v1 v2 v3 v4 v5 v6 v7
      clear hD eD
      go_wp2_with fail
      refine (R22.out _).mono ?_
      rintro e wz ⟨rfl, m, rfl⟩
      generalize hD : World.drewN wh _ = wi
      have eD : World.cell? wh = World.cell? wi := by rw [← hD]; rfl
      have HB17 := Lib.hid (show Below w3.heap.size w3 wi by rw [← hD]; exact ⟨HB16.out.os, HB16.out.tape, HB16.out.output, HB16.out.size, HB16.out.block⟩)
      rw [eD] at v0 v1 v2 v3 v4 v5 v6 v7
      clear hD eD
      go_upto_region 15 with fail
      go_quiet (fail)
      generalize hD : World.drewN wi _ = wj
      have eD : World.cell? wi = World.cell? wj := by rw [← hD]; rfl
      have HB18 := Lib.hid (show Below w3.heap.size w3 wj by rw [← hD]; exact ⟨HB17.out.os, HB17.out.tape, HB17.out.output, HB17.out.size, HB17.out.block⟩)
      rw [eD] at v0 v1 v2 v3 v4 v5 v6 v7
      clear hD eD
      go_upto_region 16 with fail
      go_still_tail 28, (by kernel_rfl)
      go_wp2
      go_roundw
      case rel =>
        have hrow := row8_new wj (roundW ⟨a0, b0, c0, d0, e0, f0, g0, h0⟩ kn wn)
        refine ⟨n + 1, _, _, by omega, by go_num, rfl, ?_, ?_, ?_⟩
        · rw [HS.out]; exact Lib.hid hrow.rd
        · exact Lib.hid (below_drew2 (HB18.out.alloc HB18.out.size _))
        · refine Lib.hid (.inr ⟨_, rfl, rfl, by have := HB18.out.size; omega, ?_⟩)
          rw [HS.out]; exact hrow
      case measure => simp [intOf]; omega
    · obtain rfl : n = 64 := by omega
      rcases HW.out with h | ⟨g, hA, rfl, hg, hrow⟩
      · exact absurd h (by decide)
      subst hA
      have HDef := Lib.hid (show blockW keysW s b = add8 s (rounds keysW b s 64) from rfl)
      have HB9 := Lib.hid (HB3.out.trans (HB.out.mono hw3))
      clear HV HB HW hlt hn HB3 HC5 HC6
      generalize rounds keysW b s 64 = r at hrow HDef
      have HR9 := Lib.hid hrow
      clear hrow
      go_wp2
      try rw [show (((64 : Nat) : Nat) : Int) = 64 from rfl]
      go_loopw [18] (fun i wx => ∃ n : Nat, n ≤ 8 ∧ i = .int .i64 n ∧ Hid (Row8 wx g (fun j => if j < n then s.at j + r.at j else r.at j)) ∧ Hid (Below w.heap.size w wx)) (fun i _ => 8 - (intOf i).toNat)
      case atStart => exact ⟨0, by omega, rfl, Lib.hid (HR9.out.congr fun j hj => by simp), HB9⟩
      case round =>
        clear HR9 HB9
        obtain ⟨n, hn, rfl, HA, HB⟩ := hrel
        by_cases hlt : n < 8
        · have c1 := HA.out.cell (i := n) hlt
          have c2 := HCh.out _ HB.out n hlt
          have hf := HA.out.frozen n
          replace c1 : wr.cell? ⟨g, n, none⟩ = some (.int .i64 ((tn (r.at n) : Nat) : Int)) := by
            rw [c1]
            show some (Value.int .i64 ((tn (if n < n then s.at n + r.at n else r.at n) : Nat) : Int)) = _
            rw [if_neg (Nat.lt_irrefl n)]
          have ia2 : (n : Int) < 8 := by omega
          have HN := Lib.hid (fun (v : Int) (hv : v = (tn (r.at n + s.at n) : Int)) => (HA.out.set n (.int .i64 v)).congr (g := fun j => .int .i64 ((tn (if j < n + 1 then s.at j + r.at j else r.at j) : Nat) : Int)) fun j hj => by
            by_cases hjn : j = n
            · subst hjn; rw [if_pos rfl, if_pos (by omega), hv, BitVec.add_comm]
            · rw [if_neg hjn]
              show Value.int .i64 ((tn (if j < n then s.at j + r.at j else r.at j) : Nat) : Int) = _
              by_cases h2 : j < n
              · rw [if_pos h2, if_pos (by omega)]
              · rw [if_neg h2, if_neg (by omega)])
          generalize s.at n = sn at c2 HN
          generalize r.at n = rn at c1 HN
          go_upto_region 20 with fail
          go_still_tail 13, (by kernel_rfl)
          go_wp2
          go_roundw
          case rel => exact ⟨n + 1, by omega, by go_num, Lib.hid (HN.out _ rfl), Lib.hid (below_drew2 (HB.out.setCell (p := ⟨g, n, none⟩) hg _))⟩
          case measure => simp [intOf]; omega
        · obtain rfl : n = 8 := by omega
          have HA8 := Lib.hid (show Row8 wr g (add8 s r).at from HA.out.congr fun j hj => by
            show Value.int .i64 ((tn (if j < 8 then s.at j + r.at j else r.at j) : Nat) : Int) = _
            rw [if_pos hj]
            match j, hj with
            | 0, _ => rfl
            | 1, _ => rfl
            | 2, _ => rfl
            | 3, _ => rfl
            | 4, _ => rfl
            | 5, _ => rfl
            | 6, _ => rfl
            | 7, _ => rfl)
          go_wp2
          go_ret
          exact ⟨_, rfl, by rw [HDef.out]; exact HA8.out.rd, HB.out⟩
end Go.Proofs.YtafokdidpbainaaGreatDoor
namespace Go.Proofs.YtafokdidpbainaaGreatDoor
open Go.RowKit

theorem rd_pre {w : World} {A : Option Addr} {xs ys : List Value} (h : Rd w A (xs ++ ys)) : Rd w A xs := by
  rcases h with h | ⟨b, o, rfl, hc⟩
  · exact .inl (List.append_eq_nil_iff.1 h).1
  · exact .inr ⟨b, o, rfl, fun i u hu => hc i u (by rw [List.getElem?_append_left (List.getElem?_eq_some_iff.1 hu).1]; exact hu)⟩
set_option maxRecDepth 100000 in
set_option maxHeartbeats 4000000 in
theorem digest_any (s : List UInt8) (w : World) (hs : 0 < s.length) (hl : s.length ≤ 3000000000) :
    Calls Tryz.prog 40 #[.string (S s)] w fun e w' => e = .returned (.string (S (shaB s))) ∧ Below w.heap.size w w' := by
  obtain ⟨i0, hi0, hz0, hz1, hz2⟩ := info_parts (show (Tryz.prog.info? 5).map (fun i => (i.zero, i.size, i.bytes)) = some (some (.int .u8 0), 1, 1) by kernel_rfl)
  have HL := Lib.hid hs
  clear hs
  go_enter Tryz.func40, Tryz.ntmps40
  obtain ⟨c0, ob, hcv, hbf⟩ := buf_of_string (P := Tryz.prog) w 9 107 5 s (by kernel_rfl) (by kernel_rfl) (by kernel_rfl) w.heap.size (Nat.le_refl _) (by omega)
  have HC := Lib.hid hbf
  have HBC := Lib.hid (Below.alloc (below_drew2 (Below.refl w.heap.size w)) (Nat.le_refl _) ob)
  clear hbf
  have HX := Lib.hid (show ∀ j u, (u8s [128])[j]? = some u → (((w.alloc ob).alloc (.cells #[.int .u8 128] 5)).drew).cell? ((⟨w.heap.size + 1, 0, none⟩ : Addr).add j) = some u by
    have e : w.heap.size + 1 = (w.alloc ob).heap.size := by simp
    rw [e]; exact cell1Y (w.alloc ob) (.int .u8 128) 5)
  go_wp2_with (at_builtin; refine wpList_append_buf _ rfl _ _ 107 107 rfl 5 i0 (.int .u8 0) Tryz.underlying107 hi0 hz0 hz1 hz2 rfl (HC.out.below ((Below.refl _ _).alloc (Nat.le_refl _) (.cells #[.int .u8 128] 5))) (by simp; omega) s.length rfl rfl (.slice (some ⟨_, 0, none⟩) 1 1) [128] rfl (Src.ofSlice (e' := 5) _ (by kernel_rfl) ⟨w.heap.size + 1, 0, none⟩ 1 1 _ rfl HX.out (by simp [u8s, Value.oneCell'])) (by decide) (by simp; omega) ?_; intro g1 c1 w1 hb1 hB1; have HB1 := Lib.hid (((HBC.out).alloc (HBC.out).size (.cells #[.int .u8 128] 5)).trans hB1); have HG1 := Lib.hid hb1; clear hb1 hB1)
  have HPL := Lib.hid (padI_len s)
  obtain ⟨K, hK⟩ : ∃ K : Nat, K = (119 - s.length % 64) % 64 := ⟨_, rfl⟩
  have hK63 : K ≤ 63 := by omega
  go_loopw [3] (fun v wr => ∃ k m g c : Nat, k ≤ K ∧ m = s.length + 1 + k ∧ v = .slice (some ⟨g, 0, none⟩) m c ∧ Hid (BufB w.heap.size wr g c (s ++ [128] ++ List.replicate k 0)) ∧ Hid (Below w.heap.size w wr)) (fun v _ => s.length + 100 - lenV v)
  case atStart => exact ⟨0, s.length + 1, g1, c1, by omega, by omega, by simp, Lib.hid (by rw [List.replicate_zero, List.append_nil]; exact HG1.out), HB1⟩
  case round =>
    clear HG1 HB1 HX HC HBC
    obtain ⟨k, m, g, c, hk, hm, rfl, HG, HB⟩ := hrel
    have hlen : (s ++ [128] ++ List.replicate k (0 : UInt8)).length = m := by simp; omega
    have HLn := Lib.hid hlen
    have HMk := Lib.hid hm
    have hm1 : m ≤ s.length + 90 := by omega
    clear hlen
    by_cases h56 : m % 64 = 56
    · have hm56 : ((m : Int) % 64 != 56) = false := by simp; omega
      obtain rfl : k = K := by omega
      have e8 : s ++ [128] ++ List.replicate k (0 : UInt8) = padI s 0 := by unfold padI; rw [hK]; simp
      rw [e8] at HG
      have hmP : m = (padI s 0).length := by rw [padI_len]; omega
      have HM := Lib.hid hmP
      clear e8 hmP HLn
      clear hK hm h56 hk
      go_wp2
      go_loopw [5, 3] (fun i v wr => ∃ n m g c : Nat, n ≤ 8 ∧ m = s.length + 1 + k + n ∧ i = .int .i64 n ∧ v = .slice (some ⟨g, 0, none⟩) m c ∧ Hid (BufB w.heap.size wr g c (padI s n)) ∧ Hid ((padI s n).length = m) ∧ Hid (Below w.heap.size w wr)) (fun i _ _ => 8 - (intOf i).toNat)
      case atStart => exact ⟨0, m, g, c, by omega, by have := HMk.out; omega, rfl, rfl, HG, Lib.hid HM.out.symm, HB⟩
      case round =>
        clear HG HM HB hm56 hm1 HMk
        obtain ⟨n, m, g, c, hn, hm, rfl, rfl, HG, HM, HB⟩ := hrel
        have HMk := Lib.hid hm
        have hm1 : m ≤ s.length + 200 := by omega
        clear hm
        by_cases hlt : n < 8
        · obtain ⟨j, hj⟩ : ∃ j : Nat, j = 8 * n := ⟨_, rfl⟩
          obtain ⟨r, hr⟩ : ∃ r : Nat, r = 56 - j := ⟨_, rfl⟩
          have x1 : IntKind.i64.wrap (8 * (n : Int)) = (j : Int) := by rw [IntKind.wrap_i64] <;> omega
          have x2 : IntKind.i64.wrap (56 - (j : Int)) = (r : Int) := by rw [IntKind.wrap_i64] <;> omega
          have x3 : (0 : Int) ≤ (r : Int) := by omega
          have x4 : (r : Int) ≤ 64 := by omega
          have x5 : ¬ (r : Int) < 0 := by omega
          obtain ⟨y, hy⟩ : ∃ y : UInt8, UInt8.ofNat (s.length * 8 / 2 ^ r) = y := ⟨_, rfl⟩
          have x6 : (8 * (s.length : Int) / 2 ^ r) % 256 = (y.toNat : Int) := by
            have e : (8 * (s.length : Int) / 2 ^ r) = ((s.length * 8 / 2 ^ r : Nat) : Int) := by rw [Int.mul_comm]; push_cast; rfl
            rw [e, ← hy, UInt8.toNat_ofNat']; omega
          have HP := Lib.hid (show padI s (n + 1) = padI s n ++ [y] by rw [padI_succ, ← hj, ← hr, hy])
          clear hj hr hy
          go_wp2_with (at_builtin; refine wpList_append_buf _ rfl _ _ 107 107 rfl 5 i0 (.int .u8 0) Tryz.underlying107 hi0 hz0 hz1 hz2 rfl (HG.out.below ((Below.refl _ _).alloc (Nat.le_refl _) (.cells #[.int .u8 (y.toNat : Int)] 5))) (by have := HB.out.size; simp; omega) m HM.out rfl (.slice (some ⟨_, 0, none⟩) 1 1) [y] rfl (Src.ofSlice (e' := 5) _ (by kernel_rfl) ⟨_, 0, none⟩ 1 1 _ rfl (cell1Y _ _ _) (by simp [u8s, Value.oneCell'])) (by simp) (by rw [HM.out]; simp; omega) ?_; intro g2 c2 w2 hb2 hB2; have HB2 := Lib.hid ((HB.out).trans (((Below.refl _ _).alloc (HB.out).size (.cells #[.int .u8 (y.toNat : Int)] 5)).trans hB2)); have HG2 := Lib.hid hb2; clear hb2 hB2)
          go_roundw
          case rel => exact ⟨n + 1, m + 1, g2, c2, by omega, by have := HMk.out; omega, by go_num, by simp [HM.out], Lib.hid (by rw [HP.out]; exact HG2.out), Lib.hid (by rw [HP.out, List.length_append, HM.out]; rfl), HB2⟩
          case measure => simp [intOf]; omega
        · obtain rfl : n = 8 := by omega
          rw [padI_8] at HG HM
          have HPm := Lib.hid (show (padB s).length = 0 + 64 * ((padB s).length / 64) by have := pad_whole s; omega)
          obtain ⟨F, hF⟩ : ∃ F, blocksW startW (padB s) ((padB s).length / 64) = F := ⟨_, rfl⟩
          have HSha := Lib.hid (show hex8 F = shaB s by rw [← hF]; rfl)
          have HF := Lib.hid (show blocksW startW ((padB s).drop 0) ((padB s).length / 64) = F from hF)
          clear hF
          have hc := HG.out.le
          rw [HM.out] at hc
          have HR := Lib.hid HG.out.rd
          have hgl := HG.out.lt
          clear HG HMk
          generalize (padB s).length / 64 = rn at HPm HF
          generalize padB s = P at HM HPm HF HR
          have HV := Lib.hid (row8_new wr startW)
          have hbs : wr.heap.size ≤ (wr.alloc (.cells #[.int .i64 (tn startW.a : Int), .int .i64 (tn startW.b : Int), .int .i64 (tn startW.c : Int), .int .i64 (tn startW.d : Int), .int .i64 (tn startW.e : Int), .int .i64 (tn startW.f : Int), .int .i64 (tn startW.g : Int), .int .i64 (tn startW.h : Int)] 3)).heap.size := by simp
          have HB3 := Lib.hid (HB.out.alloc HB.out.size (.cells #[.int .i64 (tn startW.a : Int), .int .i64 (tn startW.b : Int), .int .i64 (tn startW.c : Int), .int .i64 (tn startW.d : Int), .int .i64 (tn startW.e : Int), .int .i64 (tn startW.f : Int), .int .i64 (tn startW.g : Int), .int .i64 (tn startW.h : Int)] 3))
          have HR3 := Lib.hid (HR.out.below ((Below.refl _ _).alloc (Nat.le_refl _) (.cells #[.int .i64 (tn startW.a : Int), .int .i64 (tn startW.b : Int), .int .i64 (tn startW.c : Int), .int .i64 (tn startW.d : Int), .int .i64 (tn startW.e : Int), .int .i64 (tn startW.f : Int), .int .i64 (tn startW.g : Int), .int .i64 (tn startW.h : Int)] 3)))
          have hbw := HB.out.size
          subst HM
          go_upto_region 11 with fail
          rw [show (#[Value.int .i64 1779033703, Value.int .i64 3144134277, Value.int .i64 1013904242, Value.int .i64 2773480762, Value.int .i64 1359893119, Value.int .i64 2600822924, Value.int .i64 528734635, Value.int .i64 1541459225] : Array Value) = #[.int .i64 (tn startW.a : Int), .int .i64 (tn startW.b : Int), .int .i64 (tn startW.c : Int), .int .i64 (tn startW.d : Int), .int .i64 (tn startW.e : Int), .int .i64 (tn startW.f : Int), .int .i64 (tn startW.g : Int), .int .i64 (tn startW.h : Int)] from rfl]
          generalize hw3 : wr.alloc (.cells #[.int .i64 (tn startW.a : Int), .int .i64 (tn startW.b : Int), .int .i64 (tn startW.c : Int), .int .i64 (tn startW.d : Int), .int .i64 (tn startW.e : Int), .int .i64 (tn startW.f : Int), .int .i64 (tn startW.g : Int), .int .i64 (tn startW.h : Int)] 3) = w3 at HV HB3 HR3 hbs ⊢
          clear hw3 HR HB
          try rw [show (((8 : Nat) : Nat) : Int) = 8 from rfl]
          have HRx := Lib.hid (fun (wx : World) (hb : Below w3.heap.size w3 wx) => HR3.out.below hb)
          go_loopw [7, 6] (fun i v wx => ∃ (pos : Nat) (st : St8) (A6 : Option Addr) (r : Nat), i = .int .i64 pos ∧ v = .slice A6 8 8 ∧ pos ≤ P.length ∧ Hid (P.length = pos + 64 * r) ∧ Hid (Rd wx A6 (i64s (l8 st))) ∧ Hid (blocksW st (P.drop pos) r = F) ∧ Hid (Below w3.heap.size w3 wx)) (fun i _ _ => P.length - (intOf i).toNat)
          case atStart => exact ⟨0, startW, _, rn, rfl, rfl, by omega, HPm, Lib.hid HV.out.rd, HF, Lib.hid (Below.refl _ _)⟩
          case round =>
            clear HV HR3 HF HPm hgl hbs
            obtain ⟨pos, st, A6, r, rfl, rfl, hpl, HM, HV, HF, HB⟩ := hrel
            by_cases hlt : pos < P.length
            · obtain ⟨r, rfl⟩ : ∃ r', r = r' + 1 := ⟨r - 1, by have := HM.out; omega⟩
              have h64 : pos + 64 ≤ P.length := by have := HM.out; omega
              have HRb := Lib.hid (show Rd wr (some ⟨g, pos, none⟩) (u8s ((P.drop pos).take 64)) by
                have h := (HRx.out _ HB.out).drop pos
                rw [Nat.zero_add] at h
                refine rd_pre (ys := u8s ((P.drop pos).drop 64)) ?_
                rw [show u8s ((P.drop pos).take 64) ++ u8s ((P.drop pos).drop 64) = u8s (P.drop pos) by simp only [u8s]; rw [← List.map_append, List.take_append_drop]]
                exact h)
              have HL64 := Lib.hid (show ((P.drop pos).take 64).length = 64 by simp; omega)
              have HF5 := Lib.hid (show blocksW (blockW keysW st ((P.drop pos).take 64)) (P.drop (pos + 64)) r = F by rw [← HF.out, blocksW, List.drop_drop])
              generalize (P.drop pos).take 64 = bk at HRb HL64 HF5
              obtain ⟨p2, hp2⟩ : ∃ p2 : Nat, pos + 64 = p2 := ⟨_, rfl⟩
              have x1 : IntKind.i64.wrap ((pos : Int) + 64) = (p2 : Int) := by rw [IntKind.wrap_i64] <;> omega
              have HP2 := Lib.hid hp2
              have x2 : (pos : Int) ≤ (p2 : Int) := by omega
              have x3 : (p2 : Int) ≤ (c : Int) := by omega
              have x4 : (0 : Int) ≤ (pos : Int) := by omega
              have x5 : (pos : Int) < (P.length : Int) := by omega
              have x6 : p2 - pos = 64 := by omega
              have x7 : ¬ c - pos = 0 := by omega
              have x8 : p2 ≤ c := by omega
              have x9 : pos ≤ p2 := by omega
              rw [hp2] at HF5 h64
              have HM5 := Lib.hid (show P.length = p2 + 64 * r by have := HM.out; omega)
              clear hp2 HF HM
              have HBk := blockR_any st bk (some ⟨g, pos, none⟩) A6 (c - pos) 8 wr HRb.out HV.out (by rw [HL64.out]; decide) (by rw [HL64.out]; decide)
              rw [HL64.out] at HBk
              replace HBk := Lib.hid HBk
              go_wp2_with fail
              refine HBk.out.mono ?_
              rintro e w5 ⟨A', rfl, hv5, hb5⟩
              have HV5 := Lib.hid hv5
              have HB5 := Lib.hid (HB.out.trans (hb5.mono HB.out.size))
              clear hv5 hb5 HB HV HRb HBk
              go_wp2
              go_roundw
              case rel => exact ⟨p2, _, A', r, by go_num, rfl, h64, HM5, HV5, HF5, HB5⟩
              case measure => simp [intOf]; omega
            · obtain rfl : r = 0 := by have := HM.out; omega
              obtain rfl : st = F := HF.out
              obtain ⟨b6, o6, rfl, hb6, hc6⟩ := HV.out.at 0 (by simp [i64s_len, l8])
              have HC6 := Lib.hid (fun (wx : World) (hb : Below wr.heap.size wr wx) (n : Nat) (hn : n < 8) => (hb.cell (p := ⟨b6, o6 + n, none⟩) hb6).trans (hc6 n _ (l8_get st n hn)))
              have HB9 := Lib.hid (HB3.out.trans (HB.out.mono HB3.out.size))
              have hw9 := HB9.out.size
              have hl0 : ¬ (pos : Int) < (P.length : Int) := by omega
              clear hc6 HV HF HM HB HB3 HRx hbw
              obtain ⟨wA, rfl⟩ : ∃ wA : World, wA = wr := ⟨wr, rfl⟩
              go_wp2
              go_loopw [9, 8] (fun i vo wx => ∃ n : Nat, n ≤ 8 ∧ i = .int .i64 n ∧ Hid (OwnY wx wA.heap.size vo (hexI st n)) ∧ Hid (Below wA.heap.size wA wx)) (fun i _ _ => 8 - (intOf i).toNat)
              case atStart => exact ⟨0, by omega, rfl, Lib.hid (World.ownsRow_nil _ _ _ _), Lib.hid (Below.refl _ _)⟩
              case round =>
                obtain ⟨n, hn, rfl, HO, HB⟩ := hrel
                by_cases hlt2 : n < 8
                · have hi8 : (n : Int) < 8 := by omega
                  have HX := Lib.hid (show hexI st (n + 1) = hexI st n ++ hexW (st.at n) from rfl)
                  have hln := hexI_len st n
                  have HCn := Lib.hid (fun (wx : World) hb => HC6.out wx hb n hlt2)
                  generalize st.at n = x at HCn HX
                  generalize hexI st n = pre at HO HX hln
                  go_wp2
                  go_loopw [10, 8] (fun d vo wx => ∃ (j : Nat) (q : Int), j ≤ 8 ∧ q = 28 - 4 * (j : Int) ∧ d = .int .i64 q ∧ Hid (OwnY wx wA.heap.size vo (pre ++ hexJ x j)) ∧ Hid (Below wA.heap.size wA wx)) (fun d _ _ => (intOf d + 4).toNat)
                  case atStart => exact ⟨0, 28, by omega, by omega, rfl, Lib.hid (by rw [show hexJ x 0 = [] from rfl, List.append_nil]; exact HO.out), HB⟩
                  case round =>
                    clear HO HB
                    obtain ⟨j, q, hj, hq, rfl, HO, HB⟩ := hrel
                    have hlj := hexJ_len x j
                    have hL : (pre ++ hexJ x j).length ≤ 100 := by rw [List.length_append]; omega
                    clear hlj
                    by_cases hlt3 : j < 8
                    · obtain ⟨q, rfl⟩ : ∃ q' : Nat, q = (q' : Int) := ⟨q.toNat, by omega⟩
                      have HX2 := Lib.hid (show pre ++ hexJ x (j + 1) = pre ++ hexJ x j ++ [hexB (x.toNat / 2 ^ q % 16)] by rw [hexJ_succ, show 28 - 4 * j = q by omega, List.append_assoc])
                      generalize pre ++ hexJ x j = L at HO hL HX2
                      have c1 := HCn.out _ HB.out
                      have x3 : (0 : Int) ≤ (q : Int) := by omega
                      have x4 : (q : Int) ≤ 64 := by omega
                      have x5 : ¬ (q : Int) < 0 := by omega
                      obtain ⟨r, hr⟩ : ∃ r : Nat, x.toNat / 2 ^ q % 16 = r := ⟨_, rfl⟩
                      have x6 : ((tn x : Int) / 2 ^ q) % 16 = (r : Int) := by
                        have e : ((tn x : Int) / 2 ^ q) = ((x.toNat / 2 ^ q : Nat) : Int) := by unfold tn; push_cast; rfl
                        rw [e]; omega
                      have x7 : Int.tmod ((tn x : Int) / 2 ^ q) 16 = (r : Int) := by
                        have e : ((tn x : Int) / 2 ^ q) = ((x.toNat / 2 ^ q : Nat) : Int) := by unfold tn; push_cast; rfl
                        rw [e, Int.tmod_eq_emod_of_nonneg (Int.natCast_nonneg _)]; omega
                      rw [hr] at HX2
                      have hr16 : r < 16 := by omega
                      have hid := hexL r hr16
                      generalize hexB r = y at hid HX2
                      have HJ := Lib.hid hq
                      clear hr hq
                      obtain ⟨av, cv, rfl⟩ := ownsRow_form HO.out
                      go_wp2_with (at_builtin; refine wpList_append_own _ rfl _ _ 107 rfl wA.heap.size 5 i0 (.int .u8 0) 1 1 Tryz.underlying107 hi0 hz0 hz1 hz2 rfl (by decide) _ _ _ rfl (HO.out.alloc _) ⟨_, 0, none⟩ 1 1 [.int .u8 (y.toNat : Int)] rfl rfl (cell1Y _ _ _) (by simp [Value.oneCell']) (by unfold maxLen; omega) (by omega) (by simp; have := HB.out.size; omega) ?_; intro v' w5 hown5 hgr5 _; have HB5 := Lib.hid ((HB.out.alloc HB.out.size _).grown hgr5 (by have := HB.out.size; simp; omega) (fun q hq => ((HO.out.alloc (.cells #[.int .u8 (y.toNat : Int)] 5)).lt q hq).1)); have HO5 := Lib.hid (own_snocY hown5); obtain ⟨ao', c', rfl⟩ := ownsRow_form hown5; clear hown5 hgr5)
                      go_roundw
                      case rel => exact ⟨j + 1, (q : Int) - 4, by omega, by have := HJ.out; push_cast; omega, by go_num, Lib.hid (by rw [HX2.out]; exact HO5.out), HB5⟩
                      case measure => simp [intOf]; omega
                    · obtain rfl : j = 8 := by omega
                      have hqn : ¬ (0 : Int) ≤ q := by omega
                      go_wp2
                      go_roundw
                      case rel => exact ⟨n + 1, by omega, by go_num, Lib.hid (by rw [HX.out]; exact HO.out), HB⟩
                      case measure => simp [intOf]; omega
                · obtain rfl : n = 8 := by omega
                  rw [hexI_8, HSha.out] at HO
                  have hl64 : (shaB s).length = 64 := by rw [← HSha.out, ← hexI_8, hexI_len]
                  generalize hSD : shaB s = D at HO hl64
                  have HSD := Lib.hid hSD
                  clear hSD
                  obtain ⟨gv, cv, rfl, _, _⟩ := HO.out.form (by omega)
                  have hrd := (Rd.of_own HO.out)
                  obtain ⟨A2, c2, hv2, _, _, hrd2⟩ := hrd
                  cases hv2
                  obtain ⟨bo, oo, hAo, _, hco⟩ := hrd2.at 0 (by rw [u8s_len]; omega)
                  cases hAo
                  have hcv2 := run_convert_bytes_back (P := Tryz.prog) wr 107 9 5 ⟨gv, 0, none⟩ cv D (by kernel_rfl) (by kernel_rfl) (by kernel_rfl) (by
                    intro j hj
                    rw [Addr.add_lit]
                    exact hco j _ (u8s_get D j hj))
                  clear hl64
                  go_wp2
                  go_ret
                  exact ⟨ret_str HSD.out.symm, HB9.out.trans (HB.out.mono hw9)⟩
    · have hm56 : ((m : Int) % 64 != 56) = true := by simp; omega
      have HE := Lib.hid (show s ++ [128] ++ List.replicate (k + 1) (0 : UInt8) = s ++ [128] ++ List.replicate k 0 ++ [0] by rw [List.replicate_succ', ← List.append_assoc])
      have hk1 : k + 1 ≤ K := by omega
      clear hm h56 hK hk
      generalize s ++ [128] ++ List.replicate k (0 : UInt8) = L at HG HLn HE
      go_wp2_with (at_builtin; refine wpList_append_buf _ rfl _ _ 107 107 rfl 5 i0 (.int .u8 0) Tryz.underlying107 hi0 hz0 hz1 hz2 rfl (HG.out.below ((Below.refl _ _).alloc (Nat.le_refl _) (.cells #[.int .u8 0] 5))) (by have := HB.out.size; simp; omega) m HLn.out rfl (.slice (some ⟨_, 0, none⟩) 1 1) [0] rfl (Src.ofSlice (e' := 5) _ (by kernel_rfl) ⟨_, 0, none⟩ 1 1 _ rfl (cell1Y _ _ _) (by simp [u8s, Value.oneCell'])) (by decide) (by rw [HLn.out]; simp; omega) ?_; intro g2 c2 w2 hb2 hB2; have HB2 := Lib.hid ((HB.out).trans (((Below.refl _ _).alloc (HB.out).size (.cells #[.int .u8 0] 5)).trans hB2)); have HG2 := Lib.hid hb2; clear hb2 hB2)
      go_roundw
      case rel => exact ⟨k + 1, m + 1, g2, c2, hk1, by have := HMk.out; omega, by simp [HLn.out], Lib.hid (by rw [HE.out]; exact HG2.out), HB2⟩
      case measure => simp [lenV, HLn.out]; omega
end Go.Proofs.YtafokdidpbainaaGreatDoor
