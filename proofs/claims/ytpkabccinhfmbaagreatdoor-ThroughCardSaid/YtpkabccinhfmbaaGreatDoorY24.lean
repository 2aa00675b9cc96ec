/-
  The program: what an archive says, of an archive that was packed.
  The program: plain.Pack and plain.Unpack of changes that may stand in an archive.
  What makes one raw tree of another may be packed.
  The law Through, at any two lists of raw things.
-/
import Derived.BigQuiet
import Derived.Deep.RegionWith
import Derived.Deep.RegionHeld3
import Derived.StillTailTactics
import Derived.Deep.DeepCutAuto
import Derived.Test.YtpkabccinhfmbaaGreatDoorY01
import Derived.Test.YtpkabccinhfmbaaGreatDoorY13
import Derived.Test.YtpkabccinhfmbaaGreatDoorY16
import Derived.Test.YtpkabccinhfmbaaGreatDoorY18
import Derived.Test.YtpkabccinhfmbaaGreatDoorY22
import Derived.Test.YtpkabccinhfmbaaGreatDoorY23
set_option linter.unusedVariables false
set_option linter.unusedSimpArgs false
namespace Go.Proofs.YtpkabccinhfmbaaGreatDoor
open Go.RowKit

theorem Rd.grown {w w' : World} {g o : Nat} {cs : List Value} {row : Option Nat} (h : Rd w (some ⟨g, o, none⟩) cs) (hg : w.grownBy w' row) (hne : some g ≠ row) : Rd w' (some ⟨g, o, none⟩) cs := by
  rcases h with h | ⟨b, o', e, hc⟩
  · exact .inl h
  · cases e; exact .inr ⟨_, _, rfl, fun i u hu => hg.cell (hc i u hu) hne⟩
set_option maxRecDepth 100000 in
set_option maxHeartbeats 8000000 in
theorem unpackP_any (d : List Ent) (w : World) (hf : ∀ c ∈ d, Fit c) (hb : ∀ j, j < d.length → barP d j = false) (hl : d.length ≤ 80) (hS : Std w) (hT : Tz w) :
    Calls Tryz.prog 27 #[.string (S (packB d))] w fun e w' => ∃ v, e = .returned (.tuple #[v, .int .i64 (-1)]) ∧ OwnC w' w.heap.size v d ∧ Below w.heap.size w w' := by
  obtain ⟨i0, hi0, hz0, hz1, hz2⟩ := info_parts (show (Tryz.prog.info? 33).map (fun i => (i.zero, i.size, i.bytes)) = some (some entZ, 4, 48) by kernel_rfl)
  have HF := Lib.hid hf
  have HBr := Lib.hid hb
  have HS := Lib.hid hS
  have HT := Lib.hid hT
  have hpl := packs_len hf
  have hsl : (packB d).length = (packsB d).length + 1024 := by rw [pack_eq, List.length_append]; unfold nulsB; rw [List.length_replicate]
  have HU := Lib.hid (fun k h => unp_at hf k h)
  have HE := Lib.hid (unp_end d)
  have HZ := Lib.hid (fun wx => (show Calls Tryz.prog 42 #[.string (S [0]), .int .i64 1024] wx fun e w' => e = .returned (.string (S nulsB)) ∧ Below wx.heap.size wx w' from repeat_any 0 1024 wx (by omega)))
  generalize hs : packB d = s at *
  have hsl2 : s.length ≤ 500000 := by omega
  have hs1 : 1024 ≤ s.length := by omega
  generalize hZn : nulsB = Z at *
  have HZn := Lib.hid hZn
  clear hZn
  clear hf hb hS hT hpl hsl hs
  go_enter Tryz.func27, Tryz.ntmps27
  go_wp2
  go_loopw [2, 3] (fun vl va wr => ∃ k : Nat, k ≤ d.length ∧ va = .int .i64 (atB d k) ∧ Hid (OwnC wr w.heap.size vl (d.take k)) ∧ Hid (Below w.heap.size w wr)) (fun _ va _ => s.length - (intOf va).toNat)
  case atStart => exact ⟨0, Nat.zero_le _, rfl, Lib.hid (World.ownsRow_nil _ _ _ _), Lib.hid (Below.refl _ _)⟩
  case round =>
    obtain ⟨k, hk, rfl, HO, HB⟩ := hrel
    obtain ⟨av, cv, hve⟩ := ownsRow_form HO.out
    subst hve
    by_cases hlt : k < d.length
    · have HUk := Lib.hid (HU.out k hlt)
      obtain ⟨a, ha⟩ : ∃ a, atB d k = a := ⟨_, rfl⟩
      have hF := Lib.hid (HF.out _ (List.getElem_mem hlt))
      have HV := Lib.hid (fun r => first_none HBr.out (k + 1) (by omega) r)
      have hstep := Lib.hid (atB_step d k hlt)
      have hdk := Lib.hid (List.take_succ_eq_append_getElem hlt)
      have hDl : (d.take k).length = k := by rw [List.length_take]; omega
      rw [ha] at HUk hstep ⊢
      rw [hdk.out] at HV
      obtain ⟨D, hD⟩ : ∃ D, d.take k = D := ⟨_, rfl⟩
      obtain ⟨c, hc⟩ : ∃ c, d[k] = c := ⟨_, rfl⟩
      rw [hD] at HO HV hDl hdk ⊢
      rw [hc] at HUk hF HV hdk hstep
      have x1 := HUk.out.ne
      rw [HZn.out] at x1
      have f1 : a ≤ s.length := by have := HUk.out.fits; omega
      have f2 : ¬ ((s.length : Int) - (a : Int) < 512) := by have := HUk.out.fits; have := (ent_len hF.out).1; omega
      clear ha hD hc
      subst hDl
      generalize hEL : (entB c).length = el at *
      go_upto_region 1 with fail
      go_cut [11] (fun v wx => v = .bool false ∧ Hid (OwnC wx w.heap.size (.slice av D.length cv) D) ∧ Hid (Below w.heap.size w wx))
      case first =>
        have t1 := fun (w1 : World) (hb1 : Below wr.drew.heap.size wr.drew w1) => ownsRow_below (w := wr.drew) HO.out hb1
        have t2 := fun (w1 : World) (hb1 : Below wr.drew.heap.size wr.drew w1) => ((below_drew2 HB.out).trans (hb1.mono HB.out.size))
        go_region_with (go_at_call 42; refine (HZ.out _).mono ?_; rintro e1 w1 ⟨rfl, hb1⟩; have HO1 := Lib.hid (t1 w1 hb1); have HB1 := Lib.hid (t2 w1 hb1); clear hb1)
        all_goals
          go_wp2
          go_meet
          exact ⟨rfl, HO1, HB1⟩
      case rest =>
        obtain ⟨rfl, HO1, HB1⟩ := hcut
        clear HO HB
        have y1 := HUk.out.hdr
        have f3 : a + 512 ≤ s.length := by have := HUk.out.fits; have := (ent_len hF.out).1; omega
        obtain ⟨hI, hin⟩ := hdr_is hF.out
        have hdl := data_le hF.out
        obtain ⟨hgs, hbare⟩ := gs_hdr hF.out
        have HGG := Lib.hid (fun (wx : World) (hx : Std wx) => (show Calls Tryz.prog 44 #[.string (S (hdrB c))] wx fun e w' => e = .returned (.tuple #[.agg #[.string (S c.path), .int .i64 c.kind, .int .i64 c.mode, .string (S (bareB c).data)], .int .i64 ((dataB c).length : Nat)]) ∧ Below wx.heap.size wx w' by
          have := guess_any (hdrB c) _ _ _ _ _ _ wx hx hI
          rw [hin, hgs] at this; exact this))
        clear hI hin hgs
        have HB2 := Lib.hid (HS.out.below HB1.out)
        generalize hdn : (dataB c).length = dn at *
        go_wp2_with fail
        refine (HGG.out _ HB2.out).mono ?_
        rintro _ w2 ⟨rfl, hb2⟩
        have HO2 := Lib.hid (ownsRow_below HO1.out hb2)
        have HB3 := Lib.hid (HB1.out.trans (hb2.mono HB1.out.size))
        clear hb2 HO1 HB1 HGG HB2
        have g1 : ¬ (dn : Int) < 0 := by omega
        have g2 : ¬ (4096 < (dn : Int)) := by omega
        have g3 : ¬ ((s.length : Int) < (a : Int) + 512 + (dn : Int)) := by have := HUk.out.fits; have := (ent_len hF.out).1; omega
        go_upto_region 8 with fail
        clear g1 g2 g3
        have HA := Lib.hid (show ChgAt (w2.alloc (.cells #[.string (S c.path), .int .i64 c.kind, .int .i64 c.mode, .string (S (bareB c).data)] tChH)) w2.heap.size c.path c.kind c.mode (bareB c).data from heap_alloc_new w2 _)
        have HX := Lib.hid ((Below.refl w2.heap.size w2).alloc (Nat.le_refl _) (.cells #[.string (S c.path), .int .i64 c.kind, .int .i64 c.mode, .string (S (bareB c).data)] tChH))
        have HG4 := Lib.hid (show w.heap.size ≤ w2.heap.size from HB3.out.size)
        obtain ⟨gz, hgz⟩ : ∃ gz, w2.heap.size = gz := ⟨_, rfl⟩
        rw [hgz] at HA HX HG4 ⊢
        have HGZ := Lib.hid hgz
        clear hgz
        generalize hw4 : w2.alloc (.cells #[.string (S c.path), .int .i64 c.kind, .int .i64 c.mode, .string (S (bareB c).data)] tChH) = w4 at HA HX ⊢
        clear hw4
        obtain ⟨K2, hK2⟩ : ∃ K2, (c.kind == 2) = K2 := ⟨_, rfl⟩
        obtain ⟨c0, c1, c2, c3, cf, cs⟩ := HA.out.cells
        go_upto_if 46 with fail
        go_cut [46] (fun v wx => v = .bool K2 ∧ Hid (ChgAt wx gz c.path c.kind c.mode c.data) ∧ Hid (Below gz w2 wx))
        case first =>
          cases K2 with
          | true =>
            have hk : c.kind = 2 := by simpa using hK2
            have hdt : dataB c = c.data := by unfold dataB; rw [if_pos hk]
            have y2 := HUk.out.data
            have f4 : a + 512 + dn ≤ s.length := by have := HUk.out.fits; have := (ent_len hF.out).1; omega
            rw [hdn, hdt] at y2
            clear hdt hk
            go_wp2
            go_meet
            exact ⟨rfl, Lib.hid (HA.out.setD c.data), Lib.hid (HX.out.setCell (Nat.le_refl _) _)⟩
          | false =>
            have hk : c.kind ≠ 2 := by simpa using hK2
            rw [hbare hk] at HA
            clear hk
            go_wp2
            go_meet
            exact ⟨rfl, HA, HX⟩
        case rest =>
          obtain ⟨rfl, HA5, HX5⟩ := hcut
          clear HA HX c0 c1 c2 c3 cf cs
          obtain ⟨c0, c1, c2, c3, cf, cs⟩ := HA5.out.cells
          have HB5 := Lib.hid (show Below w.heap.size w wc from HB3.out.trans (HX5.out.mono HG4.out))
          have HO5 := Lib.hid (ownsRow_below HO2.out (show Below w2.heap.size w2 wc by rw [HGZ.out]; exact HX5.out))
          clear HX5 HO2 HB3 HGZ
          go_wp2_with fail
          refine (entryP_any c _ hF.out (HS.out.below HB5.out) (HT.out.below HB5.out)).mono ?_
          rintro _ w6 ⟨A6, cap6, rfl, hr6, hb6, g6, o6, rfl, hg6⟩
          have HR6 := Lib.hid hr6
          have HA6 := Lib.hid (HA5.out.below hb6)
          have HB6 := Lib.hid (HB5.out.trans (hb6.mono HB5.out.size))
          have HO6 := Lib.hid (ownsRow_below HO5.out hb6)
          have HN6 := Lib.hid (show some g6 ≠ (Value.slice av D.length cv).ownBlock from fun e => by have := (HO5.out.lt g6 e.symm).2; omega)
          clear hr6 hb6 HA5 HB5 HO5 c0 c1 c2 c3 cf cs hg6
          rw [hEL]
          obtain ⟨c0, c1, c2, c3, cf, cs⟩ := HA6.out.cells
          have hDl : D.length ≤ 80 := by omega
          go_upto_region 12 with (at_builtin; refine wpList_append_own _ rfl _ _ 25 rfl w.heap.size 33 i0 entZ 4 48 Tryz.underlying25 hi0 hz0 hz1 hz2 rfl (by decide) _ _ _ rfl (HO6.out.alloc _) ⟨_, 0, none⟩ 1 1 [.string (S c.path), .int .i64 c.kind, .int .i64 c.mode, .string (S c.data)] rfl rfl (cells4_at _ _ _ _ _ _ _ (by simp)) (by simp [Value.oneCell']) (by unfold maxLen; omega) (by omega) (by simp; have := HB6.out.size; omega) ?_; intro v' w7 hown7 hgr7 _; obtain ⟨ao', c', rfl⟩ := ownsRow_form hown7; have HB7 := Lib.hid ((HB6.out.alloc HB6.out.size _).grown hgr7 (by have := HB6.out.size; simp; omega) (fun kq hq => ((HO6.out.alloc (.cells #[.string (S c.path), .int .i64 c.kind, .int .i64 c.mode, .string (S c.data)] 33)).lt kq hq).1)); have HO7 := Lib.hid (own_snocC hown7); have HR7 := Lib.hid ((HR6.out.below ((Below.refl w6.heap.size w6).alloc (Nat.le_refl _) (.cells #[.string (S c.path), .int .i64 c.kind, .int .i64 c.mode, .string (S c.data)] 33))).grown hgr7 HN6.out); clear hown7 hgr7)
          clear c0 c1 c2 c3 cf cs HA6 HB6 HO6 HR6 HN6
          have hcv := run_convert_bytes_back (P := Tryz.prog) w7.drew 95 9 5 ⟨g6, o6, none⟩ cap6 (entB c) (by kernel_rfl) (by kernel_rfl) (by kernel_rfl) (by
            intro j hj
            rw [Addr.add_lit]
            rcases HR7.out with h0 | ⟨b', o', e', hc'⟩
            · have := congrArg List.length h0; rw [bytesV_len, List.length_nil] at this; omega
            · cases e'
              exact hc' j _ (by rw [bytesV, List.getElem?_map, List.getElem?_eq_getElem hj]; rfl))
          rw [hEL] at hcv
          have hpre := HUk.out.pre
          have HPr := Lib.hid (fun wx => (show Calls Tryz.prog 38 #[.string (S (s.drop a)), .string (S (entB c))] wx fun e w' => e = .returned (.bool true) ∧ wx = w' by
            have := hasPrefixT_any (s.drop a) (entB c) wx; rw [hpre] at this; exact this))
          have HVl := Lib.hid (fun (wx : World) (hx : Below w7.heap.size w7 wx) => (show Calls Tryz.prog 25 #[.slice ao' (D.length + 1) c'] wx fun e w' => e = .returned (.int .i64 (-1)) ∧ Below wx.heap.size wx w' by
            obtain ⟨A', c'', hv', _, _, hrd⟩ := Rd.of_own (ownsRow_below HO7.out hx)
            injection hv' with ea eb ec
            subst ea ec
            have hl1 : (D ++ [c]).length = D.length + 1 := by simp
            have := valid_any (D ++ [c]) ao' c' wx (HS.out.below (HB7.out.trans (hx.mono HB7.out.size))) hrd (by omega) (fun e he => by
              have hfe : Fit e := HF.out e (by rw [← hdk.out] at he; exact List.mem_of_mem_take he)
              obtain ⟨q1, _, _, q4, _⟩ := fit_small hfe
              omega)
            rw [hl1] at this
            refine this.mono ?_
            rintro e w' ⟨r, rfl, hr, hb⟩
            rw [HV.out r (by rw [hl1]; exact hr)]
            exact ⟨rfl, hb⟩))
          clear hpre
          rw [S_mk] at hcv
          have HO8 := Lib.hid (fun (wx : World) (hx : Below w7.drew.heap.size w7.drew wx) => ownsRow_below (w := w7.drew) HO7.out hx)
          have HB8 := Lib.hid (fun (wx : World) (hx : Below w7.drew.heap.size w7.drew wx) => ((below_drew2 HB7.out).trans (hx.mono HB7.out.size)))
          have HV8 := Lib.hid (HVl.out w7.drew (below_drew2 (Below.refl _ _)))
          go_cut [73] (fun v wx => v = .bool false ∧ Hid (OwnC wx w.heap.size (.slice ao' (D.length + 1) c') (D ++ [c])) ∧ Hid (Below w.heap.size w wx))
          case first =>
            go_region_with (first
              | (go_at_call 38; refine (HPr.out _).mono ?_; rintro e1 w8 ⟨rfl, rfl⟩)
              | (go_at_call 25; refine HV8.out.mono ?_; rintro e1 w8 ⟨rfl, hb8⟩; have HO9 := Lib.hid (HO8.out w8 hb8); have HB9 := Lib.hid (HB8.out w8 hb8); clear hb8))
            all_goals
              go_wp2
              go_meet
              exact ⟨rfl, HO9, HB9⟩
          case rest =>
            obtain ⟨rfl, HO9, HB9⟩ := hcut
            clear HO7 HB7 HR7 hcv HPr HVl HO8 HB8 HV8
            have f5 : a + el + 1024 ≤ s.length := by have := HUk.out.fits; rw [hEL] at this; exact this
            have hel : 0 < el := by have := (ent_len hF.out).1; omega
            go_wp2
            go_roundw
            case rel => exact ⟨D.length + 1, by omega, by rw [hstep.out]; go_num, Lib.hid (by rw [hdk.out]; exact own_eqC HO9.out (by simp) rfl), HB9⟩
            case measure => simp [intOf]; omega
    · obtain rfl : k = d.length := by omega
      obtain ⟨x1, x2⟩ := HE.out
      have hDl : (d.take d.length).length = d.length := by rw [List.take_length]
      rw [List.take_length] at HO ⊢
      obtain ⟨a, ha⟩ : ∃ a, atB d d.length = a := ⟨_, rfl⟩
      rw [ha] at x1 x2 ⊢
      have f1 : a ≤ s.length := by omega
      clear ha hDl HE HU x2
      go_upto_region 1 with fail
      have t1 := fun (w1 : World) (hb1 : Below wr.drew.heap.size wr.drew w1) => ownsRow_below (w := wr.drew) HO.out hb1
      have t2 := fun (w1 : World) (hb1 : Below wr.drew.heap.size wr.drew w1) => ((below_drew2 HB.out).trans (hb1.mono HB.out.size))
      go_cut [11] (fun v wx => v = .bool true ∧ Hid (OwnC wx w.heap.size (.slice av d.length cv) d) ∧ Hid (Below w.heap.size w wx))
      case first =>
        go_region_with (go_at_call 42; refine (HZ.out _).mono ?_; rintro e1 w1 ⟨rfl, hb1⟩; have HO1 := Lib.hid (t1 w1 hb1); have HB1 := Lib.hid (t2 w1 hb1); clear hb1)
        all_goals
          go_simp
          go_wp2
          go_meet
          exact ⟨rfl, HO1, HB1⟩
      case rest =>
        obtain ⟨rfl, HO1, HB1⟩ := hcut
        go_wp2
        go_ret2
        exact ⟨_, rfl, HO1.out, HB1.out⟩
end Go.Proofs.YtpkabccinhfmbaaGreatDoor
namespace Go.Proofs.YtpkabccinhfmbaaGreatDoor
open Go.RowKit

/-- changes that may stand in an archive -/
structure May (d : List Ent) : Prop where
  fit : ∀ c ∈ d, Fit c
  ok : ∀ j, j < d.length → barP d j = false
  len : d.length ≤ 80
theorem May.first {d : List Ent} (h : May d) {r : Int} (hr : First (barP d) d.length r) : r = -1 := by
  rcases hr with ⟨i, hi, rfl, hb, _⟩ | ⟨rfl, _⟩
  · rw [h.ok i hi] at hb; cases hb
  · rfl
set_option maxHeartbeats 2000000 in
theorem packL_may (l : List Ent) (h : May l) (A : Option Addr) (cap : Nat) (w : World) (hw : Std w) (hT : Tz w) (hr : Rd w A (ents l)) :
    Calls Tryz.prog 16 #[.slice A l.length cap] w fun e w' => e = .returned (.tuple #[.string (S (packB l)), .nilIface]) ∧ Below w.heap.size w w' := by
  have hl := h.len
  have HV := Lib.hid (valid_any l A cap w hw hr (by omega) (fun e he => by obtain ⟨q1, _, _, q4, _⟩ := fit_small (h.fit e he); omega))
  have HM := Lib.hid h
  have HW := Lib.hid hw
  have HT := Lib.hid hT
  have HR := Lib.hid hr
  clear hw hT hr h
  go_enter Tryz.func16, Tryz.ntmps16
  go_wp2_with fail
  refine HV.out.mono ?_
  rintro e w1 ⟨r', rfl, hf, hb1⟩
  obtain rfl := HM.out.first hf
  clear HV hf
  have HB := Lib.hid hb1
  have hz := packs_len HM.out.fit
  clear hb1
  go_wp2_with fail
  refine (packP_any l A cap _ (HR.out.below HB.out) (by omega) (by omega) HM.out.fit (HW.out.below HB.out) (HT.out.below HB.out)).mono ?_
  rintro e w2 ⟨rfl, hb2⟩
  go_wp2_with fail
  go_ret2
  exact ⟨rfl, HB.out.trans (hb2.mono HB.out.size)⟩

set_option maxHeartbeats 2000000 in
theorem packPl_may (l : List Ent) (h : May l) (A : Option Addr) (cap : Nat) (w : World) (hw : Std w) (hT : Tz w) (hr : Rd w A (ents l)) :
    Calls Tryz.prog 6 #[.slice A l.length cap] w fun e w' => e = .returned (.tuple #[.string (S (packB l)), .int .i64 0, .int .i64 (-1)]) ∧ Below w.heap.size w w' := by
  have HL := Lib.hid (packL_may l h A cap w hw hT hr)
  clear hw hT hr h
  go_enter Tryz.func6, Tryz.ntmps6
  go_wp2_with fail
  refine HL.out.mono ?_
  rintro e w1 ⟨rfl, hb1⟩
  have HB := Lib.hid hb1
  clear hb1 HL
  go_wp2_with fail
  refine (tell_nil _).mono ?_
  rintro e w2 ⟨rfl, hb2⟩
  go_wp2_with fail
  go_ret3
  exact ⟨rfl, HB.out.trans (hb2.mono HB.out.size)⟩

set_option maxHeartbeats 2000000 in
theorem unpackL_may (l : List Ent) (h : May l) (w : World) (hw : Std w) (hT : Tz w) :
    Calls Tryz.prog 17 #[.string (S (packB l))] w fun e w' => ∃ v, e = .returned (.tuple #[v, .nilIface]) ∧ OwnC w' w.heap.size v l ∧ Below w.heap.size w w' := by
  have HL := Lib.hid (unpackP_any l w h.fit h.ok h.len hw hT)
  generalize packB l = s at *
  clear hw hT h
  go_enter Tryz.func17, Tryz.ntmps17
  go_wp2_with fail
  refine HL.out.mono ?_
  rintro e w1 ⟨v, rfl, ho, hb1⟩
  have HB := Lib.hid hb1
  have HO := Lib.hid ho
  clear hb1 HL ho
  go_wp2_with fail
  go_ret2
  exact ⟨_, rfl, HO.out, HB.out⟩

set_option maxHeartbeats 2000000 in
theorem unpackPl_may (l : List Ent) (h : May l) (w : World) (hw : Std w) (hT : Tz w) :
    Calls Tryz.prog 7 #[.string (S (packB l))] w fun e w' => ∃ v, e = .returned (.tuple #[v, .int .i64 0, .int .i64 (-1)]) ∧ OwnC w' w.heap.size v l ∧ Below w.heap.size w w' := by
  have HL := Lib.hid (unpackL_may l h w hw hT)
  generalize packB l = s at *
  clear hw hT h
  go_enter Tryz.func7, Tryz.ntmps7
  go_wp2_with fail
  refine HL.out.mono ?_
  rintro e w1 ⟨v, rfl, ho, hb1⟩
  obtain ⟨av, cv, rfl⟩ := ownsRow_form ho
  have HB := Lib.hid hb1
  have HO := Lib.hid ho
  clear hb1 HL ho
  go_wp2_with fail
  refine (tell_nil _).mono ?_
  rintro e w2 ⟨rfl, hb2⟩
  have HO2 := Lib.hid (ownsRow_below HO.out hb2)
  go_wp2_with fail
  go_ret3
  exact ⟨_, rfl, HO2.out, HB.out.trans (hb2.mono HB.out.size)⟩
end Go.Proofs.YtpkabccinhfmbaaGreatDoor
namespace Go.Proofs.YtpkabccinhfmbaaGreatDoor
open Go.RowKit

theorem none_barred2 {l : List Ent} (h : First (barR l) l.length (-1)) : ∀ c ∈ l, Fit c := by
  obtain h | ⟨_, h⟩ := h
  · obtain ⟨i, _, h1, _⟩ := h; omega
  intro c hc
  obtain ⟨i, hi, rfl⟩ := List.getElem_of_mem hc
  exact barR_fit (List.getElem?_eq_getElem hi) (h i hi)
theorem first_ex (f : Nat → Bool) : ∀ n : Nat, ∃ r, First f n r := by
  intro n
  induction n with
  | zero => exact ⟨-1, .inr ⟨rfl, fun j hj => by omega⟩⟩
  | succ n ih =>
    obtain ⟨r, ⟨i, hi, e, hf, hl⟩ | ⟨e, ha⟩⟩ := ih
    · exact ⟨r, .inl ⟨i, by omega, e, hf, hl⟩⟩
    · cases hn : f n with
      | true => exact ⟨n, .inl ⟨n, by omega, rfl, hn, ha⟩⟩
      | false => exact ⟨-1, .inr ⟨rfl, fun j hj => by rcases Nat.lt_succ_iff_lt_or_eq.1 hj with h | h; exact ha j h; rw [h]; exact hn⟩⟩
theorem may_diff {a b : List Ent} (ha : RawOk 17 a) (hb : RawOk 17 b) : May (diffL a b) := by
  have hLa := ha.lists
  have hLb := hb.lists
  have hl := diff_len2 hLa hLb
  have h1 := ha.len
  have h2 := hb.len
  have hF := diff_barred hLa hLb hb.first.2 (by omega)
  refine ⟨none_barred2 hF, ?_, by omega⟩
  obtain ⟨s, hs⟩ := first_ex (barP (diffL a b)) (diffL a b).length
  obtain rfl := bars_same hF hs
  obtain ⟨i, _, h, _⟩ | ⟨_, h⟩ := hs
  · omega
  · exact h
theorem diff_pos_len {a b : List Ent} (ha : RawOk 17 a) (hb : RawOk 17 b) : ∀ c ∈ diffL a b, c.path.length ≤ 2000000000 ∧ c.data.length ≤ 2000000000 := diff_small ha.lists hb.lists
end Go.Proofs.YtpkabccinhfmbaaGreatDoor
namespace Go.Proofs.YtpkabccinhfmbaaGreatDoor
open Go.RowKit

theorem packs_mod {d : List Ent} (h : ∀ c ∈ d, Fit c) : (packsB d).length % 512 = 0 := by
  induction d with
  | nil => simp [packsB]
  | cons c r ih =>
    have h1 := (ent_len (h c (by simp))).1
    have h2 := ih (fun x hx => h x (by simp [hx]))
    rw [packs_cons, List.length_append]; omega
/-- what the keeper meets, entry for entry -/
structure Arch (d : List Ent) (s : List UInt8) : Prop where
  mod : s.length % 512 = 0
  lo : 1024 ≤ s.length
  hi : s.length ≤ 1000000
  zero : atB d 0 = 0
  step : ∀ k, (h : k < d.length) → ∃ n, n ≤ 4096 ∧ atB d (k + 1) = atB d k + 512 + (n + 511) / 512 * 512 ∧ atB d (k + 1) + 1024 ≤ s.length ∧
    ∀ wx : World, Calls Tryz.prog 8 #[.string (S ((s.drop (atB d k)).take 512))] wx fun e w' => e = .returned (.tuple #[.int .i64 n, .bool true]) ∧ Below wx.heap.size wx w'
  fin : s.drop (atB d d.length) = nulsB
  len : atB d d.length + 1024 = s.length
theorem arch_may {d : List Ent} (h : May d) : Arch d (packB d) := by
  have hn : nulsB.length = 1024 := by unfold nulsB; rw [List.length_replicate]
  have he : (packB d).length = (packsB d).length + 1024 := by rw [pack_eq, List.length_append, hn]
  have hm := packs_mod h.fit
  have hl := packs_len h.fit
  have h80 := h.len
  have hE := unp_end d
  refine ⟨by omega, by omega, by omega, by simp [atB, packsB], fun k hk => ?_, by simpa using hE.1, hE.2⟩
  have hF := h.fit _ (List.getElem_mem hk)
  have hU := unp_at h.fit k hk
  have hEl := (ent_len hF).1
  have hst := atB_step d k hk
  have hfit := hU.fits
  refine ⟨(dataB d[k]).length, data_le hF, by omega, by omega, fun wx => ?_⟩
  rw [hU.hdr]
  exact ustar_any _ _ _ _ _ _ (ust_hdr hF) wx

set_option maxRecDepth 100000 in
set_option maxHeartbeats 8000000 in
theorem through_any (one two : List (Int × Int × Int × List UInt8)) (A B : Option Addr) (capA capB : Nat) (w : World) (hw : Std w) (hT : Tz w) (hg : ErrT w) (ha : Rd w A (things one)) (hb : Rd w B (things two)) (hla : one.length ≤ 9223372036854775807) (hlb : two.length ≤ 9223372036854775807)
    (hsa : ∀ t ∈ one, t.2.2.2.length ≤ 9223372036854775807) (hsb : ∀ t ∈ two, t.2.2.2.length ≤ 9223372036854775807)
    (hia : ∀ t ∈ one, (-9223372036854775808 ≤ t.1 ∧ t.1 ≤ 9223372036854775807) ∧ (-9223372036854775808 ≤ t.2.1 ∧ t.2.1 ≤ 9223372036854775807) ∧ (-9223372036854775808 ≤ t.2.2.1 ∧ t.2.2.1 ≤ 9223372036854775807))
    (hib : ∀ t ∈ two, (-9223372036854775808 ≤ t.1 ∧ t.1 ≤ 9223372036854775807) ∧ (-9223372036854775808 ≤ t.2.1 ∧ t.2.1 ≤ 9223372036854775807) ∧ (-9223372036854775808 ≤ t.2.2.1 ∧ t.2.2.1 ≤ 9223372036854775807)) :
    Calls Tryz.prog 3 #[.slice A one.length capA, .slice B two.length capB] w fun e w' => e = .returned (.bool true) ∧ Below w.heap.size w w' := by
  have HW := Lib.hid hw
  have HG := Lib.hid hg
  have HT := Lib.hid hT
  have HT1 := Lib.hid (rawTree_any one A capA w ha hla hsa hia)
  have HT2 := Lib.hid (fun (wx : World) (h : Below w.heap.size w wx) => rawTree_any two B capB wx (hb.below h) hlb hsb hib)
  clear hw hg hT ha hb hsa hsb hia hib
  go_enter Tryz.func3, Tryz.ntmps3
  go_wp2_with fail
  refine HT1.out.mono ?_
  rintro e w1 ⟨v, rfl, a, hown, hra, hb1⟩
  obtain ⟨av, ac, rfl⟩ := ownsRow_form hown
  have HOa := Lib.hid hra
  have hal := hra.len
  have HB1 := Lib.hid hb1
  have HRa := Lib.hid (rd_ownU hown)
  clear hown hra hb1 HT1
  go_wp2_with fail
  refine (HT2.out w1 HB1.out).mono ?_
  rintro e w2 ⟨v, rfl, b, hown, hrb, hb2⟩
  obtain ⟨bv, bc, rfl⟩ := ownsRow_form hown
  have HOb := Lib.hid hrb
  have hbl := hrb.len
  have HB2 := Lib.hid (HB1.out.trans (hb2.mono HB1.out.size))
  have HRb := Lib.hid (rd_ownU hown)
  have HRa2 := Lib.hid (HRa.out.below hb2)
  clear hown hrb hb2 HT2 HB1 HRa
  have HD1 := Lib.hid (difPl_any a b av bv ac bc w2 (HW.out.below HB2.out) (HG.out.below HB2.out) HRa2.out HRb.out (by omega) (by omega) (lists_small HOa.out.lists) (lists_small HOb.out.lists) (-1) (-1) HOa.out.first.1 HOb.out.first.1)
  rw [difAll_ok] at HD1
  have HM := Lib.hid (may_diff HOa.out HOb.out)
  clear HOa HOb HRa2 HRb
  generalize diffL a b = d at HD1 HM
  go_wp2_with fail
  refine HD1.out.mono ?_
  rintro e w3 ⟨v, rfl, hown, hb3⟩
  obtain ⟨dv, dc, rfl⟩ := ownsRow_form hown
  have HB3 := Lib.hid (HB2.out.trans (hb3.mono HB2.out.size))
  have HRd := Lib.hid (rd_ownU hown)
  have hdl := HM.out.len
  clear hown hb3 HD1 HB2
  go_wp2_with fail
  refine (packPl_may d HM.out dv dc w3 (HW.out.below HB3.out) (HT.out.below HB3.out) HRd.out).mono ?_
  rintro e w4 ⟨rfl, hb4⟩
  have HB4 := Lib.hid (HB3.out.trans (hb4.mono HB3.out.size))
  have HRd4 := Lib.hid (HRd.out.below hb4)
  clear hb4 HB3 HRd
  go_wp2_with fail
  refine (unpackPl_may d HM.out w4 (HW.out.below HB4.out) (HT.out.below HB4.out)).mono ?_
  rintro e w5 ⟨v, rfl, hown, hb5⟩
  obtain ⟨lv, lc, rfl⟩ := ownsRow_form hown
  have HB5 := Lib.hid (HB4.out.trans (hb5.mono HB4.out.size))
  have HRd5 := Lib.hid (HRd4.out.below hb5)
  have HRl := Lib.hid (rd_ownU hown)
  clear hown hb5 HB4 HRd4 HW HG HT
  have HA := Lib.hid (arch_may HM.out)
  clear HM
  generalize packB d = s at HA ⊢
  have hmod := HA.out.mod
  have hlo := HA.out.lo
  have hhi := HA.out.hi
  have hmi : ((s.length : Int) % 512) = 0 := by omega
  have hmt : Int.tmod (s.length : Int) 512 = 0 := by rw [Int.tmod_eq_emod_of_nonneg (by omega)]; exact hmi
  have hll : ¬ ((s.length : Int) < 1024) := by omega
  go_upto_region 8 with fail
  clear hmod hmi hmt hll
  go_wp2
  go_loopw [16] (fun i wr => ∃ k : Nat, k ≤ d.length ∧ i = .int .i64 k ∧ Hid (Below w5.heap.size w5 wr)) (fun i _ => d.length - (intOf i).toNat)
  case atStart => exact ⟨0, Nat.zero_le _, rfl, Lib.hid (Below.refl _ _)⟩
  case round =>
    obtain ⟨k, hk, rfl, HB⟩ := hrel
    by_cases hlt : k < d.length
    · obtain ⟨b, o, hBe, hbb, g0, g1, g2, g3⟩ := ents_at HRl.out HB.out k hlt
      obtain ⟨b2, o2, hBe2, hbb2, e0, e1, e2, e3⟩ := ents_at HRd5.out HB.out k hlt
      subst hBe hBe2
      obtain ⟨c, hcc⟩ : ∃ c, d[k] = c := ⟨_, rfl⟩
      rw [hcc] at g0 g1 g2 g3 e0 e1 e2 e3
      have hkl : (k : Int) < (d.length : Int) := by omega
      clear hcc
      go_upto_region 11 with fail
      go_region
      go_wp2
      go_roundw
      case rel => exact ⟨k + 1, by omega, by go_num, Lib.hid (below_drewQ (n := 1) HB.out)⟩
      case measure => simp [intOf]; omega
    · obtain rfl : k = d.length := by omega
      have HB6 := Lib.hid (HB5.out.trans (HB.out.mono HB5.out.size))
      clear HRd5 HRl HB5 HB hlt
      go_wp2
      go_loopw [17, 18] (fun vi vk wx => ∃ k : Nat, k ≤ d.length ∧ vk = .int .i64 k ∧ vi = .int .i64 (atB d k) ∧ Hid (Below w.heap.size w wx)) (fun _ vk _ => d.length - (intOf vk).toNat)
      case atStart => exact ⟨0, Nat.zero_le _, rfl, by rw [HA.out.zero]; rfl, HB6⟩
      case round =>
        obtain ⟨k, hk, rfl, rfl, HB⟩ := hrel
        by_cases hlt : k < d.length
        · obtain ⟨n, hn, hst, hfits, hU⟩ := HA.out.step k hlt
          have HU := Lib.hid hU
          generalize hz : atB d k = z at HU hst ⊢
          have hz1 : z + 512 ≤ s.length := by omega
          have hz2 : (z : Int) + 512 ≤ (s.length : Int) := by omega
          have hkl : (k : Int) < (d.length : Int) := by omega
          have HST := Lib.hid hst
          have HFI := Lib.hid hfits
          clear hst hfits hU hz
          go_upto_region 19 with fail
          go_wp2_with fail
          refine (HU.out _).mono ?_
          rintro e wy ⟨rfl, hby⟩
          have HB7 := Lib.hid (HB.out.trans (hby.mono HB.out.size))
          have hdiv : Int.tdiv ((n : Int) + 511) 512 = ((n + 511) / 512 : Nat) := by rw [Int.tdiv_eq_ediv_of_nonneg (by omega)]; omega
          have hdi2 : ((n : Int) + 511) / 512 = ((n + 511) / 512 : Nat) := by omega
          have hfi2 : ¬ ((s.length : Int) < (z : Int) + 512 + ((n + 511) / 512 : Nat) * 512) := by have := HST.out; have := HFI.out; omega
          generalize (n + 511) / 512 = q at HST hdiv hdi2 hfi2
          clear hby HB HU
          go_wp2
          go_roundw
          case rel => exact ⟨k + 1, by omega, by go_num, by rw [HST.out]; go_num, HB7⟩
          case measure => simp [intOf]; omega
        · obtain rfl : k = d.length := by omega
          have hlen := HA.out.len
          have HN := Lib.hid (fun wx : World => noughts_any (s.drop (atB d d.length)) wx (by
            rw [HA.out.fin]; intro x hx; exact (List.mem_replicate.1 hx).2) (by simp; omega))
          generalize atB d d.length = z at hlen HN ⊢
          have hzl : (s.length : Int) - (z : Int) = 1024 := by omega
          clear hlt
          go_upto_region 23 with fail
          go_wp2_with fail
          refine (HN.out _).mono ?_
          rintro e wy ⟨rfl, rfl⟩
          go_wp2
          go_ret
          exact ⟨rfl, HB.out⟩
end Go.Proofs.YtpkabccinhfmbaaGreatDoor
