/-
  The program: a field of a header; the change that a header tells.
  The program: the change that a header tells.
  Plain: a name split in two; a header's parts. No program in sight.
  Plain: where a header's parts lie. No program in sight. (written by wip/gen/genhdr.py)
  Plain: the header of a change that may be. No program in sight.
  Plain: an archive cut at one of its entries. No program in sight.
  Plain: what the keeper looks at in a header. No program in sight.
-/
import Derived.Handy
import Derived.Test.YtpkabccinhfmbaaGreatDoorY01
import Derived.Test.YtpkabccinhfmbaaGreatDoorY02
import Derived.Test.YtpkabccinhfmbaaGreatDoorY18
import Derived.Test.YtpkabccinhfmbaaGreatDoorY20
import Derived.Test.YtpkabccinhfmbaaGreatDoorY21
set_option linter.unusedVariables false
set_option linter.unusedSimpArgs false
namespace Go.Proofs.YtpkabccinhfmbaaGreatDoor
open Go.RowKit

theorem index_none (c : UInt8) (a : List UInt8) (h : c ∉ a) : Lib.index a [c] = -1 := by
  induction a with
  | nil => rfl
  | cons x a ih =>
    have hx : ¬ c = x := by intro e; exact h (by simp [e])
    have ha : c ∉ a := by intro e; exact h (by simp [e])
    rw [Lib.index, if_neg (by simp [List.isPrefixOf]; exact hx), ih ha, if_pos (by simp)]
theorem cut_fld (b : List UInt8) : (Lib.cut b [0]).1 = fldB b := by
  by_cases h : (0 : UInt8) ∈ b
  · obtain ⟨a, r, rfl, ha⟩ := List.eq_append_cons_of_mem h
    rw [cut_piece 0 a r ha]
    exact (fld_app (fun c hc e => ha (e ▸ hc)) r).symm
  · unfold Lib.cut
    rw [index_none 0 b h, if_neg (by omega)]
    exact (fld_all (fun c hc e => h (e ▸ hc))).symm
set_option maxHeartbeats 1000000 in
theorem fieldT_any (b : List UInt8) (w : World) (hw : Std w) (hl : b.length ≤ 100000) :
    Calls Tryz.prog 66 #[.string (S b)] w fun e w' => e = .returned (.string (S (fldB b))) ∧ ∃ n, w' = w.drewN n := by
  obtain ⟨m, hm⟩ := hw.maxlen
  have HC := Lib.hid (show Calls Tryz.prog 77 #[.string (S b), .string (S [0])] w fun e w' => (∃ t : Value, ∃ u : Bool, e = .returned (.tuple #[.string (S (fldB b)), t, .bool u])) ∧ ∃ n, w' = w.drewN n from
    (Tryz.strings_Cut (S b) (S [0]) m w (by rw [S_size]; omega) hm).mono fun e w' ⟨he, n, hw⟩ => by
      refine ⟨⟨.string ⟨(Lib.cut b [0]).2.1.toArray⟩, (Lib.cut b [0]).2.2, ?_⟩, n, hw⟩
      rw [he, ← cut_fld b]; rfl)
  generalize fldB b = f at HC ⊢
  clear hw hm
  go_enter Tryz.func66, Tryz.ntmps66
  go_wp2_with fail
  refine HC.out.mono ?_
  rintro e w1 ⟨⟨t, u, rfl⟩, n, rfl⟩
  go_wp2
  go_ret
  exact ⟨rfl, n, rfl⟩
theorem trim_trm (s : List UInt8) : Lib.trimSuffix s [47] = trmB s := by
  unfold Lib.trimSuffix trmB Lib.hasSuffix
  rcases List.eq_nil_or_concat s with rfl | ⟨t, c, rfl⟩
  · rfl
  · rw [List.concat_eq_append]
    have h1 : ([47] : List UInt8).isSuffixOf (t ++ [c]) = decide (c = 47) := by
      rw [Bool.eq_iff_iff, List.isSuffixOf_iff_suffix, decide_eq_true_iff]
      constructor
      · rintro ⟨r, hr⟩
        have := List.append_inj_right' hr rfl
        simpa using this.symm
      · rintro rfl; exact ⟨t, rfl⟩
    rw [h1]
    by_cases hc : c = 47
    · subst hc; simp
    · simp [hc]
end Go.Proofs.YtpkabccinhfmbaaGreatDoor
namespace Go.Proofs.YtpkabccinhfmbaaGreatDoor
open Go.RowKit

abbrev tChH : TypeId := 33
def ChgAt (w : World) (fz : Nat) (p : List UInt8) (k m : Int) (d : List UInt8) : Prop := w.heap[fz]? = some (.cells #[.string (S p), .int .i64 k, .int .i64 m, .string (S d)] tChH (0, 0))
theorem ChgAt.below {w w' : World} {fz : Nat} {p : List UInt8} {k m : Int} {d : List UInt8} (h : ChgAt w fz p k m d) (hb : Below w.heap.size w w') : ChgAt w' fz p k m d := (hb.block fz (Array.getElem?_eq_some_iff.1 h).1).trans h
theorem ChgAt.cells {w : World} {fz : Nat} {p : List UInt8} {k m : Int} {d : List UInt8} (h : ChgAt w fz p k m d) : w.cell? ⟨fz, 0, none⟩ = some (.string (S p)) ∧ w.cell? ⟨fz, 1, none⟩ = some (.int .i64 k) ∧ w.cell? ⟨fz, 2, none⟩ = some (.int .i64 m) ∧ w.cell? ⟨fz, 3, none⟩ = some (.string (S d)) ∧ (∀ j, w.frozen? ⟨fz, j, none⟩ = false) ∧ fz < w.heap.size := by
  refine ⟨?_, ?_, ?_, ?_, fun j => frozen_of_row w fz j _ _ h, (Array.getElem?_eq_some_iff.1 h).1⟩ <;> rw [cell_of_row _ _ _ _ _ _ h] <;> rfl
theorem ChgAt.setP {w : World} {fz : Nat} {p : List UInt8} {k m : Int} {d : List UInt8} (h : ChgAt w fz p k m d) (x : List UInt8) : ChgAt (w.setCell ⟨fz, 0, none⟩ (.string (S x))) fz x k m d := Go.heap_setCell_same w fz 0 _ _ _ h
theorem ChgAt.setK {w : World} {fz : Nat} {p : List UInt8} {k m : Int} {d : List UInt8} (h : ChgAt w fz p k m d) (x : Int) : ChgAt (w.setCell ⟨fz, 1, none⟩ (.int .i64 x)) fz p x m d := Go.heap_setCell_same w fz 1 _ _ _ h
theorem ChgAt.setM {w : World} {fz : Nat} {p : List UInt8} {k m : Int} {d : List UInt8} (h : ChgAt w fz p k m d) (x : Int) : ChgAt (w.setCell ⟨fz, 2, none⟩ (.int .i64 x)) fz p k x d := Go.heap_setCell_same w fz 2 _ _ _ h
theorem ChgAt.setD {w : World} {fz : Nat} {p : List UInt8} {k m : Int} {d : List UInt8} (h : ChgAt w fz p k m d) (x : List UInt8) : ChgAt (w.setCell ⟨fz, 3, none⟩ (.string (S x))) fz p k m x := Go.heap_setCell_same w fz 3 _ _ _ h
/-- what a header's block tells -/
structure HdrIs (b pre suf md sz link : List UInt8) (flag : UInt8) : Prop where
  hlen : b.length = 512
  hpre : fldB ((b.drop 345).take 155) = pre
  hsuf : fldB (b.take 100) = suf
  hmd : fldB ((b.drop 100).take 8) = md
  hsz : fldB ((b.drop 124).take 12) = sz
  hlink : fldB ((b.drop 157).take 100) = link
  hflag : b[156]? = some flag
  hname : inB pre suf ≠ [] ∧ pre.length + suf.length ≤ 400
  hmdOk : 0 < md.length ∧ md.length ≤ 20 ∧ (∀ c ∈ md, 48 ≤ c.toNat ∧ c.toNat ≤ 55) ∧ valB md < 2147483648
  hszOk : 0 < sz.length ∧ sz.length ≤ 20 ∧ (∀ c ∈ sz, 48 ≤ c.toNat ∧ c.toNat ≤ 55) ∧ valB sz < 2147483648
def chgV (c : Ent) : Value := .agg #[.string (S c.path), .int .i64 c.kind, .int .i64 c.mode, .string (S c.data)]
set_option maxRecDepth 100000 in
set_option maxHeartbeats 8000000 in
theorem guess_any (b pre suf md sz link : List UInt8) (flag : UInt8) (w : World) (hw : Std w) (h : HdrIs b pre suf md sz link flag) :
    Calls Tryz.prog 44 #[.string (S b)] w fun e w' => e = .returned (.tuple #[chgV (gsB (inB pre suf) md sz link flag).1, .int .i64 ((gsB (inB pre suf) md sz link flag).2 : Nat)]) ∧ Below w.heap.size w w' := by
  have hlen := h.hlen
  have Hpre := Lib.hid h.hpre
  have Hsuf := Lib.hid h.hsuf
  have HW := Lib.hid hw
  have F1 := Lib.hid (fun (wx : World) (hb : Below w.heap.size w wx) => (show Calls Tryz.prog 66 #[.string (S ((b.drop 345).take 155))] wx fun e w' => e = .returned (.string (S pre)) ∧ ∃ n, w' = wx.drewN n by
    have := fieldT_any ((b.drop 345).take 155) wx (hw.below hb) (by simp; omega); rw [h.hpre] at this; exact this))
  have F2 := Lib.hid (fun (wx : World) (hb : Below w.heap.size w wx) => (show Calls Tryz.prog 66 #[.string (S (b.take 100))] wx fun e w' => e = .returned (.string (S suf)) ∧ ∃ n, w' = wx.drewN n by
    have := fieldT_any (b.take 100) wx (hw.below hb) (by simp; omega); rw [h.hsuf] at this; exact this))
  have F3 := Lib.hid (fun (wx : World) (hb : Below w.heap.size w wx) => (show Calls Tryz.prog 66 #[.string (S ((b.drop 100).take 8))] wx fun e w' => e = .returned (.string (S md)) ∧ ∃ n, w' = wx.drewN n by
    have := fieldT_any ((b.drop 100).take 8) wx (hw.below hb) (by simp; omega); rw [h.hmd] at this; exact this))
  have F4 := Lib.hid (fun (wx : World) (hb : Below w.heap.size w wx) => (show Calls Tryz.prog 66 #[.string (S ((b.drop 124).take 12))] wx fun e w' => e = .returned (.string (S sz)) ∧ ∃ n, w' = wx.drewN n by
    have := fieldT_any ((b.drop 124).take 12) wx (hw.below hb) (by simp; omega); rw [h.hsz] at this; exact this))
  have F5 := Lib.hid (fun (wx : World) (hb : Below w.heap.size w wx) => (show Calls Tryz.prog 66 #[.string (S ((b.drop 157).take 100))] wx fun e w' => e = .returned (.string (S link)) ∧ ∃ n, w' = wx.drewN n by
    have := fieldT_any ((b.drop 157).take 100) wx (hw.below hb) (by simp; omega); rw [h.hlink] at this; exact this))
  have FJ := Lib.hid (fun wx => joinP_any pre suf wx (by have := h.hname.2; omega))
  have P1 := Lib.hid (fun wx => pint_any md wx h.hmdOk.1 h.hmdOk.2.1 h.hmdOk.2.2.1 h.hmdOk.2.2.2)
  have P2 := Lib.hid (fun wx => pint_any sz wx h.hszOk.1 h.hszOk.2.1 h.hszOk.2.2.1 h.hszOk.2.2.2)
  obtain ⟨nm, hnm⟩ : ∃ nm, inB pre suf = nm := ⟨_, rfl⟩
  have hn0 : nm ≠ [] := by rw [← hnm]; exact h.hname.1
  have hnl : nm.length ≤ 401 := by
    rw [← hnm]; have := h.hname.2; unfold inB; split
    · rw [List.length_append]; omega
    · rw [List.length_append, List.length_cons]; omega
  rw [hnm] at FJ ⊢
  have FP := Lib.hid (fun wx => parentP_any nm hn0 (by omega) wx)
  have HG := Lib.hid (show gsB nm md sz link flag = (if flag = 53 then ⟨trmB nm, 1, valB md, []⟩ else if flag = 50 then ⟨nm, 3, 0, link⟩ else if (upB nm).2 = [46, 119, 104, 46, 46, 119, 104, 46, 46, 111, 112, 113] then ⟨(upB nm).1, 5, valB md, []⟩ else if [46, 119, 104, 46].isPrefixOf (upB nm).2 then ⟨inB (upB nm).1 ((upB nm).2.drop 4), 4, valB md, []⟩ else ⟨nm, 2, valB md, []⟩, valB sz) from rfl)
  generalize gsB nm md sz link flag = R at HG ⊢
  generalize valB md = vm at P1 HG
  generalize valB sz = vs at P2 HG
  obtain ⟨up, la, hul⟩ : ∃ up la, upB nm = (up, la) := ⟨_, _, rfl⟩
  have hla : up.length ≤ nm.length + 1 ∧ la.length ≤ nm.length + 1 := by have := upB_len nm; rw [hul] at this; exact this
  rw [hul] at FP HG
  simp only at FP HG
  have HFl := Lib.hid h.hflag
  have HA := Lib.hid (show ChgAt (w.alloc (.cells #[.string (S []), .int .i64 0, .int .i64 0, .string (S [])] tChH)) w.heap.size [] 0 0 [] from heap_alloc_new w _)
  have HB := Lib.hid (show Below w.heap.size w (w.alloc (.cells #[.string (S []), .int .i64 0, .int .i64 0, .string (S [])] tChH)) from (Below.refl _ _).alloc (Nat.le_refl _) _)
  clear h hw hnm hul
  go_enter Tryz.func44, Tryz.ntmps44
  go_upto_region 1 with fail
  generalize hW1 : w.alloc (.cells #[.string (S []), .int .i64 0, .int .i64 0, .string (S [])] tChH) = w1 at HA HB
  have HS := Lib.hid (HW.out.below HB.out)
  generalize hfz : w.heap.size = fz at F3 F4 F5 HA HB ⊢
  have HFZ := Lib.hid hfz
  clear hfz F1 F2
  have GF := Lib.hid (fun (n : Nat) (x : List UInt8) (hx : x.length ≤ 100000) => fieldT_any x (w1.drewN n) (HS.out.below (below_drewN (Below.refl _ _) n)) hx)
  have GJ := Lib.hid (fun n => (show Calls Tryz.prog 54 #[.string (S (fldB ((b.drop 345).take 155))), .string (S (fldB (b.take 100)))] (w1.drewN n) fun e w' => e = .returned (.string (S nm)) ∧ w' = w1.drewN n from by
    rw [Hpre.out, Hsuf.out]; exact (FJ.out _).mono fun _ _ h => ⟨h.1, h.2.symm⟩))
  go_quiet (first | (go_at_call 54; exact Calls.quiet_of_same (GJ.out _)) | (go_at_call 66; refine Calls.quiet_of (GF.out _ _ (by simp; omega))))
  clear GF GJ Hpre Hsuf FJ
  have HA1 := Lib.hid (show ChgAt (w1.drewN nq) fz [] 0 0 [] from HA.out)
  have HB1 := Lib.hid (below_drewN HB.out nq)
  clear hW1
  generalize w1.drewN nq = w2 at *
  clear HA HB HS
  go_wp2_with fail
  refine (F3.out _ HB1.out).mono ?_
  rintro _ w3 ⟨rfl, n3, rfl⟩
  go_wp2_with fail
  refine (P1.out _).mono ?_
  rintro _ w4 ⟨rfl, hb4⟩
  have HA2 := Lib.hid (show ChgAt w4 fz [] 0 0 [] from ChgAt.below (show ChgAt (w2.drewN n3) fz [] 0 0 [] from HA1.out) hb4)
  have HB2 := Lib.hid (show Below fz w w4 from (below_drewN HB1.out n3).trans (hb4.mono (Nat.le_of_lt HA1.out.cells.2.2.2.2.2)))
  clear hb4 HA1 HB1 P1 F3 n3 w2 nq
  go_wp2_with fail
  refine (F4.out _ HB2.out).mono ?_
  rintro _ w5 ⟨rfl, n5, rfl⟩
  go_wp2_with fail
  refine (P2.out _).mono ?_
  rintro _ w6 ⟨rfl, hb6⟩
  have HA3 := Lib.hid (show ChgAt w6 fz [] 0 0 [] from ChgAt.below (show ChgAt (w4.drewN n5) fz [] 0 0 [] from HA2.out) hb6)
  have HB3 := Lib.hid (show Below fz w w6 from (below_drewN HB2.out n5).trans (hb6.mono (Nat.le_of_lt HA2.out.cells.2.2.2.2.2)))
  clear hb6 HA2 HB2 P2 F4 n5 w4 w1
  obtain ⟨c0, c1, c2, c3, cf, cs⟩ := HA3.out.cells
  go_upto_region 5 with fail
  clear c0 c1 c2 c3 cf
  have HA4 := Lib.hid (HA3.out.setM vm)
  have HB4 := Lib.hid (show Below fz w (w6.setCell ⟨fz, 2, none⟩ (.int .i64 vm)) from HB3.out.setCell (Nat.le_refl _) _)
  generalize w6.setCell ⟨fz, 2, none⟩ (.int .i64 vm) = w7 at *
  clear HA3 HB3 cs
  go_wp2_with fail
  refine (FP.out _).mono ?_
  rintro _ w8 ⟨rfl, hb8⟩
  have HA5 := Lib.hid (HA4.out.below hb8)
  have HB5 := Lib.hid (show Below fz w w8 from HB4.out.trans (hb8.mono (Nat.le_of_lt HA4.out.cells.2.2.2.2.2)))
  clear HA4 HB4 hb8 FP w6 w7
  have hfl : b[156]'(by omega) = flag := by have := HFl.out; rw [List.getElem?_eq_getElem (by omega)] at this; exact Option.some.inj this
  have hcase : ∀ k : UInt8, (((b[156]'(by omega)).toNat : Int) == ((k.toNat : Nat) : Int)) = decide (flag = k) := by
    intro k; rw [hfl]
    by_cases e : flag = k
    · subst e; simp
    · simp only [e, decide_false]
      have : ¬ ((flag.toNat : Nat) : Int) = ((k.toNat : Nat) : Int) := fun x => e (UInt8.toNat_inj.1 (by omega))
      simpa using this
  have HC := Lib.hid hcase
  obtain ⟨c0, c1, c2, c3, cf, cs⟩ := HA5.out.cells
  clear hfl hcase HFl
  by_cases g1 : flag = 53
  · rw [if_pos g1] at HG
    have t1 : (((b[156]'(by omega)).toNat : Int) == 53) = true := (HC.out 53).trans (by rw [g1]; rfl)
    have hT := Lib.hid (fun wx => (show Calls Tryz.prog 68 #[.string (S nm), .string (S [47])] wx fun e w' => e = .returned (.string (S (trmB nm))) ∧ w' = wx from
      (Tryz.strings_TrimSuffix (S nm) (S [47]) wx (by rw [S_size]; omega)).mono fun e w' h => ⟨by rw [h.1, S_data, S_data, trim_trm]; rfl, h.2⟩))
    clear g1
    go_upto_region 9 with fail
    clear c0 c1 c2 c3 cf
    have HA6 := Lib.hid (HA5.out.setK 1)
    have HB6 := Lib.hid (show Below fz w (w8.setCell ⟨fz, 1, none⟩ (.int .i64 1)) from HB5.out.setCell (Nat.le_refl _) _)
    generalize w8.setCell ⟨fz, 1, none⟩ (.int .i64 1) = w9 at *
    clear HA5 HB5 cs
    go_wp2_with fail
    refine (hT.out _).mono ?_
    rintro _ wq ⟨rfl, rfl⟩
    obtain ⟨c0, c1, c2, c3, cf, cs⟩ := HA6.out.cells
    go_upto_region 17 with fail
    clear c0 c1 c2 c3 cf
    have HZ := Lib.hid (HA6.out.setP (trmB nm))
    have HV := Lib.hid (show Below fz w (wq.setCell ⟨fz, 0, none⟩ (.string (S (trmB nm)))) from HB6.out.setCell (Nat.le_refl _) _)
    generalize wq.setCell ⟨fz, 0, none⟩ (.string (S (trmB nm))) = wz at *
    clear HA6 HB6 cs
    obtain ⟨c0, c1, c2, c3, cf, cs⟩ := HZ.out.cells
    go_wp2_with fail
    have HY := Lib.hid ((((HZ.out.setP ((trmB nm))).setK 1).setM (vm : Int)).setD [])
    have HX := Lib.hid (show Below fz w ((((wz.setCell ⟨fz, 0, none⟩ (.string (S (trmB nm)))).setCell ⟨fz, 1, none⟩ (.int .i64 1)).setCell ⟨fz, 2, none⟩ (.int .i64 (vm : Int))).setCell ⟨fz, 3, none⟩ (.string (S []))) from (((HV.out.setCell (Nat.le_refl _) _).setCell (Nat.le_refl _) _).setCell (Nat.le_refl _) _).setCell (Nat.le_refl _) _)
    clear c0 c1 c2 c3 cf cs
    generalize (((wz.setCell ⟨fz, 0, none⟩ (.string (S (trmB nm)))).setCell ⟨fz, 1, none⟩ (.int .i64 1)).setCell ⟨fz, 2, none⟩ (.int .i64 (vm : Int))).setCell ⟨fz, 3, none⟩ (.string (S [])) = wy at HX HY ⊢
    obtain ⟨y0, y1, y2, y3, -, -⟩ := HY.out.cells
    refine bodyPost_ret (by simp [results, Tryz.results44, go_sem, y0, y1, y2, y3, Result.andThen]; try rfl) rfl ?_
    exact ⟨by rw [HG.out]; rfl, by rw [HFZ.out]; exact HX.out⟩
  have t1 : (((b[156]'(by omega)).toNat : Int) == 53) = false := (HC.out 53).trans (by simp [g1])
  rw [if_neg g1] at HG
  clear g1
  by_cases g2 : flag = 50
  · rw [if_pos g2] at HG
    have t2 : (((b[156]'(by omega)).toNat : Int) == 50) = true := (HC.out 50).trans (by rw [g2]; rfl)
    clear g2
    clear c0 c1 c2 c3 cf cs
    go_wp2_with fail
    refine (F5.out _ HB5.out).mono ?_
    rintro _ w9 ⟨rfl, n9, rfl⟩
    have HA6 := Lib.hid (show ChgAt (w8.drewN n9) fz [] 0 vm [] from HA5.out)
    have HB6 := Lib.hid (show Below fz w (w8.drewN n9) from below_drewN HB5.out n9)
    generalize w8.drewN n9 = w9 at *
    obtain ⟨c0, c1, c2, c3, cf, cs⟩ := HA6.out.cells
    go_upto_region 17 with fail
    clear c0 c1 c2 c3 cf
    have HZ := Lib.hid ((((HA6.out.setK 3).setP nm).setD link).setM 0)
    have HV := Lib.hid (show Below fz w ((((w9.setCell ⟨fz, 1, none⟩ (.int .i64 3)).setCell ⟨fz, 0, none⟩ (.string (S nm))).setCell ⟨fz, 3, none⟩ (.string (S link))).setCell ⟨fz, 2, none⟩ (.int .i64 0)) from (((HB6.out.setCell (Nat.le_refl _) _).setCell (Nat.le_refl _) _).setCell (Nat.le_refl _) _).setCell (Nat.le_refl _) _)
    generalize (((w9.setCell ⟨fz, 1, none⟩ (.int .i64 3)).setCell ⟨fz, 0, none⟩ (.string (S nm))).setCell ⟨fz, 3, none⟩ (.string (S link))).setCell ⟨fz, 2, none⟩ (.int .i64 0) = wz at *
    clear HA5 HB5 HA6 HB6 cs
    obtain ⟨c0, c1, c2, c3, cf, cs⟩ := HZ.out.cells
    go_wp2_with fail
    have HY := Lib.hid ((((HZ.out.setP (nm)).setK 3).setM 0).setD link)
    have HX := Lib.hid (show Below fz w ((((wz.setCell ⟨fz, 0, none⟩ (.string (S nm))).setCell ⟨fz, 1, none⟩ (.int .i64 3)).setCell ⟨fz, 2, none⟩ (.int .i64 0)).setCell ⟨fz, 3, none⟩ (.string (S link))) from (((HV.out.setCell (Nat.le_refl _) _).setCell (Nat.le_refl _) _).setCell (Nat.le_refl _) _).setCell (Nat.le_refl _) _)
    clear c0 c1 c2 c3 cf cs
    generalize (((wz.setCell ⟨fz, 0, none⟩ (.string (S nm))).setCell ⟨fz, 1, none⟩ (.int .i64 3)).setCell ⟨fz, 2, none⟩ (.int .i64 0)).setCell ⟨fz, 3, none⟩ (.string (S link)) = wy at HX HY ⊢
    obtain ⟨y0, y1, y2, y3, -, -⟩ := HY.out.cells
    refine bodyPost_ret (by simp [results, Tryz.results44, go_sem, y0, y1, y2, y3, Result.andThen]; try rfl) rfl ?_
    exact ⟨by rw [HG.out]; rfl, by rw [HFZ.out]; exact HX.out⟩
  have t2 : (((b[156]'(by omega)).toNat : Int) == 50) = false := (HC.out 50).trans (by simp [g2])
  rw [if_neg g2] at HG
  clear g2
  by_cases g3 : la = [46, 119, 104, 46, 46, 119, 104, 46, 46, 111, 112, 113]
  · rw [if_pos g3] at HG
    have t3 : (la == [46, 119, 104, 46, 46, 119, 104, 46, 46, 111, 112, 113]) = true := by rw [g3]; rfl
    clear g3
    go_upto_region 17 with fail
    clear c0 c1 c2 c3 cf
    have HZ := Lib.hid ((HA5.out.setK 5).setP up)
    have HV := Lib.hid (show Below fz w ((w8.setCell ⟨fz, 1, none⟩ (.int .i64 5)).setCell ⟨fz, 0, none⟩ (.string (S up))) from (HB5.out.setCell (Nat.le_refl _) _).setCell (Nat.le_refl _) _)
    generalize (w8.setCell ⟨fz, 1, none⟩ (.int .i64 5)).setCell ⟨fz, 0, none⟩ (.string (S up)) = wz at *
    clear HA5 HB5 cs
    obtain ⟨c0, c1, c2, c3, cf, cs⟩ := HZ.out.cells
    go_wp2_with fail
    have HY := Lib.hid ((((HZ.out.setP (up)).setK 5).setM (vm : Int)).setD [])
    have HX := Lib.hid (show Below fz w ((((wz.setCell ⟨fz, 0, none⟩ (.string (S up))).setCell ⟨fz, 1, none⟩ (.int .i64 5)).setCell ⟨fz, 2, none⟩ (.int .i64 (vm : Int))).setCell ⟨fz, 3, none⟩ (.string (S []))) from (((HV.out.setCell (Nat.le_refl _) _).setCell (Nat.le_refl _) _).setCell (Nat.le_refl _) _).setCell (Nat.le_refl _) _)
    clear c0 c1 c2 c3 cf cs
    generalize (((wz.setCell ⟨fz, 0, none⟩ (.string (S up))).setCell ⟨fz, 1, none⟩ (.int .i64 5)).setCell ⟨fz, 2, none⟩ (.int .i64 (vm : Int))).setCell ⟨fz, 3, none⟩ (.string (S [])) = wy at HX HY ⊢
    obtain ⟨y0, y1, y2, y3, -, -⟩ := HY.out.cells
    refine bodyPost_ret (by simp [results, Tryz.results44, go_sem, y0, y1, y2, y3, Result.andThen]; try rfl) rfl ?_
    exact ⟨by rw [HG.out]; rfl, by rw [HFZ.out]; exact HX.out⟩
  have t3 : (la == [46, 119, 104, 46, 46, 119, 104, 46, 46, 111, 112, 113]) = false := by simpa using g3
  rw [if_neg g3] at HG
  clear g3
  have HH := Lib.hid (fun wx => (show Calls Tryz.prog 38 #[.string (S la), .string (S [46, 119, 104, 46])] wx fun e w' => e = .returned (.bool ([46, 119, 104, 46].isPrefixOf la)) ∧ wx = w' from hasPrefixT_any la [46, 119, 104, 46] wx))
  by_cases g4 : [46, 119, 104, 46].isPrefixOf la = true
  · rw [if_pos g4] at HG
    rw [g4] at HH
    have h4 : 4 ≤ la.length := by have := List.IsPrefix.length_le (List.isPrefixOf_iff_prefix.1 g4); simpa using this
    have HJ := Lib.hid (fun wx => joinP_any up (la.drop 4) wx (by simp; omega))
    clear g4
    clear c0 c1 c2 c3 cf cs
    go_wp2_with fail
    refine (HH.out _).mono ?_
    rintro _ wq ⟨rfl, rfl⟩
    go_wp2_with fail
    refine (HJ.out _).mono ?_
    rintro _ wq ⟨rfl, rfl⟩
    obtain ⟨c0, c1, c2, c3, cf, cs⟩ := HA5.out.cells
    go_upto_region 17 with fail
    clear c0 c1 c2 c3 cf
    have HZ := Lib.hid ((HA5.out.setK 4).setP (inB up (la.drop 4)))
    have HV := Lib.hid (show Below fz w ((w8.setCell ⟨fz, 1, none⟩ (.int .i64 4)).setCell ⟨fz, 0, none⟩ (.string (S (inB up (la.drop 4))))) from (HB5.out.setCell (Nat.le_refl _) _).setCell (Nat.le_refl _) _)
    generalize (w8.setCell ⟨fz, 1, none⟩ (.int .i64 4)).setCell ⟨fz, 0, none⟩ (.string (S (inB up (la.drop 4)))) = wz at *
    clear HA5 HB5 cs
    obtain ⟨c0, c1, c2, c3, cf, cs⟩ := HZ.out.cells
    go_wp2_with fail
    have HY := Lib.hid ((((HZ.out.setP ((inB up (la.drop 4)))).setK 4).setM (vm : Int)).setD [])
    have HX := Lib.hid (show Below fz w ((((wz.setCell ⟨fz, 0, none⟩ (.string (S (inB up (la.drop 4))))).setCell ⟨fz, 1, none⟩ (.int .i64 4)).setCell ⟨fz, 2, none⟩ (.int .i64 (vm : Int))).setCell ⟨fz, 3, none⟩ (.string (S []))) from (((HV.out.setCell (Nat.le_refl _) _).setCell (Nat.le_refl _) _).setCell (Nat.le_refl _) _).setCell (Nat.le_refl _) _)
    clear c0 c1 c2 c3 cf cs
    generalize (((wz.setCell ⟨fz, 0, none⟩ (.string (S (inB up (la.drop 4))))).setCell ⟨fz, 1, none⟩ (.int .i64 4)).setCell ⟨fz, 2, none⟩ (.int .i64 (vm : Int))).setCell ⟨fz, 3, none⟩ (.string (S [])) = wy at HX HY ⊢
    obtain ⟨y0, y1, y2, y3, -, -⟩ := HY.out.cells
    refine bodyPost_ret (by simp [results, Tryz.results44, go_sem, y0, y1, y2, y3, Result.andThen]; try rfl) rfl ?_
    exact ⟨by rw [HG.out]; rfl, by rw [HFZ.out]; exact HX.out⟩
  rw [if_neg g4] at HG
  have g5 : [46, 119, 104, 46].isPrefixOf la = false := by cases hq : [46, 119, 104, 46].isPrefixOf la with | true => exact absurd hq g4 | false => rfl
  rw [g5] at HH
  clear g4 g5
  clear c0 c1 c2 c3 cf cs
  go_wp2_with fail
  refine (HH.out _).mono ?_
  rintro _ wq ⟨rfl, rfl⟩
  obtain ⟨c0, c1, c2, c3, cf, cs⟩ := HA5.out.cells
  go_upto_region 17 with fail
  clear c0 c1 c2 c3 cf
  have HZ := Lib.hid ((HA5.out.setK 2).setP nm)
  have HV := Lib.hid (show Below fz w ((w8.setCell ⟨fz, 1, none⟩ (.int .i64 2)).setCell ⟨fz, 0, none⟩ (.string (S nm))) from (HB5.out.setCell (Nat.le_refl _) _).setCell (Nat.le_refl _) _)
  generalize (w8.setCell ⟨fz, 1, none⟩ (.int .i64 2)).setCell ⟨fz, 0, none⟩ (.string (S nm)) = wz at *
  clear HA5 HB5 cs
  obtain ⟨c0, c1, c2, c3, cf, cs⟩ := HZ.out.cells
  go_wp2_with fail
  have HY := Lib.hid ((((HZ.out.setP (nm)).setK 2).setM (vm : Int)).setD [])
  have HX := Lib.hid (show Below fz w ((((wz.setCell ⟨fz, 0, none⟩ (.string (S nm))).setCell ⟨fz, 1, none⟩ (.int .i64 2)).setCell ⟨fz, 2, none⟩ (.int .i64 (vm : Int))).setCell ⟨fz, 3, none⟩ (.string (S []))) from (((HV.out.setCell (Nat.le_refl _) _).setCell (Nat.le_refl _) _).setCell (Nat.le_refl _) _).setCell (Nat.le_refl _) _)
  clear c0 c1 c2 c3 cf cs
  generalize (((wz.setCell ⟨fz, 0, none⟩ (.string (S nm))).setCell ⟨fz, 1, none⟩ (.int .i64 2)).setCell ⟨fz, 2, none⟩ (.int .i64 (vm : Int))).setCell ⟨fz, 3, none⟩ (.string (S [])) = wy at HX HY ⊢
  obtain ⟨y0, y1, y2, y3, -, -⟩ := HY.out.cells
  refine bodyPost_ret (by simp [results, Tryz.results44, go_sem, y0, y1, y2, y3, Result.andThen]; try rfl) rfl ?_
  exact ⟨by rw [HG.out]; rfl, by rw [HFZ.out]; exact HX.out⟩
end Go.Proofs.YtpkabccinhfmbaaGreatDoor
namespace Go.Proofs.YtpkabccinhfmbaaGreatDoor

structure SplOk (nm pre suf : List UInt8) : Prop where
  whole : inB pre suf = nm
  ne : suf ≠ []
  lp : pre.length ≤ 155
  ls : suf.length ≤ 100
  first : pre = [] ∨ (suf.head? ≠ some 47 ∧ pre.getLast? ≠ some 47)
  last : suf.getLast? = nm.getLast?
theorem split_atQ {es : List (List UInt8)} (hE : NameE es) : (joinB es).length ≤ 100 ∨ ∃ q, 0 < q ∧ q < es.length ∧ 100 < (joinB (es.drop (q - 1))).length ∧ (joinB (es.drop q)).length ≤ 100 := by
  by_cases h : (joinB es).length ≤ 100
  · exact .inl h
  · have hn : 0 < es.length := List.length_pos_iff.2 hE.ne
    have key : ∀ n k, es.length - k = n → k < es.length → 100 < (joinB (es.drop k)).length → ∃ q, 0 < q ∧ q < es.length ∧ 100 < (joinB (es.drop (q - 1))).length ∧ (joinB (es.drop q)).length ≤ 100 := by
      intro n
      induction n with
      | zero => intro k h1 h2; omega
      | succ n ih =>
        intro k h1 h2 h3
        by_cases hk : k + 1 < es.length
        · by_cases h4 : (joinB (es.drop (k + 1))).length ≤ 100
          · exact ⟨k + 1, by omega, hk, by rw [Nat.add_sub_cancel]; exact h3, h4⟩
          · exact ih (k + 1) (by omega) hk (by omega)
        · rw [joinB_drop_last es k (by omega)] at h3
          have := (hE.each es[k] (List.getElem_mem _)).2; omega
    exact .inr (key _ 0 rfl hn (by rw [List.drop_zero]; omega))
theorem last_app (a : List UInt8) {b : List UInt8} (hb : b ≠ []) : (a ++ b).getLast? = b.getLast? := by
  rw [List.getLast?_append]
  cases h : b.getLast? with
  | none => exact absurd (List.getLast?_eq_none_iff.1 h) hb
  | some x => rfl
theorem last_mem {s : List UInt8} (h : (47 : UInt8) ∉ s) : s.getLast? ≠ some 47 := fun e => h (List.mem_of_getLast? e)
theorem spl_ok {es : List (List UInt8)} (hE : NameE es) (hl : (joinB es).length ≤ 190) : SplOk (joinB es) (splB (joinB es)).1 (splB (joinB es)).2 := by
  obtain ⟨hp, hs⟩ := split_len hE hl
  rcases split_atQ hE with h | ⟨k, h0, hk, h1, h2⟩
  · have hne : joinB es ≠ [] := by
      cases es with
      | nil => exact absurd rfl hE.ne
      | cons x r =>
        have hx : x ≠ [] := fun e => hE.first (by rw [e]; rfl)
        cases r with
        | nil => exact hx
        | cons y s => rw [joinB]; intro e; have := congrArg List.length e; simp at this
    rw [split_none h] at hp hs ⊢
    exact ⟨by unfold inB; simp, hne, hp, hs, .inl rfl, rfl⟩
  · have hsp := split_here hE k h0 hk h1 h2
    rw [hsp] at hp hs ⊢
    simp only at hp hs ⊢
    obtain ⟨m, rfl⟩ : ∃ m, k = m + 1 := ⟨k - 1, by omega⟩
    rw [Nat.add_sub_cancel, joinB_drop es m hk] at h1
    have e1 := hE.each es[m] (List.getElem_mem _)
    have e2 := hE.each es[m + 1] (List.getElem_mem _)
    simp only [List.length_append, List.length_cons] at h1
    have hsne : joinB (es.drop (m + 1)) ≠ [] ∧ (joinB (es.drop (m + 1))).head? ≠ some 47 := by
      by_cases hk2 : m + 1 + 1 < es.length
      · have hin := hE.inner (m + 1) hk2
        rw [joinB_drop es (m + 1) hk2]
        refine ⟨by simp, ?_⟩
        cases hx : es[m + 1] with
        | nil => exact absurd hx hin
        | cons c r => simp; intro e; exact e2.1 (by rw [hx, e]; simp)
      · rw [joinB_drop_last es (m + 1) (by omega)] at h1 ⊢
        refine ⟨fun e => by rw [e] at h1; simp at h1; omega, ?_⟩
        cases hx : es[m + 1] with
        | nil => simp
        | cons c r => simp; intro e; exact e2.1 (by rw [hx, e]; simp)
    have hpl : joinB (es.take (m + 1)) ≠ [] ∧ (joinB (es.take (m + 1))).getLast? ≠ some 47 := by
      have hin := hE.inner m hk
      rw [joinB_take es m (by omega)]
      split
      · exact ⟨hin, last_mem e1.1⟩
      · refine ⟨by simp, ?_⟩
        rw [last_app _ (by simp), List.getLast?_cons]
        cases hx : es[m].getLast? with
        | none => rw [List.getLast?_eq_none_iff] at hx; exact absurd hx hin
        | some c => simp; intro e; exact e1.1 (e ▸ List.mem_of_getLast? hx)
    have hw : joinB es = joinB (es.take (m + 1)) ++ 47 :: joinB (es.drop (m + 1)) := joinB_split es (m + 1) (by omega) hk
    refine ⟨?_, hsne.1, hp, hs, .inr ⟨hsne.2, hpl.2⟩, ?_⟩
    · unfold inB; rw [if_neg (by simp [hpl.1, hsne.1]), ← hw]
    · rw [hw, last_app _ (by simp), List.getLast?_cons]
      cases hx : (joinB (es.drop (m + 1))).getLast? with
      | none => rw [List.getLast?_eq_none_iff] at hx; exact absurd hx hsne.1
      | some c => rfl
end Go.Proofs.YtpkabccinhfmbaaGreatDoor
namespace Go.Proofs.YtpkabccinhfmbaaGreatDoor

theorem cut_at {b pre f post : List UInt8} {lo n : Nat} (hb : b = pre ++ (f ++ post)) (h1 : pre.length = lo) (h2 : f.length = n) : (b.drop lo).take n = f := by
  subst hb h1 h2
  simp
def allF (f0 f1 f2 f3 f4 f5 f6 f7 f8 f9 f10 f11 f12 f13 f14 f15 : List UInt8) : List UInt8 :=
  f0 ++ (f1 ++ (f2 ++ (f3 ++ (f4 ++ (f5 ++ (f6 ++ (f7 ++ (f8 ++ (f9 ++ (f10 ++ (f11 ++ (f12 ++ (f13 ++ (f14 ++ (f15)))))))))))))))
theorem allF_cuts {f0 f1 f2 f3 f4 f5 f6 f7 f8 f9 f10 f11 f12 f13 f14 f15 : List UInt8} (h0 : f0.length = 100) (h1 : f1.length = 8) (h2 : f2.length = 8) (h3 : f3.length = 8) (h4 : f4.length = 12) (h5 : f5.length = 12) (h6 : f6.length = 7) (h7 : f7.length = 1) (h8 : f8.length = 1) (h9 : f9.length = 100) (h10 : f10.length = 8) (h11 : f11.length = 64) (h12 : f12.length = 8) (h13 : f13.length = 8) (h14 : f14.length = 155) (h15 : f15.length = 12) :
    (allF f0 f1 f2 f3 f4 f5 f6 f7 f8 f9 f10 f11 f12 f13 f14 f15).length = 512 ∧ ((allF f0 f1 f2 f3 f4 f5 f6 f7 f8 f9 f10 f11 f12 f13 f14 f15).drop 0).take 100 = f0 ∧ ((allF f0 f1 f2 f3 f4 f5 f6 f7 f8 f9 f10 f11 f12 f13 f14 f15).drop 100).take 8 = f1 ∧ ((allF f0 f1 f2 f3 f4 f5 f6 f7 f8 f9 f10 f11 f12 f13 f14 f15).drop 108).take 8 = f2 ∧ ((allF f0 f1 f2 f3 f4 f5 f6 f7 f8 f9 f10 f11 f12 f13 f14 f15).drop 116).take 8 = f3 ∧ ((allF f0 f1 f2 f3 f4 f5 f6 f7 f8 f9 f10 f11 f12 f13 f14 f15).drop 124).take 12 = f4 ∧ ((allF f0 f1 f2 f3 f4 f5 f6 f7 f8 f9 f10 f11 f12 f13 f14 f15).drop 136).take 12 = f5 ∧ ((allF f0 f1 f2 f3 f4 f5 f6 f7 f8 f9 f10 f11 f12 f13 f14 f15).drop 148).take 7 = f6 ∧ ((allF f0 f1 f2 f3 f4 f5 f6 f7 f8 f9 f10 f11 f12 f13 f14 f15).drop 155).take 1 = f7 ∧ ((allF f0 f1 f2 f3 f4 f5 f6 f7 f8 f9 f10 f11 f12 f13 f14 f15).drop 156).take 1 = f8 ∧ ((allF f0 f1 f2 f3 f4 f5 f6 f7 f8 f9 f10 f11 f12 f13 f14 f15).drop 157).take 100 = f9 ∧ ((allF f0 f1 f2 f3 f4 f5 f6 f7 f8 f9 f10 f11 f12 f13 f14 f15).drop 257).take 8 = f10 ∧ ((allF f0 f1 f2 f3 f4 f5 f6 f7 f8 f9 f10 f11 f12 f13 f14 f15).drop 265).take 64 = f11 ∧ ((allF f0 f1 f2 f3 f4 f5 f6 f7 f8 f9 f10 f11 f12 f13 f14 f15).drop 329).take 8 = f12 ∧ ((allF f0 f1 f2 f3 f4 f5 f6 f7 f8 f9 f10 f11 f12 f13 f14 f15).drop 337).take 8 = f13 ∧ ((allF f0 f1 f2 f3 f4 f5 f6 f7 f8 f9 f10 f11 f12 f13 f14 f15).drop 345).take 155 = f14 ∧ ((allF f0 f1 f2 f3 f4 f5 f6 f7 f8 f9 f10 f11 f12 f13 f14 f15).drop 500).take 12 = f15 := by
  refine ⟨by simp [allF, h0, h1, h2, h3, h4, h5, h6, h7, h8, h9, h10, h11, h12, h13, h14, h15], ?_, ?_, ?_, ?_, ?_, ?_, ?_, ?_, ?_, ?_, ?_, ?_, ?_, ?_, ?_, ?_⟩
  · exact cut_at (pre := []) (post := f1 ++ f2 ++ f3 ++ f4 ++ f5 ++ f6 ++ f7 ++ f8 ++ f9 ++ f10 ++ f11 ++ f12 ++ f13 ++ f14 ++ f15) (by simp only [allF, List.append_assoc, List.nil_append, List.append_nil]) (by simp [h0]) h0
  · exact cut_at (pre := f0) (post := f2 ++ f3 ++ f4 ++ f5 ++ f6 ++ f7 ++ f8 ++ f9 ++ f10 ++ f11 ++ f12 ++ f13 ++ f14 ++ f15) (by simp only [allF, List.append_assoc, List.nil_append, List.append_nil]) (by simp [h0]) h1
  · exact cut_at (pre := f0 ++ f1) (post := f3 ++ f4 ++ f5 ++ f6 ++ f7 ++ f8 ++ f9 ++ f10 ++ f11 ++ f12 ++ f13 ++ f14 ++ f15) (by simp only [allF, List.append_assoc, List.nil_append, List.append_nil]) (by simp [h0, h1]) h2
  · exact cut_at (pre := f0 ++ f1 ++ f2) (post := f4 ++ f5 ++ f6 ++ f7 ++ f8 ++ f9 ++ f10 ++ f11 ++ f12 ++ f13 ++ f14 ++ f15) (by simp only [allF, List.append_assoc, List.nil_append, List.append_nil]) (by simp [h0, h1, h2]) h3
  · exact cut_at (pre := f0 ++ f1 ++ f2 ++ f3) (post := f5 ++ f6 ++ f7 ++ f8 ++ f9 ++ f10 ++ f11 ++ f12 ++ f13 ++ f14 ++ f15) (by simp only [allF, List.append_assoc, List.nil_append, List.append_nil]) (by simp [h0, h1, h2, h3]) h4
  · exact cut_at (pre := f0 ++ f1 ++ f2 ++ f3 ++ f4) (post := f6 ++ f7 ++ f8 ++ f9 ++ f10 ++ f11 ++ f12 ++ f13 ++ f14 ++ f15) (by simp only [allF, List.append_assoc, List.nil_append, List.append_nil]) (by simp [h0, h1, h2, h3, h4]) h5
  · exact cut_at (pre := f0 ++ f1 ++ f2 ++ f3 ++ f4 ++ f5) (post := f7 ++ f8 ++ f9 ++ f10 ++ f11 ++ f12 ++ f13 ++ f14 ++ f15) (by simp only [allF, List.append_assoc, List.nil_append, List.append_nil]) (by simp [h0, h1, h2, h3, h4, h5]) h6
  · exact cut_at (pre := f0 ++ f1 ++ f2 ++ f3 ++ f4 ++ f5 ++ f6) (post := f8 ++ f9 ++ f10 ++ f11 ++ f12 ++ f13 ++ f14 ++ f15) (by simp only [allF, List.append_assoc, List.nil_append, List.append_nil]) (by simp [h0, h1, h2, h3, h4, h5, h6]) h7
  · exact cut_at (pre := f0 ++ f1 ++ f2 ++ f3 ++ f4 ++ f5 ++ f6 ++ f7) (post := f9 ++ f10 ++ f11 ++ f12 ++ f13 ++ f14 ++ f15) (by simp only [allF, List.append_assoc, List.nil_append, List.append_nil]) (by simp [h0, h1, h2, h3, h4, h5, h6, h7]) h8
  · exact cut_at (pre := f0 ++ f1 ++ f2 ++ f3 ++ f4 ++ f5 ++ f6 ++ f7 ++ f8) (post := f10 ++ f11 ++ f12 ++ f13 ++ f14 ++ f15) (by simp only [allF, List.append_assoc, List.nil_append, List.append_nil]) (by simp [h0, h1, h2, h3, h4, h5, h6, h7, h8]) h9
  · exact cut_at (pre := f0 ++ f1 ++ f2 ++ f3 ++ f4 ++ f5 ++ f6 ++ f7 ++ f8 ++ f9) (post := f11 ++ f12 ++ f13 ++ f14 ++ f15) (by simp only [allF, List.append_assoc, List.nil_append, List.append_nil]) (by simp [h0, h1, h2, h3, h4, h5, h6, h7, h8, h9]) h10
  · exact cut_at (pre := f0 ++ f1 ++ f2 ++ f3 ++ f4 ++ f5 ++ f6 ++ f7 ++ f8 ++ f9 ++ f10) (post := f12 ++ f13 ++ f14 ++ f15) (by simp only [allF, List.append_assoc, List.nil_append, List.append_nil]) (by simp [h0, h1, h2, h3, h4, h5, h6, h7, h8, h9, h10]) h11
  · exact cut_at (pre := f0 ++ f1 ++ f2 ++ f3 ++ f4 ++ f5 ++ f6 ++ f7 ++ f8 ++ f9 ++ f10 ++ f11) (post := f13 ++ f14 ++ f15) (by simp only [allF, List.append_assoc, List.nil_append, List.append_nil]) (by simp [h0, h1, h2, h3, h4, h5, h6, h7, h8, h9, h10, h11]) h12
  · exact cut_at (pre := f0 ++ f1 ++ f2 ++ f3 ++ f4 ++ f5 ++ f6 ++ f7 ++ f8 ++ f9 ++ f10 ++ f11 ++ f12) (post := f14 ++ f15) (by simp only [allF, List.append_assoc, List.nil_append, List.append_nil]) (by simp [h0, h1, h2, h3, h4, h5, h6, h7, h8, h9, h10, h11, h12]) h13
  · exact cut_at (pre := f0 ++ f1 ++ f2 ++ f3 ++ f4 ++ f5 ++ f6 ++ f7 ++ f8 ++ f9 ++ f10 ++ f11 ++ f12 ++ f13) (post := f15) (by simp only [allF, List.append_assoc, List.nil_append, List.append_nil]) (by simp [h0, h1, h2, h3, h4, h5, h6, h7, h8, h9, h10, h11, h12, h13]) h14
  · exact cut_at (pre := f0 ++ f1 ++ f2 ++ f3 ++ f4 ++ f5 ++ f6 ++ f7 ++ f8 ++ f9 ++ f10 ++ f11 ++ f12 ++ f13 ++ f14) (post := []) (by simp only [allF, List.append_assoc, List.nil_append, List.append_nil]) (by simp [h0, h1, h2, h3, h4, h5, h6, h7, h8, h9, h10, h11, h12, h13, h14]) h15
end Go.Proofs.YtpkabccinhfmbaaGreatDoor
namespace Go.Proofs.YtpkabccinhfmbaaGreatDoor

theorem at_of_cut {b : List UInt8} {k : Nat} {x : UInt8} (h : (b.drop k).take 1 = [x]) : b[k]? = some x := by
  have := congrArg (fun l : List UInt8 => l[0]?) h
  rw [List.getElem?_take_of_lt (by omega), List.getElem?_drop] at this
  simpa using this
theorem mem_joinB {l : List (List UInt8)} {x : UInt8} (h : x ∈ joinB l) : x = 47 ∨ ∃ e ∈ l, x ∈ e := by
  induction l with
  | nil => cases h
  | cons a r ih =>
    cases r with
    | nil => exact .inr ⟨a, by simp, h⟩
    | cons b s =>
      rw [joinB] at h
      rcases List.mem_append.1 h with h | h
      · exact .inr ⟨a, by simp, h⟩
      · rcases List.mem_cons.1 h with h | h
        · exact .inl h
        · rcases ih h with h | ⟨e, he, h⟩
          · exact .inl h
          · exact .inr ⟨e, List.mem_cons_of_mem _ he, h⟩
theorem elem_nz {e : List UInt8} (h : elementB e = true) : ∀ x ∈ e, x ≠ 0 := by
  unfold elementB at h
  simp only [Bool.and_eq_true] at h
  intro x hx e0
  have := List.all_eq_true.1 h.2 x hx
  rw [e0] at this; revert this; decide
theorem nam_nz {c : Ent} (h : Fit c) : ∀ x ∈ namB c, x ≠ 0 := by
  have hel := fit_elems h
  intro x hx e0
  rw [(elems_name h).1] at hx
  have hl : ∀ y ∈ (partsB c.path).getLastD [], y ≠ 0 := by
    intro y hy
    by_cases hp : partsB c.path = []
    · rw [hp] at hy; cases hy
    · rw [List.getLastD_eq_getLast?, List.getLast?_eq_some_getLast hp] at hy
      exact elem_nz (hel _ (List.getLast_mem hp)) y hy
  rcases mem_joinB hx with h47 | ⟨e, he, hxe⟩
  · rw [e0] at h47; revert h47; decide
  · unfold elemsB at he
    split at he
    · rcases List.mem_append.1 he with he | he
      · exact elem_nz (hel e he) x hxe e0
      · rw [List.mem_singleton.1 he] at hxe; cases hxe
    · split at he
      · rcases List.mem_append.1 he with he | he
        · exact elem_nz (hel e (List.dropLast_subset _ he)) x hxe e0
        · rw [List.mem_singleton.1 he] at hxe
          rcases List.mem_append.1 hxe with hh | hh
          · rw [e0] at hh; revert hh; decide
          · exact hl x hh e0
      · split at he
        · rcases List.mem_append.1 he with he | he
          · exact elem_nz (hel e he) x hxe e0
          · rw [List.mem_singleton.1 he, e0] at hxe; revert hxe; decide
        · exact elem_nz (hel e he) x hxe e0
theorem spl_nam {c : Ent} (h : Fit c) : SplOk (namB c) (splB (namB c)).1 (splB (namB c)).2 := by
  obtain ⟨h1, h2⟩ := elems_name h
  have := name_len h
  rw [h1] at this ⊢
  exact spl_ok h2 this
theorem inB_mem {a b : List UInt8} {x : UInt8} (h : x ∈ a ∨ x ∈ b) : x ∈ inB a b := by
  unfold inB; split
  · exact List.mem_append.2 h
  · rcases h with h | h
    · exact List.mem_append.2 (.inl h)
    · exact List.mem_append.2 (.inr (List.mem_cons_of_mem _ h))
theorem link_nz {c : Ent} (h : Fit c) : (∀ x ∈ linkB c, x ≠ 0) ∧ (linkB c).length ≤ 100 := by
  unfold linkB
  split
  · rename_i k3
    have hg : goodB c = true := by
      rcases h.2.1 with hg | hm
      · exact hg
      · unfold markB at hm; rw [k3] at hm; revert hm; simp
    unfold goodB at hg
    rw [if_neg (by omega), if_neg (by omega), if_pos k3] at hg
    unfold targetB at hg
    simp only [Bool.and_eq_true, decide_eq_true_eq] at hg
    refine ⟨fun x hx e0 => ?_, hg.2.2.2⟩
    have := List.all_eq_true.1 hg.2.1 x hx
    rw [e0] at this; revert this; decide
  · constructor
    · intro x hx; cases hx
    · exact Nat.zero_le _
theorem tot_lt {c : Ent} (h1 : (headB c).length = 148) (h2 : (tailB c).length = 356) : totB c < 262144 := by
  have s1 := sumB_le (headB c)
  have s2 := sumB_le (tailB c)
  unfold totB; omega
theorem hdr_all (c : Ent) : hdrB c = allF (filB (splB (namB c)).2 100) (digB c.mode.toNat 7) (digB 0 7) (digB 0 7) (digB (dataB c).length 11) (digB 0 11) (digB (totB c) 6) [32] [flagB c] (filB (linkB c) 100) [117, 115, 116, 97, 114, 0, 48, 48] (filB [] 64) (digB 0 7) (digB 0 7) (filB (splB (namB c)).1 155) (filB [] 12) := by
  unfold hdrB headB tailB allF
  simp only [List.append_assoc, List.cons_append, List.nil_append]
structure HLen (c : Ent) : Prop where
  suf : (filB (splB (namB c)).2 100).length = 100
  mode : (digB c.mode.toNat 7).length = 8
  zero : (digB 0 7).length = 8
  size : (digB (dataB c).length 11).length = 12
  time : (digB 0 11).length = 12
  tot : (digB (totB c) 6).length = 7
  link : (filB (linkB c) 100).length = 100
  pre : (filB (splB (namB c)).1 155).length = 155
theorem hlen {c : Ent} (h : Fit c) : HLen c := by
  obtain ⟨h1, h2, h3, h4, h5, h6⟩ := fit_small h
  have hs := spl_nam h
  have hm := octB_len c.mode.toNat 6 (by omega)
  have hdl : (dataB c).length ≤ 4096 := by unfold dataB; split; omega; simp
  have hd := octB_len (dataB c).length 10 (by omega)
  have h0 := octB_len 0 6 (by omega)
  have h0' := octB_len 0 10 (by omega)
  have e1 := filB_len _ 100 hs.ls
  have e2 := digB_len c.mode.toNat 7 (by omega)
  have e3 := digB_len 0 7 (by omega)
  have e4 := digB_len (dataB c).length 11 (by omega)
  have e5 := digB_len 0 11 (by omega)
  have e6 := filB_len _ 100 (link_nz h).2
  have e7 := filB_len _ 155 hs.lp
  have e8 : (filB [] 64).length = 64 := filB_len _ _ (by simp)
  have e9 : (filB [] 12).length = 12 := filB_len _ _ (by simp)
  have hh : (headB c).length = 148 := by unfold headB; simp only [List.length_append]; omega
  have ht : (tailB c).length = 356 := by
    unfold tailB; simp only [List.length_append, List.length_cons, List.length_nil]; omega
  have htl := tot_lt hh ht
  have hto := octB_len (totB c) 5 (by omega)
  exact ⟨e1, e2, e3, e4, e5, digB_len (totB c) 6 (by omega), e6, e7⟩
theorem hdr_is {c : Ent} (h : Fit c) : HdrIs (hdrB c) (splB (namB c)).1 (splB (namB c)).2 (nmB c.mode.toNat 7) (nmB (dataB c).length 11) (linkB c) (flagB c) ∧ inB (splB (namB c)).1 (splB (namB c)).2 = namB c := by
  obtain ⟨h1, h2, h3, h4, h5, h6⟩ := fit_small h
  have hs := spl_nam h
  have hL := hlen h
  have hm := octB_len c.mode.toNat 6 (by omega)
  have hdl : (dataB c).length ≤ 4096 := by unfold dataB; split; omega; simp
  have hd := octB_len (dataB c).length 10 (by omega)
  obtain ⟨c0, g0, g1, g2, g3, g4, g5, g6, g7, g8, g9, g10, g11, g12, g13, g14, g15⟩ := allF_cuts hL.suf hL.mode hL.zero hL.zero hL.size hL.time hL.tot (f7 := [32]) rfl (f8 := [flagB c]) rfl hL.link (f10 := [117, 115, 116, 97, 114, 0, 48, 48]) rfl (f11 := filB [] 64) rfl hL.zero hL.zero hL.pre (f15 := filB [] 12) rfl
  have hz := nam_nz h
  rw [← hs.whole] at hz
  rw [List.drop_zero] at g0
  refine ⟨?_, hs.whole⟩
  rw [hdr_all]
  refine ⟨c0, ?_, ?_, ?_, ?_, ?_, ?_, ⟨?_, ?_⟩, ⟨?_, ?_, nm_dig _ _, ?_⟩, ⟨?_, ?_, nm_dig _ _, ?_⟩⟩
  · rw [g14]; exact fld_fil (fun x hx => hz x (inB_mem (.inl hx))) hs.lp
  · rw [g0]; exact fld_fil (fun x hx => hz x (inB_mem (.inr hx))) hs.ls
  · rw [g1]; exact fld_dg _ _
  · rw [g4]; exact fld_dg _ _
  · rw [g9]; exact fld_fil (link_nz h).1 (link_nz h).2
  · exact at_of_cut g8
  · intro e
    have := e
    unfold inB at this
    split at this
    · exact hs.ne (List.append_eq_nil_iff.1 this).2
    · simp at this
  · have := hs.lp; have := hs.ls; omega
  · rw [nm_len (by omega)]; omega
  · rw [nm_len (by omega)]; omega
  · rw [nm_val]; omega
  · rw [nm_len (by omega)]; omega
  · rw [nm_len (by omega)]; omega
  · rw [nm_val]; omega
/-- what guess tells of a header: the change itself, but for a file's data -/
theorem gs_hdr {c : Ent} (h : Fit c) : gsB (namB c) (nmB c.mode.toNat 7) (nmB (dataB c).length 11) (linkB c) (flagB c) = (bareB c, (dataB c).length) ∧ (c.kind ≠ 2 → bareB c = c) := by
  obtain ⟨h1, h2, h3, h4, h5, h6⟩ := fit_small h
  have hk3 : c.kind = 3 → c.mode = 0 := fun k3 => by
    rcases h.2.1 with hg | hm
    · unfold goodB at hg
      rw [if_neg (by omega), if_neg (by omega), if_pos k3] at hg
      simp only [Bool.and_eq_true, decide_eq_true_eq] at hg; exact hg.1
    · unfold markB at hm; rw [k3] at hm; revert hm; simp
  have hd : c.kind ≠ 2 → c.kind ≠ 3 → c.data = [] := fun k2 k3 => by
    rcases h.2.1 with hg | hm
    · unfold goodB at hg
      by_cases k1 : c.kind = 1
      · rw [if_pos k1] at hg; simp at hg; exact hg.2
      · rw [if_neg k1, if_neg k2, if_neg k3] at hg; cases hg
    · unfold markB at hm; simp at hm; exact hm.2
  constructor
  · rw [gs_name h, nm_val, nm_val]
    unfold bareB
    split
    · rename_i k3; rw [hk3 k3]
    · congr 2; omega
  · intro k2
    unfold bareB
    obtain ⟨p, k, m, d⟩ := c
    by_cases k3 : k = 3
    · simp [k3]
    · simp only at hd; rw [hd k2 k3]; simp
end Go.Proofs.YtpkabccinhfmbaaGreatDoor
namespace Go.Proofs.YtpkabccinhfmbaaGreatDoor

def nulsB : List UInt8 := List.replicate 1024 0
def atB (d : List Ent) (k : Nat) : Nat := (packsB (d.take k)).length
theorem data_le {c : Ent} (h : Fit c) : (dataB c).length ≤ 4096 := by
  obtain ⟨_, _, _, h4, _, _⟩ := fit_small h
  unfold dataB; split
  · exact h4
  · exact Nat.zero_le _
theorem ent_len {c : Ent} (h : Fit c) : (entB c).length = 512 + (dataB c).length + (512 - (dataB c).length % 512) % 512 ∧ (entB c).length ≤ 5120 := by
  have h1 := (hdr_is h).1.hlen
  have h2 := data_le h
  rw [ent_hdr, List.length_append, List.length_append, h1, filB_len _ _ (Nat.zero_le _)]
  omega
theorem packs_cons (c : Ent) (r : List Ent) : packsB (c :: r) = entB c ++ packsB r := rfl
theorem packs_len {d : List Ent} (h : ∀ c ∈ d, Fit c) : (packsB d).length ≤ 5120 * d.length := by
  induction d with
  | nil => simp [packsB]
  | cons c r ih =>
    have h1 := (ent_len (h c (by simp))).2
    have h2 := ih (fun x hx => h x (by simp [hx]))
    rw [packs_cons, List.length_append, List.length_cons]; omega
theorem packs_app (a b : List Ent) : packsB (a ++ b) = packsB a ++ packsB b := by simp [packsB]
theorem pack_eq (d : List Ent) : packB d = packsB d ++ nulsB := rfl
theorem pack_cut (d : List Ent) (k : Nat) (h : k ≤ d.length) : packB d = packsB (d.take k) ++ (packsB (d.drop k) ++ nulsB) := by
  rw [pack_eq]
  conv => lhs; rw [← List.take_append_drop k d]
  rw [packs_app, List.append_assoc]
theorem pack_drop (d : List Ent) (k : Nat) (h : k ≤ d.length) : (packB d).drop (atB d k) = packsB (d.drop k) ++ nulsB := by
  rw [pack_cut d k h]; unfold atB; simp
theorem atB_step (d : List Ent) (k : Nat) (h : k < d.length) : atB d (k + 1) = atB d k + (entB d[k]).length := by
  unfold atB; rw [packsB_take d k h, List.length_append]
/-- what stands at an entry -/
structure UnpAt (s : List UInt8) (a : Nat) (c : Ent) : Prop where
  ne : (s.drop a == nulsB) = false
  hdr : (s.drop a).take 512 = hdrB c
  data : (s.drop (a + 512)).take (dataB c).length = dataB c
  pre : (entB c).isPrefixOf (s.drop a) = true
  fits : a + (entB c).length + 1024 ≤ s.length
theorem unp_at {d : List Ent} (hf : ∀ c ∈ d, Fit c) (k : Nat) (h : k < d.length) : UnpAt (packB d) (atB d k) d[k] := by
  have hF := hf _ (List.getElem_mem h)
  have e : (packB d).drop (atB d k) = entB d[k] ++ (packsB (d.drop (k + 1)) ++ nulsB) := by
    rw [pack_drop d k (by omega), List.drop_eq_getElem_cons h]
    rw [packs_cons, List.append_assoc]
  have hl := (ent_len hF).1
  have h5 := (hdr_is hF).1.hlen
  have hn : nulsB.length = 1024 := by unfold nulsB; rw [List.length_replicate]
  refine ⟨?_, ?_, ?_, ?_, ?_⟩
  · rw [e, beq_eq_false_iff_ne]
    intro x
    have := congrArg List.length x
    simp only [List.length_append, hn] at this; omega
  · rw [e, ent_hdr, List.append_assoc, ← h5]; simp
  · rw [← List.drop_drop, e, ent_hdr, List.append_assoc, ← h5]; simp
  · rw [e, List.isPrefixOf_iff_prefix]; exact List.prefix_append _ _
  · have := congrArg List.length e
    simp only [List.length_append, List.length_drop, hn] at this
    omega
theorem unp_end (d : List Ent) : ((packB d).drop (atB d d.length) == nulsB) = true ∧ atB d d.length + 1024 = (packB d).length := by
  rw [pack_drop d d.length (Nat.le_refl _)]
  constructor
  · simp [packsB]
  · rw [pack_eq]; unfold atB; rw [List.take_length, List.length_append]; unfold nulsB; rw [List.length_replicate]
theorem barP_take {d : List Ent} {n i : Nat} (h : i < n) : barP (d.take n) i = barP d i := by
  unfold barP
  rw [List.getElem?_take_of_lt h, List.getElem?_take_of_lt (show i - 1 < n by omega), List.take_take, Nat.min_eq_left (by omega)]
theorem first_none {d : List Ent} (h : ∀ j, j < d.length → barP d j = false) (n : Nat) (hn : n ≤ d.length) (r : Int) (hr : First (barP (d.take n)) (d.take n).length r) : r = -1 := by
  rcases hr with ⟨i, hi, rfl, hb, _⟩ | ⟨rfl, _⟩
  · rw [List.length_take] at hi
    rw [barP_take (by omega), h i (by omega)] at hb; cases hb
  · rfl
end Go.Proofs.YtpkabccinhfmbaaGreatDoor
namespace Go.Proofs.YtpkabccinhfmbaaGreatDoor

theorem skB_low (b : List UInt8) (k : Nat) (h : k ≤ 148) (hk : k ≤ b.length) : skB b k = sumB (b.take k) := by
  induction k with
  | zero => simp [skB, sumB]
  | succ k ih =>
    rw [skB_succ, if_pos (.inl (by omega)), ih (by omega) (by omega), sumB_take b k (by omega), List.getD_eq_getElem?_getD, List.getElem?_eq_getElem (by omega)]; rfl
theorem skB_mid' (b : List UInt8) (m : Nat) (hm : m = 148) (k : Nat) (h : k ≤ 8) : skB b (m + k) = skB b m := by
  induction k with
  | zero => rfl
  | succ k ih => rw [← Nat.add_assoc, skB_succ, if_neg (by omega), ih (by omega)]; rfl
theorem skB_mid (b : List UInt8) (k : Nat) (h : k ≤ 8) : skB b (148 + k) = skB b 148 := skB_mid' b 148 rfl k h
theorem skB_from (b : List UInt8) (m : Nat) (hm : 156 ≤ m) (k : Nat) (hk : m + k ≤ b.length) : skB b (m + k) = skB b m + sumB ((b.drop m).take k) := by
  induction k with
  | zero => simp [sumB]
  | succ k ih =>
    rw [← Nat.add_assoc, skB_succ, if_pos (.inr (by omega)), ih (by omega), sumB_take (b.drop m) k (by simp; omega), List.getD_eq_getElem?_getD, List.getElem?_eq_getElem (by omega)]
    simp only [List.getElem_drop, Option.getD_some]; omega
theorem skB_high (b : List UInt8) (k : Nat) (hk : 156 + k ≤ b.length) : skB b (156 + k) = skB b 156 + sumB ((b.drop 156).take k) := skB_from b 156 (Nat.le_refl _) k hk
theorem fld_at {b t : List UInt8} (lo hi n : Nat) (h : FldB ((b.drop lo).take n) t) (e : hi - lo = n) : FldB ((b.drop lo).take (hi - lo)) t := e ▸ h
theorem fldB_dig (v n : Nat) : FldB (digB v n) (nmB v n) := ⟨rfl, nm_dig v n⟩
theorem at_take {b s r : List UInt8} {n i : Nat} (h : b.take n = s ++ r) (hi : i < s.length) (hn : i < n) : b[i]? = s[i]? := by
  rw [← List.getElem?_take_of_lt hn, h, List.getElem?_append_left hi]
theorem ust_hdr {c : Ent} (h : Fit c) : Ust (hdrB c) (splB (namB c)).2 (linkB c) (splB (namB c)).1 (dataB c).length (flagB c) := by
  obtain ⟨h1, h2, h3, h4, h5, h6⟩ := fit_small h
  have hs := spl_nam h
  have hL := hlen h
  obtain ⟨hln, hll⟩ := link_nz h
  have hz := nam_nz h
  rw [← hs.whole] at hz
  obtain ⟨c0, g0, g1, g2, g3, g4, g5, g6, g7, g8, g9, g10, g11, g12, g13, g14, g15⟩ := allF_cuts hL.suf hL.mode hL.zero hL.zero hL.size hL.time hL.tot (f7 := [32]) rfl (f8 := [flagB c]) rfl hL.link (f10 := [117, 115, 116, 97, 114, 0, 48, 48]) rfl (f11 := filB [] 64) rfl hL.zero hL.zero hL.pre (f15 := filB [] 12) rfl
  rw [← hdr_all] at c0 g0 g1 g2 g3 g4 g5 g6 g7 g8 g9 g10 g11 g12 g13 g14 g15
  rw [List.drop_zero] at g0
  have hp0 : 0 < (splB (namB c)).2.length := List.length_pos_iff.2 hs.ne
  have hhl : (headB c).length = 148 := by
    have := hL.suf; have := hL.mode; have := hL.zero; have := hL.size; have := hL.time
    unfold headB; simp only [List.length_append]; omega
  have htl : (tailB c).length = 356 := by
    have := hL.link; have := hL.zero; have := hL.pre
    have : (filB [] 64).length = 64 := filB_len _ _ (Nat.zero_le _)
    have : (filB [] 12).length = 12 := filB_len _ _ (Nat.zero_le _)
    unfold tailB; simp only [List.length_append, List.length_cons, List.length_nil]; omega
  refine ⟨c0, g0, g9, g14, fun x hx => hz x (inB_mem (.inr hx)), hln, fun x hx => hz x (inB_mem (.inl hx)), ⟨hp0, hs.ls⟩, hll, hs.lp, g11, ?_, g10, ?_, ⟨_, by rw [g2]; exact fldB_dig 0 7, nm_val 0 7⟩, ⟨_, by rw [g3]; exact fldB_dig 0 7, nm_val 0 7⟩, ⟨_, by rw [g5]; exact fldB_dig 0 11, nm_val 0 11⟩, ⟨_, by rw [g4]; exact fldB_dig _ 11, nm_val _ 11⟩, ⟨_, by rw [g6]; exact fldB_dig _ 6, ?_⟩, data_le h, at_of_cut g7, at_of_cut g8, ?_, ?_⟩
  · rw [List.take_of_length_le (by rw [List.length_drop]; omega)] at g15; rw [g15]; rfl
  · intro i hi
    match i, hi with
    | 0, _ => exact ⟨_, fld_at 100 108 8 (by rw [g1]; exact fldB_dig _ 7) rfl⟩
    | 1, _ => exact ⟨_, fld_at 108 116 8 (by rw [g2]; exact fldB_dig _ 7) rfl⟩
    | 2, _ => exact ⟨_, fld_at 116 124 8 (by rw [g3]; exact fldB_dig _ 7) rfl⟩
    | 3, _ => exact ⟨_, fld_at 124 136 12 (by rw [g4]; exact fldB_dig _ 11) rfl⟩
    | 4, _ => exact ⟨_, fld_at 136 148 12 (by rw [g5]; exact fldB_dig _ 11) rfl⟩
    | 5, _ => exact ⟨_, fld_at 329 337 8 (by rw [g12]; exact fldB_dig _ 7) rfl⟩
    | 6, _ => exact ⟨_, fld_at 337 345 8 (by rw [g13]; exact fldB_dig _ 7) rfl⟩
  · rw [nm_val]
    have e : hdrB c = headB c ++ ((digB (totB c) 6 ++ [32]) ++ tailB c) := by unfold hdrB; simp only [List.append_assoc]
    have hm : (digB (totB c) 6 ++ [32]).length = 8 := by rw [List.length_append, hL.tot]; rfl
    have e1 := skB_low (hdrB c) 148 (Nat.le_refl _) (by omega)
    have e2 := skB_mid (hdrB c) 8 (Nat.le_refl _)
    have e3 := skB_high (hdrB c) 356 (by omega)
    have t1 : (hdrB c).take 148 = headB c := by rw [e, ← hhl]; simp
    have t2 : ((hdrB c).drop 156).take 356 = tailB c := by
      rw [e, ← List.append_assoc, show (156 : Nat) = (headB c ++ (digB (totB c) 6 ++ [32])).length by rw [List.length_append, hhl, hm], List.drop_left', ← htl, List.take_length]
      rfl
    rw [t1] at e1
    rw [t2] at e3
    show totB c = 256 + skB (hdrB c) (156 + 356)
    rw [e3, show (156 : Nat) = 148 + 8 from rfl, e2, e1]
    unfold totB; omega
  · have hla := hs.last
    rcases h6 with k1 | k2 | k3 | k4 | k5
    · refine .inl ⟨by unfold flagB; rw [if_pos k1], by unfold dataB; rw [if_neg (by omega)]; rfl, by unfold linkB; rw [if_neg (by omega)], ?_⟩
      rw [at_take g0 (by omega) (by have := hs.ls; omega), ← List.getLast?_eq_getElem?, hla]
      unfold namB; rw [if_pos k1]; simp
    · exact .inr (.inr ⟨by unfold flagB; rw [if_neg (by omega), if_neg (by omega)], by unfold linkB; rw [if_neg (by omega)]⟩)
    · refine .inr (.inl ⟨by unfold flagB; rw [if_neg (by omega), if_pos k3], by unfold dataB; rw [if_neg (by omega)]; rfl, ?_⟩)
      unfold linkB; rw [if_pos k3]
      rcases h.2.1 with hg | hm
      · unfold goodB at hg
        rw [if_neg (by omega), if_neg (by omega), if_pos k3] at hg
        unfold targetB at hg
        simp only [Bool.and_eq_true, Bool.not_eq_true', List.isEmpty_eq_false_iff] at hg
        exact hg.2.2.1
      · unfold markB at hm; rw [k3] at hm; revert hm; simp
    · exact .inr (.inr ⟨by unfold flagB; rw [if_neg (by omega), if_neg (by omega)], by unfold linkB; rw [if_neg (by omega)]⟩)
    · exact .inr (.inr ⟨by unfold flagB; rw [if_neg (by omega), if_neg (by omega)], by unfold linkB; rw [if_neg (by omega)]⟩)
  · rcases hs.first with e | ⟨e1, e2⟩
    · exact .inl e
    · by_cases hq : (splB (namB c)).1 = []
      · exact .inl hq
      · have hq0 : 0 < (splB (namB c)).1.length := List.length_pos_iff.2 hq
        refine .inr ⟨?_, ?_⟩
        · have := at_take (i := (splB (namB c)).1.length - 1) g14 (by omega) (by have := hs.lp; omega)
          rw [List.getElem?_drop, show 345 + ((splB (namB c)).1.length - 1) = 344 + (splB (namB c)).1.length by omega, ← List.getLast?_eq_getElem?] at this
          rw [this]; exact e2
        · rw [at_take g0 hp0 (by omega), ← List.head?_eq_getElem?]; exact e1
end Go.Proofs.YtpkabccinhfmbaaGreatDoor
