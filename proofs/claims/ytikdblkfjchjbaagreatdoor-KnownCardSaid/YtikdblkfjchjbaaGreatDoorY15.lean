import Derived.Test.YtikdblkfjchjbaaGreatDoorY12
import Derived.Test.YtikdblkfjchjbaaGreatDoorY14
set_option linter.unusedVariables false
set_option linter.unusedSimpArgs false
set_option maxHeartbeats 16000000
set_option maxRecDepth 100000
namespace Go.Proofs.YtikdblkfjchjbaaGreatDoor
open Go.RowKit
theorem q08 {w : World} {B N : Nat} {a m : Pth → Nat} {F : qaf} (hT : TreeAt w B N a m F) (t : Nat) (hV : TreeV w t a) (hS : Std w) (p : List UInt8) (hp : p.length ≤ 5000) (x : Nd) (hx : F (qaa p) = some x) :
 Calls Tryz.prog 132 #[.pointer (some ⟨t, 0, none⟩), .string (S p)] w fun e w' => e = .returned (Ent.agg ⟨p, x.kind, x.mode, x.data⟩) ∧ Below w.heap.size w w' := by
 have hb1 : Below w.heap.size w (w.alloc (.cells #[.string (S []), .int .i64 0, .int .i64 0, .string (S [])] 47)) := (Below.refl _ _).alloc (Nat.le_refl _) _;have HF := q4z (qfb (hT.below hb1) t (hV.below hb1) p (by omega) (hS.below hb1));rw [qel hx] at HF;have HT := q4z (hT.below hb1);have HX := q4z hx;clear hT hV hS hx;go_enter Tryz.func132, Tryz.ntmps132;go_wp2_with fail;refine HF.out.mono ?_;rintro e w2 ⟨rfl, hb2⟩;have hz1 : (w.alloc (.cells #[.string (S []), .int .i64 0, .int .i64 0, .string (S [])] 47)).heap.size = w.heap.size + 1 := by simp
 have k0 : w2.heap[w.heap.size]? = some (.cells #[.string (S []), .int .i64 0, .int .i64 0, .string (S [])] 47 (0, 0)) := (hb2.block _ (by rw [hz1]; omega)).trans (Go.heap_alloc_new w _);obtain ⟨n0, n1, n2, n3, _⟩ := (HT.out.below hb2).cells _ _ HX.out;have hlt := q40 w2 _ n0;have HB2 := q4z (((Below.refl w.heap.size w).alloc (Nat.le_refl _) (.cells #[.string (S []), .int .i64 0, .int .i64 0, .string (S [])] 47)).trans (hb2.mono (by omega)));have hz2 : w.heap.size + 1 ≤ w2.heap.size := by have := hb2.size; omega
 obtain ⟨f0, f1, f2, f3⟩ : w2.cell? ⟨w.heap.size, 0, none⟩ = some (.string (S [])) ∧ w2.cell? ⟨w.heap.size, 1, none⟩ = some (.int .i64 0) ∧ w2.cell? ⟨w.heap.size, 2, none⟩ = some (.int .i64 0) ∧ w2.cell? ⟨w.heap.size, 3, none⟩ = some (.string (S [])) := by
  refine ⟨?_, ?_, ?_, ?_⟩ <;> rw [cell_of_row w2 _ _ _ _ _ k0] <;> rfl
 have fz : ∀ o, w2.frozen? ⟨w.heap.size, o, none⟩ = false := fun o => frozen_of_row _ _ _ _ _ k0
 clear hb2 HF HT HX;generalize hg : w.heap.size = g0 at hz2 f0 f1 f2 f3 fz k0 ⊢;go_upto_region 3 with fail;have hb3 : Below w2.heap.size w2 (w2.alloc (.cells #[.string (S p), .int .i64 x.kind, .int .i64 x.mode, .string (S x.data)] 47)) := (Below.refl _ _).alloc (Nat.le_refl _) _;obtain ⟨q0, q1, q2, q3⟩ := Cell4.new w2 ⟨p, x.kind, x.mode, x.data⟩ 47;have k3 := (hb3.block g0 (by omega)).trans k0;have HB3 := q4z (HB2.out.trans (hb3.mono (by have := HB2.out.size; omega)));simp only at q0 q1 q2 q3;generalize w2.alloc (.cells #[.string (S p), .int .i64 x.kind, .int .i64 x.mode, .string (S x.data)] 47) = w3 at q0 q1 q2 q3 k3 HB3 ⊢
 have y0 : w3.cell? ⟨g0, 0, none⟩ = some (.string (S [])) := by rw [cell_of_row w3 _ _ _ _ _ k3]; rfl
 have y1 : w3.cell? ⟨g0, 1, none⟩ = some (.int .i64 0) := by rw [cell_of_row w3 _ _ _ _ _ k3]; rfl
 have y2 : w3.cell? ⟨g0, 2, none⟩ = some (.int .i64 0) := by rw [cell_of_row w3 _ _ _ _ _ k3]; rfl
 have y3 : w3.cell? ⟨g0, 3, none⟩ = some (.string (S [])) := by rw [cell_of_row w3 _ _ _ _ _ k3]; rfl
 have z0 : ∀ o, w3.frozen? ⟨g0, o, none⟩ = false := fun o => frozen_of_row _ _ _ _ _ k3
 have a0 := z0 0;have a1 := z0 1;have a2 := z0 2;have a3 := z0 3;clear f0 f1 f2 f3 fz k0 hb3 n0 n1 n2 n3 z0;go_wp2;have hs4 := set4 k3 ⟨p, x.kind, x.mode, x.data⟩;have hbe : Below w.heap.size w ((((w3.setCell ⟨g0, 0, none⟩ (.string (S p))).setCell ⟨g0, 1, none⟩ (.int .i64 x.kind)).setCell ⟨g0, 2, none⟩ (.int .i64 x.mode)).setCell ⟨g0, 3, none⟩ (.string (S x.data))) :=
  (((HB3.out.setCell (by show w.heap.size ≤ g0; omega) _).setCell (by show w.heap.size ≤ g0; omega) _).setCell (by show w.heap.size ≤ g0; omega) _).setCell (by show w.heap.size ≤ g0; omega) _
 obtain ⟨v0, v1, v2, v3⟩ := hs4;simp only at v0 v1 v2 v3;refine bodyPost_ret (by simp [results, Tryz.results132, go_sem, v0, v1, v2, v3, Result.andThen]; try rfl) rfl ?_;exact ⟨rfl, hbe⟩
def CtxT (w : World) (c : List Ent) (t : Nat) : Prop := Lists c (qa0 c) ∧ ∃ B N a m, N ≤ 4294967290 ∧ TreeAt w B N a m (qa0 c) ∧ TreeV w t a
theorem CtxT.below {w w' : World} {c : List Ent} {t : Nat} (h : CtxT w c t) (hb : Below w.heap.size w w') : CtxT w' c t := by
 obtain ⟨h1, B, N, a, m, h2, h3, h4⟩ := h;exact ⟨h1, B, N, a, m, h2, h3.below hb, h4.below hb⟩
theorem CtxT.kind_any {w : World} {c : List Ent} {t : Nat} (h : CtxT w c t) (hS : Std w) (p : List UInt8) (hp : p.length ≤ 4294967280) :
 Calls Tryz.prog 69 #[.pointer (some ⟨t, 0, none⟩), .string (S p)] w fun e w' => e = .returned (.int .i64 (qbc c p)) ∧ Below w.heap.size w w' := by
 obtain ⟨h1, B, N, a, m, _, h3, h4⟩ := h;rw [qeq h1];exact Go.Proofs.YtikdblkfjchjbaaGreatDoor.kind_any h3 t h4 p hp hS
theorem qlt {c : List Ent} (h : Lists c (qa0 c)) {p : List UInt8} (hp : p ≠ []) (hpp : qa3 p = true) : qa0 c (qaa p) = (qf4 c p).map ndOf := by
 unfold qf4;cases hf : c.find? (fun e => decide (e.path = p)) with
 | some e =>
  have h1 := List.mem_of_find?_eq_some hf;have h2 := List.find?_some hf;rw [decide_eq_true_eq] at h2;rw [← h2]; exact h.mem e h1
 | none =>
  cases hx : qa0 c (qaa p) with
  | none => rfl
  | some x =>
   rcases h.only _ x hx with e | ⟨e, he, h1, _⟩
   ·exact absurd e (qbi hp)
   ·have : e.path = p := by rw [← qa1 e.path, h1, qa1]
    have := List.find?_eq_none.1 hf e he;simp_all
theorem CtxT.entry_any {w : World} {c : List Ent} {t : Nat} (h : CtxT w c t) (hS : Std w) (p : List UInt8) (hp : p.length ≤ 5000) (hne : p ≠ []) (hpp : qa3 p = true) (e : Ent) (he : qf4 c p = some e) :
 Calls Tryz.prog 132 #[.pointer (some ⟨t, 0, none⟩), .string (S p)] w fun r w' => r = .returned (Ent.agg ⟨p, e.kind, e.mode, e.data⟩) ∧ Below w.heap.size w w' := by
 obtain ⟨h1, B, N, a, m, _, h3, h4⟩ := h;exact q08 h3 t h4 hS p hp (ndOf e) (by rw [qlt h1 hne hpp, he]; rfl)
theorem qw0 (s : List UInt8) (w : World) (hs : s.length ≤ 5000) : Calls Tryz.prog 131 #[.string (S s), .string ⟨#[47]⟩] w fun e w' => e = .returned (.bool (([47] : List UInt8).isSuffixOf s)) ∧ w = w' :=
 (Tryz.strings_HasSuffix (S s) ⟨#[47]⟩ w (by rw [qea]; omega)).mono fun e w' ⟨he, hw⟩ => ⟨by rw [he, qdh]; rfl, hw.symm⟩
theorem qsd {w0 w : World} {n : Nat} {l : List Ent} {t g mb : Nat} {E : Obj → Prop} {D : Nat → Prop} {wk : List UInt8} (h : StM w0 w n l t g mb E D wk) (hS : Std w0) (hn : n < 2000000000) (c : List Ent) (tc : Nat) (hC : CtxT w0 c tc)
 (src dst : List UInt8) (hs : src.length ≤ 200) (hd : dst.length ≤ 200) (hcase : ∀ p tp, wayL [] src = .ok p → wayL wk dst = .ok tp → qbc c p = 1 → ∃ k, qgg l tp = .error k) :
 Calls Tryz.prog 94 #[.pointer (some ⟨g, 0, none⟩), .pointer (some ⟨tc, 0, none⟩), .string (S src), .string (S dst)] w fun e w' => StOut w0 w (n + 13) t g mb E D wk (qdu c l wk src dst) e w' := by
 have HM := q4z h;have HS := q4z hS;have HC := q4z hC;have hb1 : Below w.heap.size w (w.alloc (.cells #[.pointer (some ⟨g, 0, none⟩)] 143)) := (Below.refl _ _).alloc (Nat.le_refl _) _;have cb : (w.alloc (.cells #[.pointer (some ⟨g, 0, none⟩)] 143)).cell? ⟨w.heap.size, 0, none⟩ = some (.pointer (some ⟨g, 0, none⟩)) := by
  rw [cell_of_row _ _ _ _ _ _ (Go.heap_alloc_new w _)]; rfl
 have hz1 : (w.alloc (.cells #[.pointer (some ⟨g, 0, none⟩)] 143)).heap.size = w.heap.size + 1 := by simp
 have HR := qe8 [] src (w.alloc (.cells #[.pointer (some ⟨g, 0, none⟩)] 143)) (hS.below (h.below.trans (hb1.mono h.below.size))) (by simp; omega);rcases qgj [] src with ⟨p, e1, e2, e3⟩ | ⟨q, e1, e2⟩;rotate_left
 ·rw [e2] at HR
  have HR := q4z HR;have HE := q4z (show qdu c l wk src dst = .error 1 by unfold qdu; rw [e1]);clear e1 e2 hS hC h hcase cb;go_enter Tryz.func94, Tryz.ntmps94;go_wp2_with fail;refine HR.out.mono ?_;rintro _ w2 ⟨rfl, hb2⟩;have HB2 := q4z (hb1.trans (hb2.mono (by omega)));clear hb2 HR;go_wp2_with fail;refine (qcl 1 _).mono ?_;rintro _ w3 ⟨rfl, rfl⟩;exact ⟨rfl, StOut.err HE.out (HM.out.after HB2.out).below (HM.out.stay HB2.out)⟩
 ·rw [e2] at HR
  have HR := q4z HR;have HP := q4z e3;have hpl := (qa9 e3).1;have HE1 := q4z e1;clear e1 e2 e3 hS hC h;go_enter Tryz.func94, Tryz.ntmps94;go_wp2_with fail;refine HR.out.mono ?_;rintro _ w2 ⟨rfl, hb2⟩;have HB2 := q4z (hb1.trans (hb2.mono (by omega)));have cb2 := (hb2.cell (p := ⟨w.heap.size, 0, none⟩) (by show w.heap.size < _; omega)).trans cb;clear hb2 HR cb hb1 hz1;generalize hbx : w.heap.size = bx at cb2 ⊢;go_wp2_with fail;refine (qbf 1 _).mono ?_;rintro _ w3 ⟨rfl, rfl⟩;go_wp2_with fail;refine (qhi (HM.out.after HB2.out) (HS.out.below (HM.out.after HB2.out).below) dst (by omega)).mono ?_;intro e w4 ⟨ho, hb4⟩;have HB4 := q4z (HB2.out.trans (hb4.mono HB2.out.size))
  have cb4 := (hb4.cell (p := ⟨bx, 0, none⟩) (q40 w2 _ cb2)).trans cb2;clear hb4 HB2 cb2;cases hw : wayL wk dst with
  | error k =>
   rw [hw] at ho;obtain rfl : e = qfw k := ho;have HE := q4z (show qdu c l wk src dst = .error k by unfold qdu; rw [HE1.out, hw]);exact ⟨rfl, StOut.err HE.out (HM.out.after HB4.out).below (HM.out.stay HB4.out)⟩
  | ok tp =>
   rw [hw] at ho;obtain rfl : e = .returned (.string (S tp)) := ho;have HE2 := q4z (show qdu c l wk src dst = if qbc c p = 0 then .error 8 else if qbc c p = 1 then qn5 c l tp p else qn3 c l tp dst p by unfold qdu; rw [HE1.out, hw]);have hcs := hcase p tp HE1.out hw;have HCs := q4z hcs;have htl := (qa9 (qfv hw)).1;have HPt := q4z (qfv hw);clear hcase hcs hw HE1;go_upto_region 4 with fail;have hb5 : Below w4.heap.size w4 (w4.alloc (.cells #[.string (S tp)] 9)) := (Below.refl _ _).alloc (Nat.le_refl _) _;have k10 := Go.heap_alloc_new w4 (.cells #[.string (S tp)] 9);have HB5 := q4z (HB4.out.trans (hb5.mono HB4.out.size));have cb5 := (hb5.cell (p := ⟨bx, 0, none⟩) (q40 w4 _ cb4)).trans cb4
   have hbt : w.heap.size ≤ w4.heap.size := HB4.out.size;have hbl : bx < w4.heap.size := q40 w4 _ cb4;generalize w4.alloc (.cells #[.string (S tp)] 9) = w5 at k10 HB5 cb5 ⊢;generalize w4.heap.size = bt at k10 hbt hbl ⊢;clear hb5 HB4 cb4;go_wp2_with fail;refine ((HC.out.below (HM.out.after HB5.out).below).kind_any (HS.out.below (HM.out.after HB5.out).below) p (by omega)).mono ?_;rintro _ w6 ⟨rfl, hb6⟩;have HB6 := q4z (HB5.out.trans (hb6.mono HB5.out.size));have cb6 := (hb6.cell (p := ⟨bx, 0, none⟩) (q40 w5 _ cb5)).trans cb5;have k106 := (hb6.block bt (q41 k10).1).trans k10;clear hb6 HB5 cb5 k10;obtain ⟨z, hz⟩ : ∃ z, qbc c p = z := ⟨_, rfl⟩;rw [hz] at HCs HE2 ⊢;have HZ := q4z hz;clear hz
   by_cases hz0 : z = 0
   ·subst hz0
    go_wp2_with fail;refine (qcl 8 _).mono ?_;rintro _ w7 ⟨rfl, rfl⟩;exact ⟨rfl, StOut.err HE2.out (HM.out.after HB6.out).below (HM.out.stay HB6.out)⟩
   ·have hf0 : (z != 0) = true := bne_iff_ne.2 hz0
    have HE3 := HE2.out;rw [if_neg hz0] at HE3;go_wp2_with fail;refine (qbf 8 _).mono ?_;rintro _ w7 ⟨rfl, rfl⟩;go_wp2_with fail;refine ((HC.out.below (HM.out.after HB6.out).below).kind_any (HS.out.below (HM.out.after HB6.out).below) p (by omega)).mono ?_;rintro _ w8 ⟨rfl, hb8⟩;rw [HZ.out];have HB8 := q4z (HB6.out.trans (hb8.mono HB6.out.size));have cb8 := (hb8.cell (p := ⟨bx, 0, none⟩) (q40 w6 _ cb6)).trans cb6;have k108 := (hb8.block bt (q41 k106).1).trans k106;have ct8 : w8.cell? ⟨bt, 0, none⟩ = some (.string (S tp)) := by rw [cell_of_row w8 _ _ _ _ _ k108]; rfl
    clear hb8 HB6 cb6 k106;by_cases hz1 : z = 1
    ·subst hz1
     obtain ⟨k, hk⟩ := HCs.out rfl;rw [if_pos rfl] at HE3;have HE4 := q4z (show qdu c l wk src dst = .error k by rw [HE3]; unfold qn5; rw [hk]);have hmd := qir (HM.out.after HB8.out) HS.out tp (by omega) (by omega);rw [hk] at hmd;have HMd := q4z hmd;clear HE3 hk hmd;go_wp2_with fail;refine HMd.out.mono ?_;rintro e w9 ⟨rfl, hb9, hd9⟩;exact ⟨rfl, StOut.err HE4.out hb9 ((HM.out.stay HB8.out).trans hd9)⟩
    ·have hf1 : (z == 1) = false := beq_eq_false_iff_ne.2 hz1
     rw [if_neg hz1] at HE3;have HE4 := q4z HE3;clear HE3;go_upto_region 12 with fail;obtain ⟨c0, _, _⟩ := (HM.out.after HB8.out).cells;obtain ⟨sf, hsf⟩ : ∃ sf, ([47] : List UInt8).isSuffixOf dst = sf := ⟨_, rfl⟩;have HSx := q4z (fun wx => qw0 dst wx (by omega));rw [hsf] at HSx;have HSf := q4z hsf;clear hsf;go_cut [62] (fun v wx => v = .bool (sf || qbc l tp == 1) ∧ Hid (Below w8.heap.size w8 wx))
     case first =>
      have HKd := q4z (qlk (HM.out.after HB8.out).drew (HS.out.below (HM.out.after HB8.out).drew.below) tp (by omega));have t1 := fun (wx : World) (hb : Below w8.drew.heap.size w8.drew wx) => (qbn (Below.refl w8.heap.size w8)).trans hb
      cases sf
      ·go_region_with (first
        | (go_at_call 131; refine (HSx.out _).mono ?_; rintro e1 w9 ⟨rfl, rfl⟩)
        | (go_at_call 69; refine HKd.out.mono ?_; rintro e1 w9 ⟨rfl, hb9⟩; have HB9 := q4z (t1 w9 hb9); clear hb9))
       all_goals
        go_wp2;go_meet
        exact ⟨rfl, HB9⟩
      ·go_region_with (go_at_call 131; refine (HSx.out _).mono ?_; rintro e1 w9 ⟨rfl, rfl⟩)
       all_goals
        go_wp2;go_meet
        exact ⟨rfl, q4z (qbn (Below.refl _ _))⟩
     case rest =>
      obtain ⟨rfl, HB9⟩ := hcut;have HB10 := q4z (HB8.out.trans (HB9.out.mono HB8.out.size));have cb9 := (HB9.out.cell (p := ⟨bx, 0, none⟩) (q40 w8 _ cb8)).trans cb8;have k109 := (HB9.out.block bt (q41 k108).1).trans k108;have hpn : p ≠ [] := fun e => hz1 (by rw [← HZ.out, e]; rfl)
      have HPn := q4z hpn;obtain ⟨en, hen⟩ : ∃ e, qf4 c p = some e := by
       have hk := HZ.out;unfold qbc at hk;rw [if_neg hpn] at hk;unfold qf4;cases hf : c.find? (fun e => decide (e.path = p)) with
       | some e => exact ⟨e, rfl⟩
       | none => rw [hf] at hk; exact absurd hk.symm hz0
      have HEn := q4z hen;have HFt := q4z (show qne l tp dst p = if (sf || qbc l tp == 1) = true then inB tp (upB p).2 else tp by
       unfold qne;rw [HSf.out];simp only [Bool.or_eq_true, beq_iff_eq])
      have hlast : (upB p).2.length ≤ 60 := (qba (qdm HP.out HPn.out).2).2.1;clear HB8 HB9 cb8 k108 ct8 c0 hpn hen;obtain ⟨b, hb⟩ : ∃ b, (sf || qbc l tp == 1) = b := ⟨_, rfl⟩;rw [hb] at HFt ⊢;clear hb;go_upto_if 62 with fail
      go_cut [13, 14] (fun v13 v14 wx => ∃ tq : List UInt8, Hid (qne l tp dst p = tq) ∧ tq.length ≤ 400 ∧ Hid (Below w.heap.size w wx) ∧ wx.cell? ⟨bx, 0, none⟩ = some (.pointer (some ⟨g, 0, none⟩)) ∧ wx.heap[bt]? = some (.cells #[.string (S tq)] 9 (0, 0)))
      case first =>
       cases b
       ·go_wp2
        go_meet
        exact ⟨tp, q4z (by rw [HFt.out]; rfl), by omega, HB10, cb9, k109⟩
       ·go_wp2_with fail
        refine (qdn p HPn.out (by omega) _).mono ?_;rintro _ w10 ⟨rfl, hb10⟩;have HB11 := q4z (HB10.out.trans (hb10.mono HB10.out.size));have cb10 := (hb10.cell (p := ⟨bx, 0, none⟩) (q40 wc _ cb9)).trans cb9;have k1010 := (hb10.block bt (q41 k109).1).trans k109;have ct10 : w10.cell? ⟨bt, 0, none⟩ = some (.string (S tp)) := by rw [cell_of_row w10 _ _ _ _ _ k1010]; rfl
        have cf10 : w10.frozen? ⟨bt, 0, none⟩ = false := frozen_of_row _ _ _ _ _ k1010;clear hb10 HB10 cb9 k109;obtain ⟨la, hla⟩ : ∃ la, (upB p).2 = la := ⟨_, rfl⟩;rw [hla] at hlast HFt ⊢;clear hla;go_wp2_with fail;refine (qe2 tp la _ (by omega)).mono ?_;rintro _ w11 ⟨rfl, rfl⟩;go_wp2;go_meet
        exact ⟨inB tp la, q4z (by rw [HFt.out, if_pos trivial]), by unfold inB; split <;> simp only [List.length_append, List.length_cons] <;> omega, q4z (HB11.out.setCell (by show w.heap.size ≤ bt; omega) _),
         (World.cell?_setCell_far _ _ _ _ (by show bt ≠ bx; omega)).trans cb10, heap_setCell_same w10 bt 0 _ _ _ k1010⟩
      case rest =>
       obtain ⟨tq, HTq, htq, HBq, cbq, kq⟩ := hcut;have HE5 := HE4.out;unfold qn3 at HE5;rw [HTq.out] at HE5;have ctq : wc.cell? ⟨bt, 0, none⟩ = some (.string (S tq)) := by rw [cell_of_row _ _ _ _ _ _ kq]; rfl
       clear HB10 cb9 k109 HTq HFt HE4;by_cases htn : tq = []
       ·subst htn
        rw [if_pos rfl] at HE5;have HE6 := q4z HE5;clear HE5;go_wp2_with fail;refine (qcl 9 _).mono ?_;rintro _ w12 ⟨rfl, rfl⟩;exact ⟨rfl, StOut.err HE6.out (HM.out.after HBq.out).below (HM.out.stay HBq.out)⟩
       ·rw [if_neg htn] at HE5
        have HE6 := q4z HE5;have htf : tq.isEmpty = false := List.isEmpty_eq_false_iff.2 htn;have HTn := q4z htn;clear HE5 htn;go_wp2_with fail;refine (qbf 9 _).mono ?_;rintro _ w12 ⟨rfl, rfl⟩;go_wp2_with fail;refine (qdn tq HTn.out (by omega) _).mono ?_;rintro _ w13 ⟨rfl, hb13⟩;have HB13 := q4z (HBq.out.trans (hb13.mono HBq.out.size));have cb13 := (hb13.cell (p := ⟨bx, 0, none⟩) (q40 wc _ cbq)).trans cbq;have ct13 := (hb13.cell (p := ⟨bt, 0, none⟩) (q40 wc _ ctq)).trans ctq;have hul := qku tq;clear hb13 HBq cbq ctq kq;have hmd := qir (HM.out.after HB13.out) HS.out (upB tq).1 (by omega) (by omega);have HMd := q4z hmd;clear hmd;go_wp2_with fail;refine HMd.out.mono ?_;intro e w14 ho
        cases hmk : qgg l (upB tq).1 with
        | error k =>
         rw [hmk] at ho;obtain ⟨rfl, hb14, hd14⟩ := ho;exact ⟨rfl, StOut.err (by rw [HE6.out, hmk]) hb14 ((HM.out.stay HB13.out).trans hd14)⟩
        | ok l1 =>
         rw [hmk] at ho;obtain ⟨rfl, hm14, hk14, hd14⟩ := ho;have HM14 := q4z hm14;have HK14 := q4z ((KeepC.below HB13.out).trans hk14);have HD14 := q4z ((HM.out.stay HB13.out).trans hd14);have cb14 := hk14 _ _ cb13;have ct14 := hk14 _ _ ct13;have HE7 := q4z (show qdu c l wk src dst = layE l1 ⟨tq, en.kind, en.mode, en.data⟩ by rw [HE6.out, hmk]; simp only [HEn.out]);have hgd := (HC.out.1.each en (List.mem_of_find?_eq_some HEn.out)).2.2;have HGd := q4z (show qbm ⟨tq, en.kind, en.mode, en.data⟩ = true by unfold qbm at hgd ⊢; exact hgd);clear hm14 hk14 hd14 cb13 ct13 HE6 hmk hgd HMd;go_wp2_with fail
         refine ((HC.out.below HM14.out.below).entry_any (HS.out.below HM14.out.below) p (by omega) HPn.out HP.out en HEn.out).mono ?_;rintro _ w15 ⟨rfl, hb15⟩;have HM15 := q4z (HM14.out.after hb15);have HK15 := q4z (HK14.out.trans (KeepC.below hb15));have HD15 := q4z (HD14.out.trans (HM14.out.stay hb15));have cb15 := (hb15.cell (p := ⟨bx, 0, none⟩) (q40 _ _ cb14)).trans cb14;have ct15 := (hb15.cell (p := ⟨bt, 0, none⟩) (q40 _ _ ct14)).trans ct14;clear hb15 HM14 HK14 HD14 cb14 ct14;rw [show Ent.agg ⟨p, en.kind, en.mode, en.data⟩ = .agg #[.string (S p), .int .i64 en.kind, .int .i64 en.mode, .string (S en.data)] from rfl];go_upto_region 19 with fail
         have hb16 : Below w15.heap.size w15 (w15.alloc (.cells #[.string (S p), .int .i64 en.kind, .int .i64 en.mode, .string (S en.data)] 47)) := (Below.refl _ _).alloc (Nat.le_refl _) _;have k16 := Go.heap_alloc_new w15 (.cells #[.string (S p), .int .i64 en.kind, .int .i64 en.mode, .string (S en.data)] 47);have cb16 := (hb16.cell (p := ⟨bx, 0, none⟩) (q40 _ _ cb15)).trans cb15;have ct16 := (hb16.cell (p := ⟨bt, 0, none⟩) (q40 _ _ ct15)).trans ct15;have hbx5 := q40 _ _ cb15;have hz5 : w15.heap.size ≤ w15.heap.size := Nat.le_refl _;generalize w15.alloc (.cells #[.string (S p), .int .i64 en.kind, .int .i64 en.mode, .string (S en.data)] 47) = w16 at hb16 k16 cb16 ct16 ⊢
         generalize hbe : w15.heap.size = be at k16 hbx5 hz5 ⊢;have e0 : w16.cell? ⟨be, 0, none⟩ = some (.string (S p)) := by rw [cell_of_row _ _ _ _ _ _ k16]; rfl
         have e9 : w16.frozen? ⟨be, 0, none⟩ = false := frozen_of_row _ _ _ _ _ k16;go_upto_region 20 with fail;have k17 := heap_setCell_same w16 be 0 _ _ (.string (S tq)) k16;have hb17 : Below w15.heap.size w15 (w16.setCell ⟨be, 0, none⟩ (.string (S tq))) := hb16.setCell (by show w15.heap.size ≤ be; omega) _;have cb17 : (w16.setCell ⟨be, 0, none⟩ (.string (S tq))).cell? ⟨bx, 0, none⟩ = some (.pointer (some ⟨g, 0, none⟩)) := (World.cell?_setCell_far _ _ _ _ (by show be ≠ bx; exact fun e => Nat.lt_irrefl _ (e ▸ hbx5))).trans cb16;generalize w16.setCell ⟨be, 0, none⟩ (.string (S tq)) = w17 at k17 hb17 cb17 ⊢
         have q0 : w17.cell? ⟨be, 0, none⟩ = some (.string (S tq)) := by rw [cell_of_row _ _ _ _ _ _ k17]; rfl
         have q1 : w17.cell? ⟨be, 1, none⟩ = some (.int .i64 en.kind) := by rw [cell_of_row _ _ _ _ _ _ k17]; rfl
         have q2 : w17.cell? ⟨be, 2, none⟩ = some (.int .i64 en.mode) := by rw [cell_of_row _ _ _ _ _ _ k17]; rfl
         have q3 : w17.cell? ⟨be, 3, none⟩ = some (.string (S en.data)) := by rw [cell_of_row _ _ _ _ _ _ k17]; rfl
         have HM17 := q4z (HM15.out.after hb17);have HK17 := q4z (HK15.out.trans (KeepC.below hb17));have HD17 := q4z (HD15.out.trans (HM15.out.stay hb17));clear hb16 k16 cb16 ct16 e0 e9 k17 hb17 HM15 HK15 HD15 cb15 ct15 hbe;go_wp2_with fail;refine (qyd HM17.out HS.out ⟨tq, en.kind, en.mode, en.data⟩ (by show tq.length ≤ 5000; omega) HTn.out HGd.out (by omega)).mono ?_;intro e w18 ho;cases hly : layE l1 ⟨tq, en.kind, en.mode, en.data⟩ with
         | error k =>
          rw [hly] at ho;obtain ⟨rfl, hb18, hd18⟩ := ho;exact ⟨rfl, StOut.err (by rw [HE7.out, hly]) hb18 (HD17.out.trans hd18)⟩
         | ok l2 =>
          rw [hly] at ho;obtain ⟨rfl, hm18, hk18, hd18⟩ := ho;have HE8 := q4z (show qdu c l wk src dst = .ok l2 by rw [HE7.out, hly]);have HM18 := q4z hm18;have HK18 := q4z (HK17.out.trans hk18);have HD18 := q4z (HD17.out.trans hd18);clear hm18 hk18 hd18 HM17 HK17 HD17 hly HE7 q0 q1 q2 q3 cb17;go_wp2;go_end0
          exact StOut.ok HE8.out HM18.out HK18.out HD18.out
theorem qq7 {w : World} {B N : Nat} {a m : Pth → Nat} {F : qaf} (hT : TreeAt w B N a m F) (t : Nat) (ht : TreeV w t a) (p : List UInt8) (hp : qa3 p = true) (hne : p ≠ []) (hS : Std w) (hW : F (qaa p) = none) :
 Calls Tryz.prog 71 #[.pointer (some ⟨t, 0, none⟩), .string (S p)] w fun e w' => e = .returned (.bool false) ∧ Below w.heap.size w w' := by
 obtain ⟨hpl, hel⟩ := qa9 hp;have hupl := qku p;have hup := q4z (qdz hp);obtain ⟨hLD, hlE⟩ := qdm hp hne;have hlast : (upB p).2.length ≤ maxLen := by have := (qba hlE).2.1; unfold maxLen; omega
 have fp : p.isEmpty = false := by rw [List.isEmpty_eq_false_iff]; exact hne
 clear hlE;have HLD := q4z hLD;have HT := q4z hT;have HV := q4z ht;have HS := q4z hS;have HW := q4z hW;clear hT ht hS hel hLD hW;go_enter Tryz.func71, Tryz.ntmps71;go_wp2_with fail;refine (qdn p hne (by omega) _).mono ?_;rintro e w1 ⟨rfl, hb1⟩;have HB1 := q4z hb1;clear hb1;generalize hq1 : (upB p).1 = up at hup hupl ⊢;generalize hq2 : (upB p).2 = last at hlast hupl HLD ⊢;clear hq1 hq2;go_wp2_with fail;refine (qfb (HT.out.below HB1.out) t (HV.out.below HB1.out) up (by omega) (HS.out.below HB1.out)).mono ?_;rintro e w2 ⟨rfl, hb2⟩;rw [hup.out];have HB2 := q4z (HB1.out.trans (hb2.mono HB1.out.size));clear hb2 HB1 hup hne;generalize hD : (qaa p).dropLast = D at *
 have HT2 := q4z (HT.out.below HB2.out);cases hF : F D with
 | none =>
  rw [qhu hF];clear hF;go_wp2;go_ret;exact ⟨rfl, HB2.out⟩
 | some y =>
  rw [qel hF];obtain ⟨_, n1, _, _, n4⟩ := HT2.out.cells D y hF;have hlk := HT2.out.look D y hF last hlast;rw [← HLD.out, HW.out] at hlk;replace hlk : (Instr.lookup tMap (mapV y (m D)) (.string (S last)) false).run Tryz.prog w2 = .ok (.pointer none) w2 := hlk;clear hF;go_wp2;go_ret;exact ⟨rfl, HB2.out⟩
theorem qo3 {w0 w : World} {n : Nat} {l : List Ent} {t g mb : Nat} {E : Obj → Prop} {D : Nat → Prop} {wk : List UInt8} (h : StM w0 w n l t g mb E D wk) (hS : Std w) (p : List UInt8) (hp : qa3 p = true) (hne : p ≠ []) (hk : qf4 l p = none) :
 Calls Tryz.prog 71 #[.pointer (some ⟨t, 0, none⟩), .string (S p)] w fun e w' => e = .returned (.bool false) ∧ Below w.heap.size w w' := by
 obtain ⟨N, a, m, _, h2, h3, _⟩ := h.tree;exact qq7 h2 t h3 p hp hne hS (by rw [qlt h.lst hne hp, hk]; rfl)
structure DoorS (D : Nat → Prop) (w W : World) (b : Nat) : Prop where
 cell : W.heap[b]? = some (.cells #[.int .i64 0] 27 (0, 0))
 low : w.heap.size ≤ b
 stay : StayD D w W
 dlt : ∀ k, D k → k < w.heap.size
theorem DoorS.after {D : Nat → Prop} {w W W' : World} {b : Nat} (h : DoorS D w W b) (hb : Below W.heap.size W W') : DoorS D w W' b := ⟨(hb.block b (q41 h.cell).1).trans h.cell, h.low, h.stay.trans ⟨hb.size, fun k hk => hb.block k (Nat.lt_of_lt_of_le (h.dlt k hk) h.stay.1)⟩, h.dlt⟩
theorem DoorS.facts {D : Nat → Prop} {w W : World} {b : Nat} (h : DoorS D w W b) : W.cell? ⟨b, 0, none⟩ = some (.int .i64 0) ∧ W.frozen? ⟨b, 0, none⟩ = false := by
 refine ⟨?_, frozen_of_row _ _ _ _ _ h.cell⟩;rw [cell_of_row _ _ _ _ _ _ h.cell]; rfl
theorem DoorS.poke {D : Nat → Prop} {w W : World} {b : Nat} (h : DoorS D w W b) (v : Value) : StayD D w (W.setCell ⟨b, 0, none⟩ v) := h.stay.trans ⟨by simp, fun k hk => heap_setCell_other W ⟨b, 0, none⟩ k _ (fun e => by have h1 := h.dlt k hk; have h2 := h.low; simp only at e; omega)⟩
theorem DoorS.caught {D : Nat → Prop} {w W : World} {b : Nat} (h : DoorS D w W b) (k : Int) (w0 : World) (hb : Below w0.heap.size w0 W) (hl : w0.heap.size ≤ b) :
 ((W.alloc (.cells #[.int .i64 k] qgl)).setCell ⟨b, 0, none⟩ (.int .i64 k)).cell? ⟨b, 0, none⟩ = some (.int .i64 k) ∧ Below w0.heap.size w0 ((W.alloc (.cells #[.int .i64 k] qgl)).setCell ⟨b, 0, none⟩ (.int .i64 k)) ∧ StayD D w ((W.alloc (.cells #[.int .i64 k] qgl)).setCell ⟨b, 0, none⟩ (.int .i64 k)) := by
 have hbA : Below W.heap.size W (W.alloc (.cells #[.int .i64 k] qgl)) := (Below.refl _ _).alloc (Nat.le_refl _) _;have hc := (h.after hbA).facts.1;exact ⟨World.cell?_setCell_same' _ ⟨b, 0, none⟩ _ (by rw [hc]; rfl), (hb.trans (hbA.mono hb.size)).setCell hl _, (h.after hbA).poke _⟩
theorem q4v {w0 w : World} {n : Nat} {l : List Ent} {t g mb : Nat} {E : Obj → Prop} {D : Nat → Prop} {wk : List UInt8} (h : StM w0 w n l t g mb E D wk) (hS : Std w0) (W : List (List UInt8)) (hWn : W.length ≤ 4) (hW : ∀ x ∈ W, x.length ≤ 180) (A : Option Addr) (cap : Nat) (hA : Rd w A (strs W)) (ws : Value) (sg xa : Int) (fr : Value) (x p : List UInt8) (hWx : W = [x]) (hp : wayL wk x = .ok p) (hpn : p ≠ []) (hf : qf4 l p = none) :
 Calls Tryz.prog 59 #[.pointer (some ⟨g, 0, none⟩), .agg #[.int .i64 3, ws, .int .i64 sg, .int .i64 xa], .slice A W.length cap, fr] w fun e w' => e = .returned (.int .i64 8) ∧ Below w0.heap.size w0 w' ∧ StayD (fun k => D k ∧ k ≠ g) w w' := by
 have hmf : ∀ (fn : Fn) (first cap : Array Value) (w : World), (Instr.makeFunc fn first cap).run Tryz.prog w = .ok (.func fn first cap) w := fun _ _ _ _ => rfl
 have HM0 := q4z h;have HS := q4z hS;have HA := q4z hA;have HWl := q4z hW;have HWx := q4z hWx;have HP := q4z hp;have HPn := q4z hpn;have HF := q4z hf;clear h hS hA hW hWx hp hpn hf;go_enter_defers Tryz.func59, Tryz.ntmps59;go_wp2;have hb2 : Below w.heap.size w ((w.alloc (.cells #[.int .i64 3, ws, .int .i64 sg, .int .i64 xa] 123)).alloc (.cells #[.int .i64 0] 27)) := ((Below.refl _ _).alloc (Nat.le_refl _) _).alloc (by simp) _;have hd2 : DoorS (fun k => D k ∧ k ≠ g) w ((w.alloc (.cells #[.int .i64 3, ws, .int .i64 sg, .int .i64 xa] 123)).alloc (.cells #[.int .i64 0] 27)) (w.heap.size + 1) := ⟨by
  have := Go.heap_alloc_new (w.alloc (.cells #[.int .i64 3, ws, .int .i64 sg, .int .i64 xa] 123)) (.cells #[.int .i64 0] 27);rwa [World.size_alloc] at this, by omega, ⟨hb2.size, fun k hk => hb2.block k (HM0.out.dlt k hk.1)⟩, fun k hk => HM0.out.dlt k hk.1⟩
 have ck : ((w.alloc (.cells #[.int .i64 3, ws, .int .i64 sg, .int .i64 xa] 123)).alloc (.cells #[.int .i64 0] 27)).cell? ⟨w.heap.size, 0, none⟩ = some (.int .i64 3) := by
  rw [cell_of_row _ _ _ _ _ _ ((Below.heap_alloc (w.alloc (.cells #[.int .i64 3, ws, .int .i64 sg, .int .i64 xa] 123)) _ w.heap.size (by simp)).trans (Go.heap_alloc_new w _))]; rfl
 generalize ((w.alloc (.cells #[.int .i64 3, ws, .int .i64 sg, .int .i64 xa] 123)).alloc (.cells #[.int .i64 0] 27)) = w2 at hb2 hd2 ck ⊢;have hbs : w0.heap.size ≤ w.heap.size + 1 := by have := HM0.out.below.size; omega
 generalize hbe : w.heap.size + 1 = be at hd2 hbs ⊢;generalize hbb : w.heap.size = bb at ck ⊢;have HD := q4z hd2;have HK2 := q4z (KeepC.below hb2);have HM := q4z (HM0.out.after hb2);have HA2 := q4z (HA.out.below hb2);clear hb2 hd2 HM0 HA;go_loopw [20] (fun vi wr => ∃ q : Nat, q ≤ W.length ∧ vi = .int .i64 q ∧ wr = w2) (fun vi _ => W.length - (intOf vi).toNat)
 case atStart => exact ⟨0, Nat.zero_le _, rfl, rfl⟩
 case round =>
  obtain ⟨q, hq, rfl, rfl⟩ := hrel;by_cases hlt : q < W.length
  ·obtain ⟨b, o, hbA, hbb2, hc⟩ := HA2.out.at q (by rw [qb2]; exact hlt)
   subst hbA;have c0 := hc q _ (qcg hlt);have hl1 := HWl.out _ (List.getElem_mem hlt);obtain ⟨x, hx⟩ : ∃ x, W[q] = x := ⟨_, rfl⟩;rw [hx] at c0 hl1;have hl2 : ((x.length : Int) ≤ 180) := by omega
   have hql : (q : Int) < (W.length : Int) := by omega
   clear hc hx;go_wp2_with fail;refine (qbf 10 _).mono ?_;rintro _ w3 ⟨rfl, rfl⟩;go_wp2;go_roundw
   case rel => exact ⟨q + 1, by omega, by go_num, trivial⟩
   case measure => simp [intOf]; omega
  ·obtain rfl : q = W.length := by omega
   have hx180 : x.length ≤ 180 := HWl.out x (by rw [HWx.out]; simp);clear hlt hq HWl;obtain rfl := HWx.out;obtain ⟨b, o, hbA, _, hc⟩ := HA2.out.at 0 (by simp [strs]);subst hbA;have c0 : wr.cell? ⟨b, o, none⟩ = some (.string (S x)) := by simpa using hc 0 _ rfl
   clear hc;go_wp2_with fail;refine (qhi HM.out (HS.out.below HM.out.below) x (by omega)).mono ?_;intro e w3 ⟨ho, hb3⟩;rw [HP.out] at ho;obtain rfl : e = .returned (.string (S p)) := ho;have HM3 := q4z (HM.out.after hb3);have HD3 := q4z (HD.out.after hb3);have hpn : p.isEmpty = false := List.isEmpty_eq_false_iff.2 HPn.out;have hpp := qfv HP.out;have HPp := q4z hpp;clear hb3 HM HD hpp;go_wp2_with fail;refine (qbf 9 _).mono ?_;rintro _ w4 ⟨rfl, rfl⟩;obtain ⟨g0, _, _⟩ := HM3.out.cells;go_wp2_with fail;refine (qo3 HM3.out (HS.out.below HM3.out.below) p HPp.out HPn.out HF.out).mono ?_;rintro _ w5 ⟨rfl, hb5⟩;have HM5 := q4z (HM3.out.after hb5);have HD5 := q4z (HD3.out.after hb5);clear hb5 HM3 HD3
   go_wp2_with fail;refine (qcl 8 _).mono ?_;rintro _ w6 ⟨rfl, rfl⟩;obtain ⟨d1, d2⟩ := HD5.out.facts;refine leaves_cons (f := 92) (args := #[.pointer (some ⟨be, 0, none⟩)]) (by simp) (by simp [go_sem]) ?_;refine (qbq be 8 [] _ _ d1 d2).mono ?_;rintro e u' w'' ⟨rfl, rfl, rfl⟩;obtain ⟨r1, r2⟩ := HD5.out.caught 8 w0 HM5.out.below hbs;simp [Leaves, settle, results, Tryz.results59, go_sem, r1]
   exact r2
def lenE (l : List Ent) (wk : List UInt8) : Except Int (List Ent × List UInt8) := if l.length ≤ 40 then .ok (l, wk) else .error 10
def DoOut (w0 w : World) (n t g mb : Nat) (E : Obj → Prop) (D : Nat → Prop) (r : Except Int (List Ent × List UInt8)) (e : Ending) (w' : World) : Prop := match r with
 | .ok (l2, wk2) => e = .returned (.int .i64 0) ∧ StM w0 w' n l2 t g mb E D wk2 ∧ StayD (fun k => D k ∧ k ≠ g) w w'
 | .error k => e = .returned (.int .i64 k) ∧ Below w0.heap.size w0 w' ∧ StayD (fun k => D k ∧ k ≠ g) w w'
theorem DoOut.err {w0 w w' : World} {n t g mb : Nat} {E : Obj → Prop} {D : Nat → Prop} {r : Except Int (List Ent × List UInt8)} {k : Int} (h : r = .error k) (hb : Below w0.heap.size w0 w' ∧ StayD (fun k => D k ∧ k ≠ g) w w') : DoOut w0 w n t g mb E D r (.returned (.int .i64 k)) w' := by subst h; exact ⟨rfl, hb⟩
theorem DoOut.ok {w0 w w' : World} {n m t g mb : Nat} {E : Obj → Prop} {D : Nat → Prop} {r : Except Int (List Ent × List UInt8)} {l2 : List Ent} {wk2 : List UInt8} (h : r = .ok (l2, wk2)) (hm : StM w0 w' m l2 t g mb E D wk2 ∧ StayD (fun k => D k ∧ k ≠ g) w w') (hn : m ≤ n) : DoOut w0 w n t g mb E D r (.returned (.int .i64 0)) w' := by subst h; exact ⟨rfl, hm.1.mono hn, hm.2⟩
theorem qkf {w0 w : World} {n : Nat} {l : List Ent} {t g mb : Nat} {E : Obj → Prop} {D : Nat → Prop} {wk : List UInt8} (h : StM w0 w n l t g mb E D wk) (hS : Std w) (hn : n ≤ 2000000000) :
 Calls Tryz.prog 72 #[.pointer (some ⟨t, 0, none⟩)] w fun e w' => e = .returned (.int .i64 l.length) ∧ Below w.heap.size w w' := by
 obtain ⟨N, a, m, h1, h2, h3, _⟩ := h.tree;exact qyc h2 h.lst.fine (by omega) hS t h3 l (h.lst.walk h2.tree) (by have := h.len; omega) _ h.lst.root
theorem DoorS.stayed {D D' : Nat → Prop} {w W W' : World} {b : Nat} (h : DoorS D w W b) (hd : StayD D' W W') (hD : D' b) (hw : ∀ k, D k → D' k := by exact fun k hk => .inl hk.1) : DoorS D w W' b := ⟨(hd.2 b hD).trans h.cell, h.low, h.stay.trans ⟨hd.1, fun k hk => hd.2 k (hw k hk)⟩, h.dlt⟩
theorem StM.finish {w0 w wl : World} {n : Nat} {l : List Ent} {t g mb be : Nat} {E : Obj → Prop} {D : Nat → Prop} {wk : List UInt8} (h : StM w0 wl n l t g mb E (fun k => D k ∨ k = be) wk) (hd : DoorS (fun k => D k ∧ k ≠ g) w wl be) (hg : g ≠ be) (ht : t ≠ be) (hm : mb ≠ be) (hl : w0.heap.size ≤ be) (hDm : D mb) :
 ((wl.setCell ⟨be, 0, none⟩ (.int .i64 0)).alloc (.cells #[.int .i64 0] qgl)).cell? ⟨be, 0, none⟩ = some (.int .i64 0) ∧ StM w0 ((wl.setCell ⟨be, 0, none⟩ (.int .i64 0)).alloc (.cells #[.int .i64 0] qgl)) n l t g mb E D wk ∧ StayD (fun k => D k ∧ k ≠ g) w ((wl.setCell ⟨be, 0, none⟩ (.int .i64 0)).alloc (.cells #[.int .i64 0] qgl)) := by
 have hb : Below (wl.setCell ⟨be, 0, none⟩ (.int .i64 0)).heap.size (wl.setCell ⟨be, 0, none⟩ (.int .i64 0)) ((wl.setCell ⟨be, 0, none⟩ (.int .i64 0)).alloc (.cells #[.int .i64 0] qgl)) := (Below.refl _ _).alloc (Nat.le_refl _) _;have hc : (wl.setCell ⟨be, 0, none⟩ (.int .i64 0)).cell? ⟨be, 0, none⟩ = some (.int .i64 0) := World.cell?_setCell_same' _ ⟨be, 0, none⟩ _ (by rw [hd.facts.1]; rfl);have h1 := h.poke be (w' := wl.setCell ⟨be, 0, none⟩ (.int .i64 0)) (.inr rfl) hg ht hm (h.below.setCell hl _) (by simp) (fun i hi _ => heap_setCell_other wl ⟨be, 0, none⟩ i _ hi)
 exact ⟨(hb.cell (q40 _ _ hc)).trans hc, h1.guard hb (fun k hk => .inl (.inl hk)) hDm, (hd.poke _).trans ⟨hb.size, fun k hk => hb.block k (by have h1 := hd.dlt k hk; have h2 := hd.stay.1; simp; omega)⟩⟩
def mkE (l : List Ent) (wk x : List UInt8) : Except Int (List Ent × List UInt8) := match wayL wk x with
 | .error k => .error k
 | .ok p => match qgg l p with
  | .error k => .error k
  | .ok l2 => lenE l2 wk
def qwb (l : List Ent) (wk x : List UInt8) : Except Int (List Ent × List UInt8) := match wayL wk x with
 | .error k => .error k
 | .ok p => match qgg l p with
  | .error k => .error k
  | .ok l2 => lenE l2 p
theorem q1c {w0 w : World} {n : Nat} {l : List Ent} {t g mb : Nat} {E : Obj → Prop} {D : Nat → Prop} {wk : List UInt8} (h : StM w0 w n l t g mb E D wk) (hS : Std w0) (hn : n < 1000000000) (W : List (List UInt8)) (hWn : W.length ≤ 4) (hW : ∀ x ∈ W, x.length ≤ 180) (A : Option Addr) (cap : Nat) (hA : Rd w A (strs W)) (ws : Value) (sg xa : Int) (fr : Value) (x : List UInt8) (hWx : W = [x]) :
 Calls Tryz.prog 59 #[.pointer (some ⟨g, 0, none⟩), .agg #[.int .i64 4, ws, .int .i64 sg, .int .i64 xa], .slice A W.length cap, fr] w fun e w' => DoOut w0 w (n + 2000) t g mb E D (mkE l wk x) e w' := by
 have hmf : ∀ (fn : Fn) (first cap : Array Value) (w : World), (Instr.makeFunc fn first cap).run Tryz.prog w = .ok (.func fn first cap) w := fun _ _ _ _ => rfl
 obtain ⟨R, hR⟩ : ∃ R, mkE l wk x = R := ⟨_, rfl⟩;rw [hR];have HR := q4z hR;have HM0 := q4z h;have HS := q4z hS;have HA := q4z hA;have HWl := q4z hW;have HWx := q4z hWx;clear h hS hA hW hR hWx;go_enter_defers Tryz.func59, Tryz.ntmps59;go_wp2;have hb2 : Below w.heap.size w ((w.alloc (.cells #[.int .i64 4, ws, .int .i64 sg, .int .i64 xa] 123)).alloc (.cells #[.int .i64 0] 27)) := ((Below.refl _ _).alloc (Nat.le_refl _) _).alloc (by simp) _;have hd2 : DoorS (fun k => D k ∧ k ≠ g) w ((w.alloc (.cells #[.int .i64 4, ws, .int .i64 sg, .int .i64 xa] 123)).alloc (.cells #[.int .i64 0] 27)) (w.heap.size + 1) := ⟨by
  have := Go.heap_alloc_new (w.alloc (.cells #[.int .i64 4, ws, .int .i64 sg, .int .i64 xa] 123)) (.cells #[.int .i64 0] 27);rwa [World.size_alloc] at this, by omega, ⟨hb2.size, fun k hk => hb2.block k (HM0.out.dlt k hk.1)⟩, fun k hk => HM0.out.dlt k hk.1⟩
 have ck : ((w.alloc (.cells #[.int .i64 4, ws, .int .i64 sg, .int .i64 xa] 123)).alloc (.cells #[.int .i64 0] 27)).cell? ⟨w.heap.size, 0, none⟩ = some (.int .i64 4) := by
  rw [cell_of_row _ _ _ _ _ _ ((Below.heap_alloc (w.alloc (.cells #[.int .i64 4, ws, .int .i64 sg, .int .i64 xa] 123)) _ w.heap.size (by simp)).trans (Go.heap_alloc_new w _))]; rfl
 generalize ((w.alloc (.cells #[.int .i64 4, ws, .int .i64 sg, .int .i64 xa] 123)).alloc (.cells #[.int .i64 0] 27)) = w2 at hb2 hd2 ck ⊢;have hbs : w0.heap.size ≤ w.heap.size + 1 := by have := HM0.out.below.size; omega
 have hgb : g ≠ w.heap.size + 1 := by have := (q41 HM0.out.blk).1; omega
 have htb : t ≠ w.heap.size + 1 := by obtain ⟨_, _, _, _, _, h3, _⟩ := HM0.out.tree; have := q40 _ _ h3; simp only at this; omega
 have hmb : mb ≠ w.heap.size + 1 := by have := HM0.out.dlt _ HM0.out.dmb; omega
 have hDm := HM0.out.dmb;generalize hbe : w.heap.size + 1 = be at hd2 hbs hgb htb hmb ⊢;generalize hbb : w.heap.size = bb at ck ⊢;have HD := q4z hd2;have hbe2 := (q41 hd2.cell).1;have HM := q4z (HM0.out.guard (D' := fun k => D k ∨ k = be) hb2 (fun k hk => hk.elim .inl fun e => .inr (by omega)) (.inl hDm));have HA2 := q4z (HA.out.below hb2);clear hb2 hd2 HM0 HA hbe2;go_loopw [20] (fun vi wr => ∃ q : Nat, q ≤ W.length ∧ vi = .int .i64 q ∧ wr = w2) (fun vi _ => W.length - (intOf vi).toNat)
 case atStart => exact ⟨0, Nat.zero_le _, rfl, rfl⟩
 case round =>
  obtain ⟨q, hq, rfl, rfl⟩ := hrel;by_cases hlt : q < W.length
  ·obtain ⟨b, o, hbA, hbb2, hc⟩ := HA2.out.at q (by rw [qb2]; exact hlt)
   subst hbA;have c0 := hc q _ (qcg hlt);have hl1 := HWl.out _ (List.getElem_mem hlt);obtain ⟨x, hx⟩ : ∃ x, W[q] = x := ⟨_, rfl⟩;rw [hx] at c0 hl1;have hl2 : ((x.length : Int) ≤ 180) := by omega
   have hql : (q : Int) < (W.length : Int) := by omega
   clear hc hx;go_wp2_with fail;refine (qbf 10 _).mono ?_;rintro _ w3 ⟨rfl, rfl⟩;go_wp2;go_roundw
   case rel => exact ⟨q + 1, by omega, by go_num, trivial⟩
   case measure => simp [intOf]; omega
  ·obtain rfl : q = W.length := by omega
   have hx180 : x.length ≤ 180 := HWl.out x (by rw [HWx.out]; simp);clear hlt hq HWl;obtain rfl := HWx.out;obtain ⟨b, o, hbA, _, hc⟩ := HA2.out.at 0 (by simp [strs]);subst hbA;have c0 : wr.cell? ⟨b, o, none⟩ = some (.string (S x)) := by simpa using hc 0 _ rfl
   clear hc;go_wp2_with fail;refine (qhi HM.out (HS.out.below HM.out.below) x (by omega)).mono ?_;intro e w3 ⟨ho, hb3⟩;have HM3 := q4z (HM.out.after hb3);have HD3 := q4z (HD.out.after hb3);clear hb3 HM HD c0;cases hw : wayL wk x with
   | error k =>
    rw [hw] at ho;obtain rfl : e = qfw k := ho;have HE := q4z (show R = .error k by rw [← HR.out]; unfold mkE; rw [hw]);clear hw;obtain ⟨d1, d2⟩ := HD3.out.facts;refine leaves_cons (f := 92) (args := #[.pointer (some ⟨be, 0, none⟩)]) (by simp) (by simp [go_sem]) ?_;refine (qbq be k [] _ _ d1 d2).mono ?_;rintro e u' w'' ⟨rfl, rfl, rfl⟩;obtain ⟨r1, r2⟩ := HD3.out.caught k w0 HM3.out.below hbs;simp [Leaves, settle, results, Tryz.results59, go_sem, r1]
    exact DoOut.err (HE.out) r2
   | ok p =>
    rw [hw] at ho;obtain rfl : e = .returned (.string (S p)) := ho;have hpl := (qa9 (qfv hw)).1;have HE := q4z (show R = (match qgg l p with | .error k => .error k | .ok l2 => lenE l2 wk) by rw [← HR.out]; unfold mkE; rw [hw]; try rfl);clear hw;go_wp2_with fail;refine (qir HM3.out HS.out p (by omega) (by omega)).mono ?_;intro e w4 ho;cases hmk : qgg l p with
    | error k =>
     rw [hmk] at ho;obtain ⟨rfl, hb4, hd4⟩ := ho;have HE2 := q4z (show R = .error k by rw [HE.out, hmk]);have HD4 := q4z (HD3.out.stayed hd4 (.inr rfl));clear hmk HE hd4;obtain ⟨d1, d2⟩ := HD4.out.facts;refine leaves_cons (f := 92) (args := #[.pointer (some ⟨be, 0, none⟩)]) (by simp) (by simp [go_sem]) ?_;refine (qbq be k [] _ _ d1 d2).mono ?_;rintro e u' w'' ⟨rfl, rfl, rfl⟩;obtain ⟨r1, r2⟩ := HD4.out.caught k w0 hb4 hbs;simp [Leaves, settle, results, Tryz.results59, go_sem, r1]
     exact DoOut.err (HE2.out) r2
    | ok l2 =>
     rw [hmk] at ho;obtain ⟨rfl, hm4, hk4, hd4⟩ := ho;have HE2 := q4z (show R = lenE l2 wk by rw [HE.out, hmk]);have HM4 := q4z hm4;have HD4 := q4z (HD3.out.stayed hd4 (.inr rfl));clear hm4 hk4 hd4 hmk HE HM3 HD3;obtain ⟨y0, _, _⟩ := HM4.out.cells;have HLe := q4z (HE2.out);go_wp2_with fail;refine (qkf HM4.out (HS.out.below HM4.out.below) (by omega)).mono ?_;rintro _ wl ⟨rfl, hbl⟩;have HMl := q4z (HM4.out.after hbl);have HDl := q4z (HD4.out.after hbl);clear hbl HM4 HD4 y0;obtain ⟨lz, hlz⟩ : ∃ lz, (l2).length = lz := ⟨_, rfl⟩;rw [hlz];have HLz := q4z hlz;clear hlz;by_cases h40 : lz ≤ 40
     ·have f40 : ((lz : Int) ≤ 40) := by omega
      have HE := q4z (HLe.out.trans (show lenE (l2) wk = .ok (l2, wk) by unfold lenE; rw [HLz.out]; exact if_pos h40));go_wp2_with fail;refine (qbf 10 _).mono ?_;rintro _ wn ⟨rfl, rfl⟩;obtain ⟨d1, d2⟩ := HDl.out.facts;go_wp2;refine leaves_cons (f := 92) (args := #[.pointer (some ⟨be, 0, none⟩)]) (by simp) (by simp [go_sem]) ?_;refine (qih be _).mono ?_;rintro e u' w'' ⟨rfl, rfl, rfl⟩;obtain ⟨r1, r2⟩ := HMl.out.finish HDl.out hgb htb hmb hbs hDm;simp [Leaves, settle, results, Tryz.results59, go_sem, r1]
      exact DoOut.ok HE.out r2 (by omega)
     ·have f40 : decide ((lz : Int) ≤ 40) = false := decide_eq_false (by omega)
      have HE := q4z (HLe.out.trans (show lenE (l2) wk = .error 10 by unfold lenE; rw [HLz.out]; exact if_neg h40));go_wp2_with fail;refine (qcl 10 _).mono ?_;rintro _ wn ⟨rfl, rfl⟩;obtain ⟨d1, d2⟩ := HDl.out.facts;refine leaves_cons (f := 92) (args := #[.pointer (some ⟨be, 0, none⟩)]) (by simp) (by simp [go_sem]) ?_;refine (qbq be 10 [] _ _ d1 d2).mono ?_;rintro e u' w'' ⟨rfl, rfl, rfl⟩;obtain ⟨r1, r2⟩ := HDl.out.caught 10 w0 HMl.out.below hbs;simp [Leaves, settle, results, Tryz.results59, go_sem, r1]
      exact DoOut.err (HE.out) r2
theorem DoorS.drew {D : Nat → Prop} {w W : World} {b : Nat} (h : DoorS D w W b) : DoorS D w W.drew b := h.after (qbn (Below.refl _ _))
def qn4 (c l : List Ent) (wk x y : List UInt8) : Except Int (List Ent × List UInt8) := match qdu c l wk x y with
 | .error k => .error k
 | .ok l2 => lenE l2 wk
theorem q1d {w0 w : World} {n : Nat} {l : List Ent} {t g mb : Nat} {E : Obj → Prop} {D : Nat → Prop} {wk : List UInt8} (h : StM w0 w n l t g mb E D wk) (hS : Std w0) (hn : n < 1000000000) (W : List (List UInt8)) (hWn : W.length ≤ 4) (hW : ∀ x ∈ W, x.length ≤ 180) (A : Option Addr) (cap : Nat) (hA : Rd w A (strs W)) (ws : Value) (sg xa : Int) (x y : List UInt8) (hWx : W = [x, y]) (c : List Ent) (tc : Nat) (hC : CtxT w0 c tc) (hcase : ∀ p tp, wayL [] x = .ok p → wayL wk y = .ok tp → qbc c p = 1 → ∃ k, qgg l tp = .error k) :
 Calls Tryz.prog 59 #[.pointer (some ⟨g, 0, none⟩), .agg #[.int .i64 1, ws, .int .i64 sg, .int .i64 xa], .slice A W.length cap, .pointer (some ⟨tc, 0, none⟩)] w fun e w' => DoOut w0 w (n + 2000) t g mb E D (qn4 c l wk x y) e w' := by
 have hmf : ∀ (fn : Fn) (first cap : Array Value) (w : World), (Instr.makeFunc fn first cap).run Tryz.prog w = .ok (.func fn first cap) w := fun _ _ _ _ => rfl
 obtain ⟨R, hR⟩ : ∃ R, qn4 c l wk x y = R := ⟨_, rfl⟩;rw [hR];have HR := q4z hR;have HM0 := q4z h;have HS := q4z hS;have HA := q4z hA;have HWl := q4z hW;have HWx := q4z hWx;have HC := q4z hC;have HCase := q4z hcase;clear h hS hA hW hR hWx hC hcase;go_enter_defers Tryz.func59, Tryz.ntmps59;go_wp2;have hb2 : Below w.heap.size w ((w.alloc (.cells #[.int .i64 1, ws, .int .i64 sg, .int .i64 xa] 123)).alloc (.cells #[.int .i64 0] 27)) := ((Below.refl _ _).alloc (Nat.le_refl _) _).alloc (by simp) _;have hd2 : DoorS (fun k => D k ∧ k ≠ g) w ((w.alloc (.cells #[.int .i64 1, ws, .int .i64 sg, .int .i64 xa] 123)).alloc (.cells #[.int .i64 0] 27)) (w.heap.size + 1) := ⟨by
  have := Go.heap_alloc_new (w.alloc (.cells #[.int .i64 1, ws, .int .i64 sg, .int .i64 xa] 123)) (.cells #[.int .i64 0] 27);rwa [World.size_alloc] at this, by omega, ⟨hb2.size, fun k hk => hb2.block k (HM0.out.dlt k hk.1)⟩, fun k hk => HM0.out.dlt k hk.1⟩
 have ck : ((w.alloc (.cells #[.int .i64 1, ws, .int .i64 sg, .int .i64 xa] 123)).alloc (.cells #[.int .i64 0] 27)).cell? ⟨w.heap.size, 0, none⟩ = some (.int .i64 1) := by
  rw [cell_of_row _ _ _ _ _ _ ((Below.heap_alloc (w.alloc (.cells #[.int .i64 1, ws, .int .i64 sg, .int .i64 xa] 123)) _ w.heap.size (by simp)).trans (Go.heap_alloc_new w _))]; rfl
 generalize ((w.alloc (.cells #[.int .i64 1, ws, .int .i64 sg, .int .i64 xa] 123)).alloc (.cells #[.int .i64 0] 27)) = w2 at hb2 hd2 ck ⊢;have hbs : w0.heap.size ≤ w.heap.size + 1 := by have := HM0.out.below.size; omega
 have hgb : g ≠ w.heap.size + 1 := by have := (q41 HM0.out.blk).1; omega
 have htb : t ≠ w.heap.size + 1 := by obtain ⟨_, _, _, _, _, h3, _⟩ := HM0.out.tree; have := q40 _ _ h3; simp only at this; omega
 have hmb : mb ≠ w.heap.size + 1 := by have := HM0.out.dlt _ HM0.out.dmb; omega
 have hDm := HM0.out.dmb;generalize hbe : w.heap.size + 1 = be at hd2 hbs hgb htb hmb ⊢;generalize hbb : w.heap.size = bb at ck ⊢;have HD := q4z hd2;have hbe2 := (q41 hd2.cell).1;have HM := q4z (HM0.out.guard (D' := fun k => D k ∨ k = be) hb2 (fun k hk => hk.elim .inl fun e => .inr (by omega)) (.inl hDm));have HA2 := q4z (HA.out.below hb2);clear hb2 hd2 HM0 HA hbe2;go_loopw [20] (fun vi wr => ∃ q : Nat, q ≤ W.length ∧ vi = .int .i64 q ∧ wr = w2) (fun vi _ => W.length - (intOf vi).toNat)
 case atStart => exact ⟨0, Nat.zero_le _, rfl, rfl⟩
 case round =>
  obtain ⟨q, hq, rfl, rfl⟩ := hrel;by_cases hlt : q < W.length
  ·obtain ⟨b, o, hbA, hbb2, hc⟩ := HA2.out.at q (by rw [qb2]; exact hlt)
   subst hbA;have c0 := hc q _ (qcg hlt);have hl1 := HWl.out _ (List.getElem_mem hlt);obtain ⟨x, hx⟩ : ∃ x, W[q] = x := ⟨_, rfl⟩;rw [hx] at c0 hl1;have hl2 : ((x.length : Int) ≤ 180) := by omega
   have hql : (q : Int) < (W.length : Int) := by omega
   clear hc hx;go_wp2_with fail;refine (qbf 10 _).mono ?_;rintro _ w3 ⟨rfl, rfl⟩;go_wp2;go_roundw
   case rel => exact ⟨q + 1, by omega, by go_num, trivial⟩
   case measure => simp [intOf]; omega
  ·obtain rfl : q = W.length := by omega
   have hx180 : x.length ≤ 180 := HWl.out x (by rw [HWx.out]; simp);have hy180 : y.length ≤ 180 := HWl.out y (by rw [HWx.out]; simp);clear hlt hq HWl;obtain rfl := HWx.out;obtain ⟨b, o, hbA, _, hc⟩ := HA2.out.at 0 (by simp [strs]);subst hbA;have c0 : wr.cell? ⟨b, o, none⟩ = some (.string (S x)) := by simpa using hc 0 _ rfl
   have c1 : wr.cell? ⟨b, o + 1, none⟩ = some (.string (S y)) := by simpa using hc 1 _ rfl
   clear hc;have HCp := qsd HM.out.drew HS.out (by omega) c tc HC.out x y (by omega) (by omega) HCase.out;go_upto_region 9 with fail;go_still_tail 8, (by kernel_rfl)
   cases hcp : qdu c l wk x y with
   | error k =>
    rw [hcp] at HCp;have HE := q4z (show R = .error k by rw [← HR.out]; unfold qn4; rw [hcp]);have HCq := q4z HCp;clear HCp hcp;go_wp2_with fail;refine HCq.out.mono ?_;rintro e w4 ⟨rfl, hb4, hd4⟩;have HD4 := q4z ((HD.out.drew).stayed hd4 (.inr rfl));obtain ⟨d1, d2⟩ := HD4.out.facts;refine leaves_cons (f := 92) (args := #[.pointer (some ⟨be, 0, none⟩)]) (by simp) (by simp [go_sem]) ?_;refine (qbq be k [] _ _ d1 d2).mono ?_;rintro e u' w'' ⟨rfl, rfl, rfl⟩;obtain ⟨r1, r2⟩ := HD4.out.caught k w0 hb4 hbs;simp [Leaves, settle, results, Tryz.results59, go_sem, r1]
    exact DoOut.err (HE.out) r2
   | ok l2 =>
    rw [hcp] at HCp;have HE := q4z (show R = lenE l2 wk by rw [← HR.out]; unfold qn4; rw [hcp]);have HCq := q4z HCp;clear HCp hcp;go_wp2_with fail;refine HCq.out.mono ?_;rintro e w4 ⟨rfl, hm4, hk4, hd4⟩;have HM4 := q4z hm4;have HD4 := q4z ((HD.out.drew).stayed hd4 (.inr rfl));clear hm4 hk4 hd4 c0 c1 HCq;obtain ⟨y0, _, _⟩ := HM4.out.cells;have HLe := q4z (HE.out);go_wp2_with fail;refine (qkf HM4.out (HS.out.below HM4.out.below) (by omega)).mono ?_;rintro _ wl ⟨rfl, hbl⟩;have HMl := q4z (HM4.out.after hbl);have HDl := q4z (HD4.out.after hbl);clear hbl HM4 HD4 y0;obtain ⟨lz, hlz⟩ : ∃ lz, (l2).length = lz := ⟨_, rfl⟩;rw [hlz];have HLz := q4z hlz;clear hlz;by_cases h40 : lz ≤ 40
    ·have f40 : ((lz : Int) ≤ 40) := by omega
     have HE := q4z (HLe.out.trans (show lenE (l2) wk = .ok (l2, wk) by unfold lenE; rw [HLz.out]; exact if_pos h40));go_wp2_with fail;refine (qbf 10 _).mono ?_;rintro _ wn ⟨rfl, rfl⟩;obtain ⟨d1, d2⟩ := HDl.out.facts;go_wp2;refine leaves_cons (f := 92) (args := #[.pointer (some ⟨be, 0, none⟩)]) (by simp) (by simp [go_sem]) ?_;refine (qih be _).mono ?_;rintro e u' w'' ⟨rfl, rfl, rfl⟩;obtain ⟨r1, r2⟩ := HMl.out.finish HDl.out hgb htb hmb hbs hDm;simp [Leaves, settle, results, Tryz.results59, go_sem, r1]
     exact DoOut.ok HE.out r2 (by omega)
    ·have f40 : decide ((lz : Int) ≤ 40) = false := decide_eq_false (by omega)
     have HE := q4z (HLe.out.trans (show lenE (l2) wk = .error 10 by unfold lenE; rw [HLz.out]; exact if_neg h40));go_wp2_with fail;refine (qcl 10 _).mono ?_;rintro _ wn ⟨rfl, rfl⟩;obtain ⟨d1, d2⟩ := HDl.out.facts;refine leaves_cons (f := 92) (args := #[.pointer (some ⟨be, 0, none⟩)]) (by simp) (by simp [go_sem]) ?_;refine (qbq be 10 [] _ _ d1 d2).mono ?_;rintro e u' w'' ⟨rfl, rfl, rfl⟩;obtain ⟨r1, r2⟩ := HDl.out.caught 10 w0 HMl.out.below hbs;simp [Leaves, settle, results, Tryz.results59, go_sem, r1]
     exact DoOut.err (HE.out) r2
theorem qvt {w0 w : World} {n : Nat} {l : List Ent} {t g mb : Nat} {E : Obj → Prop} {D : Nat → Prop} {wk : List UInt8} (h : StM w0 w n l t g mb E D wk) (hS : Std w0) (hn : n < 1000000000) (W : List (List UInt8)) (hWn : W.length ≤ 4) (hW : ∀ x ∈ W, x.length ≤ 180) (A : Option Addr) (cap : Nat) (hA : Rd w A (strs W)) (ws : Value) (sg xa : Int) (fr : Value) (x : List UInt8) (hWx : W = [x]) :
 Calls Tryz.prog 59 #[.pointer (some ⟨g, 0, none⟩), .agg #[.int .i64 7, ws, .int .i64 sg, .int .i64 xa], .slice A W.length cap, fr] w fun e w' => DoOut w0 w (n + 2000) t g mb E D (qwb l wk x) e w' := by
 have hmf : ∀ (fn : Fn) (first cap : Array Value) (w : World), (Instr.makeFunc fn first cap).run Tryz.prog w = .ok (.func fn first cap) w := fun _ _ _ _ => rfl
 obtain ⟨R, hR⟩ : ∃ R, qwb l wk x = R := ⟨_, rfl⟩;rw [hR];have HR := q4z hR;have HM0 := q4z h;have HS := q4z hS;have HA := q4z hA;have HWl := q4z hW;have HWx := q4z hWx;clear h hS hA hW hR hWx;go_enter_defers Tryz.func59, Tryz.ntmps59;go_wp2;have hb2 : Below w.heap.size w ((w.alloc (.cells #[.int .i64 7, ws, .int .i64 sg, .int .i64 xa] 123)).alloc (.cells #[.int .i64 0] 27)) := ((Below.refl _ _).alloc (Nat.le_refl _) _).alloc (by simp) _;have hd2 : DoorS (fun k => D k ∧ k ≠ g) w ((w.alloc (.cells #[.int .i64 7, ws, .int .i64 sg, .int .i64 xa] 123)).alloc (.cells #[.int .i64 0] 27)) (w.heap.size + 1) := ⟨by
  have := Go.heap_alloc_new (w.alloc (.cells #[.int .i64 7, ws, .int .i64 sg, .int .i64 xa] 123)) (.cells #[.int .i64 0] 27);rwa [World.size_alloc] at this, by omega, ⟨hb2.size, fun k hk => hb2.block k (HM0.out.dlt k hk.1)⟩, fun k hk => HM0.out.dlt k hk.1⟩
 have ck : ((w.alloc (.cells #[.int .i64 7, ws, .int .i64 sg, .int .i64 xa] 123)).alloc (.cells #[.int .i64 0] 27)).cell? ⟨w.heap.size, 0, none⟩ = some (.int .i64 7) := by
  rw [cell_of_row _ _ _ _ _ _ ((Below.heap_alloc (w.alloc (.cells #[.int .i64 7, ws, .int .i64 sg, .int .i64 xa] 123)) _ w.heap.size (by simp)).trans (Go.heap_alloc_new w _))]; rfl
 generalize ((w.alloc (.cells #[.int .i64 7, ws, .int .i64 sg, .int .i64 xa] 123)).alloc (.cells #[.int .i64 0] 27)) = w2 at hb2 hd2 ck ⊢;have hbs : w0.heap.size ≤ w.heap.size + 1 := by have := HM0.out.below.size; omega
 have hgb : g ≠ w.heap.size + 1 := by have := (q41 HM0.out.blk).1; omega
 have htb : t ≠ w.heap.size + 1 := by obtain ⟨_, _, _, _, _, h3, _⟩ := HM0.out.tree; have := q40 _ _ h3; simp only at this; omega
 have hmb : mb ≠ w.heap.size + 1 := by have := HM0.out.dlt _ HM0.out.dmb; omega
 have hDm := HM0.out.dmb;generalize hbe : w.heap.size + 1 = be at hd2 hbs hgb htb hmb ⊢;generalize hbb : w.heap.size = bb at ck ⊢;have HD := q4z hd2;have hbe2 := (q41 hd2.cell).1;have HM := q4z (HM0.out.guard (D' := fun k => D k ∨ k = be) hb2 (fun k hk => hk.elim .inl fun e => .inr (by omega)) (.inl hDm));have HA2 := q4z (HA.out.below hb2);clear hb2 hd2 HM0 HA hbe2;go_loopw [20] (fun vi wr => ∃ q : Nat, q ≤ W.length ∧ vi = .int .i64 q ∧ wr = w2) (fun vi _ => W.length - (intOf vi).toNat)
 case atStart => exact ⟨0, Nat.zero_le _, rfl, rfl⟩
 case round =>
  obtain ⟨q, hq, rfl, rfl⟩ := hrel;by_cases hlt : q < W.length
  ·obtain ⟨b, o, hbA, hbb2, hc⟩ := HA2.out.at q (by rw [qb2]; exact hlt)
   subst hbA;have c0 := hc q _ (qcg hlt);have hl1 := HWl.out _ (List.getElem_mem hlt);obtain ⟨x, hx⟩ : ∃ x, W[q] = x := ⟨_, rfl⟩;rw [hx] at c0 hl1;have hl2 : ((x.length : Int) ≤ 180) := by omega
   have hql : (q : Int) < (W.length : Int) := by omega
   clear hc hx;go_wp2_with fail;refine (qbf 10 _).mono ?_;rintro _ w3 ⟨rfl, rfl⟩;go_wp2;go_roundw
   case rel => exact ⟨q + 1, by omega, by go_num, trivial⟩
   case measure => simp [intOf]; omega
  ·obtain rfl : q = W.length := by omega
   have hx180 : x.length ≤ 180 := HWl.out x (by rw [HWx.out]; simp);clear hlt hq HWl;obtain rfl := HWx.out;obtain ⟨b, o, hbA, _, hc⟩ := HA2.out.at 0 (by simp [strs]);subst hbA;have c0 : wr.cell? ⟨b, o, none⟩ = some (.string (S x)) := by simpa using hc 0 _ rfl
   clear hc;go_wp2_with fail;refine (qhi HM.out (HS.out.below HM.out.below) x (by omega)).mono ?_;intro e w3 ⟨ho, hb3⟩;have HM3 := q4z (HM.out.after hb3);have HD3 := q4z (HD.out.after hb3);clear hb3 HM HD c0;cases hw : wayL wk x with
   | error k =>
    rw [hw] at ho;obtain rfl : e = qfw k := ho;have HE := q4z (show R = .error k by rw [← HR.out]; unfold qwb; rw [hw]);clear hw;obtain ⟨d1, d2⟩ := HD3.out.facts;refine leaves_cons (f := 92) (args := #[.pointer (some ⟨be, 0, none⟩)]) (by simp) (by simp [go_sem]) ?_;refine (qbq be k [] _ _ d1 d2).mono ?_;rintro e u' w'' ⟨rfl, rfl, rfl⟩;obtain ⟨r1, r2⟩ := HD3.out.caught k w0 HM3.out.below hbs;simp [Leaves, settle, results, Tryz.results59, go_sem, r1]
    exact DoOut.err (HE.out) r2
   | ok p =>
    rw [hw] at ho;obtain rfl : e = .returned (.string (S p)) := ho;have hpl := (qa9 (qfv hw)).1;have HE := q4z (show R = (match qgg l p with | .error k => .error k | .ok l2 => lenE l2 p) by rw [← HR.out]; unfold qwb; rw [hw]; try rfl);clear hw;go_wp2_with fail;refine (qir HM3.out HS.out p (by omega) (by omega)).mono ?_;intro e w4 ho;cases hmk : qgg l p with
    | error k =>
     rw [hmk] at ho;obtain ⟨rfl, hb4, hd4⟩ := ho;have HE2 := q4z (show R = .error k by rw [HE.out, hmk]);have HD4 := q4z (HD3.out.stayed hd4 (.inr rfl));clear hmk HE hd4;obtain ⟨d1, d2⟩ := HD4.out.facts;refine leaves_cons (f := 92) (args := #[.pointer (some ⟨be, 0, none⟩)]) (by simp) (by simp [go_sem]) ?_;refine (qbq be k [] _ _ d1 d2).mono ?_;rintro e u' w'' ⟨rfl, rfl, rfl⟩;obtain ⟨r1, r2⟩ := HD4.out.caught k w0 hb4 hbs;simp [Leaves, settle, results, Tryz.results59, go_sem, r1]
     exact DoOut.err (HE2.out) r2
    | ok l2 =>
     rw [hmk] at ho;obtain ⟨rfl, hm4, hk4, hd4⟩ := ho;have HE2 := q4z (show R = lenE l2 p by rw [HE.out, hmk]);have HM4 := q4z hm4;have HD4 := q4z (HD3.out.stayed hd4 (.inr rfl));clear hm4 hk4 hd4 hmk HE HM3 HD3;obtain ⟨y0, y1, y2⟩ := HM4.out.cells;have y9 : w4.frozen? ⟨g, 2, none⟩ = false := frozen_of_row _ _ _ _ _ HM4.out.blk;go_upto_region 35 with fail;have HM5 := q4z (HM4.out.work p hpl);have HD5 : Hid (DoorS (fun k => D k ∧ k ≠ g) w (w4.setCell ⟨g, 2, none⟩ (.string (S p))) be) := q4z ⟨(heap_setCell_other w4 ⟨g, 2, none⟩ be _ (Ne.symm hgb)).trans HD4.out.cell, HD4.out.low, HD4.out.stay.trans ⟨by simp, fun k hk => heap_setCell_other w4 ⟨g, 2, none⟩ k _ hk.2⟩, HD4.out.dlt⟩
     generalize w4.setCell ⟨g, 2, none⟩ (.string (S p)) = w5 at HM5 HD5 ⊢;clear y0 y1 y2 y9 HM4 HD4;obtain ⟨y0, _, _⟩ := HM5.out.cells;have HLe := q4z (HE2.out);go_wp2_with fail;refine (qkf HM5.out (HS.out.below HM5.out.below) (by omega)).mono ?_;rintro _ wl ⟨rfl, hbl⟩;have HMl := q4z (HM5.out.after hbl);have HDl := q4z (HD5.out.after hbl);clear hbl HM5 HD5 y0;obtain ⟨lz, hlz⟩ : ∃ lz, (l2).length = lz := ⟨_, rfl⟩;rw [hlz];have HLz := q4z hlz;clear hlz;by_cases h40 : lz ≤ 40
     ·have f40 : ((lz : Int) ≤ 40) := by omega
      have HE := q4z (HLe.out.trans (show lenE (l2) p = .ok (l2, p) by unfold lenE; rw [HLz.out]; exact if_pos h40));go_wp2_with fail;refine (qbf 10 _).mono ?_;rintro _ wn ⟨rfl, rfl⟩;obtain ⟨d1, d2⟩ := HDl.out.facts;go_wp2;refine leaves_cons (f := 92) (args := #[.pointer (some ⟨be, 0, none⟩)]) (by simp) (by simp [go_sem]) ?_;refine (qih be _).mono ?_;rintro e u' w'' ⟨rfl, rfl, rfl⟩;obtain ⟨r1, r2⟩ := HMl.out.finish HDl.out hgb htb hmb hbs hDm;simp [Leaves, settle, results, Tryz.results59, go_sem, r1]
      exact DoOut.ok HE.out r2 (by omega)
     ·have f40 : decide ((lz : Int) ≤ 40) = false := decide_eq_false (by omega)
      have HE := q4z (HLe.out.trans (show lenE (l2) p = .error 10 by unfold lenE; rw [HLz.out]; exact if_neg h40));go_wp2_with fail;refine (qcl 10 _).mono ?_;rintro _ wn ⟨rfl, rfl⟩;obtain ⟨d1, d2⟩ := HDl.out.facts;refine leaves_cons (f := 92) (args := #[.pointer (some ⟨be, 0, none⟩)]) (by simp) (by simp [go_sem]) ?_;refine (qbq be 10 [] _ _ d1 d2).mono ?_;rintro e u' w'' ⟨rfl, rfl, rfl⟩;obtain ⟨r1, r2⟩ := HDl.out.caught 10 w0 HMl.out.below hbs;simp [Leaves, settle, results, Tryz.results59, go_sem, r1]
      exact DoOut.err (HE.out) r2
end Go.Proofs.YtikdblkfjchjbaaGreatDoor
