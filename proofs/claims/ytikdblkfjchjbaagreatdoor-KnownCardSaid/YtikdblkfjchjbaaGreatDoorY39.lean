import Derived.Test.YtikdblkfjchjbaaGreatDoorY15
import Derived.Test.YtikdblkfjchjbaaGreatDoorY38
set_option linter.unusedVariables false
set_option linter.unusedSimpArgs false
set_option maxHeartbeats 16000000
set_option maxRecDepth 100000
namespace Go.Proofs.YtikdblkfjchjbaaGreatDoor
open Go.RowKit
theorem qog (s : List UInt8) (hs : s.length < 512) (w : World) :
 Calls Tryz.prog 133 #[.string (S s)] w fun e w' => e = .returned (.tuple #[.slice none 0 0, .int .i64 0]) ∧ Below w.heap.size w w' := by
 have HZ := q4z (fun wx => (show Calls Tryz.prog 76 #[.string (S [0]), .int .i64 1024] wx fun e w' => e = .returned (.string (S (List.replicate 1024 0))) ∧ Below wx.heap.size wx w' from qjf 0 1024 wx (by omega)));have hne : (s == List.replicate 1024 0) = false := beq_eq_false_iff_ne.2 fun e => by
  have := congrArg List.length e; rw [List.length_replicate] at this; omega
 generalize List.replicate 1024 (0 : UInt8) = Z at HZ hne;have hlt : ((s.length : Int) < 512) := by omega
 go_enter Tryz.func133, Tryz.ntmps133;go_wp2;go_loopw [2, 3] (fun vl va wr => vl = .slice none 0 0 ∧ va = .int .i64 0 ∧ wr = w) (fun _ va _ => 0)
 case atStart => exact ⟨rfl, rfl, rfl⟩
 case round =>
  obtain ⟨rfl, rfl, rfl⟩ := hrel;go_upto_region 1 with fail;go_cut [11] (fun v wx => v = .bool false ∧ Hid (Below wr.heap.size wr wx))
  case first =>
   have t2 := fun (w1 : World) (hb1 : Below wr.drew.heap.size wr.drew w1) => ((qbn (Below.refl wr.heap.size wr)).trans hb1)
   go_region_with (go_at_call 76; refine (HZ.out _).mono ?_; rintro e1 w1 ⟨rfl, hb1⟩; have HB1 := q4z (t2 w1 hb1); clear hb1)
   all_goals
    go_wp2;go_meet
    exact ⟨rfl, HB1⟩
  case rest =>
   obtain ⟨rfl, HB1⟩ := hcut;go_wp2;go_ret2;exact ⟨rfl, HB1.out⟩
def qi9 (c : List Ent) (wk src dst : List UInt8) : Int := match wayL [] src with
 | .error k => k
 | .ok p => match wayL wk dst with
  | .error k => k
  | .ok _ => if qbc c p = 0 then 8 else if qbc c p = 2 then 4 else 9
theorem qze {w0 w : World} {n : Nat} {l : List Ent} {t g mb : Nat} {E : Obj → Prop} {D : Nat → Prop} {wk : List UInt8} (h : StM w0 w n l t g mb E D wk) (hS : Std w0) (c : List Ent) (tc : Nat) (hC : CtxT w0 c tc)
 (src dst : List UInt8) (hs : src.length ≤ 200) (hd : dst.length ≤ 200) (hsh : ∀ e ∈ c, e.data.length < 512) :
 Calls Tryz.prog 95 #[.pointer (some ⟨g, 0, none⟩), .pointer (some ⟨tc, 0, none⟩), .string (S src), .string (S dst)] w fun e w' => e = qfw (qi9 c wk src dst) ∧ Below w0.heap.size w0 w' ∧ StayD D w w' := by
 have hfl : ∀ (a b c d : Value) (w : World), (Instr.field 47 (.agg #[a, b, c, d]) 3).run Tryz.prog w = .ok d w := fun a b c d w => by kernel_rfl
 have HM := q4z h;have HS := q4z hS;have HC := q4z hC;have HR := qe8 [] src w (hS.below h.below) (by simp; omega);have HSh := q4z hsh;rcases qgj [] src with ⟨p, e1, e2, e3⟩ | ⟨q, e1, e2⟩;rotate_left
 ·rw [e2] at HR
  have HR := q4z HR;have HE : qi9 c wk src dst = 1 := by unfold qi9; rw [e1]
  rw [HE];clear e1 e2 hS hC h hsh HE;go_enter Tryz.func95, Tryz.ntmps95;go_wp2_with fail;refine HR.out.mono ?_;rintro _ w2 ⟨rfl, hb2⟩;have HB2 := q4z hb2;clear hb2 HR;go_wp2_with fail;refine (qcl 1 _).mono ?_;rintro _ w3 ⟨rfl, rfl⟩;exact ⟨rfl, rfl, (HM.out.after HB2.out).below, HM.out.stay HB2.out⟩
 ·rw [e2] at HR
  have HR := q4z HR;have HP := q4z e3;have hpl := (qa9 e3).1;obtain ⟨kk, hkk⟩ : ∃ kk, qi9 c wk src dst = kk := ⟨_, rfl⟩;have HE1 := q4z (show (match wayL wk dst with | .error k => k | .ok _ => if qbc c p = 0 then 8 else if qbc c p = 2 then 4 else 9) = kk by rw [← hkk]; unfold qi9; rw [e1]);rw [hkk];clear e1 e2 e3 hS hC h hsh hkk;go_enter Tryz.func95, Tryz.ntmps95;go_wp2_with fail;refine HR.out.mono ?_;rintro _ w2 ⟨rfl, hb2⟩;have HB2 := q4z hb2;clear hb2 HR;go_wp2_with fail;refine (qbf 1 _).mono ?_;rintro _ w3 ⟨rfl, rfl⟩;go_wp2_with fail;refine (qhi (HM.out.after HB2.out) (HS.out.below (HM.out.after HB2.out).below) dst (by omega)).mono ?_;intro e w4 ⟨ho, hb4⟩
  have HB4 := q4z (HB2.out.trans (hb4.mono HB2.out.size));clear hb4 HB2;cases hw : wayL wk dst with
  | error k =>
   rw [hw] at ho;obtain rfl : e = qfw k := ho;have hk := HE1.out;rw [hw] at hk;obtain rfl : k = kk := hk;exact ⟨rfl, rfl, (HM.out.after HB4.out).below, HM.out.stay HB4.out⟩
  | ok tp =>
   rw [hw] at ho;obtain rfl : e = .returned (.string (S tp)) := ho;have HE2 := q4z (show (if qbc c p = 0 then (8 : Int) else if qbc c p = 2 then 4 else 9) = kk by rw [← HE1.out, hw]);clear hw HE1;go_wp2_with fail;refine ((HC.out.below (HM.out.after HB4.out).below).kind_any (HS.out.below (HM.out.after HB4.out).below) p (by omega)).mono ?_;rintro _ w6 ⟨rfl, hb6⟩;have HB6 := q4z (HB4.out.trans (hb6.mono HB4.out.size));clear hb6 HB4;obtain ⟨z, hz⟩ : ∃ z, qbc c p = z := ⟨_, rfl⟩;rw [hz] at HE2 ⊢;have HZ := q4z hz;clear hz;by_cases hz0 : z = 0
   ·subst hz0
    have hk := HE2.out;rw [if_pos rfl] at hk;subst hk;go_wp2_with fail;refine (qcl 8 _).mono ?_;rintro _ w7 ⟨rfl, rfl⟩;exact ⟨rfl, rfl, (HM.out.after HB6.out).below, HM.out.stay HB6.out⟩
   ·have hf0 : (z != 0) = true := bne_iff_ne.2 hz0
    have HE3 := HE2.out;rw [if_neg hz0] at HE3;go_wp2_with fail;refine (qbf 8 _).mono ?_;rintro _ w7 ⟨rfl, rfl⟩;go_wp2_with fail;refine ((HC.out.below (HM.out.after HB6.out).below).kind_any (HS.out.below (HM.out.after HB6.out).below) p (by omega)).mono ?_;rintro _ w8 ⟨rfl, hb8⟩;rw [HZ.out];have HB8 := q4z (HB6.out.trans (hb8.mono HB6.out.size));clear hb8 HB6;by_cases hz2 : z = 2
    ·subst hz2
     rw [if_pos rfl] at HE3;subst HE3;have hpn : p ≠ [] := fun e => by have := HZ.out; rw [e, show qbc c [] = 1 from rfl] at this; exact absurd this (by decide)
     obtain ⟨en, hen⟩ : ∃ e, qf4 c p = some e := by
      have hk := HZ.out;unfold qbc at hk;rw [if_neg hpn] at hk;unfold qf4;cases hf : c.find? (fun e => decide (e.path = p)) with
      | some e => exact ⟨e, rfl⟩
      | none => rw [hf] at hk; exact absurd hk (by decide)
     have hsd := HSh.out en (List.mem_of_find?_eq_some hen);have HU := q4z (qog en.data hsd);have HEn := q4z ((HC.out.below (HM.out.after HB8.out).below).entry_any (HS.out.below (HM.out.after HB8.out).below) p (by omega) hpn HP.out en hen);clear hen hpn HE2;go_wp2_with fail;refine (qbf 9 _).mono ?_;rintro _ w9 ⟨rfl, rfl⟩;go_wp2_with fail;refine HEn.out.mono ?_;rintro _ w10 ⟨rfl, hb10⟩;have HB10 := q4z (HB8.out.trans (hb10.mono HB8.out.size));clear hb10 HB8 HEn;rw [show Ent.agg ⟨p, en.kind, en.mode, en.data⟩ = .agg #[.string (S p), .int .i64 en.kind, .int .i64 en.mode, .string (S en.data)] from rfl];go_wp2_with fail;refine (HU.out _).mono ?_;rintro _ w11 ⟨rfl, hb11⟩
     have HB11 := q4z (HB10.out.trans (hb11.mono HB10.out.size));clear hb11 HB10;go_wp2_with fail;refine (qcl 4 _).mono ?_;rintro _ w12 ⟨rfl, rfl⟩;exact ⟨rfl, rfl, (HM.out.after HB11.out).below, HM.out.stay HB11.out⟩
    ·have hf2 : (z == 2) = false := beq_eq_false_iff_ne.2 hz2
     rw [if_neg hz2] at HE3;subst HE3;go_wp2_with fail;refine (qcl 9 _).mono ?_;rintro _ w9 ⟨rfl, rfl⟩;exact ⟨rfl, rfl, (HM.out.after HB8.out).below, HM.out.stay HB8.out⟩
theorem q4a {w0 w : World} {n : Nat} {l : List Ent} {t g mb : Nat} {E : Obj → Prop} {D : Nat → Prop} {wk : List UInt8} (h : StM w0 w n l t g mb E D wk) (hS : Std w0) (hn : n < 1000000000) (W : List (List UInt8)) (hWn : W.length ≤ 4) (hW : ∀ x ∈ W, x.length ≤ 180) (A : Option Addr) (cap : Nat) (hA : Rd w A (strs W)) (ws : Value) (sg xa : Int) (x y : List UInt8) (hWx : W = [x, y]) (c : List Ent) (tc : Nat) (hC : CtxT w0 c tc) (hsh : ∀ e ∈ c, e.data.length < 512) :
 Calls Tryz.prog 59 #[.pointer (some ⟨g, 0, none⟩), .agg #[.int .i64 2, ws, .int .i64 sg, .int .i64 xa], .slice A W.length cap, .pointer (some ⟨tc, 0, none⟩)] w fun e w' => DoOut w0 w (n + 2000) t g mb E D ((Except.error (qi9 c wk x y) : Except Int (List Ent × List UInt8))) e w' := by
 have hmf : ∀ (fn : Fn) (first cap : Array Value) (w : World), (Instr.makeFunc fn first cap).run Tryz.prog w = .ok (.func fn first cap) w := fun _ _ _ _ => rfl
 obtain ⟨R, hR⟩ : ∃ R, (Except.error (qi9 c wk x y) : Except Int (List Ent × List UInt8)) = R := ⟨_, rfl⟩;rw [hR];have HR := q4z hR;have HM0 := q4z h;have HS := q4z hS;have HA := q4z hA;have HWl := q4z hW;have HWx := q4z hWx;have HC := q4z hC;have HSh := q4z hsh;clear h hS hA hW hR hWx hC hsh;go_enter_defers Tryz.func59, Tryz.ntmps59;go_wp2;have hb2 : Below w.heap.size w ((w.alloc (.cells #[.int .i64 2, ws, .int .i64 sg, .int .i64 xa] 123)).alloc (.cells #[.int .i64 0] 27)) := ((Below.refl _ _).alloc (Nat.le_refl _) _).alloc (by simp) _
 have hd2 : DoorS (fun k => D k ∧ k ≠ g) w ((w.alloc (.cells #[.int .i64 2, ws, .int .i64 sg, .int .i64 xa] 123)).alloc (.cells #[.int .i64 0] 27)) (w.heap.size + 1) := ⟨by
  have := Go.heap_alloc_new (w.alloc (.cells #[.int .i64 2, ws, .int .i64 sg, .int .i64 xa] 123)) (.cells #[.int .i64 0] 27);rwa [World.size_alloc] at this, by omega, ⟨hb2.size, fun k hk => hb2.block k (HM0.out.dlt k hk.1)⟩, fun k hk => HM0.out.dlt k hk.1⟩
 have ck : ((w.alloc (.cells #[.int .i64 2, ws, .int .i64 sg, .int .i64 xa] 123)).alloc (.cells #[.int .i64 0] 27)).cell? ⟨w.heap.size, 0, none⟩ = some (.int .i64 2) := by
  rw [cell_of_row _ _ _ _ _ _ ((Below.heap_alloc (w.alloc (.cells #[.int .i64 2, ws, .int .i64 sg, .int .i64 xa] 123)) _ w.heap.size (by simp)).trans (Go.heap_alloc_new w _))]; rfl
 generalize ((w.alloc (.cells #[.int .i64 2, ws, .int .i64 sg, .int .i64 xa] 123)).alloc (.cells #[.int .i64 0] 27)) = w2 at hb2 hd2 ck ⊢;have hbs : w0.heap.size ≤ w.heap.size + 1 := by have := HM0.out.below.size; omega
 have hgb : g ≠ w.heap.size + 1 := by have := (q41 HM0.out.blk).1; omega
 have htb : t ≠ w.heap.size + 1 := by obtain ⟨_, _, _, _, _, h3, _⟩ := HM0.out.tree; have := q40 _ _ h3; simp only at this; omega
 have hmb : mb ≠ w.heap.size + 1 := by have := HM0.out.dlt _ HM0.out.dmb; omega
 have hDm := HM0.out.dmb;generalize hbe : w.heap.size + 1 = be at hd2 hbs hgb htb hmb ⊢;generalize hbb : w.heap.size = bb at ck ⊢;have HD := q4z hd2;have hbe2 := (q41 hd2.cell).1;have HM := q4z (HM0.out.guard (D' := fun k => D k ∨ k = be) hb2 (fun k hk => hk.elim .inl fun e => .inr (by omega)) (.inl hDm));have HA2 := q4z (HA.out.below hb2);clear hb2 hd2 HM0 HA hbe2;go_loopw [20] (fun vi wr => ∃ q : Nat, q ≤ W.length ∧ vi = .int .i64 q ∧ wr = w2) (fun vi _ => W.length - (intOf vi).toNat)
 case atStart => exact ⟨0, Nat.zero_le _, rfl, rfl⟩
 case round =>
  obtain ⟨q, hq, rfl, rfl⟩ := hrel;by_cases hlt : q < W.length
  ·obtain ⟨b, o, hbA, hbb2, hc⟩ := HA2.out.at q (by rw [qb2]; exact hlt)
   subst hbA;have c0 := hc q _ (qcg hlt);have hl1 := HWl.out _ (List.getElem_mem hlt);obtain ⟨x, hx⟩ : ∃ x, W[q] = x := ⟨_, rfl⟩;rw [hx] at c0 hl1;have hl2 : ((x.length : Int) ≤ 180) := by omega
   have hql : (q : Int) < (W.length : Int) := by omega
   clear hc hx;go_wp2_with fail;refine (qbf 10 _).mono ?_;rintro _ w3 ⟨rfl, rfl⟩;go_wp2;go_roundw
   case rel => exact ⟨q + 1, by omega, by go_num, trivial⟩
   case measure => simp [intOf]; omega
  ·obtain rfl : q = W.length := by omega
   have hx180 : x.length ≤ 180 := HWl.out x (by rw [HWx.out]; simp);have hy180 : y.length ≤ 180 := HWl.out y (by rw [HWx.out]; simp);clear hlt hq HWl;obtain rfl := HWx.out;obtain ⟨b, o, hbA, _, hc⟩ := HA2.out.at 0 (by simp [strs]);subst hbA;have c0 : wr.cell? ⟨b, o, none⟩ = some (.string (S x)) := by simpa using hc 0 _ rfl
   have c1 : wr.cell? ⟨b, o + 1, none⟩ = some (.string (S y)) := by simpa using hc 1 _ rfl
   clear hc;have HCp := q4z (qze HM.out.drew HS.out c tc HC.out x y (by omega) (by omega) HSh.out);obtain ⟨k, hk⟩ : ∃ k, qi9 c wk x y = k := ⟨_, rfl⟩;rw [hk] at HCp;have HE := q4z (show R = .error k by rw [← HR.out, hk]);clear hk;go_upto_region 11 with fail;go_still_tail 8, (by kernel_rfl)
   go_wp2_with fail;refine HCp.out.mono ?_;rintro e w4 ⟨rfl, hb4, hd4⟩;have HD4 := q4z ((HD.out.drew).stayed hd4 (.inr rfl));obtain ⟨d1, d2⟩ := HD4.out.facts;refine leaves_cons (f := 92) (args := #[.pointer (some ⟨be, 0, none⟩)]) (by simp) (by simp [go_sem]) ?_;refine (qbq be k [] _ _ d1 d2).mono ?_;rintro e u' w'' ⟨rfl, rfl, rfl⟩;obtain ⟨r1, r2⟩ := HD4.out.caught k w0 hb4 hbs;simp [Leaves, settle, results, Tryz.results59, go_sem, r1]
   exact DoOut.err (HE.out) r2
end Go.Proofs.YtikdblkfjchjbaaGreatDoor
