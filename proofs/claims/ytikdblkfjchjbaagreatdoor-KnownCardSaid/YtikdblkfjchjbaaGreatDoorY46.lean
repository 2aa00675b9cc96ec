import Derived.Deep.AppendSrc
import Derived.Test.YtikdblkfjchjbaaGreatDoorY38
set_option linter.unusedVariables false
set_option linter.unusedSimpArgs false
set_option maxHeartbeats 16000000
set_option maxRecDepth 100000
namespace Go.Proofs.YtikdblkfjchjbaaGreatDoor
open Go.RowKit
def qe6 (l : List UInt8) : List Value := l.map fun x => Value.int .u8 (x.toNat : Int)
theorem qft (l : List UInt8) : (qe6 l).length = l.length := by simp [qe6]
def q2e (l : List UInt8) (W : World) (e : Ending) (w' : World) : Prop := ∃ A cap, e = .returned (.slice A l.length cap) ∧ Rd w' A (qe6 l) ∧ Below W.heap.size W w' ∧ ∃ g o, A = some ⟨g, o, none⟩ ∧ W.heap.size ≤ g
theorem Hdr.cell {w : World} {g : Nat} {L : List UInt8} (h : Hdr w g L) (i : Nat) (hi : i < 512) : w.cell? ⟨g, i, none⟩ = some (.int .u8 ((L.getD i 0).toNat : Int)) := h.2.cell hi
theorem Hdr.rd {w : World} {g : Nat} {L : List UInt8} (h : Hdr w g L) : Rd w (some ⟨g, 0, none⟩) (qe6 L) := by
 refine .inr ⟨g, 0, rfl, fun i u hu => ?_⟩;unfold qe6 at hu;rw [List.getElem?_map] at hu;cases hl : L[i]? with
 | none => rw [hl] at hu; cases hu
 | some x =>
  rw [hl] at hu;obtain rfl : Value.int .u8 (x.toNat : Int) = u := Option.some.inj hu;have hi := (List.getElem?_eq_some_iff.1 hl).1;rw [h.1] at hi;rw [Nat.zero_add, h.cell i hi, List.getD_eq_getElem?_getD, hl]; rfl
theorem Hdr.set1 {w : World} {g : Nat} {L : List UInt8} (h : Hdr w g L) (a : Nat) (x : UInt8) (ha : a < 512) : Hdr (w.setCell ⟨g, a, none⟩ (.int .u8 (x.toNat : Int))) g (setB L a [x]) := h.set a [x] (by simp only [List.length_singleton]; omega)
theorem Hdr.new (w : World) (cs : Array Value) (hc : cs = Array.replicate 512 (Value.int .u8 0)) : Hdr (w.alloc (.cells cs 226)) w.heap.size (List.replicate 512 0) := by
 subst hc;refine ⟨List.length_replicate, ?_⟩;have := World.rowIs_alloc w (Array.replicate 512 (Value.int .u8 0)) 226 (fun _ => .int .u8 0) (by
  intro i hi; rw [Array.size_replicate] at hi; rw [Array.getElem?_replicate, if_pos hi])
 rw [Array.size_replicate] at this;refine this.congr fun j hj => ?_
 rw [List.getD_eq_getElem?_getD, List.getElem?_replicate, if_pos hj]; rfl
theorem q2f : Tryz.zeroCells226 = Array.replicate 512 (Value.int .u8 0) := by kernel_rfl
section
variable (w : World) (g : Nat)
theorem qwf : (Instr.sliceAt 224 (.pointer (some ⟨g, 0, none⟩)) none none none).run Tryz.prog w = .ok (.slice (some ⟨g, 0, none⟩) 512 512) w := by
 have e : Tryz.prog.arrayLen 224 = 512 := by kernel_rfl
 rw [run_sliceAt_array_all (P := Tryz.prog) w 224 ⟨g, 0, none⟩ (by kernel_rfl), e];rw [show (sizeOf (Tryz.prog.elem 224)).run Tryz.prog w = .ok 1 w from by kernel_rfl];simp only [Result.andThen, slicedAt];rw [if_neg (by omega)];simp [Addr.add]
theorem q0w (cs : Array Value) (k : Nat) (v : Value) (hk : k < 512) (hv : cs[k]? = some v) :
 (Instr.index 224 (.agg cs) (.int .i64 (k : Int))).run Tryz.prog w = .ok v w := by
 have hn : (0 ≤ (k : Int) ∧ (k : Int) < ((512 : Nat) : Int)) := by omega
 simp [Instr.index, run_underlying Tryz.underlying224, asIntOf, hn, go_sem]
 rw [if_pos hk, hv]; rfl
theorem qqz : (storeCells ⟨g, 512, none⟩ (List.map (fun b => Value.int IntKind.u8 b.toNat) (S []).data.toList)).run Tryz.prog w = .ok () w := rfl
end
theorem qr9 (p d : List UInt8) (m : Nat) (w : World) (hF : Fit ⟨p, 4, m, d⟩) (hm : m ≤ 511) (hd : d.length ≤ 4096) (hp : p.length ≤ 170) (hpn : p ≠ []) (hS : Std w) (hT : Tz w) :
 Calls Tryz.prog 75 #[.agg #[.string (S p), .int .i64 4, .int .i64 m, .string (S d)]] w (q2e (entB ⟨p, 4, m, d⟩) w) := by
 obtain ⟨hnam, hE⟩ := qvq hF;have hnl := q0g hF;rw [hnam] at hnl;have hsl := qou hE hnl;rw [← hnam] at hsl;have hN := hnam;have HE := q4z hE;have HS := q4z hS;have HT := q4z hT;have hom := qke m 3 (by omega);have ho0 := qke 0 0 (by omega);have h1 := (Below.refl w.heap.size w).alloc (Nat.le_refl _) (.cells #[.string (S p), .int .i64 4, .int .i64 m, .string (S d)] 50);have C1 := Cell4.new w ⟨p, 4, m, d⟩ 50;have H0 := Hdr.new (w.alloc (.cells #[.string (S p), .int .i64 4, .int .i64 m, .string (S d)] 50)) _ q2f;have BW := h1.alloc (by simp) (.cells Tryz.zeroCells226 226);have C2 := C1.below ((Below.refl _ _).alloc (Nat.le_refl _) (.cells Tryz.zeroCells226 226))
 rw [show (w.alloc (.cells #[.string (S p), .int .i64 4, .int .i64 m, .string (S d)] 50)).heap.size = w.heap.size + 1 by simp] at H0;have XE := q4z (qrz ⟨p, 4, m, d⟩);have XS := q4z (qqy ⟨p, 4, m, d⟩);obtain ⟨hul1, hul2⟩ := qku p;have HN := q4z (show inB (upB p).1 (46 :: 119 :: 104 :: 46 :: (upB p).2) = qae (qtd ⟨p, 4, m, d⟩) from hN);have HJ := q4z (show inB (upB p).1 (46 :: 119 :: 104 :: 46 :: (upB p).2) = namB ⟨p, 4, m, d⟩ from rfl);clear hN;clear hE hS hT h1 C1 hnam;go_enter Tryz.func75, Tryz.ntmps75;go_wp2_with fail;generalize hW2 : (w.alloc (.cells #[.string (S p), .int .i64 4, .int .i64 m, .string (S d)] 50)).alloc (.cells Tryz.zeroCells226 226) = w2 at H0 BW C2 ⊢;clear hW2
 have HLT := q4z H0.lt;replace H0 := q4z H0;replace C2 := q4z C2;replace BW := q4z BW;have BC := q4z (Below.refl (w.heap.size + 1) w2);refine (qdn p hpn (by omega) _).mono ?_;rintro e wq ⟨rfl, hbq⟩;replace H0 := q4z (H0.out.below hbq);replace BW := q4z (BW.out.trans (hbq.mono BW.out.size));replace BC := q4z (hbq.mono (Nat.le_of_lt HLT.out));clear hbq;generalize hq1 : (upB p).1 = q1 at HN HJ hul1 ⊢;generalize hq2 : (upB p).2 = q2 at HN HJ hul2 ⊢;clear hq1 hq2;replace hul1 : q1.length ≤ 200 := by omega
 replace hul2 : q2.length ≤ 200 := by omega
 go_wp2_with fail;refine (qe2 q1 (46 :: 119 :: 104 :: 46 :: q2) _ (by simp only [List.length_cons]; omega)).mono ?_;rintro e wr ⟨rfl, rfl⟩;go_wp2_with fail;have hNM := q0h (w.heap.size + 1) _ _ _ HE.out hnl H0.out (HS.out.below BW.out);rw [← HN.out] at hNM;refine hNM.mono ?_;rintro e w3 ⟨rfl, h3, b3⟩;rw [HJ.out] at h3;clear hNM;have H3 := q4z h3;have BC3 := q4z (BC.out.trans b3);have BW3 := q4z (BW.out.trans (b3.mono (Nat.le_succ _)));clear h3 b3 H0 BW BC HE HN HJ HLT;have c3m : w3.cell? ⟨w.heap.size, 2, none⟩ = some (.int .i64 m) := (BC3.out.cell (p := ⟨w.heap.size, 2, none⟩) (Nat.lt_succ_self _)).trans C2.out.2.2.1;go_wp2_with fail
 refine (qgx (w.heap.size + 1) _ 100 7 m _ H3.out (HT.out.below BW3.out) (by omega) (by omega) (by omega) (by omega)).mono ?_;rintro e w4 ⟨rfl, h4, b4⟩;have H4 := q4z h4;have BW4 := q4z (BW3.out.trans (b4.mono (Nat.le_succ _)));clear h4 b4 H3 BW3 c3m;go_wp2_with fail;refine (qgx (w.heap.size + 1) _ 108 7 0 _ H4.out (HT.out.below BW4.out) (by omega) (by omega) (by omega) (by omega)).mono ?_;rintro e w5 ⟨rfl, h5, b5⟩;have H5 := q4z h5;have BW5 := q4z (BW4.out.trans (b5.mono (Nat.le_succ _)));clear h5 b5 H4 BW4;go_wp2_with fail;refine (qgx (w.heap.size + 1) _ 116 7 0 _ H5.out (HT.out.below BW5.out) (by omega) (by omega) (by omega) (by omega)).mono ?_;rintro e w6 ⟨rfl, h6, b6⟩;have H6 := q4z h6
 have BW6 := q4z (BW5.out.trans (b6.mono (Nat.le_succ _)));clear h6 b6 H5 BW5;go_wp2_with fail;refine (qgx (w.heap.size + 1) _ 124 11 0 _ H6.out (HT.out.below BW6.out) (by omega) (by omega) (by omega) (by omega)).mono ?_;rintro e w7 ⟨rfl, h7, b7⟩;have H7 := q4z h7;have BW7 := q4z (BW6.out.trans (b7.mono (Nat.le_succ _)));clear h7 b7 H6 BW6;go_wp2_with fail;refine (qgx (w.heap.size + 1) _ 136 11 0 _ H7.out (HT.out.below BW7.out) (by omega) (by omega) (by omega) (by omega)).mono ?_;rintro e w8 ⟨rfl, h8, b8⟩;have H8 := q4z h8;have BW8 := q4z (BW7.out.trans (b8.mono (Nat.le_succ _)));clear h8 b8 H7 BW7;go_wp2_with fail
 refine (qhe (w.heap.size + 1) _ 148 [32, 32, 32, 32, 32, 32, 32, 32] _ H8.out (by first | omega | decide) (by omega)).mono ?_;rintro e w9 ⟨rfl, hw9⟩;have h9 := H8.out.set 148 [32, 32, 32, 32, 32, 32, 32, 32] (by first | omega | decide);have b9 := below_setCells (Nat.le_refl (w.heap.size + 1)) (List.map (fun x : UInt8 => Value.int .u8 (x.toNat : Int)) [32, 32, 32, 32, 32, 32, 32, 32]) 148 _ (Below.refl _ w8);rw [← hw9] at h9 b9;clear hw9;have H9 := q4z h9;have BW9 := q4z (BW8.out.trans (b9.mono (Nat.le_succ _)));clear h9 b9 H8 BW8;have c156 := H9.out.cell 156 (by omega);have f156 := H9.out.2.frozen 156;go_upto_region 24 with fail;have h10 := H9.out.set1 156 48 (by omega)
 have b10 := (Below.refl (w.heap.size + 1) w9).setCell (p := ⟨w.heap.size + 1, 156, none⟩) (Nat.le_refl _) (.int .u8 ((48 : UInt8).toNat : Int));rw [show ((48 : UInt8).toNat : Int) = 48 from rfl] at h10 b10;clear c156 f156;generalize hw10 : w9.setCell ⟨w.heap.size + 1, 156, none⟩ (.int .u8 48) = w10 at h10 b10 ⊢;clear hw10;have H10 := q4z h10;have BW10 := q4z (BW9.out.trans (b10.mono (Nat.le_succ _)));clear h10 b10 H9 BW9;go_wp2_with fail;refine (qhe (w.heap.size + 1) _ 157 [] _ H10.out (by first | omega | decide) (by omega)).mono ?_;rintro e w11 ⟨rfl, hw11⟩;have h11 := H10.out.set 157 [] (by first | omega | decide)
 have b11 := below_setCells (Nat.le_refl (w.heap.size + 1)) (List.map (fun x : UInt8 => Value.int .u8 (x.toNat : Int)) []) 157 _ (Below.refl _ w10);rw [← hw11] at h11 b11;clear hw11;have H11 := q4z h11;have BW11 := q4z (BW10.out.trans (b11.mono (Nat.le_succ _)));clear h11 b11 H10 BW10;go_wp2_with fail;refine (qhe (w.heap.size + 1) _ 257 [117, 115, 116, 97, 114, 0, 48, 48] _ H11.out (by first | omega | decide) (by omega)).mono ?_;rintro e w12 ⟨rfl, hw12⟩;have h12 := H11.out.set 257 [117, 115, 116, 97, 114, 0, 48, 48] (by first | omega | decide)
 have b12 := below_setCells (Nat.le_refl (w.heap.size + 1)) (List.map (fun x : UInt8 => Value.int .u8 (x.toNat : Int)) [117, 115, 116, 97, 114, 0, 48, 48]) 257 _ (Below.refl _ w11);rw [← hw12] at h12 b12;clear hw12;have H12 := q4z h12;have BW12 := q4z (BW11.out.trans (b12.mono (Nat.le_succ _)));clear h12 b12 H11 BW11;go_wp2_with fail;refine (qgx (w.heap.size + 1) _ 329 7 0 _ H12.out (HT.out.below BW12.out) (by omega) (by omega) (by omega) (by omega)).mono ?_;rintro e w13 ⟨rfl, h13, b13⟩;have H13 := q4z h13;have BW13 := q4z (BW12.out.trans (b13.mono (Nat.le_succ _)));clear h13 b13 H12 BW12;go_wp2_with fail
 refine (qgx (w.heap.size + 1) _ 337 7 0 _ H13.out (HT.out.below BW13.out) (by omega) (by omega) (by omega) (by omega)).mono ?_;rintro e w14 ⟨rfl, h14, b14⟩;have H14 := q4z h14;have BW14 := q4z (BW13.out.trans (b14.mono (Nat.le_succ _)));clear h14 b14 H13 BW13;have HL : Hdr w14 (w.heap.size + 1) (qwv (splB (namB ⟨p, 4, m, d⟩)).2 (splB (namB ⟨p, 4, m, d⟩)).1 m 0 48 []) := H14.out;rw [qor _ _ _ _ _ _ hsl.2 hsl.1 (by omega) (by omega) (by first | omega | decide)] at HL;have HL2 := q4z HL;have XS2 := q4z (show sumB (qe3 (splB (namB ⟨p, 4, m, d⟩)).2 (splB (namB ⟨p, 4, m, d⟩)).1 m 0 48 [] (List.replicate 8 32)).flatten = totB ⟨p, 4, m, d⟩ from XS.out)
 have XT := q4z (fun hv => qww (splB (namB ⟨p, 4, m, d⟩)).2 (splB (namB ⟨p, 4, m, d⟩)).1 m 0 48 [] (totB ⟨p, 4, m, d⟩) hsl.2 (by omega) (by omega) hv);have XE2 := q4z (show (qe3 (splB (namB ⟨p, 4, m, d⟩)).2 (splB (namB ⟨p, 4, m, d⟩)).1 m 0 48 [] (digB (totB ⟨p, 4, m, d⟩) 6 ++ [32])).flatten = qr0 ⟨p, 4, m, d⟩ ++ digB (totB ⟨p, 4, m, d⟩) 6 ++ [32] ++ qon ⟨p, 4, m, d⟩ from XE.out);clear H14 XS XE HL hsl;generalize (qe3 (splB (namB ⟨p, 4, m, d⟩)).2 (splB (namB ⟨p, 4, m, d⟩)).1 m 0 48 [] (List.replicate 8 32)).flatten = F at HL2 XS2 XT;obtain ⟨hFl, cs, hcs, hsz, hget⟩ := HL2.out;have hsum := qwo F;rw [hFl] at hsum;have Hcs := q4z hcs;have Hget := q4z hget;have Hsz := q4z hsz;have HFl := q4z hFl
 clear hcs hget hsz hFl;go_wp2_with (refine wpList_load_row rfl _ _ rfl (w.heap.size + 1) rfl _ cs (0, 0) _ Hcs.out Tryz.underlying224 rfl (by rw [Hsz.out]; kernel_rfl) ?_)
 go_loop [10, 84] (fun s i => ∃ k : Nat, k ≤ 512 ∧ i = .int .i64 k ∧ s = .int .i64 (sumB (F.take k) : Nat)) (fun _ i => 512 - (intOf i).toNat)
 case atStart => exact ⟨0, Nat.zero_le _, rfl, by simp [sumB]⟩
 case round =>
  obtain ⟨k, hk, rfl, rfl⟩ := hrel;by_cases hlt : k < 512
  ·have hFk : k < F.length := by rw [HFl.out]; exact hlt
   have hs1 := q4z (qwn F k hFk);have hs2 := qwo (F.take k);have hs3 : (F.take k).length ≤ 512 := by rw [List.length_take]; omega
   have hck := Hget.out k hlt;rw [List.getD_eq_getElem?_getD, List.getElem?_eq_getElem hFk, Option.getD_some] at hck;have hs4 := F[k].toNat_lt;have hix := q0w w14 cs k _ hlt hck;clear hck;go_wp2;go_round
   case rel => exact ⟨k + 1, by omega, by go_num, q16 (by have := hs1.out; omega)⟩
   case measure => simp [intOf]; omega
  ·obtain rfl : k = 512 := by omega
   have ht512 : F.take 512 = F := List.take_of_length_le (by rw [HFl.out]; omega);rw [ht512, XS2.out];rw [XS2.out] at hsum;clear ht512 hk hlt;have hot := qke (totB ⟨p, 4, m, d⟩) 5 (by omega);have XT2 := q4z (XT.out hot);generalize hTOT : totB ⟨p, 4, m, d⟩ = tot at *;have H0 := q4z HL2.out;go_wp2_with fail;refine (qgx (w.heap.size + 1) _ 148 6 tot _ H0.out (HT.out.below BW14.out) (by omega) (by omega) (by omega) (by omega)).mono ?_;rintro e v1 ⟨rfl, h1, b1⟩;have HV := q4z h1;have BV := q4z (BW14.out.trans (b1.mono (Nat.le_succ _)));clear h1 b1 H0;have c154 := HV.out.cell 154 (by omega);have f154 := HV.out.2.frozen 154;go_upto_region 36 with fail;have h2 := HV.out.set1 154 0 (by omega)
   have b2 := BV.out.setCell (p := ⟨w.heap.size + 1, 154, none⟩) (Nat.le_succ _) (.int .u8 ((0 : UInt8).toNat : Int));rw [XT2.out, XE2.out] at h2;rw [show ((0 : UInt8).toNat : Int) = 0 from rfl] at h2 b2;clear c154 f154 HV BV;generalize hv2 : v1.setCell ⟨w.heap.size + 1, 154, none⟩ (.int .u8 0) = v2 at h2 b2 ⊢;have HV := q4z h2;have BV := q4z b2;clear hv2 h2 b2 XT2 XE2 XT XS2 BW14 HL2 Hcs Hget Hsz HFl;have hwh := qwf v2 (w.heap.size + 1);have hst := qqz v2 (w.heap.size + 1);have XEE := q4z (show entB ⟨p, 4, m, d⟩ = qr0 ⟨p, 4, m, d⟩ ++ digB tot 6 ++ [32] ++ qon ⟨p, 4, m, d⟩ by
    unfold entB; rw [hTOT]; simp [qvv, filB])
   have hlen := HV.out.1;go_wp2;go_loop [13] (fun v => v = .slice (some ⟨w.heap.size + 1, 0, none⟩) 512 512) (fun _ => 0)
   case atStart => rfl
   case round =>
    subst hrel;go_wp2;go_ret;exact ⟨some ⟨w.heap.size + 1, 0, none⟩, 512, by rw [XEE.out, hlen]; rfl, by rw [XEE.out]; exact HV.out.rd, BV.out, _, _, rfl, by omega⟩
theorem qpz {c : Ent} (h : Fit c) : c.path.length ≤ 170 ∧ 0 ≤ c.mode ∧ c.mode ≤ 511 ∧ c.data.length ≤ 4096 ∧ (c.kind = 3 → c.data.length ≤ 100) ∧ (c.kind = 1 ∨ c.kind = 2 ∨ c.kind = 3 ∨ c.kind = 4 ∨ c.kind = 5) := by
 obtain ⟨hp, hg, h0⟩ := h;obtain ⟨hl, _⟩ := qa9 hp;refine ⟨hl, ?_⟩;rcases hg with hg | hg
 ·unfold qbm qiq at hg
  split at hg
  ·rename_i k1
   simp only [Bool.and_eq_true, decide_eq_true_eq, List.isEmpty_iff] at hg;obtain ⟨⟨h1, h2⟩, h3⟩ := hg;rw [h3]; exact ⟨h1, h2, by simp, by simp, .inl k1⟩
  ·split at hg
   ·rename_i _ k2
    simp only [Bool.and_eq_true, decide_eq_true_eq] at hg;obtain ⟨⟨h1, h2⟩, h3⟩ := hg;exact ⟨h1, h2, h3, by intro e; omega, .inr (.inl k2)⟩
   ·split at hg
    ·rename_i _ _ k3
     simp only [Bool.and_eq_true, decide_eq_true_eq, qgk] at hg;obtain ⟨h1, _, _, h3⟩ := hg;exact ⟨by omega, by omega, by omega, fun _ => h3, .inr (.inr (.inl k3))⟩
    ·cases hg
 ·unfold qmf at hg
  simp only [Bool.and_eq_true, Bool.or_eq_true, decide_eq_true_eq, List.isEmpty_iff] at hg;obtain ⟨⟨h1, h2⟩, h3⟩ := hg;rw [h3];exact ⟨by omega, by omega, by simp, by simp, by omega⟩
theorem q09 (c : Ent) (w : World) (hF : Fit c) (hk : c.kind = 4) (hS : Std w) (hT : Tz w) :
 Calls Tryz.prog 75 #[c.agg] w (q2e (entB c) w) := by
 obtain ⟨h1, h2, h3, h4, h5, h6⟩ := qpz hF;have h0 := hF.2.2;obtain ⟨p, k, m, d⟩ := c;simp only at h0 h1 h2 h3 h4 h5 h6 hk;subst hk;obtain ⟨m, rfl⟩ : ∃ n : Nat, m = n := ⟨m.toNat, by omega⟩;rw [show Ent.agg ⟨p, 4, m, d⟩ = .agg #[.string (S p), .int .i64 4, .int .i64 m, .string (S d)] from rfl];exact qr9 p d m w hF (by omega) h4 h1 (fun e => by have := h0 e; omega) hS hT
theorem Rd.far {w : World} {A : Option Addr} {cs : List Value} (h : Rd w A cs) (b : Nat) (hb : ∀ a, A = some a → a.block ≠ b) (o : Nat) (v : Value) : Rd (w.setCell ⟨b, o, none⟩ v) A cs := by
 rcases h with h | ⟨g, o', rfl, hc⟩
 ·exact .inl h
 ·refine .inr ⟨g, o', rfl, fun i u hu => ?_⟩
  rw [World.cell?_setCell_other _ _ _ _ (by intro e; have := congrArg Addr.block e; exact hb _ rfl this.symm)]; exact hc i u hu
theorem qp7 {B b : Nat} {bs : List Value} {w : World} (h : Lib.IsBuilder tBld qgn B b bs w) {A : Option Addr} {cs : List Value} (hr : Rd w A cs) (hn : ∀ a, A = some a → a.block ≠ b) :
 Calls Tryz.prog 85 #[.pointer (some ⟨b, 0, none⟩)] w fun e w' => e = .returned (.tuple #[]) ∧ Lib.BuilderAt tBld qgn B b (.pointer (some ⟨b, 0, none⟩)) bs w' ∧ Below B w w' ∧ w'.heap.size = w.heap.size ∧ Rd w' A cs := by
 rcases h with h | h
 ·refine (qg6 b w h.cell0 h.shape h.frozen0).mono ?_
  rintro e w' ⟨rfl, rfl⟩;exact ⟨rfl, h.used _, (Below.refl B w).setCell (p := ⟨b, 0, none⟩) h.1 _, by simp, hr.far b hn 0 _⟩
 ·refine (qh1 b w h.cell0).mono ?_
  rintro e w' ⟨rfl, rfl⟩;exact ⟨rfl, h, Below.refl B _, rfl, hr⟩
theorem qqe (l : List UInt8) : qe6 l = Lib.byteCells l := rfl
theorem Rd.notBld {B b : Nat} {l s : List UInt8} {A : Option Addr} {w : World} (h : Bld B b l w) (hr : Rd w A (qe6 s)) (hs : 0 < s.length) : ∀ a, A = some a → a.block ≠ b := by
 rintro a rfl e;rcases hr with h0 | ⟨g, o, ha, hc⟩
 ·have := congrArg List.length h0; rw [qft, List.length_nil] at this; omega
 ·obtain rfl := Option.some.inj ha
  subst e;have h1 := hc 0 _ (List.getElem?_eq_getElem (show 0 < (qe6 s).length by rw [qft]; exact hs));have key : ∀ p, Lib.BuilderAt tBld qgn B g (.pointer p) (Lib.byteCells l) w → False := by
   intro p ⟨hB, v, hbk, hown, _⟩;obtain ⟨ao, c, rfl⟩ := qad hown;rw [Nat.add_zero] at h1;have h2 : w.cell? ⟨g, o, none⟩ = #[Value.pointer p, .slice ao (Lib.byteCells l).length c][o]? := cell_of_row w g o _ _ _ hbk;rw [h2] at h1;have hv : (qe6 s)[0]'(by rw [qft]; exact hs) = .int .u8 (s[0].toNat : Int) := by simp [qe6]
   rw [hv] at h1;match o, h1 with
   | 0, h1 => simp at h1
   | 1, h1 => simp at h1
   | (n + 2), h1 => simp at h1
  rcases h with h | h
  ·exact key _ h
  ·exact key _ h
theorem qwa {B b : Nat} {l s : List UInt8} {A : Option Addr} {cap : Nat} {w : World} (h : Bld B b l w) (hr : Rd w A (qe6 s)) (hs0 : 0 < s.length) (hlen : l.length + s.length ≤ 4000000000) (hBw : B ≤ w.heap.size) :
 Calls Tryz.prog 74 #[.pointer (some ⟨b, 0, none⟩), .slice A s.length cap] w fun e w' => e = .returned (.tuple #[.int .i64 s.length, .nilIface]) ∧ Bld B b (l ++ s) w' ∧ Below B w w' := by
 obtain ⟨i0, hi, hz0, hz1, hz2⟩ := info_parts (show (Tryz.prog.info? qgn).map (fun i => (i.zero, i.size, i.bytes)) = some (some (.int .u8 0), 1, 1) by kernel_rfl);have hll : (Lib.byteCells l).length = l.length := Lib.byteCells_length l;have hn := q4z (Rd.notBld h hr hs0);have HS := q4z hBw;have HH := q4z h;have HR := q4z hr;clear h hBw hr;go_enter Tryz.func74, Tryz.ntmps74;go_wp2_with fail;refine (qp7 HH.out HR.out hn.out).mono ?_;rintro e1 w1 ⟨rfl, h1, hb1, hs1, hr1⟩;obtain ⟨hB, v, hbk, hown, hne⟩ := h1;have HS1 := q4z hs1;have HB := q4z hB;have HBK := q4z hbk;have HO := q4z hown;have HN := q4z hne
 have c0 : w1.cell? ⟨b, 0, none⟩ = some (.pointer (some ⟨b, 0, none⟩)) := by rw [Lib.cell_of_heap hbk]; rfl
 have c1 : w1.cell? ⟨b, 1, none⟩ = some v := by rw [Lib.cell_of_heap hbk]; rfl
 have f1 : w1.frozen? ⟨b, 1, none⟩ = false := Lib.frozen_of_heap hbk 1;have hlt : b < w1.heap.size := q40 w1 _ c0;obtain ⟨g, o, rfl, _, hcells⟩ := hr1.at 0 (by rw [qft]; exact hs0);have HC := q4z (show ∀ j u, (qe6 s)[j]? = some u → w1.cell? ((⟨g, o, none⟩ : Addr).add j) = some u by
  intro j u hu;have := hcells j u hu;rw [show (⟨g, o, none⟩ : Addr).add j = ⟨g, o + j, none⟩ from by simp [Addr.add]];exact this)
 have hone := q4z (show ∀ u ∈ qe6 s, u.oneCell' = true by
  intro u hu;unfold qe6 at hu;obtain ⟨x, _, rfl⟩ := List.mem_map.1 hu; rfl)
 have hbl := q4z (qft s);clear hB hbk hown hne hs1 hcells hr1 hn HR HH
 go_wp2_with (at_builtin; refine wpList_append_own _ rfl _ _ 113 rfl B qgn i0 (.int .u8 0) 1 1 Tryz.underlying113 hi hz0 hz1 hz2 rfl (by decide) _ _ _ rfl HO.out ⟨g, o, none⟩ s.length cap (qe6 s) rfl (by rw [hbl.out]; omega) HC.out hone.out (by rw [hll]; unfold maxLen; omega) (by rw [hll]; omega) (by have := HS1.out; have := HS.out; omega) ?_; intro v' w2 hown2 hgr2 _; have HO2 := q4z hown2; have HG2 := q4z hgr2; obtain ⟨g', cap', rfl⟩ := qad hown2; have hb2 : w2.heap[b]? = some (.cells #[.pointer (some ⟨b, 0, none⟩), v] tBld (0, 0)) := (by rw [hgr2.block b hlt (fun e => HN.out e.symm)]; exact HBK.out); have HB2 := q4z hb2; have d1 : w2.cell? ⟨b, 1, none⟩ = some v := (by rw [Lib.cell_of_heap hb2]; rfl); have f2 : w2.frozen? ⟨b, 1, none⟩ = false := Lib.frozen_of_heap hb2 1; clear hown2 hgr2 hb2)
 go_ret2;refine ⟨by simp, .inr ?_, ?_⟩
 ·refine Lib.BuilderAt.put (T := tBld) (e := qgn) HB.out HB2.out (bs' := Lib.byteCells (l ++ s)) ?_ (by decide)
  have h3 := HO2.out;rw [hll, qqe] at h3;rw [show Lib.byteCells (l ++ s) = Lib.byteCells l ++ Lib.byteCells s from by unfold Lib.byteCells; rw [List.map_append], List.length_append, hll, Lib.byteCells_length];exact h3
 ·exact (hb1.grown HG2.out (by have := HS1.out; have := HS.out; omega) (fun k hk => (HO.out.lt k hk).1)).setCell (p := ⟨b, 1, none⟩) HB.out _
theorem q1a (c : Ent) : 0 < (entB c).length := by unfold entB qon; simp; omega
theorem qxk (l : List Ent) (A : Option Addr) (cap : Nat) (w : World) (hr : Rd w A (ents l)) (hl : l.length ≤ 4294967290) (hz : (qef l).length ≤ 3000000000) (hc : ∀ c ∈ l, Fit c) (h4 : ∀ c ∈ l, c.kind = 4) (hS : Std w) (hT : Tz w) :
 Calls Tryz.prog 41 #[.slice A l.length cap] w fun e w' => e = .returned (.string (S (qnw l))) ∧ Below w.heap.size w w' := by
 have HF := q4z hc;have HF4 := q4z h4;have HS := q4z hS;have HT := q4z hT;have hb0 := Bld.new w.heap.size w (Nat.le_refl _);have hB0 := (Below.refl w.heap.size w).alloc (Nat.le_refl _) (.cells #[.pointer none, .slice none 0 0] tBld);have HB0 := q4z hB0;have Hb0 := q4z hb0;have HR := q4z hr;clear hc h4 hS hT hb0 hB0 hr;go_enter Tryz.func41, Tryz.ntmps41;go_wp2;try rw [show (ByteArray.mk #[]) = S [] from rfl]
 go_loopw [8] (fun i wr => ∃ k : Nat, k ≤ l.length ∧ i = .int .i64 k ∧ Hid (Bld w.heap.size w.heap.size (qef (l.take k)) wr) ∧ Hid (Below w.heap.size w wr)) (fun i _ => l.length - (intOf i).toNat)
 case atStart => exact ⟨0, Nat.zero_le _, rfl, Hb0.out, HB0.out⟩
 case round =>
  obtain ⟨k, hk, rfl, HBd, HB⟩ := hrel;have hq := qpe l k;by_cases hlt : k < l.length
  ·obtain ⟨b, o, rfl, hbb, c0, c1, c2, c3⟩ := qib HR.out HB.out k hlt
   have hq2 := qpe l (k + 1);have X := q4z (qle l k hlt);rw [qle l k hlt, List.length_append] at hq2;obtain ⟨c, hcc⟩ : ∃ c, l[k] = c := ⟨_, rfl⟩;have hfit := q4z (hcc ▸ HF.out _ (List.getElem_mem hlt));have hfit4 := q4z (hcc ▸ HF4.out _ (List.getElem_mem hlt));rw [hcc] at c0 c1 c2 c3 X hq2;have hkl : (k : Int) < (l.length : Int) := by omega
   have HB1 := q4z (HB.out.alloc HB.out.size (.cells #[.string (S c.path), .int .i64 c.kind, .int .i64 c.mode, .string (S c.data)] 50));have HBd1 := q4z (HBd.out.after ((Below.refl _ _).alloc (Nat.le_refl _) (.cells #[.string (S c.path), .int .i64 c.kind, .int .i64 c.mode, .string (S c.data)] 50)));have hpos := q1a c;clear hcc;go_wp2_with fail;refine (q09 c _ hfit.out hfit4.out (HS.out.below HB1.out) (HT.out.below HB1.out)).mono ?_;rintro e w2 ⟨A2, cap2, rfl, hr2, hb2, _⟩;have HR2 := q4z hr2;have HB2 := q4z (HB1.out.trans (hb2.mono HB1.out.size));have HBd2 := q4z (HBd1.out.after hb2);clear hr2 hb2 HB1 HBd1 c0 c1 c2 c3 HB HBd;generalize hE : entB c = E at *;clear hE;go_wp2_with fail
   refine (qwa HBd2.out HR2.out hpos (by omega) HB2.out.size).mono ?_;rintro e w3 ⟨rfl, hbd3, hb3⟩;have HB3 := q4z (HB2.out.trans hb3);have HBd3 := q4z hbd3;clear hbd3 hb3;go_wp2_with fail;go_round
   case rel => exact ⟨k + 1, by omega, by go_num, by rw [X.out]; exact HBd3.out, HB3.out⟩
   case measure => simp [intOf]; omega
  ·obtain rfl : k = l.length := by omega
   have X := q4z (show qnw l = qef l ++ List.replicate 1024 0 by simp [qnw, qef, filB]);have hlz : (List.replicate 1024 (0 : UInt8)).length ≤ 1024 := by rw [List.length_replicate]; omega
   have hRp := q4z (qjf 0 1024 wr (by omega));generalize List.replicate 1024 (0 : UInt8) = z at *;go_wp2_with fail;refine hRp.out.mono ?_;rintro e w2 ⟨rfl, hb2⟩;have HBd2 := q4z (HBd.out.after hb2);have HB2 := q4z (HB.out.trans (hb2.mono HB.out.size));clear hb2 hRp HBd HB;go_wp2_with fail;refine (qb3 HBd2.out (by omega) HB2.out.size).mono ?_;rintro e w3 ⟨rfl, hbd3, hb3, _⟩;have HB3 := q4z (HB2.out.trans hb3);have HBd3 := q4z hbd3;clear hbd3 hb3;go_wp2_with fail;refine (qf6 HBd3.out HB3.out.size).mono ?_;rintro e w4 ⟨rfl, hb4⟩;go_wp2_with fail;go_ret;exact ⟨qcv X.out.symm, HB3.out.trans hb4⟩
end Go.Proofs.YtikdblkfjchjbaaGreatDoor
