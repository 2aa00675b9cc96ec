import Derived.Test.YtikdblkfjchjbaaGreatDoorY04
import Derived.Test.YtikdblkfjchjbaaGreatDoorY37
set_option linter.unusedVariables false
set_option linter.unusedSimpArgs false
set_option maxHeartbeats 16000000
set_option maxRecDepth 100000
namespace Go.Proofs.YtikdblkfjchjbaaGreatDoor
open Go.RowKit
theorem qry (c : UInt8) (a b : List UInt8) (h : c ∉ a) : Lib.index (a ++ c :: b) [c] = a.length := by
 induction a with
 | nil => rw [List.nil_append, Lib.index, if_pos (by simp [List.isPrefixOf])]; rfl
 | cons x a ih =>
  have hx : ¬ c = x := by intro e; exact h (by simp [e])
  have ha : c ∉ a := by intro e; exact h (by simp [e])
  rw [List.cons_append, Lib.index, if_neg (by simp [List.isPrefixOf]; exact hx), ih ha, if_neg (by simp)];simp
theorem qyz (c : UInt8) (a b : List UInt8) (h : c ∉ a) : Lib.cut (a ++ c :: b) [c] = (a, b, true) := by
 unfold Lib.cut;rw [qry c a b h, if_pos (by omega)];simp
theorem q1k (a b : List UInt8) (w : World) (hw : Std w) (h : (47 : UInt8) ∉ a) (hs : a.length + b.length ≤ 4294967200) :
 Calls Tryz.prog 141 #[.string (S (a ++ 47 :: b)), .string (S [47])] w fun e w' => e = .returned (.tuple #[.string (S a), .string (S b), .bool true]) ∧ Below w.heap.size w w' := by
 obtain ⟨m, hm⟩ := hw.maxlen;refine (Tryz.strings_Cut (S (a ++ 47 :: b)) (S [47]) m w (by rw [qea]; simp; omega) hm).mono fun e w' ⟨he, n, hw⟩ => ?_
 refine ⟨?_, by rw [hw]; exact below_drewN (Below.refl _ _) n⟩;have e1 : (S (a ++ 47 :: b)).data.toList = a ++ 47 :: b := rfl;have e2 : (S [47]).data.toList = [47] := rfl;rw [he, e1, e2, qyz 47 a b h]; rfl
theorem qss (s p : List UInt8) (w : World) :
 Calls Tryz.prog 142 #[.string (S s), .string (S p)] w fun e w' => e = .returned (.string (S (Lib.trimPrefix s p))) ∧ w = w' :=
 (Tryz.strings_TrimPrefix (S s) (S p) w).mono fun _ _ ⟨he, hw⟩ => ⟨he, hw.symm⟩
theorem qjf (c : UInt8) (n : Nat) (w : World) (hn : n ≤ 100000) :
 Calls Tryz.prog 76 #[.string (S [c]), .int .i64 n] w fun e w' => e = .returned (.string (S (List.replicate n c))) ∧ Below w.heap.size w w' := by
 refine (Tryz.strings_Repeat (S [c]) n w (by omega) (by rw [qea]; simp; omega)).mono fun e w' ⟨he, hw⟩ => ⟨?_, hw⟩
 rw [he];have := Lib.repeatL_replicate c 1 n;rw [show List.replicate 1 c = [c] from rfl, Nat.mul_one] at this;show Ending.returned (.string (S (Lib.repeatL [c] n))) = _
 rw [this]
theorem qyk (w : World) : Calls Tryz.prog 222 #[.int .i64 8] w fun e w' => e = .returned (.bool true) ∧ w = w' := by
 go_enter Tryz.func222, Tryz.ntmps222;go_wp2;go_ret;exact ⟨rfl, rfl⟩
def Tz (w : World) : Prop := w.cell? ⟨9, 7, none⟩ = some (.int .u8 3)
theorem Tz.below {w w' : World} (h : Tz w) (hb : Below w.heap.size w w') : Tz w' := (hb.cell (q40 w _ h)).trans h
theorem qzu (w : World) (h : Tz w) : Calls Tryz.prog 233 #[.int .u64 8] w fun e w' => e = .returned (.int .i64 3) ∧ w = w' := by
 have hix : (IntKind.u64.wrap (Go.bits BinOp.and IntKind.u64 8 (IntKind.u64.wrap (-8)) * 285870213051353865) / 288230376151711744).toNat = 7 := by kernel_rfl
 unfold Tz at h;rw [← hix] at h;clear hix;go_enter Tryz.func233, Tryz.ntmps233;go_wp2;go_ret;exact ⟨rfl, rfl⟩
theorem q3t (w : World) (h : Tz w) : Calls Tryz.prog 223 #[.int .u64 8] w fun e w' => e = .returned (.int .i64 3) ∧ w = w' := by
 go_enter Tryz.func223, Tryz.ntmps223;go_wp2_with fail;refine (qzu _ h).mono ?_;rintro e w' ⟨rfl, rfl⟩;go_wp2;go_ret;exact ⟨rfl, rfl⟩
def qlw (q : Nat) (D : List UInt8) (j : Nat) : Value := if q ≤ j then .int .u8 ((D.getD (j - q) 0).toNat : Int) else .int .u8 0
theorem and7 (m : Nat) : Go.bits BinOp.and IntKind.u64 (m : Int) 7 = ((m % 8 : Nat) : Int) := by
 show IntKind.u64.wrap ((BitVec.ofInt 64 (m : Int) &&& BitVec.ofInt 64 7).toNat : Int) = _
 have h : (BitVec.ofInt 64 (m : Int) &&& BitVec.ofInt 64 7).toNat = m % 8 := by
  rw [BitVec.toNat_and, show (BitVec.ofInt 64 7).toNat = 2 ^ 3 - 1 from rfl, Nat.and_two_pow_sub_one_eq_mod, BitVec.toNat_ofInt];omega
 rw [h, IntKind.wrap_u64]; omega
theorem q4b : ∀ (q : Nat) (h : q < 36), q < 8 → [48, 49, 50, 51, 52, 53, 54, 55, 56, 57, 97, 98, 99, 100, 101, 102, 103, 104, 105, 106, 107, 108, 109, 110, 111, 112, 113, 114, 115, 116, 117, 118, 119, 120, 121, (122 : UInt8)][q]'h = UInt8.ofNat (48 + q) := by
 intro q h h8;have : q = 0 ∨ q = 1 ∨ q = 2 ∨ q = 3 ∨ q = 4 ∨ q = 5 ∨ q = 6 ∨ q = 7 := by omega
 rcases this with rfl | rfl | rfl | rfl | rfl | rfl | rfl | rfl <;> rfl
theorem qmk (n : Nat) (w : World) (hT : Tz w) (hn : n < 4294967290) :
 Calls Tryz.prog 205 #[.slice none 0 0, .int .u64 n, .int .i64 8, .bool false, .bool false] w fun e w' => e = .returned (.tuple #[.slice none 0 0, .string (S (octB n))]) ∧ Below w.heap.size w w' := by
 go_enter Tryz.func205, Tryz.ntmps205;go_wp2_with fail;refine (qyk _).mono ?_;rintro e w' ⟨rfl, rfl⟩;go_wp2_with fail;have hrow : (w.alloc (.cells Tryz.zeroCells309 309)).rowIs w.heap.size 309 65 (fun _ => .int .u8 0) := by
  have ez : Tryz.zeroCells309 = Array.replicate 65 (Value.int .u8 0) := by kernel_rfl
  rw [ez];have := World.rowIs_alloc w (Array.replicate 65 (Value.int .u8 0)) 309 (fun _ => .int .u8 0) (by
   intro i hi; rw [Array.size_replicate] at hi; rw [Array.getElem?_replicate, if_pos hi])
  rw [Array.size_replicate] at this; exact this
 have hb0 := (Below.refl w.heap.size w).alloc (Nat.le_refl _) (.cells Tryz.zeroCells309 309);generalize hW : w.alloc (.cells Tryz.zeroCells309 309) = w1 at hrow hb0 ⊢;refine (q3t _ (hT.below hb0)).mono ?_;rintro e w' ⟨rfl, rfl⟩;go_wp2_with fail;go_loopw [1, 13] (fun u i wr => ∃ (m r : Nat) (D : List UInt8), u = .int .u64 m ∧ i = .int .i64 (r + 1 : Nat) ∧ r + 1 + D.length = 65 ∧ m ≤ n ∧ Hid (octB n = octB m ++ D) ∧ Hid (wr.rowIs w.heap.size 309 65 (qlw (r + 1) D)) ∧ Hid (Below w.heap.size w wr)) (fun u _ _ => (intOf u).toNat)
 case atStart => exact ⟨n, 64, [], rfl, rfl, rfl, Nat.le_refl _, by simp [Hid], hrow.congr (fun j hj => by unfold qlw; rw [if_neg (by omega)]), hb0⟩
 case round =>
  obtain ⟨m, r, D, rfl, rfl, hl, hmn, hO, hR, hB⟩ := hrel;have hl2 : D.length ≤ 10 := by
   have h1 := congrArg List.length hO.out;have h2 := qke n 10 (by omega);have h3 := qs5 m;rw [List.length_append] at h1; omega
  have hc := q4z (hR.out.cell (i := r) (by omega));have hfz := hR.out.frozen r;have hc0 := hc.out;rw [show qlw (r + 1) D r = .int .u8 0 by unfold qlw; rw [if_neg (by omega)]] at hc0;by_cases hlt : 8 ≤ m
  ·have h7 := and7 m
   have X := q4z (qny (n := m) (by omega));have h8 : m % 8 < 8 := Nat.mod_lt _ (by omega);go_wp2_with fail;go_round
   case rel =>
    refine ⟨m / 8, r - 1, UInt8.ofNat (48 + m % 8) :: D, by go_num, ?_, by rw [List.length_cons]; omega, by omega, ?_, ?_, ?_⟩
    ·rw [show r - 1 + 1 = r by omega]
    ·show octB n = _
     rw [hO.out, X.out]; simp
    ·refine (hR.out.set r _).congr fun j hj => ?_
     rw [show r - 1 + 1 = r by omega];have hd := q4b (m % 8) (by omega) h8;by_cases hj1 : j = r
     ·subst hj1
      rw [if_pos rfl, hd]; unfold qlw;rw [if_pos (Nat.le_refl _), Nat.sub_self]; rfl
     ·rw [if_neg hj1]; unfold qlw
      by_cases hj2 : r + 1 ≤ j
      ·rw [if_pos hj2, if_pos (by omega), show j - r = (j - (r + 1)) + 1 by omega, List.getD_cons_succ]
      ·rw [if_neg hj2, if_neg (by omega)]
    ·exact hB.out.setCell (Nat.le_refl _) _
   case measure => simp [intOf]; omega
  ·have hdm := q4b m (by omega) (by omega)
   have hru : ∀ w' : World, (Instr.sliceAt 309 (.pointer (some ⟨w.heap.size, 0, none⟩)) (some (.int .i64 (r : Int))) none none).run Tryz.prog w' = .ok (.slice (some ⟨w.heap.size, r, none⟩) (65 - r) (65 - r)) w' := by
    have e : Tryz.prog.arrayLen 309 = 65 := by kernel_rfl
    intro w';rw [run_sliceAt_array_l (P := Tryz.prog) w' 309 ⟨w.heap.size, 0, none⟩ (by kernel_rfl) .i64 (r : Int) (by omega) (by rw [e]; omega), e];rw [show (sizeOf (Tryz.prog.elem 309)).run Tryz.prog w' = .ok 1 w' from by kernel_rfl];simp only [Result.andThen, slicedAt];rw [if_neg (by omega)];simp [Addr.add]
    try omega
   have hrow2 := hR.out.set r (.int .u8 ((UInt8.ofNat (48 + m)).toNat : Int));have hl3 : (UInt8.ofNat (48 + m) :: D).length = 65 - r := by rw [List.length_cons]; omega
   have hcv := run_convert_bytes_back (P := Tryz.prog) (wr.setCell ⟨w.heap.size, r, none⟩ (.int .u8 ((UInt8.ofNat (48 + m)).toNat : Int))) 113 9 5 ⟨w.heap.size, r, none⟩ (65 - r) (UInt8.ofNat (48 + m) :: D) (by kernel_rfl) (by kernel_rfl) (by kernel_rfl) (by
    intro j hj;rw [show Addr.add ⟨w.heap.size, r, none⟩ j = ⟨w.heap.size, r + j, none⟩ from by simp [Addr.add]];rw [hrow2.cell (by rw [hl3] at hj; omega)];cases j with
    | zero => rw [Nat.add_zero, if_pos rfl]; rfl
    | succ j =>
     rw [if_neg (by omega)]; unfold qlw;rw [if_pos (by omega), show r + (j + 1) - (r + 1) = j by omega, List.getElem_cons_succ, List.getD_eq_getElem?_getD, List.getElem?_eq_getElem (by simpa using hj)]; rfl)
   rw [hl3] at hcv;have X := q4z (show octB n = (48 + UInt8.ofNat m) :: D by rw [hO.out, qep (by omega)]; simp);have hB2 := q4z (hB.out.setCell (Nat.le_refl _) (p := ⟨w.heap.size, r, none⟩) (.int .u8 ((48 + (m : Int)) % 256)));clear hrow2 hl3;have hm36 : 0 ≤ (m : Int) ∧ (m : Int) < 36 := by omega
   have e8 : (48 + (m : Int)) % 256 = ((UInt8.ofNat (48 + m)).toNat : Int) := by simp
   rw [← e8] at hcv;clear e8;go_wp2_with fail;go_ret2;exact ⟨by rw [X.out]; rfl, hB2.out⟩
theorem qr4 (n : Nat) (w : World) (hT : Tz w) (hn : n < 4294967290) :
 Calls Tryz.prog 176 #[.int .i64 n, .int .i64 8] w fun e w' => e = .returned (.string (S (octB n))) ∧ Below w.heap.size w w' := by
 go_enter Tryz.func176, Tryz.ntmps176;go_wp2_with fail;refine (qmk n _ hT hn).mono ?_;rintro e w1 ⟨rfl, hb1⟩;go_wp2_with fail;go_ret;exact ⟨rfl, hb1⟩
theorem qvh (n : Nat) (w : World) (hT : Tz w) (hn : n < 4294967290) :
 Calls Tryz.prog 143 #[.int .i64 n, .int .i64 8] w fun e w' => e = .returned (.string (S (octB n))) ∧ Below w.heap.size w w' := by
 go_enter Tryz.func143, Tryz.ntmps143;go_wp2_with fail;refine (qr4 n _ hT hn).mono ?_;rintro e w1 ⟨rfl, hb1⟩;go_wp2_with fail;go_ret;exact ⟨rfl, hb1⟩
theorem Hdr.below {w w' : World} {g : Nat} {L : List UInt8} (h : Hdr w g L) (hb : Below w.heap.size w w') : Hdr w' g L := by
 obtain ⟨h1, h2⟩ := h;have hg : g < w.heap.size := q40 w _ (h2.cell (i := 0) (by omega));refine ⟨h1, ?_⟩;obtain ⟨c, hc, hcc⟩ := h2;exact ⟨c, (hb.block g hg).trans hc, hcc⟩
theorem Hdr.lt {w : World} {g : Nat} {L : List UInt8} (h : Hdr w g L) : g < w.heap.size := q40 w _ (h.2.cell (i := 0) (by omega))
theorem qgx (g : Nat) (L : List UInt8) (a k n : Nat) (w : World) (hH : Hdr w g L) (hT : Tz w) (ha : a + k ≤ 512) (hk : (octB n).length ≤ k) (hk2 : k ≤ 100) (hn : n < 4294967290) :
 Calls Tryz.prog 114 #[.pointer (some ⟨g, 0, none⟩), .int .i64 a, .int .i64 k, .int .i64 n] w fun e w' => e = .returned (.tuple #[]) ∧ Hdr w' g (setB L a (numB n k)) ∧ Below g w w' := by
 have ho := qs5 n;have X := q4z (show numB n k = List.replicate (k - (octB n).length) 48 ++ octB n from rfl);have Y := q4z (qhk n k hk);have HH := q4z hH;have hF := q4z (qvh n w hT hn);have hlt := hH.lt;clear hH hT;generalize octB n = o at *;go_enter Tryz.func114, Tryz.ntmps114;go_wp2_with fail;refine hF.out.mono ?_;rintro e w1 ⟨rfl, hb1⟩;have H1 := q4z (HH.out.below hb1);have B1 := q4z hb1;clear hb1 HH hF;have hkk : (k : Int) - (o.length : Int) = ((k - o.length : Nat) : Int) := by omega
 go_wp2_with fail;refine (qjf 48 (k - o.length) _ (by omega)).mono ?_;rintro e w2 ⟨rfl, hb2⟩;have H2 := q4z (H1.out.below hb2);have B2 := q4z (B1.out.trans (hb2.mono B1.out.size));have hl : (List.replicate (k - o.length) (48 : UInt8)).length ≤ 1000 := by simp; omega
 have hl2 : o.length ≤ 1000 := by omega
 rw [X.out] at Y;generalize List.replicate (k - o.length) (48 : UInt8) = z at *;clear hb2 B1 H1 hkk;go_wp2_with fail;refine (qhe g L a (z ++ o) _ H2.out (by rw [Y.out]; omega) (by omega)).mono ?_;rintro e w3 ⟨rfl, rfl⟩;go_wp2_with fail;go_end0
 exact ⟨rfl, by rw [X.out, ← List.map_append]; exact H2.out.set a _ (by rw [Y.out]; omega), below_setCells (Nat.le_refl _) _ _ _ (B2.out.mono (Nat.le_of_lt hlt))⟩
def qws : Value → Nat | .string s => s.size | _ => 0
theorem qno (a b : List UInt8) : Lib.trimPrefix (a ++ b) a = b := by
 unfold Lib.trimPrefix Lib.hasPrefix; simp
theorem qt0 {p : List UInt8} (h : p.head? ≠ some 47) : Lib.trimPrefix p [47] = p := by
 unfold Lib.trimPrefix Lib.hasPrefix;cases p with
 | nil => simp
 | cons x r =>
  have hx : ¬ (47 : UInt8) = x := fun e => h (by rw [← e]; rfl)
  simp [List.isPrefixOf, hx]
theorem qva {es : List (List UInt8)} (hE : NameE es) : (qae es).head? ≠ some 47 := by
 cases es with
 | nil => exact absurd rfl hE.ne
 | cons x r =>
  have hx : x ≠ [] := fun e => hE.first (by rw [e]; rfl)
  have hm := (hE.each x (by simp)).1;cases x with
  | nil => exact absurd rfl hx
  | cons c t =>
   have hc : ¬ c = 47 := fun e => hm (by rw [e]; simp)
   cases r with
   | nil => simpa [qae] using hc
   | cons y s => simpa [qae] using hc
theorem q2k {es : List (List UInt8)} (hE : NameE es) (k : Nat) (hk : k < es.length) (h0 : 0 < k) : qae (es.take k) ≠ [] := by
 refine qlm ?_ ?_
 ·intro e he
  obtain ⟨i, hi, rfl⟩ := List.getElem_of_mem he;rw [List.length_take] at hi;rw [List.getElem_take];exact hE.inner i (by omega)
 ·intro e; have := congrArg List.length e; rw [List.length_take, List.length_nil] at this; omega
theorem qwl {es : List (List UInt8)} (hE : NameE es) (k : Nat) (hk : k + 1 < es.length) : inB (qae (es.take k)) es[k] = qae (es.take (k + 1)) := by
 rw [qm5 es k (by omega)];unfold inB;by_cases h0 : k = 0
 ·subst h0; rw [if_pos rfl, List.take_zero]; simp [qae]
 ·rw [if_neg h0, if_neg]
  rintro (e | e)
  ·exact q2k hE k (by omega) (by omega) e
  ·exact hE.inner k hk e
theorem q0h (g : Nat) (L : List UInt8) (es : List (List UInt8)) (w : World) (hE : NameE es) (hl : (qae es).length ≤ 190) (hH : Hdr w g L) (hS : Std w) :
 Calls Tryz.prog 113 #[.pointer (some ⟨g, 0, none⟩), .string (S (qae es))] w fun e w' => e = .returned (.tuple #[]) ∧ Hdr w' g (setB (setB L 345 (splB (qae es)).1) 0 (splB (qae es)).2) ∧ Below g w w' := by
 have HE := q4z hE;have HH := q4z hH;have HS := q4z hS;have hlt := hH.lt;have hn : 0 < es.length := List.length_pos_iff.2 hE.ne;have hsp := qou hE hl;clear hE hH hS;go_enter Tryz.func113, Tryz.ntmps113;go_wp2;try rw [show (ByteArray.mk #[]) = S [] from rfl]
 go_loopw [4, 5] (fun a r wr => ∃ k : Nat, k < es.length ∧ a = .string (S (qae (es.take k))) ∧ r = .string (S (qae (es.drop k))) ∧ Hid (k = 0 ∨ 100 < (qae (es.drop (k - 1))).length) ∧ Hid (Below w.heap.size w wr)) (fun _ r _ => qws r)
 case atStart => exact ⟨0, hn, rfl, rfl, .inl rfl, Below.refl _ _⟩
 case round =>
  obtain ⟨k, hk, rfl, rfl, hK, hB⟩ := hrel;have hdl : (qae (es.drop k)).length ≤ 190 := by
   by_cases h0 : k = 0
   ·subst h0; rw [List.drop_zero]; exact hl
   ·rw [qdr es k (by omega) hk] at hl; simp at hl; omega
  by_cases hgt : 100 < (qae (es.drop k)).length
  ·have hk1 : k + 1 < es.length := by
    by_cases h : k + 1 < es.length
    ·exact h
    ·rw [qg3 es k (by omega)] at hgt
     have := (HE.out.each es[k] (List.getElem_mem _)).2; omega
   have hd := q4z (qjp es k hk1);have h47 := q4z (HE.out.each es[k] (List.getElem_mem _)).1;have he64 := (HE.out.each es[k] (List.getElem_mem _)).2;have htk := q4z (qwl HE.out k hk1);have htl : (qae (es.take k)).length ≤ 190 := by
    by_cases h0 : k = 0
    ·subst h0; simp [qae]
    ·rw [qdr es k (by omega) hk] at hl; simp at hl; omega
   have hrl : (qae (es.drop (k + 1))).length ≤ 190 := by rw [hd.out] at hdl; simp at hdl; omega
   have hC := q4z (q1k es[k] (qae (es.drop (k + 1))) wr (HS.out.below hB.out) h47.out (by omega));rw [← hd.out] at hC;have hmeas := q4z (show (qae (es.drop (k + 1))).length < (qae (es.drop k)).length by rw [hd.out]; simp; omega);generalize hx : es[k] = x at *;go_wp2_with fail;refine hC.out.mono ?_;rintro e w1 ⟨rfl, hb1⟩;have hB1 := q4z (hB.out.trans (hb1.mono hB.out.size));clear hC hb1 hdl;go_wp2_with fail;refine (qe2 (qae (es.take k)) x _ (by omega)).mono ?_;rintro e w2 ⟨rfl, rfl⟩;rw [htk.out];go_wp2_with fail;go_round
   case rel => exact ⟨k + 1, hk1, rfl, rfl, .inr (by rw [Nat.add_sub_cancel]; exact hgt), hB1.out⟩
   case measure => simp [qws]; exact hmeas.out
  ·have hle : (qae (es.drop k)).length ≤ 100 := by omega
   have hspl := q4z (show splB (qae es) = (qae (es.take k), qae (es.drop k)) by
    by_cases h0 : k = 0
    ·subst h0; rw [List.drop_zero] at hle ⊢; rw [qms hle]; rfl
    ·exact qmt HE.out k (by omega) hk (by rcases hK.out with h | h; exact absurd h h0; exact h) hle)
   have htr := q4z (show Lib.trimPrefix (Lib.trimPrefix (qae es) (qae (es.take k))) [47] = qae (es.drop k) by
    by_cases h0 : k = 0
    ·subst h0
     rw [List.take_zero, List.drop_zero];show Lib.trimPrefix (Lib.trimPrefix (qae es) []) [47] = _
     have : Lib.trimPrefix (qae es) [] = qae es := qno [] (qae es);rw [this, qt0 (qva HE.out)]
    ·rw [qdr es k (by omega) hk, qno]
     exact qno [47] _)
   rw [hspl.out] at hsp;have hsp1 := hsp.1;have H1 := q4z (HH.out.below hB.out);clear hsp hK hgt;generalize hA : qae (es.take k) = A at *;generalize hR : qae (es.drop k) = R at *;generalize hP : qae es = P at *;clear hA hR;replace hsp1 : A.length ≤ 155 := hsp1;go_wp2_with fail;refine (qhe g L 345 A _ H1.out (by omega) (by omega)).mono ?_;rintro e w1 ⟨rfl, hw1⟩;have H2 := q4z (H1.out.set 345 A (by omega));have B2 := q4z (below_setCells (Nat.le_refl g) (A.map fun x => Value.int .u8 (x.toNat : Int)) 345 wr (hB.out.mono (Nat.le_of_lt hlt)));rw [← hw1] at H2 B2;clear hw1;go_wp2_with fail;refine (qss P A _).mono ?_;rintro e w2 ⟨rfl, rfl⟩;generalize hT1 : Lib.trimPrefix P A = T1 at htr ⊢
   go_wp2_with fail;refine (qss T1 [47] _).mono ?_;rintro e w2 ⟨rfl, rfl⟩;rw [htr.out];go_wp2_with fail;refine (qhe g (setB L 345 A) 0 R _ H2.out (by omega) (by omega)).mono ?_;rintro e w3 ⟨rfl, hw3⟩;have H3 := q4z (H2.out.set 0 R (by omega));have B3 := q4z (below_setCells (Nat.le_refl g) (R.map fun x => Value.int .u8 (x.toNat : Int)) 0 _ B2.out);rw [← hw3] at H3 B3;clear hw3;go_wp2_with fail;go_end0
   exact ⟨rfl, by rw [hP, hspl.out]; exact H3.out, B3.out⟩
end Go.Proofs.YtikdblkfjchjbaaGreatDoor
