/-
  The program: the library's Cut, TrimPrefix, Repeat in the form of lists.
  The program: the library's octal digits.
  The program: the library's digits to the base eight.
  The program: a number set into a header in octal digits.
  The program: a name set into a header in two parts.
-/
import Derived.Deep.DeepCutAuto
import Derived.Test.YtpkabccinhfmbaaGreatDoorY01
import Derived.Test.YtpkabccinhfmbaaGreatDoorY02
import Derived.Test.YtpkabccinhfmbaaGreatDoorY19
set_option linter.unusedVariables false
set_option linter.unusedSimpArgs false
namespace Go.Proofs.YtpkabccinhfmbaaGreatDoor
open Go.RowKit

theorem index_piece (c : UInt8) (a b : List UInt8) (h : c ∉ a) : Lib.index (a ++ c :: b) [c] = a.length := by
  induction a with
  | nil => rw [List.nil_append, Lib.index, if_pos (by simp [List.isPrefixOf])]; rfl
  | cons x a ih =>
    have hx : ¬ c = x := by intro e; exact h (by simp [e])
    have ha : c ∉ a := by intro e; exact h (by simp [e])
    rw [List.cons_append, Lib.index, if_neg (by simp [List.isPrefixOf]; exact hx), ih ha, if_neg (by simp)]
    simp
theorem cut_piece (c : UInt8) (a b : List UInt8) (h : c ∉ a) : Lib.cut (a ++ c :: b) [c] = (a, b, true) := by
  unfold Lib.cut
  rw [index_piece c a b h, if_pos (by omega)]
  simp
theorem cut1_any (a b : List UInt8) (w : World) (hw : Std w) (h : (47 : UInt8) ∉ a) (hs : a.length + b.length ≤ 4294967200) :
    Calls Tryz.prog 77 #[.string (S (a ++ 47 :: b)), .string (S [47])] w fun e w' => e = .returned (.tuple #[.string (S a), .string (S b), .bool true]) ∧ Below w.heap.size w w' := by
  obtain ⟨m, hm⟩ := hw.maxlen
  refine (Tryz.strings_Cut (S (a ++ 47 :: b)) (S [47]) m w (by rw [S_size]; simp; omega) hm).mono fun e w' ⟨he, n, hw⟩ => ?_
  refine ⟨?_, by rw [hw]; exact below_drewN (Below.refl _ _) n⟩
  have e1 : (S (a ++ 47 :: b)).data.toList = a ++ 47 :: b := rfl
  have e2 : (S [47]).data.toList = [47] := rfl
  rw [he, e1, e2, cut_piece 47 a b h]; rfl
theorem trim_any (s p : List UInt8) (w : World) :
    Calls Tryz.prog 78 #[.string (S s), .string (S p)] w fun e w' => e = .returned (.string (S (Lib.trimPrefix s p))) ∧ w = w' :=
  (Tryz.strings_TrimPrefix (S s) (S p) w).mono fun _ _ ⟨he, hw⟩ => ⟨he, hw.symm⟩
theorem repeat_any (c : UInt8) (n : Nat) (w : World) (hn : n ≤ 100000) :
    Calls Tryz.prog 42 #[.string (S [c]), .int .i64 n] w fun e w' => e = .returned (.string (S (List.replicate n c))) ∧ Below w.heap.size w w' := by
  refine (Tryz.strings_Repeat (S [c]) n w (by omega) (by rw [S_size]; simp; omega)).mono fun e w' ⟨he, hw⟩ => ⟨?_, hw⟩
  rw [he]
  have := Lib.repeatL_replicate c 1 n
  rw [show List.replicate 1 c = [c] from rfl, Nat.mul_one] at this
  show Ending.returned (.string (S (Lib.repeatL [c] n))) = _
  rw [this]
end Go.Proofs.YtpkabccinhfmbaaGreatDoor
namespace Go.Proofs.YtpkabccinhfmbaaGreatDoor
open Go.RowKit

theorem isPow_any (w : World) : Calls Tryz.prog 150 #[.int .i64 8] w fun e w' => e = .returned (.bool true) ∧ w = w' := by
  go_enter Tryz.func150, Tryz.ntmps150
  go_wp2
  go_ret
  exact ⟨rfl, rfl⟩

/-- the one cell of the table that eight reads -/
def Tz (w : World) : Prop := w.cell? ⟨8, 7, none⟩ = some (.int .u8 3)
theorem Tz.below {w w' : World} (h : Tz w) (hb : Below w.heap.size w w') : Tz w' := (hb.cell (World.block_lt_of_cell? w _ h)).trans h

theorem tz64_any (w : World) (h : Tz w) : Calls Tryz.prog 158 #[.int .u64 8] w fun e w' => e = .returned (.int .i64 3) ∧ w = w' := by
  have hix : (IntKind.u64.wrap (Go.bits BinOp.and IntKind.u64 8 (IntKind.u64.wrap (-8)) * 285870213051353865) / 288230376151711744).toNat = 7 := by kernel_rfl
  unfold Tz at h
  rw [← hix] at h
  clear hix
  go_enter Tryz.func158, Tryz.ntmps158
  go_wp2
  go_ret
  exact ⟨rfl, rfl⟩
theorem tz_any (w : World) (h : Tz w) : Calls Tryz.prog 151 #[.int .u64 8] w fun e w' => e = .returned (.int .i64 3) ∧ w = w' := by
  go_enter Tryz.func151, Tryz.ntmps151
  go_wp2_with fail
  refine (tz64_any _ h).mono ?_
  rintro e w' ⟨rfl, rfl⟩
  go_wp2
  go_ret
  exact ⟨rfl, rfl⟩
end Go.Proofs.YtpkabccinhfmbaaGreatDoor
namespace Go.Proofs.YtpkabccinhfmbaaGreatDoor
open Go.RowKit

/-- the digits laid so far, from q on -/
def digRow (q : Nat) (D : List UInt8) (j : Nat) : Value := if q ≤ j then .int .u8 ((D.getD (j - q) 0).toNat : Int) else .int .u8 0
theorem and7 (m : Nat) : Go.bits BinOp.and IntKind.u64 (m : Int) 7 = ((m % 8 : Nat) : Int) := by
  show IntKind.u64.wrap ((BitVec.ofInt 64 (m : Int) &&& BitVec.ofInt 64 7).toNat : Int) = _
  have h : (BitVec.ofInt 64 (m : Int) &&& BitVec.ofInt 64 7).toNat = m % 8 := by
    rw [BitVec.toNat_and, show (BitVec.ofInt 64 7).toNat = 2 ^ 3 - 1 from rfl, Nat.and_two_pow_sub_one_eq_mod, BitVec.toNat_ofInt]
    omega
  rw [h, IntKind.wrap_u64]; omega

theorem dig36 : ∀ (q : Nat) (h : q < 36), q < 8 → [48, 49, 50, 51, 52, 53, 54, 55, 56, 57, 97, 98, 99, 100, 101, 102, 103, 104, 105, 106, 107, 108, 109, 110, 111, 112, 113, 114, 115, 116, 117, 118, 119, 120, 121, (122 : UInt8)][q]'h = UInt8.ofNat (48 + q) := by
  intro q h h8
  have : q = 0 ∨ q = 1 ∨ q = 2 ∨ q = 3 ∨ q = 4 ∨ q = 5 ∨ q = 6 ∨ q = 7 := by omega
  rcases this with rfl | rfl | rfl | rfl | rfl | rfl | rfl | rfl <;> rfl
set_option maxRecDepth 100000 in
set_option maxHeartbeats 2000000 in
theorem formatBits_any (n : Nat) (w : World) (hT : Tz w) (hn : n < 4294967290) :
    Calls Tryz.prog 131 #[.slice none 0 0, .int .u64 n, .int .i64 8, .bool false, .bool false] w fun e w' => e = .returned (.tuple #[.slice none 0 0, .string (S (octB n))]) ∧ Below w.heap.size w w' := by
  go_enter Tryz.func131, Tryz.ntmps131
  go_wp2_with fail
  refine (isPow_any _).mono ?_
  rintro e w' ⟨rfl, rfl⟩
  go_wp2_with fail
  have hrow : (w.alloc (.cells Tryz.zeroCells212 212)).rowIs w.heap.size 212 65 (fun _ => .int .u8 0) := by
    have ez : Tryz.zeroCells212 = Array.replicate 65 (Value.int .u8 0) := by kernel_rfl
    rw [ez]
    have := World.rowIs_alloc w (Array.replicate 65 (Value.int .u8 0)) 212 (fun _ => .int .u8 0) (by
      intro i hi; rw [Array.size_replicate] at hi; rw [Array.getElem?_replicate, if_pos hi])
    rw [Array.size_replicate] at this; exact this
  have hb0 := (Below.refl w.heap.size w).alloc (Nat.le_refl _) (.cells Tryz.zeroCells212 212)
  generalize hW : w.alloc (.cells Tryz.zeroCells212 212) = w1 at hrow hb0 ⊢
  refine (tz_any _ (hT.below hb0)).mono ?_
  rintro e w' ⟨rfl, rfl⟩
  go_wp2_with fail
  go_loopw [1, 13] (fun u i wr => ∃ (m r : Nat) (D : List UInt8), u = .int .u64 m ∧ i = .int .i64 (r + 1 : Nat) ∧ r + 1 + D.length = 65 ∧ m ≤ n ∧ Hid (octB n = octB m ++ D) ∧ Hid (wr.rowIs w.heap.size 212 65 (digRow (r + 1) D)) ∧ Hid (Below w.heap.size w wr)) (fun u _ _ => (intOf u).toNat)
  case atStart => exact ⟨n, 64, [], rfl, rfl, rfl, Nat.le_refl _, by simp [Hid], hrow.congr (fun j hj => by unfold digRow; rw [if_neg (by omega)]), hb0⟩
  case round =>
    obtain ⟨m, r, D, rfl, rfl, hl, hmn, hO, hR, hB⟩ := hrel
    have hl2 : D.length ≤ 10 := by
      have h1 := congrArg List.length hO.out
      have h2 := octB_len n 10 (by omega)
      have h3 := octB_pos m
      rw [List.length_append] at h1; omega
    have hc := Lib.hid (hR.out.cell (i := r) (by omega))
    have hfz := hR.out.frozen r
    have hc0 := hc.out
    rw [show digRow (r + 1) D r = .int .u8 0 by unfold digRow; rw [if_neg (by omega)]] at hc0
    by_cases hlt : 8 ≤ m
    · have h7 := and7 m
      have X := Lib.hid (octB_big (n := m) (by omega))
      have h8 : m % 8 < 8 := Nat.mod_lt _ (by omega)
      go_wp2_with fail
      go_round
      case rel =>
        refine ⟨m / 8, r - 1, UInt8.ofNat (48 + m % 8) :: D, by go_num, ?_, by rw [List.length_cons]; omega, by omega, ?_, ?_, ?_⟩
        · rw [show r - 1 + 1 = r by omega]
        · show octB n = _
          rw [hO.out, X.out]; simp
        · refine (hR.out.set r _).congr fun j hj => ?_
          rw [show r - 1 + 1 = r by omega]
          have hd := dig36 (m % 8) (by omega) h8
          by_cases hj1 : j = r
          · subst hj1
            rw [if_pos rfl, hd]; unfold digRow
            rw [if_pos (Nat.le_refl _), Nat.sub_self]; rfl
          · rw [if_neg hj1]; unfold digRow
            by_cases hj2 : r + 1 ≤ j
            · rw [if_pos hj2, if_pos (by omega), show j - r = (j - (r + 1)) + 1 by omega, List.getD_cons_succ]
            · rw [if_neg hj2, if_neg (by omega)]
        · exact hB.out.setCell (Nat.le_refl _) _
      case measure => simp [intOf]; omega
    · have hdm := dig36 m (by omega) (by omega)
      have hru : ∀ w' : World, (Instr.sliceAt 212 (.pointer (some ⟨w.heap.size, 0, none⟩)) (some (.int .i64 (r : Int))) none none).run Tryz.prog w' = .ok (.slice (some ⟨w.heap.size, r, none⟩) (65 - r) (65 - r)) w' := by
        have e : Tryz.prog.arrayLen 212 = 65 := by kernel_rfl
        intro w'
        rw [run_sliceAt_array_l (P := Tryz.prog) w' 212 ⟨w.heap.size, 0, none⟩ (by kernel_rfl) .i64 (r : Int) (by omega) (by rw [e]; omega), e]
        rw [show (sizeOf (Tryz.prog.elem 212)).run Tryz.prog w' = .ok 1 w' from by kernel_rfl]
        simp only [Result.andThen, slicedAt]
        rw [if_neg (by omega)]
        simp [Addr.add]
        try omega
      have hrow2 := hR.out.set r (.int .u8 ((UInt8.ofNat (48 + m)).toNat : Int))
      have hl3 : (UInt8.ofNat (48 + m) :: D).length = 65 - r := by rw [List.length_cons]; omega
      have hcv := run_convert_bytes_back (P := Tryz.prog) (wr.setCell ⟨w.heap.size, r, none⟩ (.int .u8 ((UInt8.ofNat (48 + m)).toNat : Int))) 95 9 5 ⟨w.heap.size, r, none⟩ (65 - r) (UInt8.ofNat (48 + m) :: D) (by kernel_rfl) (by kernel_rfl) (by kernel_rfl) (by
        intro j hj
        rw [show Addr.add ⟨w.heap.size, r, none⟩ j = ⟨w.heap.size, r + j, none⟩ from by simp [Addr.add]]
        rw [hrow2.cell (by rw [hl3] at hj; omega)]
        cases j with
        | zero => rw [Nat.add_zero, if_pos rfl]; rfl
        | succ j =>
          rw [if_neg (by omega)]; unfold digRow
          rw [if_pos (by omega), show r + (j + 1) - (r + 1) = j by omega, List.getElem_cons_succ, List.getD_eq_getElem?_getD, List.getElem?_eq_getElem (by simpa using hj)]; rfl)
      rw [hl3] at hcv
      have X := Lib.hid (show octB n = (48 + UInt8.ofNat m) :: D by rw [hO.out, octB_small (by omega)]; simp)
      have hB2 := Lib.hid (hB.out.setCell (Nat.le_refl _) (p := ⟨w.heap.size, r, none⟩) (.int .u8 ((48 + (m : Int)) % 256)))
      clear hrow2 hl3
      have hm36 : 0 ≤ (m : Int) ∧ (m : Int) < 36 := by omega
      have e8 : (48 + (m : Int)) % 256 = ((UInt8.ofNat (48 + m)).toNat : Int) := by simp
      rw [← e8] at hcv
      clear e8
      go_wp2_with fail
      go_ret2
      exact ⟨by rw [X.out]; rfl, hB2.out⟩
end Go.Proofs.YtpkabccinhfmbaaGreatDoor
namespace Go.Proofs.YtpkabccinhfmbaaGreatDoor
open Go.RowKit

theorem formatI_any (n : Nat) (w : World) (hT : Tz w) (hn : n < 4294967290) :
    Calls Tryz.prog 103 #[.int .i64 n, .int .i64 8] w fun e w' => e = .returned (.string (S (octB n))) ∧ Below w.heap.size w w' := by
  go_enter Tryz.func103, Tryz.ntmps103
  go_wp2_with fail
  refine (formatBits_any n _ hT hn).mono ?_
  rintro e w1 ⟨rfl, hb1⟩
  go_wp2_with fail
  go_ret
  exact ⟨rfl, hb1⟩
theorem format_any (n : Nat) (w : World) (hT : Tz w) (hn : n < 4294967290) :
    Calls Tryz.prog 79 #[.int .i64 n, .int .i64 8] w fun e w' => e = .returned (.string (S (octB n))) ∧ Below w.heap.size w w' := by
  go_enter Tryz.func79, Tryz.ntmps79
  go_wp2_with fail
  refine (formatI_any n _ hT hn).mono ?_
  rintro e w1 ⟨rfl, hb1⟩
  go_wp2_with fail
  go_ret
  exact ⟨rfl, hb1⟩

theorem Hdr.below {w w' : World} {g : Nat} {L : List UInt8} (h : Hdr w g L) (hb : Below w.heap.size w w') : Hdr w' g L := by
  obtain ⟨h1, h2⟩ := h
  have hg : g < w.heap.size := World.block_lt_of_cell? w _ (h2.cell (i := 0) (by omega))
  refine ⟨h1, ?_⟩
  obtain ⟨c, hc, hcc⟩ := h2
  exact ⟨c, (hb.block g hg).trans hc, hcc⟩
theorem Hdr.lt {w : World} {g : Nat} {L : List UInt8} (h : Hdr w g L) : g < w.heap.size := World.block_lt_of_cell? w _ (h.2.cell (i := 0) (by omega))

set_option maxHeartbeats 1000000 in
theorem num_any (g : Nat) (L : List UInt8) (a k n : Nat) (w : World) (hH : Hdr w g L) (hT : Tz w) (ha : a + k ≤ 512) (hk : (octB n).length ≤ k) (hk2 : k ≤ 100) (hn : n < 4294967290) :
    Calls Tryz.prog 61 #[.pointer (some ⟨g, 0, none⟩), .int .i64 a, .int .i64 k, .int .i64 n] w fun e w' => e = .returned (.tuple #[]) ∧ Hdr w' g (setB L a (numB n k)) ∧ Below g w w' := by
  have ho := octB_pos n
  have X := Lib.hid (show numB n k = List.replicate (k - (octB n).length) 48 ++ octB n from rfl)
  have Y := Lib.hid (numB_len n k hk)
  have HH := Lib.hid hH
  have hF := Lib.hid (format_any n w hT hn)
  have hlt := hH.lt
  clear hH hT
  generalize octB n = o at *
  go_enter Tryz.func61, Tryz.ntmps61
  go_wp2_with fail
  refine hF.out.mono ?_
  rintro e w1 ⟨rfl, hb1⟩
  have H1 := Lib.hid (HH.out.below hb1)
  have B1 := Lib.hid hb1
  clear hb1 HH hF
  have hkk : (k : Int) - (o.length : Int) = ((k - o.length : Nat) : Int) := by omega
  go_wp2_with fail
  refine (repeat_any 48 (k - o.length) _ (by omega)).mono ?_
  rintro e w2 ⟨rfl, hb2⟩
  have H2 := Lib.hid (H1.out.below hb2)
  have B2 := Lib.hid (B1.out.trans (hb2.mono B1.out.size))
  have hl : (List.replicate (k - o.length) (48 : UInt8)).length ≤ 1000 := by simp; omega
  have hl2 : o.length ≤ 1000 := by omega
  rw [X.out] at Y
  generalize List.replicate (k - o.length) (48 : UInt8) = z at *
  clear hb2 B1 H1 hkk
  go_wp2_with fail
  refine (text_any g L a (z ++ o) _ H2.out (by rw [Y.out]; omega) (by omega)).mono ?_
  rintro e w3 ⟨rfl, rfl⟩
  go_wp2_with fail
  go_end0
  exact ⟨rfl, by rw [X.out, ← List.map_append]; exact H2.out.set a _ (by rw [Y.out]; omega), below_setCells (Nat.le_refl _) _ _ _ (B2.out.mono (Nat.le_of_lt hlt))⟩
end Go.Proofs.YtpkabccinhfmbaaGreatDoor
namespace Go.Proofs.YtpkabccinhfmbaaGreatDoor
open Go.RowKit

def strSize : Value → Nat | .string s => s.size | _ => 0
theorem trim_app (a b : List UInt8) : Lib.trimPrefix (a ++ b) a = b := by
  unfold Lib.trimPrefix Lib.hasPrefix; simp
theorem trim_slash {p : List UInt8} (h : p.head? ≠ some 47) : Lib.trimPrefix p [47] = p := by
  unfold Lib.trimPrefix Lib.hasPrefix
  cases p with
  | nil => simp
  | cons x r =>
    have hx : ¬ (47 : UInt8) = x := fun e => h (by rw [← e]; rfl)
    simp [List.isPrefixOf, hx]
theorem joinB_head {es : List (List UInt8)} (hE : NameE es) : (joinB es).head? ≠ some 47 := by
  cases es with
  | nil => exact absurd rfl hE.ne
  | cons x r =>
    have hx : x ≠ [] := fun e => hE.first (by rw [e]; rfl)
    have hm := (hE.each x (by simp)).1
    cases x with
    | nil => exact absurd rfl hx
    | cons c t =>
      have hc : ¬ c = 47 := fun e => hm (by rw [e]; simp)
      cases r with
      | nil => simpa [joinB] using hc
      | cons y s => simpa [joinB] using hc
theorem take_ne {es : List (List UInt8)} (hE : NameE es) (k : Nat) (hk : k < es.length) (h0 : 0 < k) : joinB (es.take k) ≠ [] := by
  refine joinB_nil ?_ ?_
  · intro e he
    obtain ⟨i, hi, rfl⟩ := List.getElem_of_mem he
    rw [List.length_take] at hi
    rw [List.getElem_take]
    exact hE.inner i (by omega)
  · intro e; have := congrArg List.length e; rw [List.length_take, List.length_nil] at this; omega
theorem take_join {es : List (List UInt8)} (hE : NameE es) (k : Nat) (hk : k + 1 < es.length) : inB (joinB (es.take k)) es[k] = joinB (es.take (k + 1)) := by
  rw [joinB_take es k (by omega)]
  unfold inB
  by_cases h0 : k = 0
  · subst h0; rw [if_pos rfl, List.take_zero]; simp [joinB]
  · rw [if_neg h0, if_neg]
    rintro (e | e)
    · exact take_ne hE k (by omega) (by omega) e
    · exact hE.inner k hk e

set_option maxHeartbeats 2000000 in
theorem name_any (g : Nat) (L : List UInt8) (es : List (List UInt8)) (w : World) (hE : NameE es) (hl : (joinB es).length ≤ 190) (hH : Hdr w g L) (hS : Std w) :
    Calls Tryz.prog 60 #[.pointer (some ⟨g, 0, none⟩), .string (S (joinB es))] w fun e w' => e = .returned (.tuple #[]) ∧ Hdr w' g (setB (setB L 345 (splB (joinB es)).1) 0 (splB (joinB es)).2) ∧ Below g w w' := by
  have HE := Lib.hid hE
  have HH := Lib.hid hH
  have HS := Lib.hid hS
  have hlt := hH.lt
  have hn : 0 < es.length := List.length_pos_iff.2 hE.ne
  have hsp := split_len hE hl
  clear hE hH hS
  go_enter Tryz.func60, Tryz.ntmps60
  go_wp2
  try rw [show (ByteArray.mk #[]) = S [] from rfl]
  go_loopw [4, 5] (fun a r wr => ∃ k : Nat, k < es.length ∧ a = .string (S (joinB (es.take k))) ∧ r = .string (S (joinB (es.drop k))) ∧ Hid (k = 0 ∨ 100 < (joinB (es.drop (k - 1))).length) ∧ Hid (Below w.heap.size w wr)) (fun _ r _ => strSize r)
  case atStart => exact ⟨0, hn, rfl, rfl, .inl rfl, Below.refl _ _⟩
  case round =>
    obtain ⟨k, hk, rfl, rfl, hK, hB⟩ := hrel
    have hdl : (joinB (es.drop k)).length ≤ 190 := by
      by_cases h0 : k = 0
      · subst h0; rw [List.drop_zero]; exact hl
      · rw [joinB_split es k (by omega) hk] at hl; simp at hl; omega
    by_cases hgt : 100 < (joinB (es.drop k)).length
    · have hk1 : k + 1 < es.length := by
        by_cases h : k + 1 < es.length
        · exact h
        · rw [joinB_drop_last es k (by omega)] at hgt
          have := (HE.out.each es[k] (List.getElem_mem _)).2; omega
      have hd := Lib.hid (joinB_drop es k hk1)
      have h47 := Lib.hid (HE.out.each es[k] (List.getElem_mem _)).1
      have he64 := (HE.out.each es[k] (List.getElem_mem _)).2
      have htk := Lib.hid (take_join HE.out k hk1)
      have htl : (joinB (es.take k)).length ≤ 190 := by
        by_cases h0 : k = 0
        · subst h0; simp [joinB]
        · rw [joinB_split es k (by omega) hk] at hl; simp at hl; omega
      have hrl : (joinB (es.drop (k + 1))).length ≤ 190 := by rw [hd.out] at hdl; simp at hdl; omega
      have hC := Lib.hid (cut1_any es[k] (joinB (es.drop (k + 1))) wr (HS.out.below hB.out) h47.out (by omega))
      rw [← hd.out] at hC
      have hmeas := Lib.hid (show (joinB (es.drop (k + 1))).length < (joinB (es.drop k)).length by rw [hd.out]; simp; omega)
      generalize hx : es[k] = x at *
      go_wp2_with fail
      refine hC.out.mono ?_
      rintro e w1 ⟨rfl, hb1⟩
      have hB1 := Lib.hid (hB.out.trans (hb1.mono hB.out.size))
      clear hC hb1 hdl
      go_wp2_with fail
      refine (joinP_any (joinB (es.take k)) x _ (by omega)).mono ?_
      rintro e w2 ⟨rfl, rfl⟩
      rw [htk.out]
      go_wp2_with fail
      go_round
      case rel => exact ⟨k + 1, hk1, rfl, rfl, .inr (by rw [Nat.add_sub_cancel]; exact hgt), hB1.out⟩
      case measure => simp [strSize]; exact hmeas.out
    · have hle : (joinB (es.drop k)).length ≤ 100 := by omega
      have hspl := Lib.hid (show splB (joinB es) = (joinB (es.take k), joinB (es.drop k)) by
        by_cases h0 : k = 0
        · subst h0; rw [List.drop_zero] at hle ⊢; rw [split_none hle]; rfl
        · exact split_here HE.out k (by omega) hk (by rcases hK.out with h | h; exact absurd h h0; exact h) hle)
      have htr := Lib.hid (show Lib.trimPrefix (Lib.trimPrefix (joinB es) (joinB (es.take k))) [47] = joinB (es.drop k) by
        by_cases h0 : k = 0
        · subst h0
          rw [List.take_zero, List.drop_zero]
          show Lib.trimPrefix (Lib.trimPrefix (joinB es) []) [47] = _
          have : Lib.trimPrefix (joinB es) [] = joinB es := trim_app [] (joinB es)
          rw [this, trim_slash (joinB_head HE.out)]
        · rw [joinB_split es k (by omega) hk, trim_app]
          exact trim_app [47] _)
      rw [hspl.out] at hsp
      have hsp1 := hsp.1
      have H1 := Lib.hid (HH.out.below hB.out)
      clear hsp hK hgt
      generalize hA : joinB (es.take k) = A at *
      generalize hR : joinB (es.drop k) = R at *
      generalize hP : joinB es = P at *
      clear hA hR
      replace hsp1 : A.length ≤ 155 := hsp1
      go_wp2_with fail
      refine (text_any g L 345 A _ H1.out (by omega) (by omega)).mono ?_
      rintro e w1 ⟨rfl, hw1⟩
      have H2 := Lib.hid (H1.out.set 345 A (by omega))
      have B2 := Lib.hid (below_setCells (Nat.le_refl g) (A.map fun x => Value.int .u8 (x.toNat : Int)) 345 wr (hB.out.mono (Nat.le_of_lt hlt)))
      rw [← hw1] at H2 B2
      clear hw1
      go_wp2_with fail
      refine (trim_any P A _).mono ?_
      rintro e w2 ⟨rfl, rfl⟩
      generalize hT1 : Lib.trimPrefix P A = T1 at htr ⊢
      go_wp2_with fail
      refine (trim_any T1 [47] _).mono ?_
      rintro e w2 ⟨rfl, rfl⟩
      rw [htr.out]
      go_wp2_with fail
      refine (text_any g (setB L 345 A) 0 R _ H2.out (by omega) (by omega)).mono ?_
      rintro e w3 ⟨rfl, hw3⟩
      have H3 := Lib.hid (H2.out.set 0 R (by omega))
      have B3 := Lib.hid (below_setCells (Nat.le_refl g) (R.map fun x => Value.int .u8 (x.toNat : Int)) 0 _ B2.out)
      rw [← hw3] at H3 B3
      clear hw3
      go_wp2_with fail
      go_end0
      exact ⟨rfl, by rw [hP, hspl.out]; exact H3.out, B3.out⟩
end Go.Proofs.YtpkabccinhfmbaaGreatDoor
