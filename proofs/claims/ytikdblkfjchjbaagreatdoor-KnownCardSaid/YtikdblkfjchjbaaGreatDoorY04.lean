import Derived.Test.YtikdblkfjchjbaaGreatDoorY01
import Derived.Test.YtikdblkfjchjbaaGreatDoorShelf
set_option linter.unusedVariables false
set_option linter.unusedSimpArgs false
set_option maxHeartbeats 16000000
set_option maxRecDepth 100000
namespace Go.Proofs.YtikdblkfjchjbaaGreatDoor
open Go.RowKit
theorem qqc (b : UInt8) (w : World) :
 Calls Tryz.prog 138 #[.int .u8 b.toNat] w fun e w' => e = .returned (.bool (qg8 b)) ∧ w = w' := by
 have hb := q3r b;have h0 : (0 : Int) ≤ (b.toNat : Int) := by omega
 have hi := qvz b;generalize (b.toNat : Int) = c at *;cases hc : qg8 b
 ·have hci : ¬ _ := fun h => absurd (hi.2 h) (by simp [hc])
  clear hc hi;go_enter Tryz.func138, Tryz.ntmps138;go_wp2
  all_goals first
   | (go_ret; exact ⟨rfl, rfl⟩)
   | (exfalso; simp only [Bool.not_eq_true', Bool.not_eq_false', bne_iff_ne, bne_eq_false_iff_eq, decide_eq_true_eq, decide_eq_false_iff_not, ne_eq] at *; omega)
 ·have hci := hi.1 hc
  clear hc hi;go_enter Tryz.func138, Tryz.ntmps138;go_wp2
  all_goals first
   | (go_ret; exact ⟨rfl, rfl⟩)
   | (exfalso; simp only [Bool.not_eq_true', Bool.not_eq_false', bne_iff_ne, bne_eq_false_iff_eq, decide_eq_true_eq, decide_eq_false_iff_not, ne_eq] at *; omega)
theorem qfj (s p : List UInt8) (w : World) :
 Calls Tryz.prog 67 #[.string (S s), .string (S p)] w fun e w' => e = .returned (.bool (p.isPrefixOf s)) ∧ w = w' :=
 (Tryz.strings_HasPrefix (S s) (S p) w).mono fun e w' ⟨he, hw⟩ => ⟨by rw [he, qdh, qdh]; rfl, hw.symm⟩
theorem qfc (s : List UInt8) (w : World) (hs : s.length ≤ maxLen) :
 Calls Tryz.prog 105 #[.string (S s)] w fun e w' => e = .returned (.bool (qa5 s)) ∧ w = w' := by
 have hb := q4z (fun w => qfj s [46, 119, 104, 46] w);unfold maxLen at hs;by_cases e0 : s = []
 ·subst e0
  go_enter Tryz.func105, Tryz.ntmps105;go_wp2_with (go_at_call 67; refine (hb.out _).mono ?_; rintro e w' ⟨rfl, rfl⟩)
  go_ret;exact ⟨rfl, rfl⟩
 replace e0 : s.isEmpty = false := by cases s <;> simp_all
 by_cases h1 : 60 < s.length
 ·have HE := q4z (show qa5 s = false by simp [qa5, show ¬ s.length ≤ 60 by omega])
  go_enter Tryz.func105, Tryz.ntmps105;go_wp2_with (go_at_call 67; refine (hb.out _).mono ?_; rintro e w' ⟨rfl, rfl⟩)
  go_ret;exact ⟨qau HE.out.symm, rfl⟩
 replace h1 : s.length ≤ 60 := by omega
 by_cases h2 : (s == [46]) = true
 ·have HE := q4z (show qa5 s = false by simp [qa5, h2])
  go_enter Tryz.func105, Tryz.ntmps105;go_wp2_with (go_at_call 67; refine (hb.out _).mono ?_; rintro e w' ⟨rfl, rfl⟩)
  go_ret;exact ⟨qau HE.out.symm, rfl⟩
 replace h2 : (s == [46]) = false := by simpa using h2
 by_cases h3 : (s == [46, 46]) = true
 ·have HE := q4z (show qa5 s = false by simp [qa5, h3])
  go_enter Tryz.func105, Tryz.ntmps105;go_wp2_with (go_at_call 67; refine (hb.out _).mono ?_; rintro e w' ⟨rfl, rfl⟩)
  go_ret;exact ⟨qau HE.out.symm, rfl⟩
 replace h3 : (s == [46, 46]) = false := by simpa using h3
 by_cases h4 : ([46, 119, 104, 46].isPrefixOf s) = true
 ·have HE := q4z (show qa5 s = false by simp only [qa5, h4]; simp)
  go_enter Tryz.func105, Tryz.ntmps105;go_wp2_with (go_at_call 67; refine (hb.out _).mono ?_; rintro e w' ⟨rfl, rfl⟩)
  go_ret;exact ⟨qau HE.out.symm, rfl⟩
 replace h4 : ([46, 119, 104, 46].isPrefixOf s) = false := by cases h : [46, 119, 104, 46].isPrefixOf s <;> simp_all
 have HE := q4z (show qa5 s = s.all qg8 by simp only [qa5, h1, h2, h3, h4, e0]; simp);go_enter Tryz.func105, Tryz.ntmps105;go_wp2_with (go_at_call 67; refine (hb.out _).mono ?_; rintro e w' ⟨rfl, rfl⟩)
 go_loop [25] (fun i => ∃ k : Nat, k ≤ s.length ∧ i = .int .i64 k ∧ Hid ((s.take k).all qg8 = true)) (fun i => s.length - (intOf i).toNat)
 case atStart => exact ⟨0, by omega, rfl, by simp [Hid]⟩
 case round =>
  obtain ⟨k, hk, rfl, hall⟩ := hrel;by_cases hlt : k < s.length
  ·cases hcl : qg8 s[k]
   ·have HA := q4z (show s.all qg8 = false by rw [List.all_eq_false]; exact ⟨s[k], List.getElem_mem hlt, by simp [hcl]⟩)
    have HC := q4z hcl;clear hcl hall;go_wp2_with (go_at_call 138; refine (qqc s[k] _).mono ?_; rintro e w' ⟨rfl, rfl⟩; rw [HC.out])
    go_ret;exact ⟨qau (HE.out.trans HA.out).symm, rfl⟩
   ·have HA := q4z (show (s.take (k + 1)).all qg8 = true by rw [qko _ _ _ hlt, hall.out, hcl]; rfl)
    have HC := q4z hcl;clear hcl hall;go_wp2_with (go_at_call 138; refine (qqc s[k] _).mono ?_; rintro e w' ⟨rfl, rfl⟩; rw [HC.out])
    go_round
    case rel => exact ⟨k + 1, by omega, by go_num, HA⟩
    case measure => simp [intOf]; omega
  ·have HA := q4z (show s.all qg8 = true by have := hall.out; rwa [List.take_of_length_le (Nat.le_of_not_lt hlt)] at this)
   replace hlt : s.length ≤ k := by omega
   go_wp2;go_ret;exact ⟨qau (HE.out.trans HA.out).symm, rfl⟩
theorem qwy (c x : UInt8) (r : List UInt8) (h : x ≠ c) (n : Nat) : Lib.splitK [c] 0 n (x :: r) = match Lib.splitK [c] 0 n r with
 | [] => [[x]]
 | a :: t => (x :: a) :: t := by
 cases n with
 | zero => rfl
 | succ n =>
  have hi : Lib.index (x :: r) [c] = if Lib.index r [c] == -1 then -1 else Lib.index r [c] + 1 := by
   rw [Lib.index, if_neg];simp [List.isPrefixOf]; exact fun e => h e.symm
  have hg := Lib.index_ge r [c];unfold Lib.splitK;rw [hi];by_cases h1 : Lib.index r [c] = -1
  ·simp [h1]
  ·have h2 : (Lib.index r [c] == -1) = false := by simpa using h1
   have h3 : (Lib.index r [c] + 1 == -1) = false := by simp; omega
   simp only [h2, h3, Bool.false_eq_true, if_false];obtain ⟨i, hi⟩ := Int.eq_ofNat_of_zero_le (show 0 ≤ Lib.index r [c] by omega);rw [hi];simp only [Nat.add_zero, show ((i : Int) + 1).toNat = i + 1 by omega, show (i : Int).toNat = i by omega, List.take_succ_cons];rw [show i + 1 + [c].length = (i + [c].length) + 1 by omega, List.drop_succ_cons]
theorem qwx (c : UInt8) (s : List UInt8) : Lib.splitK [c] 0 (Lib.count s [c]) s = cutB c s := by
 induction s with
 | nil => simp [Lib.count, Lib.countFrom, Lib.splitK, Lib.index, cutB]
 | cons x r ih =>
  by_cases h : x = c
  ·subst h
   rw [Lib.count_cons_eq, Nat.add_comm, Lib.splitK];have : Lib.index (x :: r) [x] = 0 := by rw [Lib.index, if_pos (by simp [List.isPrefixOf])]
   rw [this, cutB, if_pos rfl];simp [ih]
  ·rw [Lib.count_cons_ne _ _ _ h, qwy _ _ _ h, ih, cutB, if_neg h]
   cases cutB c r <;> rfl
theorem qk0 (s : List UInt8) (b : UInt8) (w : World) (hw : Std w) (hs : s.length ≤ 4294967280) :
 Calls Tryz.prog 137 #[.string (S s), .string (S [b])] w fun e w' => ∃ v, e = .returned v ∧ w'.ownsRow w.heap.size 9 1 v (cutB b s).length (strs (cutB b s)) ∧ Below w.heap.size w w' := by
 obtain ⟨m, hm⟩ := hw.maxlen;refine (Tryz.strings_Split (S s) (S [b]) m w (by rw [qea]; omega) hm (by rw [qea]; simp)).mono fun e w' ⟨he, hw⟩ => ?_
 have e0 : (Lib.splitB (S [b]) 0 (Lib.countB (S s) (S [b])) (S s)).map Value.string = strs (cutB b s) := by
  have h1 := Lib.splitB_data (S [b]) 0 (Lib.countB (S s) (S [b])) (S s);rw [qdh, qdh, show Lib.countB (S s) (S [b]) = Lib.count s [b] by rw [Lib.countB, qdh, qdh], qwx] at h1;rw [← h1, strs, List.map_map];apply List.map_congr_left;intro x _;simp [S_of]
 have e1 : Lib.countB (S s) (S [b]) + 1 = (cutB b s).length := by
  have h1 := Lib.splitB_all (S [b]) (by rw [qea]; simp) 0 _ (S s) rfl;rw [← h1, ← List.length_map (f := Value.string), e0, qb2]
 refine ⟨_, he, ?_, ?_⟩
 ·rw [hw, e0, e1]
  have hl := qtf b s;have := World.ownsRow_lit (base := w.heap.size) (e := 9) (size := 1) w (strs (cutB b s)).toArray (cutB b s).length (Nat.le_refl _) (by unfold maxLen; omega) (by simp [qb2]);simpa using this
 ·rw [hw]; exact (Below.refl _ _).alloc (Nat.le_refl _) _
theorem qeo (s : List UInt8) (w : World) (hw : Std w) (hs : s.length ≤ 4294967280) :
 Calls Tryz.prog 104 #[.string (S s)] w fun e w' => ∃ v, e = .returned v ∧ w'.ownsRow w.heap.size 9 1 v (qaa s).length (strs (qaa s)) ∧ Below w.heap.size w w' := by
 by_cases h0 : s = []
 ·subst h0
  go_enter Tryz.func104, Tryz.ntmps104;go_wp2;go_ret;exact ⟨_, rfl, World.ownsRow_nil _ _ _ _, Below.refl _ _⟩
 ·have e0 : s.isEmpty = false := by cases s <;> simp_all
  have X := q4z (show qaa s = cutB 47 s by simp [qaa, h0]);have HS := q4z hw;clear hw;go_enter Tryz.func104, Tryz.ntmps104;go_wp2_with (go_at_call 137; refine (qk0 s 47 _ HS.out hs).mono ?_; rintro e w1 ⟨v, rfl, hown, hb⟩)
  go_ret;exact ⟨_, rfl, by rw [X.out]; exact hown, hb⟩
theorem qlc (s : List UInt8) : qbr (qaa s) ≤ s.length + 1 := by
 unfold qaa; split
 ·simp [qbr]
 ·exact qiv _ _
theorem qgv (s : List UInt8) (w : World) (hw : Std w) (hs : s.length ≤ 4294967280) :
 Calls Tryz.prog 62 #[.string (S s)] w fun e w' => e = .returned (.bool (qa3 s)) ∧ Below w.heap.size w w' := by
 have hpl := qhj s;have HS := q4z hw;clear hw;by_cases h1 : s.length ≤ 170 ∧ (qaa s).length ≤ 12
 case neg =>
  have X := q4z (show qa3 s = false by unfold qa3; rw [← Bool.decide_and, decide_eq_false h1]; rfl);by_cases h2 : 170 < s.length
  all_goals
   have h3 : 170 < s.length ∨ 12 < (qaa s).length := by omega
   clear h1;go_enter Tryz.func62, Tryz.ntmps62;go_wp2_with (go_at_call 104; refine (qeo s _ HS.out hs).mono ?_; rintro e w1 ⟨v, rfl, hown, hb⟩; obtain ⟨A, cap, rfl, _, _, hrd⟩ := Rd.of_own hown; clear hown)
   go_ret;exact ⟨qau X.out.symm, hb⟩
 obtain ⟨h2, h3⟩ := h1;have X := q4z (show qa3 s = (qaa s).all qa5 by unfold qa3; rw [decide_eq_true h2, decide_eq_true h3]; rfl);go_enter Tryz.func62, Tryz.ntmps62;go_wp2_with (go_at_call 104; refine (qeo s _ HS.out hs).mono ?_; rintro e w1 ⟨v, rfl, hown, hb⟩; obtain ⟨A, cap, rfl, _, _, hrd⟩ := Rd.of_own hown; clear hown)
 generalize hL : qaa s = L at *;have HL := q4z hL;clear hL;go_loop [18] (fun i => ∃ k : Nat, k ≤ L.length ∧ i = .int .i64 k ∧ Hid ((L.take k).all qa5 = true)) (fun i => L.length - (intOf i).toNat)
 case atStart => exact ⟨0, Nat.zero_le _, rfl, rfl⟩
 case round =>
  obtain ⟨k, hk, rfl, hall⟩ := hrel;by_cases hlt : k < L.length
  ·obtain ⟨b, o, rfl, hbb, hc⟩ := hrd.at k (by simpa [strs] using hlt)
   have hck := hc k _ (qcg hlt);have hel : L[k].length ≤ maxLen := by
    have := qiu L k hlt;have h4 : qbr L ≤ s.length + 1 := by rw [← HL.out]; exact qlc s
    unfold maxLen; omega
   cases hE : qa5 L[k]
   ·have Y := q4z (show L.all qa5 = false by rw [List.all_eq_false]; exact ⟨L[k], List.getElem_mem hlt, by simp [hE]⟩)
    have HE := q4z hE;clear hc hrd hall hE;go_wp2_with (go_at_call 105; refine (qfc L[k] _ hel).mono ?_; rintro e w2 ⟨rfl, rfl⟩; rw [HE.out])
    go_ret;exact ⟨qau (by rw [X.out, Y.out]), hb⟩
   ·have Y := q4z (show (L.take (k + 1)).all qa5 = true by rw [qko _ _ _ hlt, hall.out, hE]; rfl)
    have HE := q4z hE;clear hc hrd hall hE;go_wp2_with (go_at_call 105; refine (qfc L[k] _ hel).mono ?_; rintro e w2 ⟨rfl, rfl⟩; rw [HE.out])
    go_round
    case rel => exact ⟨k + 1, by omega, by go_num, Y⟩
    case measure => simp [intOf]; omega
  ·obtain rfl : k = L.length := by omega
   have Y := q4z (show L.all qa5 = true by have := hall.out; rwa [List.take_length] at this);clear hall;go_wp2;go_ret;exact ⟨qau (by rw [X.out, Y.out]), hb⟩
theorem qe2 (a b : List UInt8) (w : World) (hs : a.length + b.length ≤ 9000000000) :
 Calls Tryz.prog 109 #[.string (S a), .string (S b)] w fun e w' => e = .returned (.string (S (inB a b))) ∧ w = w' := by
 by_cases h1 : a = []
 ·subst h1
  go_enter Tryz.func109, Tryz.ntmps109;go_wp2;go_ret;exact ⟨qcv (by simp [inB]), rfl⟩
 have f1 : a.isEmpty = false := by cases a <;> simp_all
 by_cases h2 : b = []
 ·subst h2
  have X := q4z (show inB a [] = a by simp [inB]);clear h1;go_enter Tryz.func109, Tryz.ntmps109;go_wp2;go_ret;exact ⟨qcv (by rw [X.out]), rfl⟩
 have f2 : b.isEmpty = false := by cases b <;> simp_all
 have X := q4z (show inB a b = a ++ 47 :: b by simp [inB, h1, h2]);clear h1 h2;go_enter Tryz.func109, Tryz.ntmps109;go_wp2;go_ret;exact ⟨qcv (by rw [X.out]), rfl⟩
theorem qqx (s : List UInt8) (w : World) (hs : s.length ≤ maxLen) :
 Calls Tryz.prog 100 #[.string (S s)] w fun e w' => e = .returned (.bool (qgk s)) ∧ w = w' := by
 unfold maxLen at hs;go_enter Tryz.func100, Tryz.ntmps100;go_wp2;go_loop [6] (fun i => ∃ k : Nat, k ≤ s.length ∧ i = .int .i64 k ∧ Hid ((s.take k).all visC = true)) (fun i => s.length - (intOf i).toNat)
 case atStart => exact ⟨0, by omega, rfl, by simp [Hid]⟩
 case round =>
  obtain ⟨k, hk, rfl, hall⟩ := hrel;by_cases hlt : k < s.length
  ·have hi := qzp s[k]
   cases hc : visC s[k]
   ·have HA := q4z (show qgk s = false by
     have : s.all visC = false := by rw [List.all_eq_false]; exact ⟨s[k], List.getElem_mem hlt, by simp [hc]⟩
     rw [qgk, this]; rfl)
    have hn : ¬ (33 ≤ (s[k].toNat : Int) ∧ (s[k].toNat : Int) ≤ 126) := fun h => absurd (hi.2 h) (by simp [hc])
    clear hc hi hall;by_cases h33 : (s[k].toNat : Int) < 33
    ·clear hn
     go_wp2;go_ret;exact ⟨qau HA.out.symm, rfl⟩
    ·have h126 : 126 < (s[k].toNat : Int) := by omega
     clear hn;go_wp2;go_ret;exact ⟨qau HA.out.symm, rfl⟩
   ·have HA := q4z (show (s.take (k + 1)).all visC = true by rw [qko _ _ _ hlt, hall.out, hc]; rfl)
    obtain ⟨h33, h126⟩ := hi.1 hc;clear hc hi hall;go_wp2;go_round
    case rel => exact ⟨k + 1, by omega, by go_num, HA⟩
    case measure => simp [intOf]; omega
  ·have HA := q4z (show qgk s = (!s.isEmpty && decide (s.length ≤ 100)) by
    have := hall.out; rw [List.take_of_length_le (Nat.le_of_not_lt hlt)] at this; rw [qgk, this]; rfl)
   replace hlt : s.length ≤ k := by omega
   clear hall;by_cases he : s = []
   ·subst he
    go_wp2;go_ret;exact ⟨qau (by rw [HA.out]; rfl), rfl⟩
   ·have f1 : s.isEmpty = false := by cases s <;> simp_all
    clear he;go_wp2;go_ret;exact ⟨qau (by rw [HA.out, f1]; simp; omega), rfl⟩
theorem qpp (x : Ent) (w : World) (hs : x.data.length ≤ 4294967280) :
 Calls Tryz.prog 63 #[x.agg] w fun e w' => e = .returned (.bool (qbm x)) ∧ Below w.heap.size w w' := by
 obtain ⟨p, kind, mode, data⟩ := x;simp only [Ent.agg] at *;by_cases k1 : kind = 1
 ·subst k1
  have X := q4z (show qbm ⟨p, 1, mode, data⟩ = (qiq mode && data.isEmpty) by simp [qbm]);by_cases m0 : 0 ≤ mode
  case neg =>
   have m1 : mode < 0 := by omega
   have X2 := q4z (show qbm ⟨p, 1, mode, data⟩ = false by rw [X.out, qiq, decide_eq_false (by omega)]; rfl);clear m0 X;go_enter Tryz.func63, Tryz.ntmps63;go_wp2;go_ret;exact ⟨qau (by rw [X2.out]), (Below.refl _ _).alloc (Nat.le_refl _) _⟩
  by_cases m1 : mode ≤ 511
  case neg =>
   have m2 : 511 < mode := by omega
   have X2 := q4z (show qbm ⟨p, 1, mode, data⟩ = false by rw [X.out, qiq, decide_eq_false (by omega)]; rfl);clear m1 X;go_enter Tryz.func63, Tryz.ntmps63;go_wp2;go_ret;exact ⟨qau (by rw [X2.out]), (Below.refl _ _).alloc (Nat.le_refl _) _⟩
  have HM := q4z (show qiq mode = true by rw [qiq, decide_eq_true ⟨m0, m1⟩])
  ·by_cases d0 : data = []
   ·subst d0
    go_enter Tryz.func63, Tryz.ntmps63;go_wp2;go_ret;exact ⟨qau (by rw [X.out, HM.out]; simp), (Below.refl _ _).alloc (Nat.le_refl _) _⟩
   ·have f1 : data.isEmpty = false := by cases data <;> simp_all
    clear d0;go_enter Tryz.func63, Tryz.ntmps63;go_wp2;go_ret;exact ⟨qau (by rw [X.out, HM.out, f1]; rfl), (Below.refl _ _).alloc (Nat.le_refl _) _⟩
 have f1 : (kind == 1) = false := by simpa using k1
 by_cases k2 : kind = 2
 ·subst k2
  have X := q4z (show qbm ⟨p, 2, mode, data⟩ = (qiq mode && decide (data.length ≤ 4096)) by simp [qbm]);by_cases m0 : 0 ≤ mode
  case neg =>
   have m1 : mode < 0 := by omega
   have X2 := q4z (show qbm ⟨p, 2, mode, data⟩ = false by rw [X.out, qiq, decide_eq_false (by omega)]; rfl);clear m0 X;go_enter Tryz.func63, Tryz.ntmps63;go_wp2;go_ret;exact ⟨qau (by rw [X2.out]), (Below.refl _ _).alloc (Nat.le_refl _) _⟩
  by_cases m1 : mode ≤ 511
  case neg =>
   have m2 : 511 < mode := by omega
   have X2 := q4z (show qbm ⟨p, 2, mode, data⟩ = false by rw [X.out, qiq, decide_eq_false (by omega)]; rfl);clear m1 X;go_enter Tryz.func63, Tryz.ntmps63;go_wp2;go_ret;exact ⟨qau (by rw [X2.out]), (Below.refl _ _).alloc (Nat.le_refl _) _⟩
  have HM := q4z (show qiq mode = true by rw [qiq, decide_eq_true ⟨m0, m1⟩])
  ·by_cases d0 : data.length ≤ 4096
   ·go_enter Tryz.func63, Tryz.ntmps63
    go_wp2;go_ret;exact ⟨qau (by rw [X.out, HM.out]; simp; omega), (Below.refl _ _).alloc (Nat.le_refl _) _⟩
   ·have d1 : 4096 < data.length := by omega
    clear d0;go_enter Tryz.func63, Tryz.ntmps63;go_wp2;go_ret;exact ⟨qau (by rw [X.out, HM.out]; simp; omega), (Below.refl _ _).alloc (Nat.le_refl _) _⟩
 have f2 : (kind == 2) = false := by simpa using k2
 by_cases k3 : kind = 3
 ·subst k3
  have X := q4z (show qbm ⟨p, 3, mode, data⟩ = (decide (mode = 0) && qgk data) by simp [qbm]);by_cases m0 : mode = 0
  ·subst m0
   go_enter Tryz.func63, Tryz.ntmps63;go_wp2_with (go_at_call 100; refine (qqx data _ (by unfold maxLen; omega)).mono ?_; rintro e9 w9 ⟨rfl, rfl⟩)
   go_ret;exact ⟨qau (by rw [X.out]; simp), (Below.refl _ _).alloc (Nat.le_refl _) _⟩
  ·have m1 : (mode == 0) = false := by simpa using m0
   have X2 := q4z (show qbm ⟨p, 3, mode, data⟩ = false by rw [X.out, decide_eq_false m0]; rfl);clear m0 X;go_enter Tryz.func63, Tryz.ntmps63;go_wp2;go_ret;exact ⟨qau (by rw [X2.out]), (Below.refl _ _).alloc (Nat.le_refl _) _⟩
 have f3 : (kind == 3) = false := by simpa using k3
 have X2 := q4z (show qbm ⟨p, kind, mode, data⟩ = false by simp [qbm, k1, k2, k3]);clear k1 k2 k3;go_enter Tryz.func63, Tryz.ntmps63;go_wp2;go_ret;exact ⟨qau X2.out.symm, (Below.refl _ _).alloc (Nat.le_refl _) _⟩
theorem qlo (s : List UInt8) (w : World) :
 Calls Tryz.prog 172 #[.string (S s)] w fun e w' => e = .returned (.bool false) ∧ w' = w := by
 go_enter Tryz.func172, Tryz.ntmps172;go_wp2;go_ret;exact ⟨by simp, rfl⟩
theorem qy3 {a b : List UInt8} (h : a < b) : cmpS a b = -1 := by unfold cmpS; rw [if_pos h]
theorem qy4 {a b : List UInt8} (h : b < a) : cmpS a b = 1 := by
 unfold cmpS;rw [if_neg (fun h2 => List.lt_irrefl a (List.lt_trans h2 h)), if_pos h]
theorem qy5 {a b : List UInt8} (h1 : ¬ a < b) (h2 : ¬ b < a) : cmpS a b = 0 := by unfold cmpS; rw [if_neg h1, if_neg h2]
theorem qtg (a b : List UInt8) (w : World) :
 Calls Tryz.prog 139 #[.string (S a), .string (S b)] w fun e w' => e = .returned (.int .i64 (cmpS a b)) ∧ w' = w := by
 have l1 := qya a b;have l2 := qya b a;by_cases h1 : a < b
 ·have Y := q4z (qy3 h1)
  rw [decide_eq_true h1] at l1;clear h1;go_enter Tryz.func139, Tryz.ntmps139;go_wp2_with (go_at_call 172; refine (qlo _ _).mono ?_; rintro e1 w1 ⟨rfl, rfl⟩)
  go_ret;exact ⟨qc7 Y.out.symm, rfl⟩
 ·by_cases h2 : b < a
  ·have Y := q4z (qy4 h2)
   have e1 : (a == b) = false := by rw [beq_eq_false_iff_ne]; intro e; subst e; exact h1 h2
   rw [decide_eq_false h1] at l1;rw [decide_eq_true h2] at l2;clear h1 h2;go_enter Tryz.func139, Tryz.ntmps139;go_wp2_with (go_at_call 172; refine (qlo _ _).mono ?_; rintro e1 w1 ⟨rfl, rfl⟩)
   go_ret;exact ⟨qc7 Y.out.symm, rfl⟩
  ·have Y := q4z (qy5 h1 h2)
   have e1 : (a == b) = true := by rw [beq_iff_eq]; exact List.le_antisymm (List.not_lt.1 h2) (List.not_lt.1 h1)
   rw [decide_eq_false h1] at l1;rw [decide_eq_false h2] at l2;clear h1 h2;go_enter Tryz.func139, Tryz.ntmps139;go_wp2_with (go_at_call 172; refine (qlo _ _).mono ?_; rintro e1 w1 ⟨rfl, rfl⟩)
   go_ret;exact ⟨qc7 Y.out.symm, rfl⟩
theorem qqa {X Y : List (List UInt8)} {k : Nat} (h : k < X.length) (h2 : k = Y.length) : qar (X.drop k) (Y.drop k) = 1 := by
 rw [List.drop_eq_getElem_cons h, List.drop_eq_nil_of_le (by omega : Y.length ≤ k)]; rfl
theorem qsf {X Y : List (List UInt8)} {k : Nat} (h : k < X.length) (h2 : k < Y.length) : qar (X.drop k) (Y.drop k) = (if X[k] < Y[k] then -1 else if Y[k] < X[k] then 1 else qar (X.drop (k + 1)) (Y.drop (k + 1))) := by
 rw [List.drop_eq_getElem_cons h, List.drop_eq_getElem_cons h2]; rfl
theorem qp9 {X Y : List (List UInt8)} {k : Nat} (h : k = X.length) : qar (X.drop k) (Y.drop k) = if k < Y.length then -1 else 0 := by
 rw [List.drop_eq_nil_of_le (by omega : X.length ≤ k)];split
 ·rename_i h2
  rw [List.drop_eq_getElem_cons h2]; rfl
 ·rw [List.drop_eq_nil_of_le (by omega : Y.length ≤ k)]; rfl
theorem qow (X Y : List (List UInt8)) (A B : Option Addr) (n m ca cb : Nat) (w : World) (hn : X.length = n) (hm : Y.length = m) (hx : Rd w A (strs X)) (hy : Rd w B (strs Y)) (hl : X.length ≤ 4294967290) (hl2 : Y.length ≤ 4294967290) :
 Calls Tryz.prog 106 #[.slice A n ca, .slice B m cb] w fun e w' => e = .returned (.int .i64 (qar X Y)) ∧ w' = w := by
 subst hn;subst hm;have HX := q4z hx;have HY := q4z hy;clear hx hy;go_enter Tryz.func106, Tryz.ntmps106;go_wp2;go_loop [11] (fun i => ∃ k : Nat, k ≤ X.length ∧ k ≤ Y.length ∧ i = .int .i64 k ∧ Hid (qar X Y = qar (X.drop k) (Y.drop k))) (fun i => X.length - (intOf i).toNat)
 case atStart => exact ⟨0, by omega, by omega, rfl, rfl⟩
 case round =>
  obtain ⟨k, hk, hk2, rfl, HQ⟩ := hrel;by_cases hlt : k < X.length
  ·obtain ⟨b, o, rfl, hb, hc⟩ := HX.out.at k (by rw [qb2]; exact hlt)
   have a0 := hc k _ (qcg hlt);have hkl : (k : Int) < (X.length : Int) := by omega
   clear hc;by_cases h2 : k < Y.length
   ·obtain ⟨b2, o2, rfl, hb2, hc2⟩ := HY.out.at k (by rw [qb2]; exact h2)
    have a1 := hc2 k _ (qcg h2);have hkm : (k : Int) < (Y.length : Int) := by omega
    have HE := q4z (qsf hlt h2);clear hc2;obtain ⟨x, hx⟩ : ∃ x, x = X[k] := ⟨_, rfl⟩;obtain ⟨y, hy⟩ : ∃ y, y = Y[k] := ⟨_, rfl⟩;rw [← hx, ← hy] at HE;rw [← hx] at a0;rw [← hy] at a1;clear hx hy;have HCm := q4z (qtg x y);by_cases l1 : x < y
    ·have HR := q4z (show qar X Y = -1 by rw [HQ.out, HE.out, if_pos l1])
     have HC := q4z (qy3 l1);clear l1;go_wp2_with (go_at_call 139; refine (HCm.out _).mono ?_; rintro e1 w1 ⟨rfl, rfl⟩; rw [HC.out])
     go_ret;exact ⟨qc7 HR.out.symm, rfl⟩
    ·by_cases l2 : y < x
     ·have HR := q4z (show qar X Y = 1 by rw [HQ.out, HE.out, if_neg l1, if_pos l2])
      have HC := q4z (qy4 l2);clear l1 l2;go_wp2_with (go_at_call 139; refine (HCm.out _).mono ?_; rintro e1 w1 ⟨rfl, rfl⟩; rw [HC.out])
      go_ret;exact ⟨qc7 HR.out.symm, rfl⟩
     ·have HR := q4z (show qar X Y = qar (X.drop (k + 1)) (Y.drop (k + 1)) by rw [HQ.out, HE.out, if_neg l1, if_neg l2])
      have HC := q4z (qy5 l1 l2);clear l1 l2;go_wp2_with (go_at_call 139; refine (HCm.out _).mono ?_; rintro e1 w1 ⟨rfl, rfl⟩; rw [HC.out])
      go_round
      case rel => exact ⟨k + 1, by omega, by omega, by go_num, HR⟩
      case measure => simp [intOf]; omega
   ·have HR := q4z (show qar X Y = 1 by rw [HQ.out]; exact qqa hlt (by omega))
    go_wp2;go_ret;exact ⟨qc7 HR.out.symm, rfl⟩
  ·have HR := q4z (show qar X Y = if k < Y.length then -1 else 0 by rw [HQ.out]; exact qp9 (by omega))
   obtain rfl : k = X.length := by omega
   by_cases h2 : X.length < Y.length
   ·rw [if_pos h2] at HR
    go_wp2;go_ret;exact ⟨qc7 HR.out.symm, rfl⟩
   ·rw [if_neg h2] at HR
    go_wp2;go_ret;exact ⟨qc7 HR.out.symm, rfl⟩
theorem qc3 (a b : List UInt8) (w : World) (hw : Std w) (ha : a.length ≤ 4294967280) (hb : b.length ≤ 4294967280) :
 Calls Tryz.prog 64 #[.string (S a), .string (S b)] w fun e w' => e = .returned (.int .i64 (qar (qaa a) (qaa b))) ∧ Below w.heap.size w w' := by
 have HS := q4z hw;have hla := qhj a;have hlb := qhj b;clear hw;go_enter Tryz.func64, Tryz.ntmps64;go_wp2_with fail;refine (qeo a _ HS.out ha).mono ?_;rintro e w1 ⟨v1, rfl, hown1, hb1⟩;obtain ⟨A1, cap1, rfl, _, _, hrd1⟩ := Rd.of_own hown1;have HB1 := q4z hb1;have HR1 := q4z hrd1;clear hown1 hrd1 hb1;go_wp2_with fail;refine (qeo b _ (HS.out.below HB1.out) hb).mono ?_;rintro e w2 ⟨v2, rfl, hown2, hb2⟩;obtain ⟨A2, cap2, rfl, _, _, hrd2⟩ := Rd.of_own hown2;have HB2 := q4z (HB1.out.trans (hb2.mono HB1.out.size));have HR2 := q4z (HR1.out.below hb2);have HR3 := q4z hrd2;clear hown2 hrd2 hb2;go_wp2_with fail
 refine (qow (qaa a) (qaa b) A1 A2 _ _ cap1 cap2 _ rfl rfl HR2.out HR3.out (by omega) (by omega)).mono ?_;rintro e w3 ⟨rfl, rfl⟩;go_wp2;go_ret;exact ⟨rfl, HB2.out⟩
def atV (a : Pth → Nat) (F : qaf) (p : Pth) : Value := qme (if (F p).isSome then some (a p) else none)
theorem qel {a : Pth → Nat} {F : qaf} {p : Pth} {x : Nd} (h : F p = some x) : atV a F p = .pointer (some ⟨a p, 0, none⟩) := by unfold atV; rw [h]; rfl
theorem qhu {a : Pth → Nat} {F : qaf} {p : Pth} (h : F p = none) : atV a F p = .pointer none := by unfold atV; rw [h]; rfl
theorem qfb {w : World} {B N : Nat} {a m : Pth → Nat} {F : qaf} (hT : TreeAt w B N a m F) (t : Nat) (ht : TreeV w t a) (p : List UInt8) (hp : p.length ≤ 4294967280) (hS : Std w) :
 Calls Tryz.prog 70 #[.pointer (some ⟨t, 0, none⟩), .string (S p)] w fun e w' => e = .returned (atV a F (qaa p)) ∧ Below w.heap.size w w' := by
 have HT := q4z hT;have HS := q4z hS;have ht0 : w.cell? ⟨t, 0, none⟩ = some (.pointer (some ⟨a [], 0, none⟩)) := ht;clear hT hS ht;go_enter Tryz.func70, Tryz.ntmps70;go_wp2_with fail;refine (qeo p _ HS.out hp).mono ?_;rintro e w1 ⟨v, rfl, hown, hb⟩;obtain ⟨A, cap, rfl, _, _, hrd⟩ := Rd.of_own hown;have HB := q4z hb;have HR := q4z hrd;have HT1 := q4z (HT.out.below hb);have hlen := qlc p;have hpl := qhj p;clear hown hb hrd HT ht0;generalize hL : qaa p = L at *;have HL := q4z hL;clear hL;go_wp2;go_loop [5, 15] (fun n i => ∃ k : Nat, k ≤ L.length ∧ i = .int .i64 k ∧ n = .pointer (some ⟨a (L.take k), 0, none⟩) ∧ Hid (∃ x, F (L.take k) = some x)) (fun _ i => L.length - (intOf i).toNat)
 case atStart =>
  obtain ⟨x, hx, _⟩ := HT1.out.tree.root;exact ⟨0, Nat.zero_le _, rfl, rfl, x, hx⟩
 case round =>
  obtain ⟨k, hk, rfl, rfl, hX⟩ := hrel;obtain ⟨x, hx⟩ := hX.out;by_cases hlt : k < L.length
  ·obtain ⟨b, o, rfl, hbb, hc⟩ := HR.out.at k (by rw [qb2]; exact hlt)
   have hck := hc k _ (qcg hlt);have hel : L[k].length ≤ maxLen := by
    have := qiu L k hlt;unfold maxLen; omega
   have htk := q4z (show L.take k ++ [L[k]] = L.take (k + 1) from (List.take_succ_eq_append_getElem hlt).symm);obtain ⟨_, _, _, _, c4⟩ := HT1.out.cells _ _ hx;have hlk := HT1.out.look _ _ hx L[k] hel;rw [htk.out] at hlk;clear hc hel;cases hn : F (L.take (k + 1)) with
   | none =>
    have Y := q4z (qhu (a := a) (show F L = none by
     have := HT1.out.tree.pre (L.take (k + 1)) (L.drop (k + 1)) hn;rwa [List.take_append_drop] at this))
    rw [hn] at hlk;replace hlk : (Instr.lookup tMap (mapV x (m (L.take k))) (.string (S L[k])) false).run Tryz.prog w1 = .ok (.pointer none) w1 := hlk;have HX := q4z hx;clear hn hx hX;go_wp2;go_ret;exact ⟨by rw [HL.out, Y.out]; rfl, HB.out⟩
   | some y =>
    rw [hn] at hlk;replace hlk : (Instr.lookup tMap (mapV x (m (L.take k))) (.string (S L[k])) false).run Tryz.prog w1 = .ok (.pointer (some ⟨a (L.take (k + 1)), 0, none⟩)) w1 := hlk;have HN := q4z hn;clear hn hx hX;go_wp2;go_round
    case rel => exact ⟨k + 1, by omega, by go_num, rfl, y, HN.out⟩
    case measure => simp [intOf]; omega
  ·obtain rfl : k = L.length := by omega
   have Y := q4z (show atV a F L = .pointer (some ⟨a (L.take L.length), 0, none⟩) by
    rw [List.take_length] at hx ⊢; exact qel hx)
   clear hx hX;go_wp2;go_ret;exact ⟨by rw [HL.out, Y.out]; simp, HB.out⟩
theorem qzr {p : List UInt8} (h0 : p ≠ []) (h : (47 : UInt8) ∉ p) : upB p = ([], p) := by
 unfold upB qaa;rw [if_neg h0, qly _ _ h]; rfl
theorem q2i (a b : List UInt8) (h : (47 : UInt8) ∉ b) : upB (a ++ 47 :: b) = (a, b) := by
 unfold upB qaa;rw [if_neg (by simp), qkm, qly _ _ h, List.dropLast_concat, qix];simp
theorem q3q {p : List UInt8} {i : Nat} (hi : i < p.length) (h : p[i] = 47) (hb : ∀ j (hj : j < p.length), i < j → p[j] ≠ 47) : upB p = (p.take i, p.drop (i + 1)) := by
 have e : p = p.take i ++ 47 :: p.drop (i + 1) := by
  rw [← h, ← List.drop_eq_getElem_cons hi, List.take_append_drop]
 have hn : (47 : UInt8) ∉ p.drop (i + 1) := by
  intro hm;obtain ⟨j, hj, e⟩ := List.getElem_of_mem hm;rw [List.length_drop] at hj;rw [List.getElem_drop] at e;exact hb (i + 1 + j) (by omega) (by omega) e
 have := q2i (p.take i) (p.drop (i + 1)) hn;rw [← e] at this; exact this
theorem qzi (p : List UInt8) (j : Nat) (h : j < p.length) : (S p).data[j]! = p[j] := by
 show p.toArray[j]! = p[j]
 rw [getElem!_pos p.toArray j (by simpa using h)]; simp
theorem qdn (p : List UInt8) (h0 : p ≠ []) (hp : p.length ≤ 5000) (w : World) :
 Calls Tryz.prog 101 #[.string (S p)] w fun e w' => e = .returned (.tuple #[.string (S (upB p).1), .string (S (upB p).2)]) ∧ Below w.heap.size w w' := by
 have hL := q4z (fun w => Tryz.strings_LastIndexByte (S p) 47 (by rw [qea]; omega) w);rcases Lib.lastIndexByte_spec (S p) 47 with ⟨h1, h2⟩ | ⟨i, h1, h2, h3, h4⟩
 ·have X := q4z (qzr h0 (by
   intro hm;obtain ⟨j, hj, e⟩ := List.getElem_of_mem hm;exact h2 j (by rw [qea]; exact hj) (by rw [qzi p j hj, e]; rfl)))
  rw [h1] at hL;clear h1 h2;go_enter Tryz.func101, Tryz.ntmps101;go_wp2_with fail;refine (hL.out _).mono ?_;rintro e w' ⟨rfl, rfl⟩;go_wp2_with fail;go_ret2;exact ⟨by rw [X.out]; rfl, Below.refl _ _⟩
 ·rw [qea] at h1 h4
  have X := q4z (q3q h1 (by rw [qzi p i h1] at h3; exact UInt8.toNat_inj.1 (by have : (p[i].toNat : Int) = 47 := h3; show p[i].toNat = 47; omega)) (fun j hj hij e => h4 j hij hj (by rw [qzi p j hj, e]; rfl)));rw [h2] at hL;clear h2 h3 h4;have hk2 : (i : Int) + 1 ≤ (p.length : Int) := by omega
  have hk3 : (0 : Int) ≤ (i : Int) := by omega
  have hk4 : (i : Int) ≤ (p.length : Int) := by omega
  go_enter Tryz.func101, Tryz.ntmps101;go_wp2_with fail;refine (hL.out _).mono ?_;rintro e w' ⟨rfl, rfl⟩;go_wp2_with fail;go_region
  all_goals go_wp2
  all_goals go_ret2
  all_goals exact ⟨by rw [X.out]; rfl, (Below.refl _ _).drew⟩
theorem qku (p : List UInt8) : (upB p).1.length ≤ p.length + 1 ∧ (upB p).2.length ≤ p.length + 1 := by
 have hl : qbr (qaa p) ≤ p.length + 1 := by
  unfold qaa; split
  ·simp [qbr]
  ·exact qiv _ _
 refine ⟨?_, ?_⟩
 ·have h1 := qln (qaa p).dropLast
  have h2 := qu9 (qaa p);show (qae (qaa p).dropLast).length ≤ _
  omega
 ·show ((qaa p).getLastD []).length ≤ _
  generalize qaa p = P at hl;cases hP : P.getLast? with
  | none => rw [List.getLastD_eq_getLast?, hP]; simp
  | some x =>
   have hm := List.mem_of_getLast? hP;rw [List.getLastD_eq_getLast?, hP];obtain ⟨i, hi, rfl⟩ := List.getElem_of_mem hm;have := qiu P i hi;show (P[i]).length ≤ _
   omega
theorem qdz {p : List UInt8} (h : qa3 p = true) : qaa (upB p).1 = (qaa p).dropLast := by
 obtain ⟨_, he⟩ := qa9 h;unfold upB;exact qew fun e hm => by
  have := qba (he e (List.dropLast_subset _ hm)); exact ⟨this.1, this.2.2⟩
theorem qdm {p : List UInt8} (h : qa3 p = true) (hne : p ≠ []) : qaa p = (qaa p).dropLast ++ [(upB p).2] ∧ qa5 (upB p).2 = true := by
 have hn := qbi hne;have e : (upB p).2 = (qaa p).getLast hn := by
  unfold upB;rw [List.getLastD_eq_getLast?, List.getLast?_eq_some_getLast hn]; rfl
 rw [e];exact ⟨(List.dropLast_concat_getLast hn).symm, (qa9 h).2 _ (List.getLast_mem hn)⟩
def KeepC (w w' : World) : Prop := ∀ (p : Addr) (v : Value), w.cell? p = some v → w'.cell? p = some v
theorem KeepC.below {w w' : World} (h : Below w.heap.size w w') : KeepC w w' := fun p v hp => (h.cell (q40 w _ hp)).trans hp
theorem KeepC.trans {a b c : World} (h : KeepC a b) (k : KeepC b c) : KeepC a c := fun p v hp => k p v (h p v hp)
def q2d (B N : Nat) (a m : Pth → Nat) (F : qaf) (t : Nat) (x : Ent) (W : World) (e : Ending) (w' : World) : Prop :=
 (qak F (qaa x.path).dropLast = false ∧ e = .returned (.bool false) ∧ Below W.heap.size W w' ∧ KeepC W w') ∨
 (qak F (qaa x.path).dropLast = true ∧ e = .returned (.bool true) ∧ ∃ a' m', TreeAt w' B (N + 1) a' m' (putF F (qaa x.path) (ndOf x)) ∧ TreeV w' t a' ∧ Below B W w' ∧ KeepC W w')
def q4y (m : Pth → Nat) (F : qaf) (w w' : World) : Prop := ∀ k, k < w.heap.size → (∀ p, qak F p = true → k ≠ m p) → w'.heap[k]? = w.heap[k]?
def PutFull (B N : Nat) (a m : Pth → Nat) (F : qaf) (t : Nat) (x : Ent) (W : World) (e : Ending) (w' : World) : Prop :=
 (qak F (qaa x.path).dropLast = false ∧ e = .returned (.bool false) ∧ Below W.heap.size W w' ∧ KeepC W w') ∨
 (qak F (qaa x.path).dropLast = true ∧ e = .returned (.bool true) ∧ ∃ a' m', TreeAt w' B (N + 1) a' m' (putF F (qaa x.path) (ndOf x)) ∧ TreeV w' t a' ∧ Below B W w' ∧ KeepC W w' ∧ q4y m F W w' ∧ (∀ p, (a' p = a p ∧ p ≠ qaa x.path) ∨ W.heap.size ≤ a' p) ∧ (∀ p, (m' p = m p ∧ (x.kind = 1 → p = qaa x.path → qak F p = true)) ∨ W.heap.size ≤ m' p))
theorem PutFull.out {B N : Nat} {a m : Pth → Nat} {F : qaf} {t : Nat} {x : Ent} {W : World} {e : Ending} {w' : World} (h : PutFull B N a m F t x W e w') : q2d B N a m F t x W e w' := by
 rcases h with h | ⟨h1, h2, a', m', h3, h4, h5, h6, _⟩
 ·exact .inl h
 ·exact .inr ⟨h1, h2, a', m', h3, h4, h5, h6⟩
theorem qds {F : qaf} {p : Pth} (h : F p = none) : qak F p = false := by unfold qak; rw [h]
theorem qf2 {F : qaf} {p : Pth} {x : Nd} (h : F p = some x) : qak F p = decide (x.kind = 1) := by unfold qak; rw [h]
theorem MapIs.cell {w w' : World} {b n : Nat} {f : List UInt8 → Option Nat} (h : MapIs w b n f) (hg : w.grownBy w' (some b)) (p : Addr) (v : Value) (hp : w.cell? p = some v) : w'.cell? p = some v := by
 refine (World.cell?_of_block (hg.block p.block (q40 w _ hp) (fun he => ?_))).trans hp;have hb : p.block = b := Option.some.inj he;obtain ⟨D, ⟨es, clock, hm, _⟩, _⟩ := h;unfold World.cell? at hp;rw [hb, hm] at hp; cases hp
theorem qnt {w w2 wz w3 : World} {B N : Nat} {a m : Pth → Nat} {F : qaf} (hT : TreeAt w2 B N a m F) (t : Nat) (ht : TreeV w t a) (x : Ent) (D : Pth) (last : List UInt8) (hL : qaa x.path = D ++ [last]) (hd : qak F D = true)
 (hB : B ≤ w.heap.size) (h0 : Below w.heap.size w w2) (h1 : Below w2.heap.size w2 wz) (mb : Nat) (hnode : wz.heap[w2.heap.size]? = some (Obj.cells (qrm (ndOf x) mb) qgm (0, 0)))
 (hm2 : mb = m (D ++ [last]) ∨ w2.heap.size ≤ mb) (hmb : x.kind = 1 → (qak F (D ++ [last]) = true → mb = m (D ++ [last])) ∧ (qak F (D ++ [last]) = false → w2.heap.size ≤ mb ∧ MapIs wz mb 0 (fun _ => none)))
 (hz : MapIs wz (m D) N (qb1 F a D)) (hup : MapIs w3 (m D) (N + 1) (upd (qb1 F a D) last (some w2.heap.size))) (h2 : wz.grownBy w3 (some (m D))) :
 PutFull B N a m F t x w (.returned (.bool true)) w3 := by
 have hbase : B ≤ w2.heap.size := by have := h0.size; omega
 obtain ⟨y, hy, hk⟩ := qai.1 hd;refine .inr ⟨by rw [hL, List.dropLast_concat]; exact hd, rfl, updP a (D ++ [last]) w2.heap.size, updP m (D ++ [last]) mb, ?_, ?_, ?_, ?_, fun k hk hne => ?_, fun q => ?_, fun q => ?_⟩
 ·rw [hL]
  exact hT.put D last (ndOf x) hd hbase h1 w2.heap.size mb (Nat.le_refl _) hnode hmb hup h2
 ·unfold TreeV
  rw [qa8 (by simp)];exact hz.cell h2 _ _ (((h0.trans (h1.mono h0.size)).cell (p := ⟨t, 0, none⟩) (q40 w _ ht)).trans ht)
 ·exact (((h0.mono hB).trans (h1.mono hbase))).grown h2 (by have := h1.size; omega) (fun k hk2 => by
   have : m D = k := Option.some.inj hk2;rw [← this]; exact (hT.base D y hy).2 hk)
 ·exact fun q v hq => hz.cell h2 q v ((KeepC.below (h0.trans (h1.mono h0.size))) q v hq)
 ·have hbb := h0.trans (h1.mono h0.size)
  exact (h2.block k (Nat.lt_of_lt_of_le hk hbb.size) (fun e => hne D hd (Option.some.inj e))).trans (hbb.block k hk)
 ·by_cases hq : q = D ++ [last]
  ·subst hq; rw [qcc]; exact .inr h0.size
  ·rw [qa8 hq, hL]; exact .inl ⟨rfl, hq⟩
 ·by_cases hq : q = D ++ [last]
  ·subst hq
   rw [qcc];cases hdl : qak F (D ++ [last]) with
   | true =>
    rcases hm2 with e | e
    ·exact .inl ⟨e, fun _ _ => rfl⟩
    ·exact .inr (Nat.le_trans h0.size e)
   | false =>
    by_cases hk1 : x.kind = 1
    ·exact .inr (Nat.le_trans h0.size ((hmb hk1).2 hdl).1)
    ·rcases hm2 with e | e
     ·exact .inl ⟨e, fun h => absurd h hk1⟩
     ·exact .inr (Nat.le_trans h0.size e)
  ·rw [qa8 hq, hL]; exact .inl ⟨rfl, fun _ h => absurd h hq⟩
theorem qrd {w : World} {B N : Nat} {a m : Pth → Nat} {F : qaf} (hT : TreeAt w B N a m F) (t : Nat) (ht : TreeV w t a) (x : Ent) (hp : qa3 x.path = true) (hne : x.path ≠ []) (hN : N + 1 < 4294967290) (hB : B ≤ w.heap.size) (hS : Std w) :
 Calls Tryz.prog 65 #[.pointer (some ⟨t, 0, none⟩), x.agg] w (PutFull B N a m F t x w) := by
 obtain ⟨p, k, md, dt⟩ := x;simp only at hp hne;rw [show Ent.agg ⟨p, k, md, dt⟩ = .agg #[.string (S p), .int .i64 k, .int .i64 md, .string (S dt)] from rfl];obtain ⟨hpl, hel⟩ := qa9 hp;have hupl := qku p;have hup := q4z (qdz hp);obtain ⟨hLD, hlE⟩ := qdm hp hne;have hlast : (upB p).2.length ≤ maxLen := by have := (qba hlE).2.1; unfold maxLen; omega
 clear hlE;have HLD := q4z hLD;have HT := q4z hT;have HV := q4z ht;have HS := q4z hS;have hb0 := (Below.refl w.heap.size w).alloc (Nat.le_refl _) (.cells #[.string (S p), .int .i64 k, .int .i64 md, .string (S dt)] 47);have h4 := q4z (Cell4.new w ⟨p, k, md, dt⟩ 47);clear hT ht hS hel hLD;have hmm := @run_makeMap Tryz.prog;go_enter Tryz.func65, Tryz.ntmps65;go_wp2_with fail;refine (qdn p hne (by omega) _).mono ?_;rintro e w1 ⟨rfl, hb1⟩;have HB1 := q4z (hb0.trans (hb1.mono hb0.size));have C1 := q4z (h4.out.below hb1);clear hb0 hb1 h4;generalize hq1 : (upB p).1 = up at hup hupl ⊢;generalize hq2 : (upB p).2 = last at hlast hupl HLD ⊢;clear hq1 hq2;go_wp2_with fail
 refine (qfb (HT.out.below HB1.out) t (HV.out.below HB1.out) up (by omega) (HS.out.below HB1.out)).mono ?_;rintro e w2 ⟨rfl, hb2⟩;rw [hup.out];have HB2 := q4z (HB1.out.trans (hb2.mono HB1.out.size));have C2 := q4z (C1.out.below hb2);clear hb2 HB1 C1 hup;generalize hD : (qaa p).dropLast = D at *;cases hF : F D with
 | none =>
  have X := q4z (qds hF);rw [qhu hF];clear hF;go_wp2;go_ret;exact .inl ⟨by rw [hD]; exact X.out, rfl, HB2.out, KeepC.below HB2.out⟩
 | some y =>
  rw [qel hF];have HT2 := q4z (HT.out.below HB2.out);obtain ⟨_, n1, _, _, n4⟩ := HT2.out.cells D y hF;by_cases hk1 : y.kind = 1
  ·have X := q4z ((qf2 hF).trans (decide_eq_true hk1))
   have f1 : (y.kind != 1) = false := by simpa using hk1
   rw [show mapV y (m D) = .map (some (m D)) from if_pos hk1] at n4;obtain ⟨q0, q1, q2, q3⟩ := C2.out;simp only at q0 q1 q2 q3;have hlt0 : w.heap.size < w2.heap.size := q40 w2 _ q0;have hltD : a D < w2.heap.size := q40 w2 _ n1;have HK1 := q4z hk1;have HFy := q4z hF;have HHd := q4z hD;clear hk1 hF hD C2;by_cases hkk : k = 1
   ·subst hkk
    have hw1 : ∀ v : Value, Below w2.heap.size w2 ((w2.alloc (.cells #[.string (S []), .int .i64 1, .int .i64 md, .string (S dt), v] qgm)).alloc (.map #[] 0)) := fun v => ((Below.refl _ _).alloc (Nat.le_refl _) _).alloc (by simp) _
    have hnd : ∀ v : Value, ((w2.alloc (.cells #[.string (S []), .int .i64 1, .int .i64 md, .string (S dt), v] qgm)).alloc (.map #[] 0)).heap[w2.heap.size]? = some (Obj.cells #[.string (S []), .int .i64 1, .int .i64 md, .string (S dt), v] qgm (0, 0)) := fun v => by
     rw [heap_alloc_old _ _ (by simp), heap_alloc_new]
    have hlk := fun v => (HT2.out.below (hw1 v)).look D y HFy.out last hlast
    rw [show mapV y (m D) = .map (some (m D)) from if_pos HK1.out, ← HLD.out] at hlk;have hz := fun v => ((HT2.out.dir D y HFy.out HK1.out).block ((hw1 v).block _ ((HT2.out.lt D y HFy.out).2 HK1.out)))
    have hmade : ∀ v : Value, MapIs ((w2.alloc (.cells #[.string (S []), .int .i64 1, .int .i64 md, .string (S dt), v] qgm)).alloc (.map #[] 0)) (w2.heap.size + 1) 0 (fun _ => none) := fun v => by
     have := MapIs.made (w2.alloc (.cells #[.string (S []), .int .i64 1, .int .i64 md, .string (S dt), v] qgm));rw [World.size_alloc] at this; exact this
    cases hW : F (qaa p) with
    | none =>
     have hdirL := qds hW;rw [HLD.out] at hdirL;rw [hW] at hlk;have hlk1 := hlk (.map (some (w2.heap.size + 1)));replace hlk1 : (Instr.lookup tMap (.map (some (m D))) (.string (S last)) false).run Tryz.prog ((w2.alloc (.cells #[.string (S []), .int .i64 1, .int .i64 md, .string (S dt), .map (some (w2.heap.size + 1))] qgm)).alloc (.map #[] 0)) = .ok (.pointer none) _ := hlk1;obtain ⟨w3, hrun, hm3, hg3⟩ := (hz (.map (some (w2.heap.size + 1)))).put last hlast w2.heap.size (by unfold maxLen; omega)
     have hfin := q4z (qnt (x := ⟨p, 1, md, dt⟩) HT2.out t HV.out D last HLD.out X.out hB HB2.out (hw1 (.map (some (w2.heap.size + 1)))) (w2.heap.size + 1) (hnd _) (.inr (Nat.le_succ _)) (fun _ => ⟨fun e => (by rw [hdirL] at e; cases e), fun _ => ⟨Nat.le_succ _, hmade _⟩⟩) (hz _) hm3 hg3);clear hW hdirL hlk hz hmade hw1 hnd hm3 hg3;go_wp2;go_ret;exact hfin.out
    | some z =>
     rw [hW] at hlk;have hlk1 := hlk (.map (some (w2.heap.size + 1)));replace hlk1 : (Instr.lookup tMap (.map (some (m D))) (.string (S last)) false).run Tryz.prog ((w2.alloc (.cells #[.string (S []), .int .i64 1, .int .i64 md, .string (S dt), .map (some (w2.heap.size + 1))] qgm)).alloc (.map #[] 0)) = .ok (.pointer (some ⟨a (qaa p), 0, none⟩)) _ := hlk1;obtain ⟨_, l1, _, _, l4⟩ := HT2.out.cells (qaa p) z hW;have hltL : a (qaa p) < w2.heap.size := q40 w2 _ l1;by_cases hzk : z.kind = 1
     ·have hdirL := (qf2 hW).trans (decide_eq_true hzk)
      rw [HLD.out] at hdirL;have f3 : (z.kind == 1) = true := by simpa using hzk
      rw [show mapV z (m (qaa p)) = .map (some (m (qaa p))) from if_pos hzk] at l4;obtain ⟨w3, hrun, hm3, hg3⟩ := (hz (.map (some (m (qaa p))))).put last hlast w2.heap.size (by unfold maxLen; omega);have hfin := q4z (qnt (x := ⟨p, 1, md, dt⟩) HT2.out t HV.out D last HLD.out X.out hB HB2.out (hw1 (.map (some (m (qaa p))))) (m (qaa p)) (hnd _) (.inl (by rw [HLD.out])) (fun _ => ⟨fun _ => by rw [HLD.out], fun e => by rw [hdirL] at e; cases e⟩) (hz _) hm3 hg3);clear hW hdirL hlk hz hmade hw1 hnd hm3 hg3 hzk;go_wp2;go_ret;exact hfin.out
     ·have hdirL := (qf2 hW).trans (decide_eq_false hzk)
      rw [HLD.out] at hdirL;have f3 : (z.kind == 1) = false := by simpa using hzk
      obtain ⟨w3, hrun, hm3, hg3⟩ := (hz (.map (some (w2.heap.size + 1)))).put last hlast w2.heap.size (by unfold maxLen; omega);have hfin := q4z (qnt (x := ⟨p, 1, md, dt⟩) HT2.out t HV.out D last HLD.out X.out hB HB2.out (hw1 (.map (some (w2.heap.size + 1)))) (w2.heap.size + 1) (hnd _) (.inr (Nat.le_succ _)) (fun _ => ⟨fun e => (by rw [hdirL] at e; cases e), fun _ => ⟨Nat.le_succ _, hmade _⟩⟩) (hz _) hm3 hg3);clear hW hdirL hlk hz hmade hw1 hnd hm3 hg3 hzk l4;go_wp2;go_ret;exact hfin.out
   ·have f2 : (k == 1) = false := by simpa using hkk
    have h1 : Below w2.heap.size w2 (w2.alloc (.cells #[.string (S []), .int .i64 k, .int .i64 md, .string (S dt), .map none] qgm)) := (Below.refl _ _).alloc (Nat.le_refl _) _;have hz := ((HT2.out.dir D y HFy.out HK1.out).block (h1.block _ ((HT2.out.lt D y HFy.out).2 HK1.out)));obtain ⟨w3, hrun, hm3, hg3⟩ := hz.put last hlast w2.heap.size (by unfold maxLen; omega);have hfin := q4z (qnt (x := ⟨p, k, md, dt⟩) HT2.out t HV.out D last HLD.out X.out hB HB2.out h1 (m (D ++ [last])) (by
     rw [heap_alloc_new]; unfold qrm mapV ndOf; simp only; rw [if_neg hkk]) (.inl rfl) (fun e => absurd e hkk) hz hm3 hg3)
    clear h1 hz hm3 hg3;go_wp2;go_ret;exact hfin.out
  ·have X := q4z ((qf2 hF).trans (decide_eq_false hk1))
   have f1 : (y.kind != 1) = true := by simpa using hk1
   clear hF n4;go_wp2;go_ret;exact .inl ⟨by rw [hD]; exact X.out, rfl, HB2.out, KeepC.below HB2.out⟩
theorem qrc {w : World} {B N : Nat} {a m : Pth → Nat} {F : qaf} (hT : TreeAt w B N a m F) (t : Nat) (ht : TreeV w t a) (x : Ent) (hp : qa3 x.path = true) (hne : x.path ≠ []) (hN : N + 1 < 4294967290) (hB : B ≤ w.heap.size) (hS : Std w) :
 Calls Tryz.prog 65 #[.pointer (some ⟨t, 0, none⟩), x.agg] w (q2d B N a m F t x w) :=
 (qrd hT t ht x hp hne hN hB hS).mono fun _ _ h => h.out
def q1z (W : World) (e : Ending) (w' : World) : Prop := ∃ t a m, e = .returned (.pointer (some ⟨t, 0, none⟩)) ∧ TreeAt w' W.heap.size 0 a m qgc ∧ TreeV w' t a ∧ Below W.heap.size W w' ∧ W.heap.size ≤ t
theorem qlv (w : World) : Calls Tryz.prog 61 #[] w (q1z w) := by
 have hmm := @run_makeMap Tryz.prog;go_enter Tryz.func61, Tryz.ntmps61;go_wp2;go_ret;refine ⟨w.heap.size + 1 + 1, fun _ => w.heap.size + 1, fun _ => w.heap.size, rfl, ⟨qsa, ?_, ?_, ?_, ?_, ?_⟩, ?_, (((Below.refl _ _).alloc (Nat.le_refl _) _).alloc (by simp) _).alloc (by simp; omega) _, by omega⟩
 ·intro p x hx
  unfold qgc at hx;split at hx
  ·obtain rfl := Option.some.inj hx
   rw [heap_alloc_old _ _ (by simp)];have := heap_alloc_new (w.alloc (.map #[] 0)) (.cells (qrm ⟨1, 493, []⟩ w.heap.size) qgm);rw [World.size_alloc] at this;exact this
  ·cases hx
 ·intro p x hx hk
  have hm := MapIs.made w;have e1 : qb1 qgc (fun _ => w.heap.size + 1) p = fun _ => none := by
   funext f
   unfold qb1 qgc;rw [if_neg (show ¬ p ++ [f] = [] by simp)]; rfl
  rw [e1];exact hm.block (by rw [heap_alloc_old _ _ (by simp; omega), heap_alloc_old _ _ (by simp)])
 ·intro p x hx; exact ⟨by omega, fun _ => Nat.le_refl _⟩
 ·intro p q hp hq _
  unfold qgc at hp hq;split at hp
  ·rename_i h1
   split at hq
   ·rename_i h2; rw [h1, h2]
   ·cases hq
  ·cases hp
 ·intro p q hp hq _
  unfold qak qgc at hp hq;by_cases h1 : p = []
  ·by_cases h2 : q = []
   ·rw [h1, h2]
   ·rw [if_neg h2] at hq; cases hq
  ·rw [if_neg h1] at hp; cases hp
 ·unfold TreeV
  have := heap_alloc_new ((w.alloc (.map #[] 0)).alloc (.cells (qrm ⟨1, 493, []⟩ w.heap.size) qgm)) (.cells #[.pointer (some ⟨w.heap.size + 1, 0, none⟩)] q4p);rw [World.size_alloc, World.size_alloc] at this;exact cell_of_row _ _ _ _ _ _ this
def qmg (F : qaf) (p : Pth) : Int := match F p with | some x => x.kind | none => 0
theorem kind_any {w : World} {B N : Nat} {a m : Pth → Nat} {F : qaf} (hT : TreeAt w B N a m F) (t : Nat) (ht : TreeV w t a) (p : List UInt8) (hp : p.length ≤ 4294967280) (hS : Std w) :
 Calls Tryz.prog 69 #[.pointer (some ⟨t, 0, none⟩), .string (S p)] w fun e w' => e = .returned (.int .i64 (qmg F (qaa p))) ∧ Below w.heap.size w w' := by
 have HF := q4z (qfb hT t ht p hp hS);have HT := q4z hT;clear hT ht hS;go_enter Tryz.func69, Tryz.ntmps69;go_wp2_with fail;refine HF.out.mono ?_;rintro e w1 ⟨rfl, hb⟩;have HB := q4z hb;have HT1 := q4z (HT.out.below hb);clear hb HF HT;cases h : F (qaa p) with
 | none =>
  have X := q4z (show qmg F (qaa p) = 0 by unfold qmg; rw [h]);rw [qhu h];clear h;go_wp2;go_ret;exact ⟨by rw [X.out]; rfl, HB.out⟩
 | some x =>
  have X := q4z (show qmg F (qaa p) = x.kind by unfold qmg; rw [h]);rw [qel h];obtain ⟨_, c1, _, _, _⟩ := HT1.out.cells _ _ h;clear h;go_wp2;go_ret;exact ⟨by rw [X.out]; rfl, HB.out⟩
abbrev tBld : TypeId := 115
abbrev qgn : TypeId := 5
abbrev Bld (B b : Nat) (l : List UInt8) (w : World) : Prop := Lib.IsBuilder tBld qgn B b (Lib.byteCells l) w
def KeepBy (w w' : World) : Prop := ∀ T, T ≠ qgn → T ≠ tBld → KeepT T w w'
theorem KeepBy.refl (w : World) : KeepBy w w := fun T _ _ => KeepT.refl T w
theorem KeepBy.trans {a b c : World} (h : KeepBy a b) (k : KeepBy b c) : KeepBy a c := fun T h1 h2 => (h T h1 h2).trans (k T h1 h2)
theorem Bld.after {B b : Nat} {l : List UInt8} {w w' : World} (h : Bld B b l w) (hb : Below w.heap.size w w') : Bld B b l w' := by
 rcases h with h | h
 ·have hl := h.lt
  obtain ⟨h1, v, h2, h3, h4⟩ := h;exact .inl ⟨h1, v, (hb.block b hl).trans h2, qac h3 hb, h4⟩
 ·have hl := h.lt
  obtain ⟨h1, v, h2, h3, h4⟩ := h;exact .inr ⟨h1, v, (hb.block b hl).trans h2, qac h3 hb, h4⟩
theorem Bld.new (B : Nat) (w : World) (hB : B ≤ w.heap.size) : Bld B w.heap.size [] (w.alloc (.cells #[.pointer none, .slice none 0 0] tBld)) :=
 .inl ⟨hB, .slice none 0 0, heap_alloc_new w _, World.ownsRow_nil _ _ _ _, by simp [Value.ownBlock]⟩
theorem qti : (Tryz.prog.info? tBld).map (·.size) = some 2 := by kernel_rfl
theorem q1p : liesAt Tryz.prog Tryz.prog.depth tBld (2 / Tryz.prog.cellsOf tBld) 0 tBld 1 = true := by kernel_rfl
theorem qh1 (b : Nat) (w : World) (h0 : w.cell? ⟨b, 0, none⟩ = some (.pointer (some ⟨b, 0, none⟩))) :
 Calls Tryz.prog 85 #[.pointer (some ⟨b, 0, none⟩)] w fun e w' => e = .returned (.tuple #[]) ∧ w' = w := by
 obtain ⟨j, hj, _⟩ := Option.map_eq_some_iff.1 qti;go_enter Tryz.func85, Tryz.ntmps85;go_wp2;rw [Lib.run_neq_ptr_same w _ Tryz.underlying112 hj];go_wp2;go_end0
 exact ⟨rfl, rfl⟩
theorem qg6 (b : Nat) (w : World) (h0 : w.cell? ⟨b, 0, none⟩ = some (.pointer none)) (hsh : w.shape? b = some (tBld, 2)) (hfz : w.frozen? ⟨b, 0, none⟩ = false) :
 Calls Tryz.prog 85 #[.pointer (some ⟨b, 0, none⟩)] w fun e w' => e = .returned (.tuple #[]) ∧ w' = w.setCell ⟨b, 0, none⟩ (.pointer (some ⟨b, 0, none⟩)) := by
 obtain ⟨j, hj, hjs⟩ := Option.map_eq_some_iff.1 qti;have hx := @run_callFunc_extern Tryz.prog 128 _ Extern.AbiNoEscape.same Tryz.func128 (by kernel_rfl) (by kernel_rfl) (by kernel_rfl) (by kernel_rfl);have hn : ∀ x : Value, (Extern.AbiNoEscape.same #[x]).run Tryz.prog w = .ok x w := fun x => Lib.run_noEscape w x
 have hc1 := Lib.run_to_unsafe w ⟨b, 0, none⟩ Tryz.underlying112 Tryz.underlying128 hj (by rw [hjs]; decide) hsh (Nat.zero_lt_succ 1);have hc2 := Lib.run_from_unsafe w ⟨b, 0, none⟩ Tryz.underlying128 Tryz.underlying112 hj hsh q1p;go_enter Tryz.func85, Tryz.ntmps85;go_wp2;go_end0
 exact ⟨rfl, rfl⟩
theorem qi2 {B b : Nat} {bs : List Value} {w : World} (h : Lib.IsBuilder tBld qgn B b bs w) :
 Calls Tryz.prog 85 #[.pointer (some ⟨b, 0, none⟩)] w fun e w' => e = .returned (.tuple #[]) ∧ Lib.BuilderAt tBld qgn B b (.pointer (some ⟨b, 0, none⟩)) bs w' ∧ Below B w w' ∧ w'.heap.size = w.heap.size ∧ KeepBy w w' := by
 rcases h with h | h
 ·refine (qg6 b w h.cell0 h.shape h.frozen0).mono ?_
  rintro e w' ⟨rfl, rfl⟩;refine ⟨rfl, h.used _, (Below.refl B w).setCell (p := ⟨b, 0, none⟩) h.1 _, by simp, fun T _ h2 => ?_⟩;obtain ⟨_, v, hb, _⟩ := h;exact KeepT.setCell hb (fun e => h2 e.symm) 0 _
 ·refine (qh1 b w h.cell0).mono ?_
  rintro e w' ⟨rfl, rfl⟩;exact ⟨rfl, h, Below.refl B _, rfl, KeepBy.refl _⟩
theorem qb3 {B b : Nat} {l s : List UInt8} {w : World} (h : Bld B b l w) (hlen : l.length + s.length ≤ 4000000000) (hBw : B ≤ w.heap.size) :
 Calls Tryz.prog 46 #[.pointer (some ⟨b, 0, none⟩), .string (S s)] w fun e w' => e = .returned (.tuple #[.int .i64 s.length, .nilIface]) ∧ Bld B b (l ++ s) w' ∧ Below B w w' ∧ KeepBy w w' := by
 obtain ⟨i0, hi, hz0, hz1, hz2⟩ := info_parts (show (Tryz.prog.info? qgn).map (fun i => (i.zero, i.size, i.bytes)) = some (some (.int .u8 0), 1, 1) by kernel_rfl);have hll : (Lib.byteCells l).length = l.length := Lib.byteCells_length l;have HS := q4z hBw;have HH := q4z h;have hss : (S s).size = s.length := qea s;clear h hBw;go_enter Tryz.func46, Tryz.ntmps46;go_wp2_with fail;refine (qi2 HH.out).mono ?_;rintro e1 w1 ⟨rfl, h1, hb1, hs1, hk1⟩;have HK1 := q4z hk1;clear hk1;obtain ⟨hB, v, hbk, hown, hne⟩ := h1;have HS1 := q4z hs1;have HB := q4z hB;have HBK := q4z hbk;have HO := q4z hown;have HN := q4z hne
 have c0 : w1.cell? ⟨b, 0, none⟩ = some (.pointer (some ⟨b, 0, none⟩)) := by rw [Lib.cell_of_heap hbk]; rfl
 have c1 : w1.cell? ⟨b, 1, none⟩ = some v := by rw [Lib.cell_of_heap hbk]; rfl
 have f1 : w1.frozen? ⟨b, 1, none⟩ = false := Lib.frozen_of_heap hbk 1;have hlt : b < w1.heap.size := q40 w1 _ c0;clear hB hbk hown hne hs1
 go_wp2_with (at_builtin; refine Lib.wpList_append_own_string _ rfl _ _ 113 9 rfl B qgn i0 Tryz.underlying113 Tryz.underlying9 hi hz0 hz1 hz2 _ _ _ rfl HO.out (S s) rfl (by rw [hll, hss]; unfold maxLen; omega) (by rw [hll, hss]; omega) (by have := HS1.out; have := HS.out; omega) ?_; intro v' w2 hown2 hgr2 _; have HO2 := q4z hown2; have HG2 := q4z hgr2; obtain ⟨g, cap, rfl⟩ := qad hown2; have hb2 : w2.heap[b]? = some (.cells #[.pointer (some ⟨b, 0, none⟩), v] tBld (0, 0)) := (by rw [hgr2.block b hlt (fun e => HN.out e.symm)]; exact HBK.out); have HB2 := q4z hb2; have d1 : w2.cell? ⟨b, 1, none⟩ = some v := (by rw [Lib.cell_of_heap hb2]; rfl); have f2 : w2.frozen? ⟨b, 1, none⟩ = false := Lib.frozen_of_heap hb2 1; clear hown2 hgr2 hb2)
 go_ret2;refine ⟨by simp, .inr ?_, ?_, fun T ht1 ht2 => ?_⟩
 ·refine Lib.BuilderAt.put (T := tBld) (e := qgn) HB.out HB2.out (bs' := Lib.byteCells (l ++ s)) ?_ (by decide)
  have h3 := HO2.out;have e1 : Lib.strCells (S s) = Lib.byteCells s := rfl;rw [hll, hss, e1] at h3;rw [show Lib.byteCells (l ++ s) = Lib.byteCells l ++ Lib.byteCells s from by unfold Lib.byteCells; rw [List.map_append], List.length_append, hll, Lib.byteCells_length];exact h3
 ·exact (hb1.grown HG2.out (by have := HS1.out; have := HS.out; omega) (fun k hk => (HO.out.lt k hk).1)).setCell (p := ⟨b, 1, none⟩) HB.out _
 ·exact (HK1.out T ht1 ht2).trans ((KeepT.grown HG2.out HO.out (fun e => ht1 e.symm)).trans (KeepT.setCell HB2.out (fun e => ht2 e.symm) 1 _))
theorem qf6 {B b : Nat} {l : List UInt8} {w : World} (h : Bld B b l w) (hBw : B ≤ w.heap.size) :
 Calls Tryz.prog 50 #[.pointer (some ⟨b, 0, none⟩)] w fun e w' => e = .returned (.string (S l)) ∧ Below B w w' :=
 (Tryz.Builder_String_any B b l w h hBw).mono fun e w' h => h
theorem qy2 {F : qaf} (h : IsTree F) {p : Pth} (hp : F p = none) : cutF F p = F := by
 funext q
 unfold cutF;split
 ·rename_i hq; obtain ⟨r, rfl⟩ := hq; exact (h.pre p r hp).symm
 ·rfl
def qzj (B N : Nat) (a m : Pth → Nat) (G : qaf) (t : Nat) (W w' : World) : Prop :=
 TreeAt w' B N a m G ∧ TreeV w' t a ∧ Below B W w' ∧ KeepC W w'
theorem que {w : World} {B N : Nat} {a m : Pth → Nat} {F : qaf} (hT : TreeAt w B N a m F) (t : Nat) (ht : TreeV w t a) (p : List UInt8) (hp : qa3 p = true) (hne : p ≠ []) (hB : B ≤ w.heap.size) (hS : Std w) :
 Calls Tryz.prog 71 #[.pointer (some ⟨t, 0, none⟩), .string (S p)] w fun e w' => (∃ b, e = .returned (.bool b)) ∧ qzj B N a m (cutF F (qaa p)) t w w' := by
 obtain ⟨hpl, hel⟩ := qa9 hp;have hupl := qku p;have hup := q4z (qdz hp);obtain ⟨hLD, hlE⟩ := qdm hp hne;have hlast : (upB p).2.length ≤ maxLen := by have := (qba hlE).2.1; unfold maxLen; omega
 have fp : p.isEmpty = false := by rw [List.isEmpty_eq_false_iff]; exact hne
 clear hlE;have HLD := q4z hLD;have HT := q4z hT;have HV := q4z ht;have HS := q4z hS;clear hT ht hS hel hLD;go_enter Tryz.func71, Tryz.ntmps71;go_wp2_with fail;refine (qdn p hne (by omega) _).mono ?_;rintro e w1 ⟨rfl, hb1⟩;have HB1 := q4z hb1;clear hb1;generalize hq1 : (upB p).1 = up at hup hupl ⊢;generalize hq2 : (upB p).2 = last at hlast hupl HLD ⊢;clear hq1 hq2;go_wp2_with fail;refine (qfb (HT.out.below HB1.out) t (HV.out.below HB1.out) up (by omega) (HS.out.below HB1.out)).mono ?_;rintro e w2 ⟨rfl, hb2⟩;rw [hup.out];have HB2 := q4z (HB1.out.trans (hb2.mono HB1.out.size));clear hb2 HB1 hup hne;generalize hD : (qaa p).dropLast = D at *;have HT2 := q4z (HT.out.below HB2.out)
 have HV2 := q4z (HV.out.below HB2.out);have HX : Hid (F (qaa p) = none → qzj B N a m (cutF F (qaa p)) t w w2) := q4z fun h => by
  rw [qy2 HT2.out.tree h];exact ⟨HT2.out, HV2.out, HB2.out.mono hB, KeepC.below HB2.out⟩
 cases hF : F D with
 | none =>
  have X := q4z (HX.out (by rw [HLD.out]; exact HT2.out.tree.pre D _ hF));rw [qhu hF];clear hF HX;go_wp2;go_ret;exact ⟨⟨_, rfl⟩, X.out⟩
 | some y =>
  rw [qel hF];obtain ⟨_, n1, _, _, n4⟩ := HT2.out.cells D y hF;have hlk := HT2.out.look D y hF last hlast;rw [← HLD.out] at hlk;cases hW : F (qaa p) with
  | none =>
   have X := q4z (HX.out hW);rw [hW] at hlk;replace hlk : (Instr.lookup tMap (mapV y (m D)) (.string (S last)) false).run Tryz.prog w2 = .ok (.pointer none) w2 := hlk;clear hF hW HX;go_wp2;go_ret;exact ⟨⟨_, rfl⟩, X.out⟩
  | some z =>
   rw [hW] at hlk;replace hlk : (Instr.lookup tMap (mapV y (m D)) (.string (S last)) false).run Tryz.prog w2 = .ok (.pointer (some ⟨a (qaa p), 0, none⟩)) w2 := hlk;have hk1 : y.kind = 1 := by
    obtain ⟨y', hy', hk⟩ := HT2.out.tree.up D last (by rw [← HLD.out, hW]; rfl);rw [hF] at hy'; obtain rfl := Option.some.inj hy'; exact hk
   have hdir := qai.2 ⟨y, hF, hk1⟩;rw [show mapV y (m D) = .map (some (m D)) from if_pos hk1] at n4 hlk;obtain ⟨w3, hrun, hm3, hg3⟩ := (HT2.out.dir D y hF hk1).del last hlast 0;have hfin : Hid (qzj B N a m (cutF F (qaa p)) t w w3) := q4z (by
    refine ⟨?_, ?_, ?_, ?_⟩
    ·rw [HLD.out]; exact HT2.out.cut D last hdir hm3 hg3
    ·exact (HT2.out.dir D y hF hk1).cell hg3 _ _ HV2.out
    ·exact (HB2.out.mono hB).grown hg3 (by have := HB2.out.size; omega) (fun k hk2 => by
      have : m D = k := Option.some.inj hk2;rw [← this]; exact (HT2.out.base D y hF).2 hk1)
    ·exact fun q v hq => (HT2.out.dir D y hF hk1).cell hg3 q v (KeepC.below HB2.out q v hq))
   clear hF hW HX hdir hm3 hg3 hk1;go_wp2;go_ret;exact ⟨⟨_, rfl⟩, hfin.out⟩
def qef (l : List Ent) : List UInt8 := (l.map entB).flatten
theorem qle (l : List Ent) (k : Nat) (h : k < l.length) : qef (l.take (k + 1)) = qef (l.take k) ++ entB l[k] := by
 rw [List.take_succ_eq_append_getElem h]; simp only [qef, List.map_append, List.flatten_append, List.map_cons, List.map_nil, List.flatten_cons, List.flatten_nil, List.append_nil]
theorem qpe (l : List Ent) (k : Nat) : (qef (l.take k)).length ≤ (qef l).length := by
 have e : qef l = qef (l.take k) ++ qef (l.drop k) := by
  unfold qef; rw [← List.flatten_append, ← List.map_append, List.take_append_drop]
 rw [e]; simp
end Go.Proofs.YtikdblkfjchjbaaGreatDoor
