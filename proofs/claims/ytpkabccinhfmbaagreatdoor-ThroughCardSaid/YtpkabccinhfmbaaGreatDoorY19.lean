/-
  The program: a header, and texts set into it.
  Plain words: a header's fields set one by one into a block of noughts are the document's fields laid behind one another. No program in sight.
-/
import Derived.Lib.LazyBuf
import Derived.Deep.RegionWith
import Derived.StillTailTactics
import Derived.BigRegion
import Derived.Test.YtpkabccinhfmbaaGreatDoorY01
set_option linter.unusedVariables false
set_option linter.unusedSimpArgs false
namespace Go.Proofs.YtpkabccinhfmbaaGreatDoor
open Go.RowKit

/-- the block g is a header of the bytes L -/
def Hdr (w : World) (g : Nat) (L : List UInt8) : Prop := L.length = 512 ∧ w.rowIs g 134 512 (fun j => .int .u8 ((L.getD j 0).toNat : Int))
/-- a text set at a place -/
def setB (L : List UInt8) (a : Nat) (s : List UInt8) : List UInt8 := L.take a ++ s ++ L.drop (a + s.length)
theorem setB_len {L : List UInt8} {a : Nat} {s : List UInt8} (h : a + s.length ≤ L.length) : (setB L a s).length = L.length := by simp [setB]; omega
theorem setB_get {L : List UInt8} {a : Nat} {s : List UInt8} (h : a + s.length ≤ L.length) (j : Nat) : (setB L a s).getD j 0 = if a ≤ j ∧ j < a + s.length then s.getD (j - a) 0 else L.getD j 0 := by
  unfold setB
  simp only [List.getD_eq_getElem?_getD]
  by_cases h1 : j < a
  · rw [if_neg (by omega), List.append_assoc, List.getElem?_append_left (by simp; omega), List.getElem?_take_of_lt h1]
  · by_cases h2 : j < a + s.length
    · rw [if_pos ⟨by omega, h2⟩, List.append_assoc, List.getElem?_append_right (by simp; omega), List.getElem?_append_left (by simp; omega)]
      congr 2; simp; omega
    · rw [if_neg (by omega), List.getElem?_append_right (by simp; omega), List.getElem?_drop]
      congr 2; simp; omega
theorem Hdr.set {w : World} {g : Nat} {L : List UInt8} (h : Hdr w g L) (a : Nat) (s : List UInt8) (hs : a + s.length ≤ 512) :
    Hdr (w.setCells g a (s.map fun x => Value.int .u8 (x.toNat : Int))) g (setB L a s) := by
  obtain ⟨h1, h2⟩ := h
  refine ⟨(setB_len (by omega)).trans h1, ?_⟩
  refine (rowIs_setCells _ a _ _ h2).congr fun j hj => ?_
  rw [setB_get (by omega), List.length_map]
  split
  · rename_i hc
    rw [List.getElem?_map, List.getElem?_eq_getElem (by omega)]
    simp only [Option.map_some, Option.getD_some, List.getD_eq_getElem?_getD, List.getElem?_eq_getElem (show j - a < s.length by omega)]
  · rfl

set_option maxHeartbeats 1000000 in
set_option maxRecDepth 100000 in
theorem text_any (g : Nat) (L : List UInt8) (a : Nat) (s : List UInt8) (w : World) (hH : Hdr w g L) (hs : a + s.length ≤ 512) (ha : a < 512) :
    Calls Tryz.prog 62 #[.pointer (some ⟨g, 0, none⟩), .int .i64 a, .string (S s)] w fun e w' => e = .returned (.tuple #[]) ∧ w' = w.setCells g a (s.map fun x => Value.int .u8 (x.toNat : Int)) := by
  have e : Tryz.prog.arrayLen 132 = 512 := by kernel_rfl
  have ha0 : (0 : Int) ≤ (a : Int) := by omega
  have ha1 : (a : Int) ≤ (Tryz.prog.arrayLen 132 : Int) := by rw [e]; omega
  have hru : ∀ w : World, (Instr.sliceAt 132 (.pointer (some ⟨g, 0, none⟩)) (some (.int .i64 (a : Int))) none none).run Tryz.prog w = .ok (.slice (some ⟨g, a, none⟩) (512 - a) (512 - a)) w := by
    intro w
    rw [run_sliceAt_array_l (P := Tryz.prog) w 132 ⟨g, 0, none⟩ (by kernel_rfl) .i64 (a : Int) ha0 ha1, e]
    rw [show (sizeOf (Tryz.prog.elem 132)).run Tryz.prog w = .ok 1 w from by kernel_rfl]
    simp only [Result.andThen, slicedAt]
    rw [if_neg (by omega)]
    simp [Addr.add]
    try omega
  clear e ha1
  have hcp : (Builtin.copy_ #[95, 9] 3 #[.slice (some ⟨g, a, none⟩) (512 - a) (512 - a), .string (S s)]).run Tryz.prog w = .ok (goInt (S s).size) (w.setCells g a ((S s).data.toList.map fun x => Value.int .u8 (x.toNat : Int))) :=
    run_copy_string w _ _ _ 5 g a _ _ (S s) (by kernel_rfl) (fun _ => by kernel_rfl) (by rw [S_size]; omega)
      (fun j hj => by rw [S_size] at hj; rw [hH.2.cell (by omega)]; rfl) (fun j _ => hH.2.frozen _)
  rw [S_size] at hcp
  go_enter Tryz.func62, Tryz.ntmps62
  go_wp2_with fail
  go_end0
  exact ⟨rfl, rfl⟩
end Go.Proofs.YtpkabccinhfmbaaGreatDoor
namespace Go.Proofs.YtpkabccinhfmbaaGreatDoor

theorem setB_part (A F B s : List UInt8) (h : s.length ≤ F.length) : setB (A ++ F ++ B) A.length s = A ++ setB F 0 s ++ B := by
  unfold setB
  rw [List.take_zero, List.append_assoc A F B, List.take_left, List.drop_append, List.drop_of_length_le (by omega : A.length ≤ A.length + s.length), Nat.add_sub_cancel_left, Nat.zero_add, List.drop_append_of_le_length h]
  simp
theorem setB_field (fs : List (List UInt8)) (i a : Nat) (s : List UInt8) (hi : i < fs.length) (ha : (fs.take i).flatten.length = a) (h : s.length ≤ fs[i].length) :
    setB fs.flatten a s = (fs.set i (setB fs[i] 0 s)).flatten := by
  have e : fs.flatten = (fs.take i).flatten ++ fs[i] ++ (fs.drop (i + 1)).flatten := by
    conv => lhs; rw [← List.take_append_drop i fs, List.flatten_append, List.drop_eq_getElem_cons hi, List.flatten_cons]
    rw [List.append_assoc]
  rw [e, ← ha, setB_part _ _ _ _ h, List.set_eq_take_append_cons_drop, if_pos hi, List.flatten_append, List.flatten_cons, List.append_assoc]
theorem setB_zero (n : Nat) (s : List UInt8) : setB (List.replicate n 0) 0 s = filB s n := by
  simp [setB, filB]
theorem filB_dig (v n : Nat) (h : (octB v).length ≤ n) : filB (List.replicate (n - (octB v).length) 48 ++ octB v) (n + 1) = digB v n := by
  unfold filB digB
  rw [show n + 1 - (List.replicate (n - (octB v).length) (48 : UInt8) ++ octB v).length = 1 by simp; omega]; rfl

/-- the number's digits without the nought -/
def numB (v n : Nat) : List UInt8 := List.replicate (n - (octB v).length) 48 ++ octB v
theorem numB_len (v n : Nat) (h : (octB v).length ≤ n) : (numB v n).length = n := by simp [numB]; omega
/-- fields behind one another, one of them set -/
theorem setB_at {fs gs : List (List UInt8)} {a : Nat} {s F : List UInt8} (pre post : List (List UInt8)) (e : fs = pre ++ F :: post) (g : gs = pre ++ setB F 0 s :: post) (ha : pre.flatten.length = a) (h : s.length ≤ F.length) : setB fs.flatten a s = gs.flatten := by
  subst e; subst g; subst ha
  rw [List.flatten_append, List.flatten_append, List.flatten_cons, List.flatten_cons, ← List.append_assoc, setB_part _ _ _ _ h, List.append_assoc]
/-- what is set ahead of the sum -/
def stepG (rest ahead m z size tm sp flag link us : List UInt8) : List UInt8 :=
  setB (setB (setB (setB (setB (setB (setB (setB (setB (setB (setB (setB (setB (List.replicate 512 0) 345 ahead) 0 rest) 100 m) 108 z) 116 z) 124 size) 136 tm) 148 sp) 156 flag) 157 link) 257 us) 329 z) 337 z
theorem stepG_fields (rest ahead m z size tm sp flag link us : List UInt8) (h1 : rest.length ≤ 100) (h2 : ahead.length ≤ 155) (h3 : m.length ≤ 8) (h4 : z.length ≤ 8) (h5 : size.length ≤ 12) (h6 : tm.length ≤ 12) (h7 : sp.length ≤ 8) (h8 : flag.length ≤ 1) (h9 : link.length ≤ 100) (h10 : us.length ≤ 8) :
    stepG rest ahead m z size tm sp flag link us = [filB rest 100, filB m 8, filB z 8, filB z 8, filB size 12, filB tm 12, filB sp 8, filB flag 1, filB link 100, filB us 8, List.replicate 64 0, filB z 8, filB z 8, filB ahead 155, List.replicate 12 0].flatten := by
  have e : List.replicate 512 (0 : UInt8) = [List.replicate 100 0, List.replicate 8 0, List.replicate 8 0, List.replicate 8 0, List.replicate 12 0, List.replicate 12 0, List.replicate 8 0, List.replicate 1 0, List.replicate 100 0, List.replicate 8 0, List.replicate 64 0, List.replicate 8 0, List.replicate 8 0, List.replicate 155 0, List.replicate 12 0].flatten := by decide +kernel
  have l0 := filB_len rest 100 h1
  have l13 := filB_len ahead 155 h2
  have l1 := filB_len m 8 h3
  have l2 := filB_len z 8 h4
  have l4 := filB_len size 12 h5
  have l5 := filB_len tm 12 h6
  have l6 := filB_len sp 8 h7
  have l7 := filB_len flag 1 h8
  have l8 := filB_len link 100 h9
  have R : ∀ n : Nat, (List.replicate n (0 : UInt8)).length = n := fun n => List.length_replicate
  unfold stepG
  rw [e]
  have Z : ∀ (n : Nat) (s : List UInt8), setB (List.replicate n 0) 0 s = filB s n := setB_zero
  clear e
  have key : ∀ (rep : Nat → List UInt8) (f0 f1 f2 f4 f5 f6 f7 f8 f9 f13 : List UInt8), (∀ n, (rep n).length = n) → f0.length = 100 → f1.length = 8 → f2.length = 8 → f4.length = 12 → f5.length = 12 → f6.length = 8 → f7.length = 1 → f8.length = 100 →
      setB (rep 155) 0 ahead = f13 → setB (rep 100) 0 rest = f0 → setB (rep 8) 0 m = f1 → setB (rep 8) 0 z = f2 → setB (rep 12) 0 size = f4 → setB (rep 12) 0 tm = f5 → setB (rep 8) 0 sp = f6 → setB (rep 1) 0 flag = f7 → setB (rep 100) 0 link = f8 → setB (rep 8) 0 us = f9 →
      setB (setB (setB (setB (setB (setB (setB (setB (setB (setB (setB (setB (setB [rep 100, rep 8, rep 8, rep 8, rep 12, rep 12, rep 8, rep 1, rep 100, rep 8, rep 64, rep 8, rep 8, rep 155, rep 12].flatten 345 ahead) 0 rest) 100 m) 108 z) 116 z) 124 size) 136 tm) 148 sp) 156 flag) 157 link) 257 us) 329 z) 337 z = [f0, f1, f2, f2, f4, f5, f6, f7, f8, f9, rep 64, f2, f2, f13, rep 12].flatten := by
    intro rep f0 f1 f2 f4 f5 f6 f7 f8 f9 f13 R l0 l1 l2 l4 l5 l6 l7 l8 e13 e0 e1 e2 e4 e5 e6 e7 e8 e9
    have l9 : f9.length = 8 := by rw [← e9, setB_len (by rw [R]; omega), R]
    have st : ∀ (fs : List (List UInt8)) (a : Nat) (s : List UInt8) (gs pre : List (List UInt8)) (F : List UInt8) (post : List (List UInt8)), fs = pre ++ F :: post → gs = pre ++ setB F 0 s :: post → pre.flatten.length = a → s.length ≤ F.length → setB fs.flatten a s = gs.flatten := fun _ _ _ gs pre F post a b c d => setB_at pre post a b c d
    rw [st [rep 100, rep 8, rep 8, rep 8, rep 12, rep 12, rep 8, rep 1, rep 100, rep 8, rep 64, rep 8, rep 8, rep 155, rep 12] 345 ahead [rep 100, rep 8, rep 8, rep 8, rep 12, rep 12, rep 8, rep 1, rep 100, rep 8, rep 64, rep 8, rep 8, f13, rep 12] [rep 100, rep 8, rep 8, rep 8, rep 12, rep 12, rep 8, rep 1, rep 100, rep 8, rep 64, rep 8, rep 8] (rep 155) [rep 12] rfl (by rw [e13]; rfl) (by simp only [List.flatten_cons, List.flatten_nil, List.length_append, List.length_nil, l0, l1, l2, l4, l5, l6, l7, l8, l9, R]) (by rw [R]; exact h2)]
    rw [st [rep 100, rep 8, rep 8, rep 8, rep 12, rep 12, rep 8, rep 1, rep 100, rep 8, rep 64, rep 8, rep 8, f13, rep 12] 0 rest [f0, rep 8, rep 8, rep 8, rep 12, rep 12, rep 8, rep 1, rep 100, rep 8, rep 64, rep 8, rep 8, f13, rep 12] [] (rep 100) [rep 8, rep 8, rep 8, rep 12, rep 12, rep 8, rep 1, rep 100, rep 8, rep 64, rep 8, rep 8, f13, rep 12] rfl (by rw [e0]; rfl) (by simp only [List.flatten_cons, List.flatten_nil, List.length_append, List.length_nil, l0, l1, l2, l4, l5, l6, l7, l8, l9, R]) (by rw [R]; exact h1)]
    rw [st [f0, rep 8, rep 8, rep 8, rep 12, rep 12, rep 8, rep 1, rep 100, rep 8, rep 64, rep 8, rep 8, f13, rep 12] 100 m [f0, f1, rep 8, rep 8, rep 12, rep 12, rep 8, rep 1, rep 100, rep 8, rep 64, rep 8, rep 8, f13, rep 12] [f0] (rep 8) [rep 8, rep 8, rep 12, rep 12, rep 8, rep 1, rep 100, rep 8, rep 64, rep 8, rep 8, f13, rep 12] rfl (by rw [e1]; rfl) (by simp only [List.flatten_cons, List.flatten_nil, List.length_append, List.length_nil, l0, l1, l2, l4, l5, l6, l7, l8, l9, R]) (by rw [R]; exact h3)]
    rw [st [f0, f1, rep 8, rep 8, rep 12, rep 12, rep 8, rep 1, rep 100, rep 8, rep 64, rep 8, rep 8, f13, rep 12] 108 z [f0, f1, f2, rep 8, rep 12, rep 12, rep 8, rep 1, rep 100, rep 8, rep 64, rep 8, rep 8, f13, rep 12] [f0, f1] (rep 8) [rep 8, rep 12, rep 12, rep 8, rep 1, rep 100, rep 8, rep 64, rep 8, rep 8, f13, rep 12] rfl (by rw [e2]; rfl) (by simp only [List.flatten_cons, List.flatten_nil, List.length_append, List.length_nil, l0, l1, l2, l4, l5, l6, l7, l8, l9, R]) (by rw [R]; exact h4)]
    rw [st [f0, f1, f2, rep 8, rep 12, rep 12, rep 8, rep 1, rep 100, rep 8, rep 64, rep 8, rep 8, f13, rep 12] 116 z [f0, f1, f2, f2, rep 12, rep 12, rep 8, rep 1, rep 100, rep 8, rep 64, rep 8, rep 8, f13, rep 12] [f0, f1, f2] (rep 8) [rep 12, rep 12, rep 8, rep 1, rep 100, rep 8, rep 64, rep 8, rep 8, f13, rep 12] rfl (by rw [e2]; rfl) (by simp only [List.flatten_cons, List.flatten_nil, List.length_append, List.length_nil, l0, l1, l2, l4, l5, l6, l7, l8, l9, R]) (by rw [R]; exact h4)]
    rw [st [f0, f1, f2, f2, rep 12, rep 12, rep 8, rep 1, rep 100, rep 8, rep 64, rep 8, rep 8, f13, rep 12] 124 size [f0, f1, f2, f2, f4, rep 12, rep 8, rep 1, rep 100, rep 8, rep 64, rep 8, rep 8, f13, rep 12] [f0, f1, f2, f2] (rep 12) [rep 12, rep 8, rep 1, rep 100, rep 8, rep 64, rep 8, rep 8, f13, rep 12] rfl (by rw [e4]; rfl) (by simp only [List.flatten_cons, List.flatten_nil, List.length_append, List.length_nil, l0, l1, l2, l4, l5, l6, l7, l8, l9, R]) (by rw [R]; exact h5)]
    rw [st [f0, f1, f2, f2, f4, rep 12, rep 8, rep 1, rep 100, rep 8, rep 64, rep 8, rep 8, f13, rep 12] 136 tm [f0, f1, f2, f2, f4, f5, rep 8, rep 1, rep 100, rep 8, rep 64, rep 8, rep 8, f13, rep 12] [f0, f1, f2, f2, f4] (rep 12) [rep 8, rep 1, rep 100, rep 8, rep 64, rep 8, rep 8, f13, rep 12] rfl (by rw [e5]; rfl) (by simp only [List.flatten_cons, List.flatten_nil, List.length_append, List.length_nil, l0, l1, l2, l4, l5, l6, l7, l8, l9, R]) (by rw [R]; exact h6)]
    rw [st [f0, f1, f2, f2, f4, f5, rep 8, rep 1, rep 100, rep 8, rep 64, rep 8, rep 8, f13, rep 12] 148 sp [f0, f1, f2, f2, f4, f5, f6, rep 1, rep 100, rep 8, rep 64, rep 8, rep 8, f13, rep 12] [f0, f1, f2, f2, f4, f5] (rep 8) [rep 1, rep 100, rep 8, rep 64, rep 8, rep 8, f13, rep 12] rfl (by rw [e6]; rfl) (by simp only [List.flatten_cons, List.flatten_nil, List.length_append, List.length_nil, l0, l1, l2, l4, l5, l6, l7, l8, l9, R]) (by rw [R]; exact h7)]
    rw [st [f0, f1, f2, f2, f4, f5, f6, rep 1, rep 100, rep 8, rep 64, rep 8, rep 8, f13, rep 12] 156 flag [f0, f1, f2, f2, f4, f5, f6, f7, rep 100, rep 8, rep 64, rep 8, rep 8, f13, rep 12] [f0, f1, f2, f2, f4, f5, f6] (rep 1) [rep 100, rep 8, rep 64, rep 8, rep 8, f13, rep 12] rfl (by rw [e7]; rfl) (by simp only [List.flatten_cons, List.flatten_nil, List.length_append, List.length_nil, l0, l1, l2, l4, l5, l6, l7, l8, l9, R]) (by rw [R]; exact h8)]
    rw [st [f0, f1, f2, f2, f4, f5, f6, f7, rep 100, rep 8, rep 64, rep 8, rep 8, f13, rep 12] 157 link [f0, f1, f2, f2, f4, f5, f6, f7, f8, rep 8, rep 64, rep 8, rep 8, f13, rep 12] [f0, f1, f2, f2, f4, f5, f6, f7] (rep 100) [rep 8, rep 64, rep 8, rep 8, f13, rep 12] rfl (by rw [e8]; rfl) (by simp only [List.flatten_cons, List.flatten_nil, List.length_append, List.length_nil, l0, l1, l2, l4, l5, l6, l7, l8, l9, R]) (by rw [R]; exact h9)]
    rw [st [f0, f1, f2, f2, f4, f5, f6, f7, f8, rep 8, rep 64, rep 8, rep 8, f13, rep 12] 257 us [f0, f1, f2, f2, f4, f5, f6, f7, f8, f9, rep 64, rep 8, rep 8, f13, rep 12] [f0, f1, f2, f2, f4, f5, f6, f7, f8] (rep 8) [rep 64, rep 8, rep 8, f13, rep 12] rfl (by rw [e9]; rfl) (by simp only [List.flatten_cons, List.flatten_nil, List.length_append, List.length_nil, l0, l1, l2, l4, l5, l6, l7, l8, l9, R]) (by rw [R]; exact h10)]
    rw [st [f0, f1, f2, f2, f4, f5, f6, f7, f8, f9, rep 64, rep 8, rep 8, f13, rep 12] 329 z [f0, f1, f2, f2, f4, f5, f6, f7, f8, f9, rep 64, f2, rep 8, f13, rep 12] [f0, f1, f2, f2, f4, f5, f6, f7, f8, f9, rep 64] (rep 8) [rep 8, f13, rep 12] rfl (by rw [e2]; rfl) (by simp only [List.flatten_cons, List.flatten_nil, List.length_append, List.length_nil, l0, l1, l2, l4, l5, l6, l7, l8, l9, R]) (by rw [R]; exact h4)]
    rw [st [f0, f1, f2, f2, f4, f5, f6, f7, f8, f9, rep 64, f2, rep 8, f13, rep 12] 337 z [f0, f1, f2, f2, f4, f5, f6, f7, f8, f9, rep 64, f2, f2, f13, rep 12] [f0, f1, f2, f2, f4, f5, f6, f7, f8, f9, rep 64, f2] (rep 8) [f13, rep 12] rfl (by rw [e2]; rfl) (by simp only [List.flatten_cons, List.flatten_nil, List.length_append, List.length_nil, l0, l1, l2, l4, l5, l6, l7, l8, l9, R]) (by rw [R]; exact h4)]
  exact key (fun n => List.replicate n 0) _ _ _ _ _ _ _ _ _ _ R l0 l1 l2 l4 l5 l6 l7 l8 (Z _ _) (Z _ _) (Z _ _) (Z _ _) (Z _ _) (Z _ _) (Z _ _) (Z _ _) (Z _ _) (Z _ _)

def stepB (rest ahead : List UInt8) (mode size : Nat) (flag : UInt8) (link : List UInt8) : List UInt8 :=
  stepG rest ahead (numB mode 7) (numB 0 7) (numB size 11) (numB 0 11) (List.replicate 8 32) [flag] link [117, 115, 116, 97, 114, 0, 48, 48]
def fieldsB (rest ahead : List UInt8) (mode size : Nat) (flag : UInt8) (link sum : List UInt8) : List (List UInt8) :=
  [filB rest 100, digB mode 7, digB 0 7, digB 0 7, digB size 11, digB 0 11, sum, [flag], filB link 100, [117, 115, 116, 97, 114, 0, 48, 48], filB [] 64, digB 0 7, digB 0 7, filB ahead 155, filB [] 12]
theorem stepB_fields (rest ahead : List UInt8) (mode size : Nat) (flag : UInt8) (link : List UInt8) (h1 : rest.length ≤ 100) (h2 : ahead.length ≤ 155) (h3 : (octB mode).length ≤ 7) (h4 : (octB size).length ≤ 11) (h5 : link.length ≤ 100) :
    stepB rest ahead mode size flag link = (fieldsB rest ahead mode size flag link (List.replicate 8 32)).flatten := by
  have o0 : (octB 0).length = 1 := by rw [octB_small (by omega)]; rfl
  have n7 := numB_len mode 7 h3
  have n70 := numB_len 0 7 (by omega)
  have n11 := numB_len size 11 h4
  have n110 := numB_len 0 11 (by omega)
  have d7 : filB (numB mode 7) 8 = digB mode 7 := filB_dig mode 7 h3
  have d70 : filB (numB 0 7) 8 = digB 0 7 := filB_dig 0 7 (by omega)
  have d11 : filB (numB size 11) 12 = digB size 11 := filB_dig size 11 h4
  have d110 : filB (numB 0 11) 12 = digB 0 11 := filB_dig 0 11 (by omega)
  unfold stepB
  rw [stepG_fields _ _ _ _ _ _ _ _ _ _ h1 h2 (by omega) (by omega) (by omega) (by omega) (by rw [List.length_replicate]; omega) (by exact Nat.le_refl 1) h5 (by exact Nat.le_refl 8), d7, d70, d11, d110]
  rfl
/-- the sum's digits, and its nought -/
theorem stepB_sum (rest ahead : List UInt8) (mode size : Nat) (flag : UInt8) (link : List UInt8) (v : Nat) (h1 : rest.length ≤ 100) (h3 : (octB mode).length ≤ 7) (h4 : (octB size).length ≤ 11) (hv : (octB v).length ≤ 6) :
    setB (setB (fieldsB rest ahead mode size flag link (List.replicate 8 32)).flatten 148 (numB v 6)) 154 [0] = (fieldsB rest ahead mode size flag link (digB v 6 ++ [32])).flatten := by
  have o0 : (octB 0).length = 1 := by rw [octB_small (by omega)]; rfl
  have l0 := filB_len rest 100 h1
  have l1 := digB_len mode 7 h3
  have l2 := digB_len 0 7 (by omega)
  have l4 := digB_len size 11 h4
  have l5 := digB_len 0 11 (by omega)
  have n6 := numB_len v 6 hv
  unfold fieldsB
  rw [setB_field _ 6 148 (numB v 6) (by simp) (by simp [l0, l1, l2, l4, l5]) (by simp [n6])]
  simp only [List.set_cons_succ, List.set_cons_zero, List.getElem_cons_succ, List.getElem_cons_zero]
  have e1 : setB (List.replicate 8 32) 0 (numB v 6) = numB v 6 ++ [32, 32] := by
    unfold setB; rw [n6]; rfl
  rw [e1]
  have e2 : ∀ F : List UInt8, F.length = 148 → ∀ R : List UInt8, setB (F ++ (numB v 6 ++ [32, 32] ++ R)) 154 [0] = F ++ (digB v 6 ++ [32] ++ R) := by
    intro F hF R
    have : F ++ (numB v 6 ++ [32, 32] ++ R) = (F ++ numB v 6) ++ [32] ++ ([32] ++ R) := by simp
    rw [this, show 154 = (F ++ numB v 6).length by simp [hF, n6], setB_part _ _ _ _ (by simp)]
    simp [setB, digB, numB]
  have := e2 (filB rest 100 ++ (digB mode 7 ++ (digB 0 7 ++ (digB 0 7 ++ (digB size 11 ++ digB 0 11))))) (by simp [l0, l1, l2, l4, l5])
  simp only [List.flatten_cons, List.flatten_nil, List.append_assoc] at this ⊢
  exact this _
theorem sumB_fields (c : Ent) : sumB (fieldsB (splB (namB c)).2 (splB (namB c)).1 c.mode.toNat (dataB c).length (flagB c) (linkB c) (List.replicate 8 32)).flatten = totB c := by
  unfold fieldsB totB headB tailB
  simp only [List.flatten_cons, List.flatten_nil, sumB_app, List.append_nil]
  have e1 : sumB (List.replicate 8 32) = 256 := rfl
  have e2 : ∀ (x : UInt8) (l : List UInt8), sumB (x :: l) = sumB [x] + sumB l := fun x l => sumB_app [x] l
  rw [e1, e2 (flagB c) (filB (linkB c) 100)]
  omega
theorem head_fields (c : Ent) : (fieldsB (splB (namB c)).2 (splB (namB c)).1 c.mode.toNat (dataB c).length (flagB c) (linkB c) (digB (totB c) 6 ++ [32])).flatten = headB c ++ digB (totB c) 6 ++ [32] ++ tailB c := by
  unfold fieldsB headB tailB
  simp only [List.flatten_cons, List.flatten_nil, List.append_nil, List.append_assoc, List.cons_append, List.nil_append]
end Go.Proofs.YtpkabccinhfmbaaGreatDoor
