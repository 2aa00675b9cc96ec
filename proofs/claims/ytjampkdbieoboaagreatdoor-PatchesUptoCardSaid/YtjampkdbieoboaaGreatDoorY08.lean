/-
  The program: what stands at a path of a tree.
  The program: a path's directory and last element.
  Plain words and the program: a path's directory and last element.
  The program: an entry laid into a tree.
  The program: the empty tree; what kind of thing stands at a path; something taken out of a tree.
  The program: what stands at a path taken out of a tree.
-/
import Derived.Test.YtjampkdbieoboaaGreatDoorY03
import Derived.Test.YtjampkdbieoboaaGreatDoorShelf
import Derived.Test.YtjampkdbieoboaaGreatDoorY04
set_option linter.unusedVariables false
set_option linter.unusedSimpArgs false
namespace Go.Proofs.YtjampkdbieoboaaGreatDoor
open Go.RowKit

def atV (a : Pth → Nat) (F : Forest) (p : Pth) : Value := nodeV (if (F p).isSome then some (a p) else none)
theorem atV_some {a : Pth → Nat} {F : Forest} {p : Pth} {x : Nd} (h : F p = some x) : atV a F p = .pointer (some ⟨a p, 0, none⟩) := by unfold atV; rw [h]; rfl
theorem atV_none {a : Pth → Nat} {F : Forest} {p : Pth} (h : F p = none) : atV a F p = .pointer none := by unfold atV; rw [h]; rfl
set_option maxHeartbeats 2000000 in
theorem find_any {w : World} {B N : Nat} {a m : Pth → Nat} {F : Forest} (hT : TreeAt w B N a m F) (t : Nat) (ht : TreeV w t a) (p : List UInt8) (hp : p.length ≤ 4294967280) (hS : Std w) :
    Calls Tryz.prog 40 #[.pointer (some ⟨t, 0, none⟩), .string (S p)] w fun e w' => e = .returned (atV a F (partsB p)) ∧ Below w.heap.size w w' := by
  have HT := Lib.hid hT
  have HS := Lib.hid hS
  have ht0 : w.cell? ⟨t, 0, none⟩ = some (.pointer (some ⟨a [], 0, none⟩)) := ht
  clear hT hS ht
  go_enter Tryz.func40, Tryz.ntmps40
  go_wp2_with fail
  refine (partsP_any p _ HS.out hp).mono ?_
  rintro e w1 ⟨v, rfl, hown, hb⟩
  obtain ⟨A, cap, rfl, _, _, hrd⟩ := Rd.of_own hown
  have HB := Lib.hid hb
  have HR := Lib.hid hrd
  have HT1 := Lib.hid (HT.out.below hb)
  have hlen := partsB_lens p
  have hpl := partsB_len p
  clear hown hb hrd HT ht0
  generalize hL : partsB p = L at *
  have HL := Lib.hid hL
  clear hL
  go_wp2
  go_loop [5, 15] (fun n i => ∃ k : Nat, k ≤ L.length ∧ i = .int .i64 k ∧ n = .pointer (some ⟨a (L.take k), 0, none⟩) ∧ Hid (∃ x, F (L.take k) = some x)) (fun _ i => L.length - (intOf i).toNat)
  case atStart =>
    obtain ⟨x, hx, _⟩ := HT1.out.tree.root
    exact ⟨0, Nat.zero_le _, rfl, rfl, x, hx⟩
  case round =>
    obtain ⟨k, hk, rfl, rfl, hX⟩ := hrel
    obtain ⟨x, hx⟩ := hX.out
    by_cases hlt : k < L.length
    · obtain ⟨b, o, rfl, hbb, hc⟩ := HR.out.at k (by rw [strs_len]; exact hlt)
      have hck := hc k _ (strs_get hlt)
      have hel : L[k].length ≤ maxLen := by
        have := lensB_get L k hlt
        unfold maxLen; omega
      have htk := Lib.hid (show L.take k ++ [L[k]] = L.take (k + 1) from (List.take_succ_eq_append_getElem hlt).symm)
      obtain ⟨_, _, _, _, c4⟩ := HT1.out.cells _ _ hx
      have hlk := HT1.out.look _ _ hx L[k] hel
      rw [htk.out] at hlk
      clear hc hel
      cases hn : F (L.take (k + 1)) with
      | none =>
        have Y := Lib.hid (atV_none (a := a) (show F L = none by
          have := HT1.out.tree.pre (L.take (k + 1)) (L.drop (k + 1)) hn
          rwa [List.take_append_drop] at this))
        rw [hn] at hlk
        replace hlk : (Instr.lookup tMap (mapV x (m (L.take k))) (.string (S L[k])) false).run Tryz.prog w1 = .ok (.pointer none) w1 := hlk
        have HX := Lib.hid hx
        clear hn hx hX
        go_wp2
        go_ret
        exact ⟨by rw [HL.out, Y.out]; rfl, HB.out⟩
      | some y =>
        rw [hn] at hlk
        replace hlk : (Instr.lookup tMap (mapV x (m (L.take k))) (.string (S L[k])) false).run Tryz.prog w1 = .ok (.pointer (some ⟨a (L.take (k + 1)), 0, none⟩)) w1 := hlk
        have HN := Lib.hid hn
        clear hn hx hX
        go_wp2
        go_round
        case rel => exact ⟨k + 1, by omega, by go_num, rfl, y, HN.out⟩
        case measure => simp [intOf]; omega
    · obtain rfl : k = L.length := by omega
      have Y := Lib.hid (show atV a F L = .pointer (some ⟨a (L.take L.length), 0, none⟩) by
        rw [List.take_length] at hx ⊢; exact atV_some hx)
      clear hx hX
      go_wp2
      go_ret
      exact ⟨by rw [HL.out, Y.out]; simp, HB.out⟩
end Go.Proofs.YtjampkdbieoboaaGreatDoor
namespace Go.Proofs.YtjampkdbieoboaaGreatDoor
open Go.RowKit

theorem upB_none {p : List UInt8} (h0 : p ≠ []) (h : (47 : UInt8) ∉ p) : upB p = ([], p) := by
  unfold upB partsB
  rw [if_neg h0, cutB_last _ _ h]; rfl
theorem upB_cut (a b : List UInt8) (h : (47 : UInt8) ∉ b) : upB (a ++ 47 :: b) = (a, b) := by
  unfold upB partsB
  rw [if_neg (by simp), cutB_app, cutB_last _ _ h, List.dropLast_concat, joinB_cut]
  simp
theorem upB_at {p : List UInt8} {i : Nat} (hi : i < p.length) (h : p[i] = 47) (hb : ∀ j (hj : j < p.length), i < j → p[j] ≠ 47) : upB p = (p.take i, p.drop (i + 1)) := by
  have e : p = p.take i ++ 47 :: p.drop (i + 1) := by
    rw [← h, ← List.drop_eq_getElem_cons hi, List.take_append_drop]
  have hn : (47 : UInt8) ∉ p.drop (i + 1) := by
    intro hm
    obtain ⟨j, hj, e⟩ := List.getElem_of_mem hm
    rw [List.length_drop] at hj
    rw [List.getElem_drop] at e
    exact hb (i + 1 + j) (by omega) (by omega) e
  have := upB_cut (p.take i) (p.drop (i + 1)) hn
  rw [← e] at this; exact this

theorem S_bang (p : List UInt8) (j : Nat) (h : j < p.length) : (S p).data[j]! = p[j] := by
  show p.toArray[j]! = p[j]
  rw [getElem!_pos p.toArray j (by simpa using h)]; simp
set_option maxHeartbeats 1000000 in
theorem parentP_any (p : List UInt8) (h0 : p ≠ []) (hp : p.length ≤ 5000) (w : World) :
    Calls Tryz.prog 53 #[.string (S p)] w fun e w' => e = .returned (.tuple #[.string (S (upB p).1), .string (S (upB p).2)]) ∧ Below w.heap.size w w' := by
  have hL := Lib.hid (fun w => Tryz.strings_LastIndexByte (S p) 47 (by rw [S_size]; omega) w)
  rcases Lib.lastIndexByte_spec (S p) 47 with ⟨h1, h2⟩ | ⟨i, h1, h2, h3, h4⟩
  · have X := Lib.hid (upB_none h0 (by
      intro hm
      obtain ⟨j, hj, e⟩ := List.getElem_of_mem hm
      exact h2 j (by rw [S_size]; exact hj) (by rw [S_bang p j hj, e]; rfl)))
    rw [h1] at hL
    clear h1 h2
    go_enter Tryz.func53, Tryz.ntmps53
    go_wp2_with fail
    refine (hL.out _).mono ?_
    rintro e w' ⟨rfl, rfl⟩
    go_wp2_with fail
    go_ret2
    exact ⟨by rw [X.out]; rfl, Below.refl _ _⟩
  · rw [S_size] at h1 h4
    have X := Lib.hid (upB_at h1 (by rw [S_bang p i h1] at h3; exact UInt8.toNat_inj.1 (by have : (p[i].toNat : Int) = 47 := h3; show p[i].toNat = 47; omega)) (fun j hj hij e => h4 j hij hj (by rw [S_bang p j hj, e]; rfl)))
    rw [h2] at hL
    clear h2 h3 h4
    have hk2 : (i : Int) + 1 ≤ (p.length : Int) := by omega
    have hk3 : (0 : Int) ≤ (i : Int) := by omega
    have hk4 : (i : Int) ≤ (p.length : Int) := by omega
    go_enter Tryz.func53, Tryz.ntmps53
    go_wp2_with fail
    refine (hL.out _).mono ?_
    rintro e w' ⟨rfl, rfl⟩
    go_wp2_with fail
    go_region
    all_goals go_wp2
    all_goals go_ret2
    all_goals exact ⟨by rw [X.out]; rfl, (Below.refl _ _).drew⟩
end Go.Proofs.YtjampkdbieoboaaGreatDoor
namespace Go.Proofs.YtjampkdbieoboaaGreatDoor
open Go.RowKit

theorem upB_len (p : List UInt8) : (upB p).1.length ≤ p.length + 1 ∧ (upB p).2.length ≤ p.length + 1 := by
  have hl : lensB (partsB p) ≤ p.length + 1 := by
    unfold partsB; split
    · simp [lensB]
    · exact lensB_cut _ _
  refine ⟨?_, ?_⟩
  · have h1 := joinB_len (partsB p).dropLast
    have h2 := lensB_drop (partsB p)
    show (joinB (partsB p).dropLast).length ≤ _
    omega
  · show ((partsB p).getLastD []).length ≤ _
    generalize partsB p = P at hl
    cases hP : P.getLast? with
    | none => rw [List.getLastD_eq_getLast?, hP]; simp
    | some x =>
      have hm := List.mem_of_getLast? hP
      rw [List.getLastD_eq_getLast?, hP]
      obtain ⟨i, hi, rfl⟩ := List.getElem_of_mem hm
      have := lensB_get P i hi
      show (P[i]).length ≤ _
      omega

/-- the elements of the directory that a path is in -/
theorem upB_parts {p : List UInt8} (h : pathB p = true) : partsB (upB p).1 = (partsB p).dropLast := by
  obtain ⟨_, he⟩ := pathB_ok h
  unfold upB
  exact parts_join2 fun e hm => by
    have := elementB_ok (he e (List.dropLast_subset _ hm)); exact ⟨this.1, this.2.2⟩
theorem parts_last {p : List UInt8} (h : pathB p = true) (hne : p ≠ []) : partsB p = (partsB p).dropLast ++ [(upB p).2] ∧ elementB (upB p).2 = true := by
  have hn := partsB_ne hne
  have e : (upB p).2 = (partsB p).getLast hn := by
    unfold upB
    rw [List.getLastD_eq_getLast?, List.getLast?_eq_some_getLast hn]; rfl
  rw [e]
  exact ⟨(List.dropLast_concat_getLast hn).symm, (pathB_ok h).2 _ (List.getLast_mem hn)⟩
end Go.Proofs.YtjampkdbieoboaaGreatDoor
namespace Go.Proofs.YtjampkdbieoboaaGreatDoor
open Go.RowKit

/-- all cells stay -/
def KeepC (w w' : World) : Prop := ∀ (p : Addr) (v : Value), w.cell? p = some v → w'.cell? p = some v
theorem KeepC.below {w w' : World} (h : Below w.heap.size w w') : KeepC w w' := fun p v hp => (h.cell (World.block_lt_of_cell? w _ hp)).trans hp
theorem KeepC.trans {a b c : World} (h : KeepC a b) (k : KeepC b c) : KeepC a c := fun p v hp => k p v (h p v hp)
def PutOut (B N : Nat) (a m : Pth → Nat) (F : Forest) (t : Nat) (x : Ent) (W : World) (e : Ending) (w' : World) : Prop :=
  (isDirF F (partsB x.path).dropLast = false ∧ e = .returned (.bool false) ∧ Below W.heap.size W w' ∧ KeepC W w') ∨
  (isDirF F (partsB x.path).dropLast = true ∧ e = .returned (.bool true) ∧ ∃ a' m', TreeAt w' B (N + 1) a' m' (putF F (partsB x.path) (ndOf x)) ∧ TreeV w' t a' ∧ Below B W w' ∧ KeepC W w')
/-- all blocks stay but the tree's own maps -/
def KeepB (m : Pth → Nat) (F : Forest) (w w' : World) : Prop := ∀ k, k < w.heap.size → (∀ p, isDirF F p = true → k ≠ m p) → w'.heap[k]? = w.heap[k]?
theorem KeepB.below {m : Pth → Nat} {F : Forest} {w w' : World} (h : Below w.heap.size w w') : KeepB m F w w' := fun k hk _ => h.block k hk
/-- what put leaves, told whole: the new tree's blocks are the old one's or new -/
def PutFull (B N : Nat) (a m : Pth → Nat) (F : Forest) (t : Nat) (x : Ent) (W : World) (e : Ending) (w' : World) : Prop :=
  (isDirF F (partsB x.path).dropLast = false ∧ e = .returned (.bool false) ∧ Below W.heap.size W w' ∧ KeepC W w') ∨
  (isDirF F (partsB x.path).dropLast = true ∧ e = .returned (.bool true) ∧ ∃ a' m', TreeAt w' B (N + 1) a' m' (putF F (partsB x.path) (ndOf x)) ∧ TreeV w' t a' ∧ Below B W w' ∧ KeepC W w' ∧ KeepB m F W w' ∧ (∀ p, (a' p = a p ∧ p ≠ partsB x.path) ∨ W.heap.size ≤ a' p) ∧ (∀ p, (m' p = m p ∧ (x.kind = 1 → p = partsB x.path → isDirF F p = true)) ∨ W.heap.size ≤ m' p))
theorem PutFull.out {B N : Nat} {a m : Pth → Nat} {F : Forest} {t : Nat} {x : Ent} {W : World} {e : Ending} {w' : World} (h : PutFull B N a m F t x W e w') : PutOut B N a m F t x W e w' := by
  rcases h with h | ⟨h1, h2, a', m', h3, h4, h5, h6, _⟩
  · exact .inl h
  · exact .inr ⟨h1, h2, a', m', h3, h4, h5, h6⟩
theorem isDirF_none {F : Forest} {p : Pth} (h : F p = none) : isDirF F p = false := by unfold isDirF; rw [h]
theorem isDirF_some {F : Forest} {p : Pth} {x : Nd} (h : F p = some x) : isDirF F p = decide (x.kind = 1) := by unfold isDirF; rw [h]

/-- a map's change leaves all cells -/
theorem MapIs.cell {w w' : World} {b n : Nat} {f : List UInt8 → Option Nat} (h : MapIs w b n f) (hg : w.grownBy w' (some b)) (p : Addr) (v : Value) (hp : w.cell? p = some v) : w'.cell? p = some v := by
  refine (World.cell?_of_block (hg.block p.block (World.block_lt_of_cell? w _ hp) (fun he => ?_))).trans hp
  have hb : p.block = b := Option.some.inj he
  obtain ⟨D, ⟨es, clock, hm, _⟩, _⟩ := h
  unfold World.cell? at hp
  rw [hb, hm] at hp; cases hp
/-- the end of put -/
theorem put_end {w w2 wz w3 : World} {B N : Nat} {a m : Pth → Nat} {F : Forest} (hT : TreeAt w2 B N a m F) (t : Nat) (ht : TreeV w t a) (x : Ent) (D : Pth) (last : List UInt8) (hL : partsB x.path = D ++ [last]) (hd : isDirF F D = true)
    (hB : B ≤ w.heap.size) (h0 : Below w.heap.size w w2) (h1 : Below w2.heap.size w2 wz) (mb : Nat) (hnode : wz.heap[w2.heap.size]? = some (Obj.cells (nodeC (ndOf x) mb) tNode (0, 0)))
    (hm2 : mb = m (D ++ [last]) ∨ w2.heap.size ≤ mb) (hmb : x.kind = 1 → (isDirF F (D ++ [last]) = true → mb = m (D ++ [last])) ∧ (isDirF F (D ++ [last]) = false → w2.heap.size ≤ mb ∧ MapIs wz mb 0 (fun _ => none)))
    (hz : MapIs wz (m D) N (kidsF F a D)) (hup : MapIs w3 (m D) (N + 1) (upd (kidsF F a D) last (some w2.heap.size))) (h2 : wz.grownBy w3 (some (m D))) :
    PutFull B N a m F t x w (.returned (.bool true)) w3 := by
  have hbase : B ≤ w2.heap.size := by have := h0.size; omega
  obtain ⟨y, hy, hk⟩ := isDirF_iff.1 hd
  refine .inr ⟨by rw [hL, List.dropLast_concat]; exact hd, rfl, updP a (D ++ [last]) w2.heap.size, updP m (D ++ [last]) mb, ?_, ?_, ?_, ?_, fun k hk hne => ?_, fun q => ?_, fun q => ?_⟩
  · rw [hL]
    exact hT.put D last (ndOf x) hd hbase h1 w2.heap.size mb (Nat.le_refl _) hnode hmb hup h2
  · unfold TreeV
    rw [updP_other (by simp)]
    exact hz.cell h2 _ _ (((h0.trans (h1.mono h0.size)).cell (p := ⟨t, 0, none⟩) (World.block_lt_of_cell? w _ ht)).trans ht)
  · exact (((h0.mono hB).trans (h1.mono hbase))).grown h2 (by have := h1.size; omega) (fun k hk2 => by
      have : m D = k := Option.some.inj hk2
      rw [← this]; exact (hT.base D y hy).2 hk)
  · exact fun q v hq => hz.cell h2 q v ((KeepC.below (h0.trans (h1.mono h0.size))) q v hq)
  · have hbb := h0.trans (h1.mono h0.size)
    exact (h2.block k (Nat.lt_of_lt_of_le hk hbb.size) (fun e => hne D hd (Option.some.inj e))).trans (hbb.block k hk)
  · by_cases hq : q = D ++ [last]
    · subst hq; rw [updP_same]; exact .inr h0.size
    · rw [updP_other hq, hL]; exact .inl ⟨rfl, hq⟩
  · by_cases hq : q = D ++ [last]
    · subst hq
      rw [updP_same]
      cases hdl : isDirF F (D ++ [last]) with
      | true =>
        rcases hm2 with e | e
        · exact .inl ⟨e, fun _ _ => rfl⟩
        · exact .inr (Nat.le_trans h0.size e)
      | false =>
        by_cases hk1 : x.kind = 1
        · exact .inr (Nat.le_trans h0.size ((hmb hk1).2 hdl).1)
        · rcases hm2 with e | e
          · exact .inl ⟨e, fun h => absurd h hk1⟩
          · exact .inr (Nat.le_trans h0.size e)
    · rw [updP_other hq, hL]; exact .inl ⟨rfl, fun _ h => absurd h hq⟩
set_option maxHeartbeats 4000000 in
set_option maxRecDepth 100000 in
theorem put_all {w : World} {B N : Nat} {a m : Pth → Nat} {F : Forest} (hT : TreeAt w B N a m F) (t : Nat) (ht : TreeV w t a) (x : Ent) (hp : pathB x.path = true) (hne : x.path ≠ []) (hN : N + 1 < 4294967290) (hB : B ≤ w.heap.size) (hS : Std w) :
    Calls Tryz.prog 36 #[.pointer (some ⟨t, 0, none⟩), x.agg] w (PutFull B N a m F t x w) := by
  obtain ⟨p, k, md, dt⟩ := x
  simp only at hp hne
  rw [show Ent.agg ⟨p, k, md, dt⟩ = .agg #[.string (S p), .int .i64 k, .int .i64 md, .string (S dt)] from rfl]
  obtain ⟨hpl, hel⟩ := pathB_ok hp
  have hupl := upB_len p
  have hup := Lib.hid (upB_parts hp)
  obtain ⟨hLD, hlE⟩ := parts_last hp hne
  have hlast : (upB p).2.length ≤ maxLen := by have := (elementB_ok hlE).2.1; unfold maxLen; omega
  clear hlE
  have HLD := Lib.hid hLD
  have HT := Lib.hid hT
  have HV := Lib.hid ht
  have HS := Lib.hid hS
  have hb0 := (Below.refl w.heap.size w).alloc (Nat.le_refl _) (.cells #[.string (S p), .int .i64 k, .int .i64 md, .string (S dt)] 40)
  have h4 := Lib.hid (Cell4.new w ⟨p, k, md, dt⟩ 40)
  clear hT ht hS hel hLD
  have hmm := @run_makeMap Tryz.prog
  go_enter Tryz.func36, Tryz.ntmps36
  go_wp2_with fail
  refine (parentP_any p hne (by omega) _).mono ?_
  rintro e w1 ⟨rfl, hb1⟩
  have HB1 := Lib.hid (hb0.trans (hb1.mono hb0.size))
  have C1 := Lib.hid (h4.out.below hb1)
  clear hb0 hb1 h4
  generalize hq1 : (upB p).1 = up at hup hupl ⊢
  generalize hq2 : (upB p).2 = last at hlast hupl HLD ⊢
  clear hq1 hq2
  go_wp2_with fail
  refine (find_any (HT.out.below HB1.out) t (HV.out.below HB1.out) up (by omega) (HS.out.below HB1.out)).mono ?_
  rintro e w2 ⟨rfl, hb2⟩
  rw [hup.out]
  have HB2 := Lib.hid (HB1.out.trans (hb2.mono HB1.out.size))
  have C2 := Lib.hid (C1.out.below hb2)
  clear hb2 HB1 C1 hup
  generalize hD : (partsB p).dropLast = D at *
  cases hF : F D with
  | none =>
    have X := Lib.hid (isDirF_none hF)
    rw [atV_none hF]
    clear hF
    go_wp2
    go_ret
    exact .inl ⟨by rw [hD]; exact X.out, rfl, HB2.out, KeepC.below HB2.out⟩
  | some y =>
    rw [atV_some hF]
    have HT2 := Lib.hid (HT.out.below HB2.out)
    obtain ⟨_, n1, _, _, n4⟩ := HT2.out.cells D y hF
    by_cases hk1 : y.kind = 1
    · have X := Lib.hid ((isDirF_some hF).trans (decide_eq_true hk1))
      have f1 : (y.kind != 1) = false := by simpa using hk1
      rw [show mapV y (m D) = .map (some (m D)) from if_pos hk1] at n4
      obtain ⟨q0, q1, q2, q3⟩ := C2.out
      simp only at q0 q1 q2 q3
      have hlt0 : w.heap.size < w2.heap.size := World.block_lt_of_cell? w2 _ q0
      have hltD : a D < w2.heap.size := World.block_lt_of_cell? w2 _ n1
      have HK1 := Lib.hid hk1
      have HFy := Lib.hid hF
      have HHd := Lib.hid hD
      clear hk1 hF hD C2
      by_cases hkk : k = 1
      · subst hkk
        have hw1 : ∀ v : Value, Below w2.heap.size w2 ((w2.alloc (.cells #[.string (S []), .int .i64 1, .int .i64 md, .string (S dt), v] tNode)).alloc (.map #[] 0)) := fun v => ((Below.refl _ _).alloc (Nat.le_refl _) _).alloc (by simp) _
        have hnd : ∀ v : Value, ((w2.alloc (.cells #[.string (S []), .int .i64 1, .int .i64 md, .string (S dt), v] tNode)).alloc (.map #[] 0)).heap[w2.heap.size]? = some (Obj.cells #[.string (S []), .int .i64 1, .int .i64 md, .string (S dt), v] tNode (0, 0)) := fun v => by
          rw [heap_alloc_old _ _ (by simp), heap_alloc_new]
        have hlk := fun v => (HT2.out.below (hw1 v)).look D y HFy.out last hlast
        rw [show mapV y (m D) = .map (some (m D)) from if_pos HK1.out, ← HLD.out] at hlk
        have hz := fun v => ((HT2.out.dir D y HFy.out HK1.out).block ((hw1 v).block _ ((HT2.out.lt D y HFy.out).2 HK1.out)))
        have hmade : ∀ v : Value, MapIs ((w2.alloc (.cells #[.string (S []), .int .i64 1, .int .i64 md, .string (S dt), v] tNode)).alloc (.map #[] 0)) (w2.heap.size + 1) 0 (fun _ => none) := fun v => by
          have := MapIs.made (w2.alloc (.cells #[.string (S []), .int .i64 1, .int .i64 md, .string (S dt), v] tNode))
          rw [World.size_alloc] at this; exact this
        cases hW : F (partsB p) with
        | none =>
          have hdirL := isDirF_none hW
          rw [HLD.out] at hdirL
          rw [hW] at hlk
          have hlk1 := hlk (.map (some (w2.heap.size + 1)))
          replace hlk1 : (Instr.lookup tMap (.map (some (m D))) (.string (S last)) false).run Tryz.prog ((w2.alloc (.cells #[.string (S []), .int .i64 1, .int .i64 md, .string (S dt), .map (some (w2.heap.size + 1))] tNode)).alloc (.map #[] 0)) = .ok (.pointer none) _ := hlk1
          obtain ⟨w3, hrun, hm3, hg3⟩ := (hz (.map (some (w2.heap.size + 1)))).put last hlast w2.heap.size (by unfold maxLen; omega)
          have hfin := Lib.hid (put_end (x := ⟨p, 1, md, dt⟩) HT2.out t HV.out D last HLD.out X.out hB HB2.out (hw1 (.map (some (w2.heap.size + 1)))) (w2.heap.size + 1) (hnd _) (.inr (Nat.le_succ _)) (fun _ => ⟨fun e => (by rw [hdirL] at e; cases e), fun _ => ⟨Nat.le_succ _, hmade _⟩⟩) (hz _) hm3 hg3)
          clear hW hdirL hlk hz hmade hw1 hnd hm3 hg3
          go_wp2
          go_ret
          exact hfin.out
        | some z =>
          rw [hW] at hlk
          have hlk1 := hlk (.map (some (w2.heap.size + 1)))
          replace hlk1 : (Instr.lookup tMap (.map (some (m D))) (.string (S last)) false).run Tryz.prog ((w2.alloc (.cells #[.string (S []), .int .i64 1, .int .i64 md, .string (S dt), .map (some (w2.heap.size + 1))] tNode)).alloc (.map #[] 0)) = .ok (.pointer (some ⟨a (partsB p), 0, none⟩)) _ := hlk1
          obtain ⟨_, l1, _, _, l4⟩ := HT2.out.cells (partsB p) z hW
          have hltL : a (partsB p) < w2.heap.size := World.block_lt_of_cell? w2 _ l1
          by_cases hzk : z.kind = 1
          · have hdirL := (isDirF_some hW).trans (decide_eq_true hzk)
            rw [HLD.out] at hdirL
            have f3 : (z.kind == 1) = true := by simpa using hzk
            rw [show mapV z (m (partsB p)) = .map (some (m (partsB p))) from if_pos hzk] at l4
            obtain ⟨w3, hrun, hm3, hg3⟩ := (hz (.map (some (m (partsB p))))).put last hlast w2.heap.size (by unfold maxLen; omega)
            have hfin := Lib.hid (put_end (x := ⟨p, 1, md, dt⟩) HT2.out t HV.out D last HLD.out X.out hB HB2.out (hw1 (.map (some (m (partsB p))))) (m (partsB p)) (hnd _) (.inl (by rw [HLD.out])) (fun _ => ⟨fun _ => by rw [HLD.out], fun e => by rw [hdirL] at e; cases e⟩) (hz _) hm3 hg3)
            clear hW hdirL hlk hz hmade hw1 hnd hm3 hg3 hzk
            go_wp2
            go_ret
            exact hfin.out
          · have hdirL := (isDirF_some hW).trans (decide_eq_false hzk)
            rw [HLD.out] at hdirL
            have f3 : (z.kind == 1) = false := by simpa using hzk
            obtain ⟨w3, hrun, hm3, hg3⟩ := (hz (.map (some (w2.heap.size + 1)))).put last hlast w2.heap.size (by unfold maxLen; omega)
            have hfin := Lib.hid (put_end (x := ⟨p, 1, md, dt⟩) HT2.out t HV.out D last HLD.out X.out hB HB2.out (hw1 (.map (some (w2.heap.size + 1)))) (w2.heap.size + 1) (hnd _) (.inr (Nat.le_succ _)) (fun _ => ⟨fun e => (by rw [hdirL] at e; cases e), fun _ => ⟨Nat.le_succ _, hmade _⟩⟩) (hz _) hm3 hg3)
            clear hW hdirL hlk hz hmade hw1 hnd hm3 hg3 hzk l4
            go_wp2
            go_ret
            exact hfin.out
      · have f2 : (k == 1) = false := by simpa using hkk
        have h1 : Below w2.heap.size w2 (w2.alloc (.cells #[.string (S []), .int .i64 k, .int .i64 md, .string (S dt), .map none] tNode)) := (Below.refl _ _).alloc (Nat.le_refl _) _
        have hz := ((HT2.out.dir D y HFy.out HK1.out).block (h1.block _ ((HT2.out.lt D y HFy.out).2 HK1.out)))
        obtain ⟨w3, hrun, hm3, hg3⟩ := hz.put last hlast w2.heap.size (by unfold maxLen; omega)
        have hfin := Lib.hid (put_end (x := ⟨p, k, md, dt⟩) HT2.out t HV.out D last HLD.out X.out hB HB2.out h1 (m (D ++ [last])) (by
          rw [heap_alloc_new]; unfold nodeC mapV ndOf; simp only; rw [if_neg hkk]) (.inl rfl) (fun e => absurd e hkk) hz hm3 hg3)
        clear h1 hz hm3 hg3
        go_wp2
        go_ret
        exact hfin.out
    · have X := Lib.hid ((isDirF_some hF).trans (decide_eq_false hk1))
      have f1 : (y.kind != 1) = true := by simpa using hk1
      clear hF n4
      go_wp2
      go_ret
      exact .inl ⟨by rw [hD]; exact X.out, rfl, HB2.out, KeepC.below HB2.out⟩
theorem put_any {w : World} {B N : Nat} {a m : Pth → Nat} {F : Forest} (hT : TreeAt w B N a m F) (t : Nat) (ht : TreeV w t a) (x : Ent) (hp : pathB x.path = true) (hne : x.path ≠ []) (hN : N + 1 < 4294967290) (hB : B ≤ w.heap.size) (hS : Std w) :
    Calls Tryz.prog 36 #[.pointer (some ⟨t, 0, none⟩), x.agg] w (PutOut B N a m F t x w) :=
  (put_all hT t ht x hp hne hN hB hS).mono fun _ _ h => h.out
end Go.Proofs.YtjampkdbieoboaaGreatDoor
namespace Go.Proofs.YtjampkdbieoboaaGreatDoor
open Go.RowKit

def EmptyOut (W : World) (e : Ending) (w' : World) : Prop := ∃ t a m, e = .returned (.pointer (some ⟨t, 0, none⟩)) ∧ TreeAt w' W.heap.size 0 a m emptyF ∧ TreeV w' t a ∧ Below W.heap.size W w' ∧ W.heap.size ≤ t
set_option maxHeartbeats 1000000 in
theorem empty_any (w : World) : Calls Tryz.prog 32 #[] w (EmptyOut w) := by
  have hmm := @run_makeMap Tryz.prog
  go_enter Tryz.func32, Tryz.ntmps32
  go_wp2
  go_ret
  refine ⟨w.heap.size + 1 + 1, fun _ => w.heap.size + 1, fun _ => w.heap.size, rfl, ⟨emptyF_tree, ?_, ?_, ?_, ?_, ?_⟩, ?_, (((Below.refl _ _).alloc (Nat.le_refl _) _).alloc (by simp) _).alloc (by simp; omega) _, by omega⟩
  · intro p x hx
    unfold emptyF at hx
    split at hx
    · obtain rfl := Option.some.inj hx
      rw [heap_alloc_old _ _ (by simp)]
      have := heap_alloc_new (w.alloc (.map #[] 0)) (.cells (nodeC ⟨1, 493, []⟩ w.heap.size) tNode)
      rw [World.size_alloc] at this
      exact this
    · cases hx
  · intro p x hx hk
    have hm := MapIs.made w
    have e1 : kidsF emptyF (fun _ => w.heap.size + 1) p = fun _ => none := by
      funext f
      unfold kidsF emptyF
      rw [if_neg (show ¬ p ++ [f] = [] by simp)]; rfl
    rw [e1]
    exact hm.block (by rw [heap_alloc_old _ _ (by simp; omega), heap_alloc_old _ _ (by simp)])
  · intro p x hx; exact ⟨by omega, fun _ => Nat.le_refl _⟩
  · intro p q hp hq _
    unfold emptyF at hp hq
    split at hp
    · rename_i h1
      split at hq
      · rename_i h2; rw [h1, h2]
      · cases hq
    · cases hp
  · intro p q hp hq _
    unfold isDirF emptyF at hp hq
    by_cases h1 : p = []
    · by_cases h2 : q = []
      · rw [h1, h2]
      · rw [if_neg h2] at hq; cases hq
    · rw [if_neg h1] at hp; cases hp
  · unfold TreeV
    have := heap_alloc_new ((w.alloc (.map #[] 0)).alloc (.cells (nodeC ⟨1, 493, []⟩ w.heap.size) tNode)) (.cells #[.pointer (some ⟨w.heap.size + 1, 0, none⟩)] tTree)
    rw [World.size_alloc, World.size_alloc] at this
    exact cell_of_row _ _ _ _ _ _ this

def kindF (F : Forest) (p : Pth) : Int := match F p with | some x => x.kind | none => 0
set_option maxHeartbeats 1000000 in
theorem kind_any {w : World} {B N : Nat} {a m : Pth → Nat} {F : Forest} (hT : TreeAt w B N a m F) (t : Nat) (ht : TreeV w t a) (p : List UInt8) (hp : p.length ≤ 4294967280) (hS : Std w) :
    Calls Tryz.prog 39 #[.pointer (some ⟨t, 0, none⟩), .string (S p)] w fun e w' => e = .returned (.int .i64 (kindF F (partsB p))) ∧ Below w.heap.size w w' := by
  have HF := Lib.hid (find_any hT t ht p hp hS)
  have HT := Lib.hid hT
  clear hT ht hS
  go_enter Tryz.func39, Tryz.ntmps39
  go_wp2_with fail
  refine HF.out.mono ?_
  rintro e w1 ⟨rfl, hb⟩
  have HB := Lib.hid hb
  have HT1 := Lib.hid (HT.out.below hb)
  clear hb HF HT
  cases h : F (partsB p) with
  | none =>
    have X := Lib.hid (show kindF F (partsB p) = 0 by unfold kindF; rw [h])
    rw [atV_none h]
    clear h
    go_wp2
    go_ret
    exact ⟨by rw [X.out]; rfl, HB.out⟩
  | some x =>
    have X := Lib.hid (show kindF F (partsB p) = x.kind by unfold kindF; rw [h])
    rw [atV_some h]
    obtain ⟨_, c1, _, _, _⟩ := HT1.out.cells _ _ h
    clear h
    go_wp2
    go_ret
    exact ⟨by rw [X.out]; rfl, HB.out⟩
end Go.Proofs.YtjampkdbieoboaaGreatDoor
namespace Go.Proofs.YtjampkdbieoboaaGreatDoor
open Go.RowKit

theorem cutF_none {F : Forest} (h : IsTree F) {p : Pth} (hp : F p = none) : cutF F p = F := by
  funext q
  unfold cutF
  split
  · rename_i hq; obtain ⟨r, rfl⟩ := hq; exact (h.pre p r hp).symm
  · rfl
/-- a tree with another forest in its place, all cells as they were -/
def CutOut (B N : Nat) (a m : Pth → Nat) (G : Forest) (t : Nat) (W w' : World) : Prop :=
  TreeAt w' B N a m G ∧ TreeV w' t a ∧ Below B W w' ∧ KeepC W w'
set_option maxHeartbeats 2000000 in
theorem remove_any {w : World} {B N : Nat} {a m : Pth → Nat} {F : Forest} (hT : TreeAt w B N a m F) (t : Nat) (ht : TreeV w t a) (p : List UInt8) (hp : pathB p = true) (hne : p ≠ []) (hB : B ≤ w.heap.size) (hS : Std w) :
    Calls Tryz.prog 41 #[.pointer (some ⟨t, 0, none⟩), .string (S p)] w fun e w' => (∃ b, e = .returned (.bool b)) ∧ CutOut B N a m (cutF F (partsB p)) t w w' := by
  obtain ⟨hpl, hel⟩ := pathB_ok hp
  have hupl := upB_len p
  have hup := Lib.hid (upB_parts hp)
  obtain ⟨hLD, hlE⟩ := parts_last hp hne
  have hlast : (upB p).2.length ≤ maxLen := by have := (elementB_ok hlE).2.1; unfold maxLen; omega
  have fp : p.isEmpty = false := by rw [List.isEmpty_eq_false_iff]; exact hne
  clear hlE
  have HLD := Lib.hid hLD
  have HT := Lib.hid hT
  have HV := Lib.hid ht
  have HS := Lib.hid hS
  clear hT ht hS hel hLD
  go_enter Tryz.func41, Tryz.ntmps41
  go_wp2_with fail
  refine (parentP_any p hne (by omega) _).mono ?_
  rintro e w1 ⟨rfl, hb1⟩
  have HB1 := Lib.hid hb1
  clear hb1
  generalize hq1 : (upB p).1 = up at hup hupl ⊢
  generalize hq2 : (upB p).2 = last at hlast hupl HLD ⊢
  clear hq1 hq2
  go_wp2_with fail
  refine (find_any (HT.out.below HB1.out) t (HV.out.below HB1.out) up (by omega) (HS.out.below HB1.out)).mono ?_
  rintro e w2 ⟨rfl, hb2⟩
  rw [hup.out]
  have HB2 := Lib.hid (HB1.out.trans (hb2.mono HB1.out.size))
  clear hb2 HB1 hup hne
  generalize hD : (partsB p).dropLast = D at *
  have HT2 := Lib.hid (HT.out.below HB2.out)
  have HV2 := Lib.hid (HV.out.below HB2.out)
  have HX : Hid (F (partsB p) = none → CutOut B N a m (cutF F (partsB p)) t w w2) := Lib.hid fun h => by
    rw [cutF_none HT2.out.tree h]
    exact ⟨HT2.out, HV2.out, HB2.out.mono hB, KeepC.below HB2.out⟩
  cases hF : F D with
  | none =>
    have X := Lib.hid (HX.out (by rw [HLD.out]; exact HT2.out.tree.pre D _ hF))
    rw [atV_none hF]
    clear hF HX
    go_wp2
    go_ret
    exact ⟨⟨_, rfl⟩, X.out⟩
  | some y =>
    rw [atV_some hF]
    obtain ⟨_, n1, _, _, n4⟩ := HT2.out.cells D y hF
    have hlk := HT2.out.look D y hF last hlast
    rw [← HLD.out] at hlk
    cases hW : F (partsB p) with
    | none =>
      have X := Lib.hid (HX.out hW)
      rw [hW] at hlk
      replace hlk : (Instr.lookup tMap (mapV y (m D)) (.string (S last)) false).run Tryz.prog w2 = .ok (.pointer none) w2 := hlk
      clear hF hW HX
      go_wp2
      go_ret
      exact ⟨⟨_, rfl⟩, X.out⟩
    | some z =>
      rw [hW] at hlk
      replace hlk : (Instr.lookup tMap (mapV y (m D)) (.string (S last)) false).run Tryz.prog w2 = .ok (.pointer (some ⟨a (partsB p), 0, none⟩)) w2 := hlk
      have hk1 : y.kind = 1 := by
        obtain ⟨y', hy', hk⟩ := HT2.out.tree.up D last (by rw [← HLD.out, hW]; rfl)
        rw [hF] at hy'; obtain rfl := Option.some.inj hy'; exact hk
      have hdir := isDirF_iff.2 ⟨y, hF, hk1⟩
      rw [show mapV y (m D) = .map (some (m D)) from if_pos hk1] at n4 hlk
      obtain ⟨w3, hrun, hm3, hg3⟩ := (HT2.out.dir D y hF hk1).del last hlast 0
      have hfin : Hid (CutOut B N a m (cutF F (partsB p)) t w w3) := Lib.hid (by
        refine ⟨?_, ?_, ?_, ?_⟩
        · rw [HLD.out]; exact HT2.out.cut D last hdir hm3 hg3
        · exact (HT2.out.dir D y hF hk1).cell hg3 _ _ HV2.out
        · exact (HB2.out.mono hB).grown hg3 (by have := HB2.out.size; omega) (fun k hk2 => by
            have : m D = k := Option.some.inj hk2
            rw [← this]; exact (HT2.out.base D y hF).2 hk1)
        · exact fun q v hq => (HT2.out.dir D y hF hk1).cell hg3 q v (KeepC.below HB2.out q v hq))
      clear hF hW HX hdir hm3 hg3 hk1
      go_wp2
      go_ret
      exact ⟨⟨_, rfl⟩, hfin.out⟩
end Go.Proofs.YtjampkdbieoboaaGreatDoor
