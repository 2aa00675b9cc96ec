/-
  The program: the names in a directory, rising.
  The program: the library's octal digits.
  The program: the names below what is no directory: none.
-/
import Derived.Sort.OwnSorted
import Derived.Sort.KeysCollected
import Derived.Maps.AppendAt
import Derived.Laws.OwnMore
import Derived.Laws.IdiomRangeMap
import Derived.Test.YtkdplkhnkimhpaaGreatDoorY01
import Derived.Test.YtkdplkhnkimhpaaGreatDoorY03
import Derived.Test.YtkdplkhnkimhpaaGreatDoorY04
set_option linter.unusedVariables false
set_option linter.unusedSimpArgs false
namespace Go.Proofs.YtkdplkhnkimhpaaGreatDoor
open Go.RowKit
open Go.Sort (SWO)

theorem ltOf_cmpS (x y : List UInt8) : Go.Proofs.ltOf cmpS x y = decide (x < y) := by
  unfold Go.Proofs.ltOf cmpS
  by_cases h1 : x < y
  · simp [h1]
  · by_cases h2 : y < x <;> simp [h1, h2]
theorem swo_cmpS : SWO (Go.Proofs.ltOf cmpS) where
  irrefl x := by rw [ltOf_cmpS]; simp [List.lt_irrefl]
  trans x y z h1 h2 := by
    rw [ltOf_cmpS] at *; simp only [decide_eq_true_eq] at *; exact List.lt_trans h1 h2
  ntrans x y z h1 h2 := by
    rw [ltOf_cmpS] at *; simp only [decide_eq_false_iff_not, List.not_lt] at *; exact List.le_trans h2 h1
theorem total_cmpS : ∀ x y : List UInt8, Go.Proofs.ltOf cmpS x y = false → Go.Proofs.ltOf cmpS y x = false → x = y := by
  intro x y h1 h2
  rw [ltOf_cmpS] at *; simp only [decide_eq_false_iff_not, List.not_lt] at *
  exact List.le_antisymm h2 h1
/-- names that rise -/
def Rise : List (List UInt8) → Prop := List.Pairwise (· < ·)
def srt (l : List (List UInt8)) : List (List UInt8) := l.mergeSort fun x y => !(Go.Proofs.ltOf cmpS) y x
theorem srt_mem (l : List (List UInt8)) (x : List UInt8) : x ∈ srt l ↔ x ∈ l := (List.mergeSort_perm _ _).mem_iff
theorem srt_len (l : List (List UInt8)) : (srt l).length = l.length := (List.mergeSort_perm _ _).length_eq
theorem srt_rise {l : List (List UInt8)} (h : l.Nodup) : Rise (srt l) := by
  have h1 : (srt l).Pairwise (fun x y => (!(Go.Proofs.ltOf cmpS) y x) = true) := List.pairwise_mergeSort (fun a b c hab hbc => by
    simp only [ltOf_cmpS, Bool.not_eq_true', decide_eq_false_iff_not, List.not_lt] at *; exact List.le_trans hab hbc) (fun a b => by
    simp only [ltOf_cmpS, Bool.or_eq_true, Bool.not_eq_true', decide_eq_false_iff_not, List.not_lt]; exact List.le_total a b) l
  have h2 : (srt l).Nodup := (List.mergeSort_perm _ _).nodup_iff.2 h
  refine (h1.and h2).imp fun {x y} ⟨ha, hb⟩ => ?_
  simp only [ltOf_cmpS, Bool.not_eq_true', decide_eq_false_iff_not, List.not_lt] at ha
  by_cases hlt : x < y
  · exact hlt
  · exact absurd (List.le_antisymm ha (List.not_lt.1 hlt)) hb

/-- the sort of a row of texts -/
theorem sortS_any (g cap : Nat) (ss : List (List UInt8)) (base : Nat) (w : World) (hown : w.ownsRow base tStr 1 (.slice (some ⟨g, 0, none⟩) ss.length cap) ss.length (strs ss)) (hn : ss.length ≤ 4294967290) :
    Calls Tryz.prog 113 #[.slice (some ⟨g, 0, none⟩) ss.length cap, .func (.func 109) #[] #[]] w fun e w' =>
      e = .returned (.tuple #[]) ∧ w'.ownsRow base tStr 1 (.slice (some ⟨g, 0, none⟩) ss.length cap) ss.length (strs (srt ss)) ∧ w.grownBy w' (some g) := by
  obtain ⟨h1, h2⟩ := hown
  rcases h2 with ⟨h2, _⟩ | ⟨g', cap', cur, hv, hg, hb, hc1, hc2, hc3, ht⟩
  · cases h2
  · injection hv with hv1 hv2 hv3
    have hgg : g = g' := by injection hv1 with hv1; injection hv1
    subst hgg; subst hv3
    have ht2 : cur.toList.take ss.length = ss.map Go.Proofs.encStr := by rw [Nat.mul_one] at ht; exact ht
    have hH := holds_of_block hb ht2
    have eg : ∀ args w, (callFunc 109 args).run Tryz.prog w = .ok (.enter 109 args) w := enters_of Tryz.func109 (by kernel_rfl) rfl
    have hcmp : Go.Proofs.CmpReads Tryz.prog 109 #[] Go.Proofs.encStr cmpS g 0 ss.toArray.size w := fun m os dk _ x y =>
      (cmpP_any x y _).mono fun e w' ⟨he, hw⟩ => ⟨he, 0, hw⟩
    have hcon := Go.Proofs.Any.slices_SortFunc_total Tryz.sortS Go.Proofs.encStr (fun _ => rfl) cmpS swo_cmpS 109 #[] g 0 cap ss.toArray w eg hcmp.lays hH (Array.getElem?_eq_some_iff.1 hb).1 (by simp; omega) total_cmpS
    refine Calls.mono (show Calls Tryz.prog 113 #[.slice (some ⟨g, 0, none⟩) ss.length cap, .func (.func 109) #[] #[]] w _ from hcon) ?_
    rintro e w' ⟨rfl, n, os, rfl⟩
    refine ⟨rfl, ?_, grownBy_sorted _⟩
    exact ownsRow_sorted (ts := srt ss) (srt_len ss) hg hb hc1 hc2 hc3

/-- what names answers -/
def NamesOut (F : Forest) (p : Pth) (W : World) (e : Ending) (w' : World) : Prop :=
  ∃ ns A cap, e = .returned (.slice A ns.length cap) ∧ Rd w' A (strs ns) ∧ Rise ns ∧ (∀ x, x ∈ ns ↔ (F (p ++ [x])).isSome = true) ∧ (∀ x ∈ ns, x.length ≤ maxLen) ∧ Below W.heap.size W w' ∧ (0 < ns.length → ∃ b o, A = some ⟨b, o, none⟩ ∧ W.heap.size ≤ b) ∧ ns.length ≤ 4294967290
/-- a block with a map of names behind its other cells -/
def DirAt (w : World) (n b N : Nat) (f : List UInt8 → Option Nat) : Prop := w.cell? ⟨n, 4, none⟩ = some (.map (some b)) ∧ MapIs w b N f
/-- what names answers, of such a block -/
def NamesDir (N : Nat) (f : List UInt8 → Option Nat) (W : World) (e : Ending) (w' : World) : Prop :=
  ∃ ns A cap, e = .returned (.slice A ns.length cap) ∧ w'.ownsRow W.heap.size tStr 1 (.slice A ns.length cap) ns.length (strs ns) ∧ Rise ns ∧ (∀ x, x ∈ ns ↔ (f x).isSome = true) ∧ (∀ x ∈ ns, x.length ≤ maxLen) ∧ Below W.heap.size W w' ∧ ns.length ≤ N
theorem strs_enc (l : List (List UInt8)) : strs l = l.map Go.Proofs.encStr := rfl
theorem strs_one (l : List (List UInt8)) (x : List UInt8) : strs (l ++ [x]) = strs l ++ [.string (S x)] := by simp [strs]
set_option maxHeartbeats 4000000 in
theorem names_dir {w : World} {n b N : Nat} {f : List UInt8 → Option Nat} (hDir : DirAt w n b N f) (hN : N ≤ 4294967290) :
    Calls Tryz.prog 81 #[.pointer (some ⟨n, 0, none⟩)] w (NamesDir N f w) := by
  obtain ⟨i0, hi, hz0, hz1, hz2⟩ := info_parts (show (Tryz.prog.info? tStr).map (fun i => (i.zero, i.size, i.bytes)) = some (some (.string (S [])), 1, 16) by kernel_rfl)
  obtain ⟨c4, D, hown, hIs, hD⟩ := hDir
  have HD := Lib.hid hD
  have HO := Lib.hid hown
  have hsz : Maps.size D ≤ N := by
    obtain ⟨es, clock, _, _, hs, rfl⟩ := hown
    rw [Maps.size_eq, length_sorted]; simpa using hs
  have hmlt := hown.lt
  clear hD hIs hown
  go_enter Tryz.func81, Tryz.ntmps81
  go_wp2_with (at_range; refine wpList_range_own _ rfl _ tMap rfl tStr tPtr strK Tryz.underlying141 nodeR _ N D rfl HO.out ?_; intro w0 hrg0 hg0 hs0)
  go_frame
  have HG0 := Lib.hid hrg0
  have HB0 := Lib.hid ((Below.refl w.heap.size w).grown hg0 (Nat.le_refl _) (fun k hk => by cases hk))
  have HS0 := Lib.hid hs0
  clear hrg0 hg0 hs0
  go_loopw [3] (fun v wr => ∃ (left : Lit → Bool) (cnt : Nat) (ss : List (List UInt8)), Hid (wr.ranges Tryz.prog tStr nodeR b w.heap.size N D left cnt) ∧ Hid (Collected D left ss) ∧ Hid (wr.ownsRow (w.heap.size + 1) tStr 1 v ss.length (strs ss)) ∧ Hid (ss.length + cnt ≤ N) ∧ Hid (∀ x ∈ ss, x.length ≤ maxLen) ∧ Hid (Below w.heap.size w wr)) (fun _ wr => wr.rangeLeft b w.heap.size)
  case atStart => exact ⟨_, _, [], HG0.out, Collected.start D, World.ownsRow_nil _ _ _ _, by rw [Hid, List.length_nil]; omega, by rw [Hid]; simp, HB0.out⟩
  case round =>
    obtain ⟨left, cnt, ss, hrg, hco, hrow, hle, hlen, hB⟩ := hrel
    obtain ⟨ao, c, rfl⟩ := ownsRow_form hrow.out
    have hle2 := hle.out
    have hbs := hB.out.size
    have hrlt := hrg.out.lt
    clear hsz
    go_wp2_with (at_next; refine wpList_next_ranges _ rfl _ rfl tStr strK nodeR (fun s : List UInt8 => Value.string (S s)) nodeV (fun key kl hkey => by obtain ⟨x, h1, _⟩ := Maps.keyOf_str Tryz.underlying9 hkey; exact ⟨x, h1⟩) (fun v y hv => by obtain ⟨o, h1, _⟩ := nodeR_some hv; exact ⟨o, h1⟩) b w.heap.size N D left cnt rfl hrg.out ?_ ?_)
    · intro hc0 hl0
      have HSrt := Lib.hid (show Calls Tryz.prog 113 #[.slice ao ss.length c, .func (.func 109) #[] #[]] wr (fun e w' => e = .returned (.tuple #[]) ∧ w'.ownsRow (w.heap.size + 1) tStr 1 (.slice ao ss.length c) ss.length (strs (srt ss)) ∧ Below w.heap.size wr w') by
        by_cases hss : ss = []
        · subst hss
          have hn := Go.Proofs.AnyF.slices_SortFunc_none (P := Tryz.prog) (ρ := Tryz.sortS_ren) { Tryz.sortS with } ao c (.func (.func 109) #[] #[]) wr
          refine Calls.mono (show Calls Tryz.prog 113 #[.slice ao ([] : List (List UInt8)).length c, .func (.func 109) #[] #[]] wr _ from hn) ?_
          rintro e w' ⟨rfl, rfl⟩
          have h0 := hrow.out
          exact ⟨rfl, by simpa [srt, strs] using h0, Below.refl _ _⟩
        · have hpos : 0 < ss.length := List.length_pos_iff.2 hss
          have h0 := hrow.out
          rcases h0.2 with ⟨h1, h2⟩ | ⟨g, cap, cur, h1, hg, _⟩
          · omega
          · injection h1 with h1 _ h3
            subst h1; subst h3
            refine (sortS_any g c ss (w.heap.size + 1) wr h0 (by omega)).mono ?_
            rintro e w' ⟨rfl, hown, hgr⟩
            exact ⟨rfl, hown, (Below.refl _ wr).grown hgr hbs (fun k hk => by have := Option.some.inj hk; omega)⟩)
      go_wp2_with fail
      refine HSrt.out.mono ?_
      rintro e w2 ⟨rfl, hrd, hb2⟩
      have HR2 := Lib.hid hrd
      have HB2 := Lib.hid (hB.out.trans hb2)
      clear hrd hb2 HSrt
      go_wp2_with fail
      go_ret
      have hco2 := hco.out
      refine ⟨srt ss, ao, c, by rw [srt_len]; rfl, by rw [srt_len]; exact ownsRow_base HR2.out (by omega), srt_rise hco2.1, fun x => ?_, fun x hx => hlen.out x ((srt_mem ss x).1 hx), HB2.out, by have := hle.out; rw [srt_len]; omega⟩
      rw [srt_mem, hco2.2 x, hl0, (HD.out x).2]
      simp
    · intro x c' kl y yb w' cnt' hkey hlk hv hat hrg' hlt hgr hsz' hen
      obtain ⟨x', hx1, rfl, hxl⟩ := Maps.keyOf_str Tryz.underlying9 hkey
      have hxx : x = x' := by
        have h1 : S x = S x' := Value.string.inj hx1
        exact S_inj h1
      subst hxx
      have hcol := Lib.hid (hco.out.step hlk hat)
      have hne : Value.ownBlock (.slice ao ss.length c) = none ∨ Value.ownBlock (.slice ao ss.length c) ≠ some w.heap.size := .inr (fun he => row_ne_low hrow.out (b := w.heap.size) (by omega) he.symm)
      have hrow2 := Lib.hid ((hrow.out.kept hgr hne).alloc (.cells #[.string (S x)] tStr))
      have hrg2 := Lib.hid (hrg'.alloc (.cells #[.string (S x)] tStr))
      have hB2 := Lib.hid ((hB.out.grown hgr hbs (fun k hk => by have := Option.some.inj hk; omega)).alloc (by rw [hsz']; exact hbs) (.cells #[.string (S x)] tStr))
      have hszz : w.heap.size + 1 ≤ w'.heap.size := by rw [hsz']; exact hrlt
      have hsl : (strs ss).length = ss.length := strs_len ss
      have HEn := Lib.hid hen
      have HRO := Lib.hid hrow2.out
      have hxlh := Lib.hid hxl
      have HLT := Lib.hid hlt
      clear hkey hlk hv hat hrg' hlt hgr hsz' hx1 hne
      go_wp2_with (at_builtin; refine wpList_append_own _ rfl _ _ 59 rfl (w.heap.size + 1) tStr i0 (.string (S [])) 1 16 Tryz.underlying59 hi hz0 hz1 hz2 rfl (by decide) _ _ _ rfl hrow2.out ⟨w'.heap.size, 0, none⟩ 1 1 [.string (S x)] rfl rfl (cell_one_new _ _ _) (by simp [Value.oneCell']) (by unfold maxLen; omega) (by omega) (by simp; omega) ?_; intro v' w2 hown2 hgr2 _; have HO2 := Lib.hid hown2; have HG2 := Lib.hid (show World.grownBy _ w2 (Value.ownBlock (.slice ao ss.length c)) from hgr2); clear hown2 hgr2)
      go_roundw
      case rel =>
        refine ⟨fun z => left z && !z.sameKey (.string x), cnt', ss ++ [x], ?_, hcol.out, ?_, ?_, ?_, ?_⟩
        · exact hrg2.out.kept HG2.out (row_ne_low hrow2.out (by omega)) (row_ne_low hrow2.out (by omega))
        · have h := HO2.out
          rw [strs_one, List.length_append, List.length_singleton]; exact h
        · have := HLT.out
          rw [Hid, List.length_append, List.length_singleton]; omega
        · intro z hz
          rcases List.mem_append.1 hz with hz | hz
          · exact hlen.out z hz
          · rw [List.mem_singleton.1 hz]; exact hxlh.out
        · exact hB2.out.grown HG2.out (by simp; omega) (fun k hk => by have := own_le hrow2.out k hk; omega)
      case measure =>
        have h1 := (hrg2.out.kept HG2.out (row_ne_low hrow2.out (by omega)) (row_ne_low hrow2.out (by omega))).left_eq
        have h2 := hrg.out.left_eq
        have := HLT.out
        rw [h1, h2]; exact this
theorem TreeAt.dirAt {w : World} {B N : Nat} {a m : Pth → Nat} {F : Forest} (hT : TreeAt w B N a m F) (p : Pth) (x : Nd) (hx : F p = some x) (hk : x.kind = 1) : DirAt w (a p) (m p) N (kidsF F a p) := by
  obtain ⟨_, _, _, _, c4⟩ := hT.cells p x hx
  rw [show mapV x (m p) = .map (some (m p)) from if_pos hk] at c4
  exact ⟨c4, hT.dir p x hx hk⟩
theorem names_any {w : World} {B N : Nat} {a m : Pth → Nat} {F : Forest} (hT : TreeAt w B N a m F) (p : Pth) (x : Nd) (hx : F p = some x) (hk : x.kind = 1) (hN : N ≤ 4294967290) :
    Calls Tryz.prog 81 #[.pointer (some ⟨a p, 0, none⟩)] w (NamesOut F p w) := by
  refine (names_dir (hT.dirAt p x hx hk) hN).mono ?_
  rintro e w' ⟨ns, A, cap, rfl, hown, h1, h2, h3, h4, h5⟩
  obtain ⟨A', cap', hv, _, _, hrd⟩ := Rd.of_own hown
  cases hv
  refine ⟨ns, A, cap, rfl, hrd, h1, fun x => ?_, h3, h4, fun hp => ?_, by omega⟩
  · rw [h2 x]
    unfold kidsF
    split <;> simp_all
  · rcases hown.2 with ⟨g1, g2⟩ | ⟨g, cap2, cur, g1, hg, _⟩
    · omega
    · injection g1 with g1 _ g3
      exact ⟨g, 0, g1, by omega⟩
end Go.Proofs.YtkdplkhnkimhpaaGreatDoor
namespace Go.Proofs.YtkdplkhnkimhpaaGreatDoor
open Go.RowKit

theorem isPow_any (w : World) : Calls Tryz.prog 190 #[.int .i64 8] w fun e w' => e = .returned (.bool true) ∧ w = w' := by
  go_enter Tryz.func190, Tryz.ntmps190
  go_wp2
  go_ret
  exact ⟨rfl, rfl⟩

/-- the one cell of the table that eight reads -/
def Tz (w : World) : Prop := w.cell? ⟨10, 7, none⟩ = some (.int .u8 3)
theorem Tz.below {w w' : World} (h : Tz w) (hb : Below w.heap.size w w') : Tz w' := (hb.cell (World.block_lt_of_cell? w _ h)).trans h

theorem tz64_any (w : World) (h : Tz w) : Calls Tryz.prog 200 #[.int .u64 8] w fun e w' => e = .returned (.int .i64 3) ∧ w = w' := by
  have hix : (IntKind.u64.wrap (Go.bits BinOp.and IntKind.u64 8 (IntKind.u64.wrap (-8)) * 285870213051353865) / 288230376151711744).toNat = 7 := by kernel_rfl
  unfold Tz at h
  rw [← hix] at h
  clear hix
  go_enter Tryz.func200, Tryz.ntmps200
  go_wp2
  go_ret
  exact ⟨rfl, rfl⟩
theorem tz_any (w : World) (h : Tz w) : Calls Tryz.prog 191 #[.int .u64 8] w fun e w' => e = .returned (.int .i64 3) ∧ w = w' := by
  go_enter Tryz.func191, Tryz.ntmps191
  go_wp2_with fail
  refine (tz64_any _ h).mono ?_
  rintro e w' ⟨rfl, rfl⟩
  go_wp2
  go_ret
  exact ⟨rfl, rfl⟩
end Go.Proofs.YtkdplkhnkimhpaaGreatDoor
namespace Go.Proofs.YtkdplkhnkimhpaaGreatDoor
open Go.RowKit

set_option maxHeartbeats 2000000 in
theorem names_nil {w : World} {B N : Nat} {a m : Pth → Nat} {F : Forest} (hT : TreeAt w B N a m F) (p : Pth) (x : Nd) (hx : F p = some x) (hk : x.kind ≠ 1) :
    Calls Tryz.prog 81 #[.pointer (some ⟨a p, 0, none⟩)] w (NamesOut F p w) := by
  obtain ⟨_, _, _, _, c4⟩ := hT.cells p x hx
  rw [show mapV x (m p) = .map none from if_neg hk] at c4
  have HF := Lib.hid (show ∀ e, (F (p ++ [e])).isSome = false by
    intro e
    cases hs : (F (p ++ [e])).isSome with
    | false => rfl
    | true =>
      obtain ⟨y, hy, hk2⟩ := hT.tree.up p e hs
      rw [hx] at hy; obtain rfl := Option.some.inj hy; exact absurd hk2 hk)
  have HS : Hid (∀ W : World, Calls Tryz.prog 113 #[.slice none 0 0, .func (.func 109) #[] #[]] W (fun e w' => e = .returned (.tuple #[]) ∧ w' = W)) := Lib.hid fun W => by
    have hn := Go.Proofs.AnyF.slices_SortFunc_none (P := Tryz.prog) (ρ := Tryz.sortS_ren) { Tryz.sortS with } none 0 (.func (.func 109) #[] #[]) W
    exact hn
  have hrr := run_range_nilMap (P := Tryz.prog) w tMap tStr tPtr Tryz.underlying141
  have hrn := fun ty => run_next_nilMap (P := Tryz.prog) w ty 0 0 #[]
  clear hT hx hk
  go_enter Tryz.func81, Tryz.ntmps81
  go_wp2_with fail
  go_loopw [3] (fun v wr => v = .slice none 0 0 ∧ Hid (wr = w.alloc (Obj.mapIter none 0 #[] 0))) (fun _ _ => 0)
  case atStart => exact ⟨rfl, rfl⟩
  case round =>
    obtain ⟨rfl, hw⟩ := hrel
    obtain rfl := hw.out
    clear hw
    go_wp2_with (go_at_call 113; refine (HS.out _).mono ?_; rintro e w2 ⟨rfl, rfl⟩)
    go_ret
    exact ⟨[], none, 0, rfl, .inl rfl, List.Pairwise.nil, fun x => by rw [HF.out x]; simp, fun x hx => by simp at hx, (Below.refl _ _).alloc (Nat.le_refl _) _, fun h => by simp at h, by simp⟩
/-- the names below what stands at a path -/
theorem names_all {w : World} {B N : Nat} {a m : Pth → Nat} {F : Forest} (hT : TreeAt w B N a m F) (p : Pth) (x : Nd) (hx : F p = some x) (hN : N ≤ 4294967290) :
    Calls Tryz.prog 81 #[.pointer (some ⟨a p, 0, none⟩)] w (NamesOut F p w) := by
  by_cases hk : x.kind = 1
  · exact names_any hT p x hx hk hN
  · exact names_nil hT p x hx hk
end Go.Proofs.YtkdplkhnkimhpaaGreatDoor
