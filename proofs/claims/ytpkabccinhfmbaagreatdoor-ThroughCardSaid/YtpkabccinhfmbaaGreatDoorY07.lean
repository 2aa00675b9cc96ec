/-
  The program: the names in a directory, rising.
  The program: the names below what is no directory: none.
  The program: slices.Sort and slices.Compact at a row of texts.
  Words of memory for the program's differ: its list of changes, what it leaves.
-/
import Derived.Sort.OwnSorted
import Derived.Sort.KeysCollected
import Derived.Maps.AppendAt
import Derived.Laws.OwnMore
import Derived.Laws.IdiomRangeMap
import Derived.Lib.SlicesCompact
import Derived.Test.YtpkabccinhfmbaaGreatDoorY01
import Derived.Test.YtpkabccinhfmbaaGreatDoorY02
import Derived.Test.YtpkabccinhfmbaaGreatDoorY06
set_option linter.unusedVariables false
set_option linter.unusedSimpArgs false
namespace Go.Proofs.YtpkabccinhfmbaaGreatDoor
open Go.RowKit
open Go.Sort (SWO)

theorem ltOf_cmpS (x y : List UInt8) : Go.Proofs.ltOf cmpS x y = decide (x < y) := by
  unfold Go.Proofs.ltOf cmpS
  by_cases h1 : x < y
  · simp [h1]
  · by_cases h2 : y < x <;> simp [h1, h2]
theorem swo_cmpS : SWO (Go.Proofs.ltOf cmpS) where
  irrefl x := by rw [ltOf_cmpS]; simp [List.lt_irrefl]
  trans x y z h1 h2 := by
    rw [ltOf_cmpS] at *; simp only [decide_eq_true_eq] at *; exact List.lt_trans h1 h2
  ntrans x y z h1 h2 := by
    rw [ltOf_cmpS] at *; simp only [decide_eq_false_iff_not, List.not_lt] at *; exact List.le_trans h2 h1
theorem total_cmpS : ∀ x y : List UInt8, Go.Proofs.ltOf cmpS x y = false → Go.Proofs.ltOf cmpS y x = false → x = y := by
  intro x y h1 h2
  rw [ltOf_cmpS] at *; simp only [decide_eq_false_iff_not, List.not_lt] at *
  exact List.le_antisymm h2 h1
/-- names that rise -/
def Rise : List (List UInt8) → Prop := List.Pairwise (· < ·)
def srt (l : List (List UInt8)) : List (List UInt8) := l.mergeSort fun x y => !(Go.Proofs.ltOf cmpS) y x
theorem srt_mem (l : List (List UInt8)) (x : List UInt8) : x ∈ srt l ↔ x ∈ l := (List.mergeSort_perm _ _).mem_iff
theorem srt_len (l : List (List UInt8)) : (srt l).length = l.length := (List.mergeSort_perm _ _).length_eq
theorem srt_rise {l : List (List UInt8)} (h : l.Nodup) : Rise (srt l) := by
  have h1 : (srt l).Pairwise (fun x y => (!(Go.Proofs.ltOf cmpS) y x) = true) := List.pairwise_mergeSort (fun a b c hab hbc => by
    simp only [ltOf_cmpS, Bool.not_eq_true', decide_eq_false_iff_not, List.not_lt] at *; exact List.le_trans hab hbc) (fun a b => by
    simp only [ltOf_cmpS, Bool.or_eq_true, Bool.not_eq_true', decide_eq_false_iff_not, List.not_lt]; exact List.le_total a b) l
  have h2 : (srt l).Nodup := (List.mergeSort_perm _ _).nodup_iff.2 h
  refine (h1.and h2).imp fun {x y} ⟨ha, hb⟩ => ?_
  simp only [ltOf_cmpS, Bool.not_eq_true', decide_eq_false_iff_not, List.not_lt] at ha
  by_cases hlt : x < y
  · exact hlt
  · exact absurd (List.le_antisymm ha (List.not_lt.1 hlt)) hb

/-- the sort of a row of texts -/
theorem sortS_any (g cap : Nat) (ss : List (List UInt8)) (base : Nat) (w : World) (hown : w.ownsRow base tStr 1 (.slice (some ⟨g, 0, none⟩) ss.length cap) ss.length (strs ss)) (hn : ss.length ≤ 4294967290) :
    Calls Tryz.prog 73 #[.slice (some ⟨g, 0, none⟩) ss.length cap, .func (.func 71) #[] #[]] w fun e w' =>
      e = .returned (.tuple #[]) ∧ w'.ownsRow base tStr 1 (.slice (some ⟨g, 0, none⟩) ss.length cap) ss.length (strs (srt ss)) ∧ w.grownBy w' (some g) := by
  obtain ⟨h1, h2⟩ := hown
  rcases h2 with ⟨h2, _⟩ | ⟨g', cap', cur, hv, hg, hb, hc1, hc2, hc3, ht⟩
  · cases h2
  · injection hv with hv1 hv2 hv3
    have hgg : g = g' := by injection hv1 with hv1; injection hv1
    subst hgg; subst hv3
    have ht2 : cur.toList.take ss.length = ss.map Go.Proofs.encStr := by rw [Nat.mul_one] at ht; exact ht
    have hH := holds_of_block hb ht2
    have eg : ∀ args w, (callFunc 71 args).run Tryz.prog w = .ok (.enter 71 args) w := enters_of Tryz.func71 (by kernel_rfl) rfl
    have hcmp : Go.Proofs.CmpReads Tryz.prog 71 #[] Go.Proofs.encStr cmpS g 0 ss.toArray.size w := fun m os dk _ x y =>
      (cmpP_any x y _).mono fun e w' ⟨he, hw⟩ => ⟨he, 0, hw⟩
    have hcon := Go.Proofs.Any.slices_SortFunc_total Tryz.sortS Go.Proofs.encStr (fun _ => rfl) cmpS swo_cmpS 71 #[] g 0 cap ss.toArray w eg hcmp.lays hH (Array.getElem?_eq_some_iff.1 hb).1 (by simp; omega) total_cmpS
    refine Calls.mono (show Calls Tryz.prog 73 #[.slice (some ⟨g, 0, none⟩) ss.length cap, .func (.func 71) #[] #[]] w _ from hcon) ?_
    rintro e w' ⟨rfl, n, os, rfl⟩
    refine ⟨rfl, ?_, grownBy_sorted _⟩
    exact ownsRow_sorted (ts := srt ss) (srt_len ss) hg hb hc1 hc2 hc3

/-- what names answers -/
def NamesOut (F : Forest) (p : Pth) (W : World) (e : Ending) (w' : World) : Prop :=
  ∃ ns A cap, e = .returned (.slice A ns.length cap) ∧ Rd w' A (strs ns) ∧ Rise ns ∧ (∀ x, x ∈ ns ↔ (F (p ++ [x])).isSome = true) ∧ (∀ x ∈ ns, x.length ≤ maxLen) ∧ Below W.heap.size W w' ∧ (0 < ns.length → ∃ b o, A = some ⟨b, o, none⟩ ∧ W.heap.size ≤ b) ∧ ns.length ≤ 4294967290
/-- a block with a map of names behind its other cells -/
def DirAt (w : World) (n b N : Nat) (f : List UInt8 → Option Nat) : Prop := w.cell? ⟨n, 4, none⟩ = some (.map (some b)) ∧ MapIs w b N f
/-- what names answers, of such a block -/
def NamesDir (N : Nat) (f : List UInt8 → Option Nat) (W : World) (e : Ending) (w' : World) : Prop :=
  ∃ ns A cap, e = .returned (.slice A ns.length cap) ∧ w'.ownsRow W.heap.size tStr 1 (.slice A ns.length cap) ns.length (strs ns) ∧ Rise ns ∧ (∀ x, x ∈ ns ↔ (f x).isSome = true) ∧ (∀ x ∈ ns, x.length ≤ maxLen) ∧ Below W.heap.size W w' ∧ ns.length ≤ N
theorem strs_enc (l : List (List UInt8)) : strs l = l.map Go.Proofs.encStr := rfl
theorem strs_one (l : List (List UInt8)) (x : List UInt8) : strs (l ++ [x]) = strs l ++ [.string (S x)] := by simp [strs]
set_option maxHeartbeats 4000000 in
theorem names_dir {w : World} {n b N : Nat} {f : List UInt8 → Option Nat} (hDir : DirAt w n b N f) (hN : N ≤ 4294967290) :
    Calls Tryz.prog 51 #[.pointer (some ⟨n, 0, none⟩)] w (NamesDir N f w) := by
  obtain ⟨i0, hi, hz0, hz1, hz2⟩ := info_parts (show (Tryz.prog.info? tStr).map (fun i => (i.zero, i.size, i.bytes)) = some (some (.string (S [])), 1, 16) by kernel_rfl)
  obtain ⟨c4, D, hown, hIs, hD⟩ := hDir
  have HD := Lib.hid hD
  have HO := Lib.hid hown
  have hsz : Maps.size D ≤ N := by
    obtain ⟨es, clock, _, _, hs, rfl⟩ := hown
    rw [Maps.size_eq, length_sorted]; simpa using hs
  have hmlt := hown.lt
  clear hD hIs hown
  go_enter Tryz.func51, Tryz.ntmps51
  go_wp2_with (at_range; refine wpList_range_own _ rfl _ tMap rfl tStr tPtr strK Tryz.underlying106 nodeR _ N D rfl HO.out ?_; intro w0 hrg0 hg0 hs0)
  go_frame
  have HG0 := Lib.hid hrg0
  have HB0 := Lib.hid ((Below.refl w.heap.size w).grown hg0 (Nat.le_refl _) (fun k hk => by cases hk))
  have HS0 := Lib.hid hs0
  clear hrg0 hg0 hs0
  go_loopw [3] (fun v wr => ∃ (left : Lit → Bool) (cnt : Nat) (ss : List (List UInt8)), Hid (wr.ranges Tryz.prog tStr nodeR b w.heap.size N D left cnt) ∧ Hid (Collected D left ss) ∧ Hid (wr.ownsRow (w.heap.size + 1) tStr 1 v ss.length (strs ss)) ∧ Hid (ss.length + cnt ≤ N) ∧ Hid (∀ x ∈ ss, x.length ≤ maxLen) ∧ Hid (Below w.heap.size w wr)) (fun _ wr => wr.rangeLeft b w.heap.size)
  case atStart => exact ⟨_, _, [], HG0.out, Collected.start D, World.ownsRow_nil _ _ _ _, by rw [Hid, List.length_nil]; omega, by rw [Hid]; simp, HB0.out⟩
  case round =>
    obtain ⟨left, cnt, ss, hrg, hco, hrow, hle, hlen, hB⟩ := hrel
    obtain ⟨ao, c, rfl⟩ := ownsRow_form hrow.out
    have hle2 := hle.out
    have hbs := hB.out.size
    have hrlt := hrg.out.lt
    clear hsz
    go_wp2_with (at_next; refine wpList_next_ranges _ rfl _ rfl tStr strK nodeR (fun s : List UInt8 => Value.string (S s)) nodeV (fun key kl hkey => by obtain ⟨x, h1, _⟩ := Maps.keyOf_str Tryz.underlying9 hkey; exact ⟨x, h1⟩) (fun v y hv => by obtain ⟨o, h1, _⟩ := nodeR_some hv; exact ⟨o, h1⟩) b w.heap.size N D left cnt rfl hrg.out ?_ ?_)
    · intro hc0 hl0
      have HSrt := Lib.hid (show Calls Tryz.prog 73 #[.slice ao ss.length c, .func (.func 71) #[] #[]] wr (fun e w' => e = .returned (.tuple #[]) ∧ w'.ownsRow (w.heap.size + 1) tStr 1 (.slice ao ss.length c) ss.length (strs (srt ss)) ∧ Below w.heap.size wr w') by
        by_cases hss : ss = []
        · subst hss
          have hn := Go.Proofs.AnyF.slices_SortFunc_none (P := Tryz.prog) (ρ := Tryz.sortS_ren) { Tryz.sortS with } ao c (.func (.func 71) #[] #[]) wr
          refine Calls.mono (show Calls Tryz.prog 73 #[.slice ao ([] : List (List UInt8)).length c, .func (.func 71) #[] #[]] wr _ from hn) ?_
          rintro e w' ⟨rfl, rfl⟩
          have h0 := hrow.out
          exact ⟨rfl, by simpa [srt, strs] using h0, Below.refl _ _⟩
        · have hpos : 0 < ss.length := List.length_pos_iff.2 hss
          have h0 := hrow.out
          rcases h0.2 with ⟨h1, h2⟩ | ⟨g, cap, cur, h1, hg, _⟩
          · omega
          · injection h1 with h1 _ h3
            subst h1; subst h3
            refine (sortS_any g c ss (w.heap.size + 1) wr h0 (by omega)).mono ?_
            rintro e w' ⟨rfl, hown, hgr⟩
            exact ⟨rfl, hown, (Below.refl _ wr).grown hgr hbs (fun k hk => by have := Option.some.inj hk; omega)⟩)
      go_wp2_with fail
      refine HSrt.out.mono ?_
      rintro e w2 ⟨rfl, hrd, hb2⟩
      have HR2 := Lib.hid hrd
      have HB2 := Lib.hid (hB.out.trans hb2)
      clear hrd hb2 HSrt
      go_wp2_with fail
      go_ret
      have hco2 := hco.out
      refine ⟨srt ss, ao, c, by rw [srt_len]; rfl, by rw [srt_len]; exact ownsRow_base HR2.out (by omega), srt_rise hco2.1, fun x => ?_, fun x hx => hlen.out x ((srt_mem ss x).1 hx), HB2.out, by have := hle.out; rw [srt_len]; omega⟩
      rw [srt_mem, hco2.2 x, hl0, (HD.out x).2]
      simp
    · intro x c' kl y yb w' cnt' hkey hlk hv hat hrg' hlt hgr hsz' hen
      obtain ⟨x', hx1, rfl, hxl⟩ := Maps.keyOf_str Tryz.underlying9 hkey
      have hxx : x = x' := by
        have h1 : S x = S x' := Value.string.inj hx1
        exact S_inj h1
      subst hxx
      have hcol := Lib.hid (hco.out.step hlk hat)
      have hne : Value.ownBlock (.slice ao ss.length c) = none ∨ Value.ownBlock (.slice ao ss.length c) ≠ some w.heap.size := .inr (fun he => row_ne_low hrow.out (b := w.heap.size) (by omega) he.symm)
      have hrow2 := Lib.hid ((hrow.out.kept hgr hne).alloc (.cells #[.string (S x)] tStr))
      have hrg2 := Lib.hid (hrg'.alloc (.cells #[.string (S x)] tStr))
      have hB2 := Lib.hid ((hB.out.grown hgr hbs (fun k hk => by have := Option.some.inj hk; omega)).alloc (by rw [hsz']; exact hbs) (.cells #[.string (S x)] tStr))
      have hszz : w.heap.size + 1 ≤ w'.heap.size := by rw [hsz']; exact hrlt
      have hsl : (strs ss).length = ss.length := strs_len ss
      have HEn := Lib.hid hen
      have HRO := Lib.hid hrow2.out
      have hxlh := Lib.hid hxl
      have HLT := Lib.hid hlt
      clear hkey hlk hv hat hrg' hlt hgr hsz' hx1 hne
      go_wp2_with (at_builtin; refine wpList_append_own _ rfl _ _ 38 rfl (w.heap.size + 1) tStr i0 (.string (S [])) 1 16 Tryz.underlying38 hi hz0 hz1 hz2 rfl (by decide) _ _ _ rfl hrow2.out ⟨w'.heap.size, 0, none⟩ 1 1 [.string (S x)] rfl rfl (cell_one_new _ _ _) (by simp [Value.oneCell']) (by unfold maxLen; omega) (by omega) (by simp; omega) ?_; intro v' w2 hown2 hgr2 _; have HO2 := Lib.hid hown2; have HG2 := Lib.hid (show World.grownBy _ w2 (Value.ownBlock (.slice ao ss.length c)) from hgr2); clear hown2 hgr2)
      go_roundw
      case rel =>
        refine ⟨fun z => left z && !z.sameKey (.string x), cnt', ss ++ [x], ?_, hcol.out, ?_, ?_, ?_, ?_⟩
        · exact hrg2.out.kept HG2.out (row_ne_low hrow2.out (by omega)) (row_ne_low hrow2.out (by omega))
        · have h := HO2.out
          rw [strs_one, List.length_append, List.length_singleton]; exact h
        · have := HLT.out
          rw [Hid, List.length_append, List.length_singleton]; omega
        · intro z hz
          rcases List.mem_append.1 hz with hz | hz
          · exact hlen.out z hz
          · rw [List.mem_singleton.1 hz]; exact hxlh.out
        · exact hB2.out.grown HG2.out (by simp; omega) (fun k hk => by have := own_le hrow2.out k hk; omega)
      case measure =>
        have h1 := (hrg2.out.kept HG2.out (row_ne_low hrow2.out (by omega)) (row_ne_low hrow2.out (by omega))).left_eq
        have h2 := hrg.out.left_eq
        have := HLT.out
        rw [h1, h2]; exact this
theorem TreeAt.dirAt {w : World} {B N : Nat} {a m : Pth → Nat} {F : Forest} (hT : TreeAt w B N a m F) (p : Pth) (x : Nd) (hx : F p = some x) (hk : x.kind = 1) : DirAt w (a p) (m p) N (kidsF F a p) := by
  obtain ⟨_, _, _, _, c4⟩ := hT.cells p x hx
  rw [show mapV x (m p) = .map (some (m p)) from if_pos hk] at c4
  exact ⟨c4, hT.dir p x hx hk⟩
theorem names_any {w : World} {B N : Nat} {a m : Pth → Nat} {F : Forest} (hT : TreeAt w B N a m F) (p : Pth) (x : Nd) (hx : F p = some x) (hk : x.kind = 1) (hN : N ≤ 4294967290) :
    Calls Tryz.prog 51 #[.pointer (some ⟨a p, 0, none⟩)] w (NamesOut F p w) := by
  refine (names_dir (hT.dirAt p x hx hk) hN).mono ?_
  rintro e w' ⟨ns, A, cap, rfl, hown, h1, h2, h3, h4, h5⟩
  obtain ⟨A', cap', hv, _, _, hrd⟩ := Rd.of_own hown
  cases hv
  refine ⟨ns, A, cap, rfl, hrd, h1, fun x => ?_, h3, h4, fun hp => ?_, by omega⟩
  · rw [h2 x]
    unfold kidsF
    split <;> simp_all
  · rcases hown.2 with ⟨g1, g2⟩ | ⟨g, cap2, cur, g1, hg, _⟩
    · omega
    · injection g1 with g1 _ g3
      exact ⟨g, 0, g1, by omega⟩
end Go.Proofs.YtpkabccinhfmbaaGreatDoor
namespace Go.Proofs.YtpkabccinhfmbaaGreatDoor
open Go.RowKit

set_option maxHeartbeats 2000000 in
theorem names_nil {w : World} {B N : Nat} {a m : Pth → Nat} {F : Forest} (hT : TreeAt w B N a m F) (p : Pth) (x : Nd) (hx : F p = some x) (hk : x.kind ≠ 1) :
    Calls Tryz.prog 51 #[.pointer (some ⟨a p, 0, none⟩)] w (NamesOut F p w) := by
  obtain ⟨_, _, _, _, c4⟩ := hT.cells p x hx
  rw [show mapV x (m p) = .map none from if_neg hk] at c4
  have HF := Lib.hid (show ∀ e, (F (p ++ [e])).isSome = false by
    intro e
    cases hs : (F (p ++ [e])).isSome with
    | false => rfl
    | true =>
      obtain ⟨y, hy, hk2⟩ := hT.tree.up p e hs
      rw [hx] at hy; obtain rfl := Option.some.inj hy; exact absurd hk2 hk)
  have HS : Hid (∀ W : World, Calls Tryz.prog 73 #[.slice none 0 0, .func (.func 71) #[] #[]] W (fun e w' => e = .returned (.tuple #[]) ∧ w' = W)) := Lib.hid fun W => by
    have hn := Go.Proofs.AnyF.slices_SortFunc_none (P := Tryz.prog) (ρ := Tryz.sortS_ren) { Tryz.sortS with } none 0 (.func (.func 71) #[] #[]) W
    exact hn
  have hrr := run_range_nilMap (P := Tryz.prog) w tMap tStr tPtr Tryz.underlying106
  have hrn := fun ty => run_next_nilMap (P := Tryz.prog) w ty 0 0 #[]
  clear hT hx hk
  go_enter Tryz.func51, Tryz.ntmps51
  go_wp2_with fail
  go_loopw [3] (fun v wr => v = .slice none 0 0 ∧ Hid (wr = w.alloc (Obj.mapIter none 0 #[] 0))) (fun _ _ => 0)
  case atStart => exact ⟨rfl, rfl⟩
  case round =>
    obtain ⟨rfl, hw⟩ := hrel
    obtain rfl := hw.out
    clear hw
    go_wp2_with (go_at_call 73; refine (HS.out _).mono ?_; rintro e w2 ⟨rfl, rfl⟩)
    go_ret
    exact ⟨[], none, 0, rfl, .inl rfl, List.Pairwise.nil, fun x => by rw [HF.out x]; simp, fun x hx => by simp at hx, (Below.refl _ _).alloc (Nat.le_refl _) _, fun h => by simp at h, by simp⟩
/-- the names below what stands at a path -/
theorem names_all {w : World} {B N : Nat} {a m : Pth → Nat} {F : Forest} (hT : TreeAt w B N a m F) (p : Pth) (x : Nd) (hx : F p = some x) (hN : N ≤ 4294967290) :
    Calls Tryz.prog 51 #[.pointer (some ⟨a p, 0, none⟩)] w (NamesOut F p w) := by
  by_cases hk : x.kind = 1
  · exact names_any hT p x hx hk hN
  · exact names_nil hT p x hx hk
end Go.Proofs.YtpkabccinhfmbaaGreatDoor
namespace Go.Proofs.YtpkabccinhfmbaaGreatDoor
open Go.RowKit

def srtO (l : List (List UInt8)) : List (List UInt8) := l.mergeSort fun x y => decide (x ≤ y)
theorem srtO_mem (l : List (List UInt8)) (x : List UInt8) : x ∈ srtO l ↔ x ∈ l := (List.mergeSort_perm _ _).mem_iff
theorem srtO_len (l : List (List UInt8)) : (srtO l).length = l.length := (List.mergeSort_perm _ _).length_eq
theorem srtO_le (l : List (List UInt8)) : (srtO l).Pairwise (· ≤ ·) := by
  have h := List.pairwise_mergeSort (le := fun x y : List UInt8 => decide (x ≤ y)) (fun a b c hab hbc => by
    simp only [decide_eq_true_eq] at *; exact List.le_trans hab hbc) (fun a b => by
    simp only [Bool.or_eq_true, decide_eq_true_eq]; exact List.le_total a b) l
  exact h.imp fun h => by simpa using h
theorem sortO_any (A : Option Addr) (cap : Nat) (ss : List (List UInt8)) (base : Nat) (w : World) (hown : w.ownsRow base tStr 1 (.slice A ss.length cap) ss.length (strs ss)) (hn : ss.length ≤ 4294967290) :
    Calls Tryz.prog 52 #[.slice A ss.length cap] w fun e w' =>
      e = .returned (.tuple #[]) ∧ w'.ownsRow base tStr 1 (.slice A ss.length cap) ss.length (strs (srtO ss)) ∧ w.grownBy w' (Value.slice A ss.length cap).ownBlock := by
  have hown0 := hown
  obtain ⟨h1, h2⟩ := hown
  rcases h2 with ⟨h2, h3⟩ | ⟨g', cap', cur, hv, hg, hb, hc1, hc2, hc3, ht⟩
  · injection h2 with h2 h4 h5
    have hs : ss = [] := List.eq_nil_of_length_eq_zero h4
    subst hs; subst h2; subst h5
    refine Calls.mono (Tryz.slices_Sort_string_none none 0 w) ?_
    rintro e w' ⟨rfl, rfl⟩
    exact ⟨rfl, by simpa [srtO] using hown0, rfl, rfl, rfl, Nat.le_refl _, fun _ _ _ => rfl⟩
  · injection hv with hv1 hv2 hv3
    subst hv1; subst hv3
    have ht2 : cur.toList.take ss.length = ss.map Go.Proofs.encStr := by rw [Nat.mul_one] at ht; exact ht
    have hH := holds_of_block hb ht2
    refine Calls.mono (Tryz.slices_Sort_string g' 0 cap ss w hH (Array.getElem?_eq_some_iff.1 hb).1 (by omega)) ?_
    rintro e w' ⟨rfl, n, os, rfl⟩
    exact ⟨rfl, ownsRow_sorted (ts := srtO ss) (srtO_len ss) hg hb hc1 hc2 hc3, grownBy_sorted _⟩
theorem compact_own (A : Option Addr) (cap : Nat) (ss : List (List UInt8)) (base : Nat) (w : World) (hown : w.ownsRow base tStr 1 (.slice A ss.length cap) ss.length (strs ss)) (hn : ss.length ≤ 4294967290) :
    Calls Tryz.prog 53 #[.slice A ss.length cap] w fun e w' =>
      e = .returned (.slice A (Lib.compact ss).length cap) ∧ w'.ownsRow base tStr 1 (.slice A ss.length cap) ss.length (strs (Lib.compact ss ++ List.replicate (ss.length - (Lib.compact ss).length) [])) ∧ w.grownBy w' (Value.slice A ss.length cap).ownBlock := by
  have hown0 := hown
  obtain ⟨h1, h2⟩ := hown
  rcases h2 with ⟨h2, h3⟩ | ⟨g', cap', cur, hv, hg, hb, hc1, hc2, hc3, ht⟩
  · injection h2 with h2 h4 h5
    have hs : ss = [] := List.eq_nil_of_length_eq_zero h4
    subst hs; subst h2; subst h5
    refine Calls.mono (Tryz.slices_Compact_string_empty none 0 w) ?_
    rintro e w' ⟨rfl, rfl⟩
    exact ⟨rfl, hown0, rfl, rfl, rfl, Nat.le_refl _, fun _ _ _ => rfl⟩
  · injection hv with hv1 hv2 hv3
    subst hv1; subst hv3
    have ht2 : cur.toList.take ss.length = ss.map Go.Proofs.encStr := by rw [Nat.mul_one] at ht; exact ht
    have hH := holds_of_block hb ht2
    refine Calls.mono (Tryz.slices_Compact_string g' 0 cap ss w hH (by omega) hc1) ?_
    rintro e w' ⟨rfl, q, rfl⟩
    have hle := Lib.compact_length_le ss
    have hlen : (Lib.compact ss ++ List.replicate (ss.length - (Lib.compact ss).length) ([] : List UInt8)).length = ss.length := by simp; omega
    have h := ownsRow_sorted (os := #[]) (n := q) (ts := Lib.compact ss ++ List.replicate (ss.length - (Lib.compact ss).length) []) hlen hg hb hc1 hc2 hc3
    rw [Go.Sort.grow_empty] at h
    have hg2 := grownBy_sorted (w := w) (g := g') (n := q) (os := #[]) (Lib.compact ss ++ List.replicate (ss.length - (Lib.compact ss).length) ([] : List UInt8)).toArray
    rw [Go.Sort.grow_empty] at hg2
    exact ⟨rfl, h, hg2⟩
/-- of texts that do not fall each comes once -/
theorem compact_rise {zs : List (List UInt8)} (h : zs.Pairwise (· ≤ ·)) : Rise (Lib.compact zs) ∧ ∀ x, x ∈ Lib.compact zs ↔ x ∈ zs := by
  have hget : ∀ j (hj : j < zs.length), zs.toArray[j]! = zs[j] := fun j hj => by rw [getElem!_pos zs.toArray j (by simpa using hj)]; simp
  have hle : ∀ i j, i < j → j < zs.length → zs.toArray[i]! ≤ zs.toArray[j]! := by
    intro i j hij hj
    rw [hget i (by omega), hget j hj]
    exact List.pairwise_iff_getElem.1 h i j (by omega) hj hij
  have key : ∀ m, m ≤ zs.length → Rise (Lib.compactUpTo zs.toArray m) ∧ (∀ x, x ∈ Lib.compactUpTo zs.toArray m ↔ ∃ j, j < m ∧ zs.toArray[j]! = x) := by
    intro m
    induction m with
    | zero => intro _; exact ⟨List.Pairwise.nil, fun x => by simp [Lib.compactUpTo]⟩
    | succ m ih =>
      intro hm
      obtain ⟨h1, h2⟩ := ih (by omega)
      rw [Lib.compactUpTo_succ]
      by_cases hk : Lib.keeps zs.toArray m = true
      · rw [if_pos hk]
        refine ⟨List.pairwise_append.2 ⟨h1, by simp, fun x hx y hy => ?_⟩, fun x => ?_⟩
        · obtain ⟨j, hj, rfl⟩ := (h2 x).1 hx
          rw [List.mem_singleton.1 hy]
          unfold Lib.keeps at hk
          simp only [decide_eq_true_eq] at hk
          have hne : zs.toArray[m]! ≠ zs.toArray[m - 1]! := by
            rcases hk with h0 | h0
            · omega
            · exact h0
          have ha : zs.toArray[j]! ≤ zs.toArray[m - 1]! := by
            by_cases e : j = m - 1
            · rw [e]; exact List.le_refl _
            · exact hle j (m - 1) (by omega) (by omega)
          have hb := hle (m - 1) m (by omega) (by omega)
          refine Classical.byContradiction fun hn => hne ?_
          have hc : zs.toArray[m]! ≤ zs.toArray[j]! := List.not_lt.1 hn
          exact List.le_antisymm (List.le_trans hc ha) hb
        · rw [List.mem_append, h2, List.mem_singleton]
          constructor
          · rintro (⟨j, hj, e⟩ | e)
            · exact ⟨j, by omega, e⟩
            · exact ⟨m, by omega, e.symm⟩
          · rintro ⟨j, hj, e⟩
            by_cases hjm : j = m
            · subst hjm; exact .inr e.symm
            · exact .inl ⟨j, by omega, e⟩
      · rw [if_neg hk, List.append_nil]
        refine ⟨h1, fun x => ?_⟩
        rw [h2]
        unfold Lib.keeps at hk
        simp only [decide_eq_true_eq, not_or, ne_eq, Classical.not_not] at hk
        constructor
        · rintro ⟨j, hj, e⟩; exact ⟨j, by omega, e⟩
        · rintro ⟨j, hj, e⟩
          by_cases hjm : j = m
          · subst hjm; exact ⟨j - 1, by omega, by rw [← hk.2]; exact e⟩
          · exact ⟨j, by omega, e⟩
  obtain ⟨h1, h2⟩ := key zs.length (Nat.le_refl _)
  refine ⟨h1, fun x => (h2 x).trans ?_⟩
  constructor
  · rintro ⟨j, hj, rfl⟩; rw [hget j hj]; exact List.getElem_mem hj
  · intro hx
    obtain ⟨j, hj, rfl⟩ := List.getElem_of_mem hx
    exact ⟨j, hj, hget j hj⟩
end Go.Proofs.YtpkabccinhfmbaaGreatDoor
namespace Go.Proofs.YtpkabccinhfmbaaGreatDoor
open Go.RowKit

abbrev tChg : TypeId := 33
abbrev tChgs : TypeId := 25
/-- a row of changes of one's own -/
abbrev OwnC (w : World) (B : Nat) (v : Value) (l : List Ent) : Prop := w.ownsRow B 33 4 v l.length (ents l)
theorem own_snocC {w : World} {B : Nat} {v : Value} {l : List Ent} {p : List UInt8} {k m : Int} {d : List UInt8} (h : w.ownsRow B 33 4 v (l.length + 1) (ents l ++ [.string (S p), .int .i64 k, .int .i64 m, .string (S d)])) : OwnC w B v (l ++ [⟨p, k, m, d⟩]) := by
  unfold OwnC
  rw [ents_app, List.length_append, List.length_singleton]
  exact h
theorem below_drew1 {B : Nat} {a w : World} (h : Below B a w) : Below B a w.drew := ⟨h.os, h.tape, h.output, h.size, h.block⟩
theorem below_drewN {B : Nat} {a w : World} (h : Below B a w) (n : Nat) : Below B a (w.drewN n) := ⟨h.os, h.tape, h.output, h.size, h.block⟩
theorem own_eqC {w : World} {B : Nat} {v : Value} {l l' : List Ent} {v' : Value} (h : OwnC w B v l) (ev : v = v') (e : l = l') : OwnC w B v' l' := by subst ev; subst e; exact h
/-- two entries compared -/
theorem neq_ent (p : List UInt8) (k m k' m' : Int) (d d' : List UInt8) (t : TypeId) (ht : t = 41) (w : World) : (binOp .neq t (.agg #[.string (S p), .int .i64 k, .int .i64 m, .string (S d)]) (.agg #[.string (S p), .int .i64 k', .int .i64 m', .string (S d')])).run Tryz.prog w = .ok (.bool (decide (¬ (k = k' ∧ m = m' ∧ d = d')))) w := by
  subst ht
  simp only [binOp]
  simp [Op.equal, Op.maxDepth, go_sem]
  by_cases h1 : k = k' <;> by_cases h2 : m = m' <;> by_cases h3 : d = d' <;> simp [h1, h2, h3]
/-- what is no row of changes and no variable for one -/
def Other (o : Obj) : Prop := ∀ cur t f, o = .cells cur t f → t ≠ tChg ∧ t ≠ tChgs
theorem other_cells (cur : Array Value) (t : TypeId) (f : Nat × Nat) (h : t ≠ tChg ∧ t ≠ tChgs) : Other (.cells cur t f) := by
  intro cur' t' f' e
  cases e; exact h
theorem other_map (es : Array MapEntry) (c : Nat) : Other (.map es c) := fun _ _ _ e => by cases e
/-- all that is neither stays -/
structure KeepX (w w' : World) : Prop where
  size : w.heap.size ≤ w'.heap.size
  keep : ∀ (g : Nat) (o : Obj), w.heap[g]? = some o → Other o → w'.heap[g]? = some o
theorem KeepX.refl (w : World) : KeepX w w := ⟨Nat.le_refl _, fun _ _ h _ => h⟩
theorem KeepX.trans {a b c : World} (h : KeepX a b) (k : KeepX b c) : KeepX a c := ⟨Nat.le_trans h.size k.size, fun g o e f => k.keep g o (h.keep g o e f) f⟩
theorem KeepX.below {w w' : World} (h : Below w.heap.size w w') : KeepX w w' := ⟨h.size, fun g _ e _ => (h.block g (Array.getElem?_eq_some_iff.1 e).1).trans e⟩
theorem KeepX.keepT {w w' : World} (h : KeepX w w') {T : TypeId} (hT : T ≠ tChg ∧ T ≠ tChgs) : KeepT T w w' := fun g cur e => h.keep g _ e (other_cells _ _ _ hT)
theorem KeepX.grown {w w' : World} {B : Nat} {v : Value} {l : List Ent} (ho : OwnC w B v l) (hg : w.grownBy w' v.ownBlock) : KeepX w w' := by
  refine ⟨hg.size, fun g o e f => (hg.block g (Array.getElem?_eq_some_iff.1 e).1 ?_).trans e⟩
  rcases ho.2 with ⟨rfl, _⟩ | ⟨g', cap, cur, rfl, hb, hh, _⟩
  · simp [Value.ownBlock]
  · intro he
    simp only [Value.ownBlock, Option.some.injEq] at he
    subst he
    rw [e] at hh
    cases hh
    exact (f _ _ _ rfl).1 rfl
/-- the variable for the list -/
def VarC (w : World) (lb : Nat) (v : Value) : Prop := w.heap[lb]? = some (.cells #[v] tChgs (0, 0))
theorem VarC.cell {w : World} {lb : Nat} {v : Value} (h : VarC w lb v) : w.cell? ⟨lb, 0, none⟩ = some v := by
  rw [cell_of_row w lb 0 _ _ (0, 0) h]; rfl
theorem VarC.frozen {w : World} {lb : Nat} {v : Value} (h : VarC w lb v) : w.frozen? ⟨lb, 0, none⟩ = false := frozen_of_row w lb 0 _ _ h
theorem VarC.lt {w : World} {lb : Nat} {v : Value} (h : VarC w lb v) : lb < w.heap.size := (Array.getElem?_eq_some_iff.1 h).1
theorem VarC.below {w w' : World} {lb : Nat} {v : Value} (h : VarC w lb v) (hb : Below w.heap.size w w') : VarC w' lb v := (hb.block lb h.lt).trans h
theorem VarC.grown {w w' : World} {lb B : Nat} {v u : Value} {l : List Ent} (h : VarC w lb u) (ho : OwnC w B v l) (hg : w.grownBy w' v.ownBlock) : VarC w' lb u := by
  refine (hg.block lb h.lt ?_).trans h
  rcases ho.2 with ⟨rfl, _⟩ | ⟨g', cap, cur, rfl, hb, hh, _⟩
  · simp [Value.ownBlock]
  · intro he
    simp only [Value.ownBlock, Option.some.injEq] at he
    subst he
    rw [show w.heap[lb]? = _ from h] at hh
    simp at hh
    exact absurd hh.2 (by decide)
theorem VarC.set {w : World} {lb : Nat} {v : Value} (h : VarC w lb v) (u : Value) : VarC (w.setCell ⟨lb, 0, none⟩ u) lb u := by
  have := Go.heap_setCell_same w lb 0 _ _ u h
  exact this
theorem VarC.new (w : World) (v : Value) : VarC (w.alloc (.cells #[v] tChgs)) w.heap.size v := heap_alloc_new w _
theorem KeepX.set {w : World} {lb : Nat} {v : Value} (h : VarC w lb v) (u : Value) : KeepX w (w.setCell ⟨lb, 0, none⟩ u) := by
  refine ⟨by simp [World.setCell], fun g o e f => ?_⟩
  have hne : g ≠ lb := by
    rintro rfl
    rw [show w.heap[g]? = _ from h] at e
    cases e
    exact (f _ _ _ rfl).2 rfl
  rw [heap_setCell_other w ⟨lb, 0, none⟩ g u hne]; exact e
theorem OwnC.set {w : World} {lb B : Nat} {v z : Value} {l : List Ent} (ho : OwnC w B v l) (h : VarC w lb z) (u : Value) : OwnC (w.setCell ⟨lb, 0, none⟩ u) B v l := by
  obtain ⟨h1, h2⟩ := ho
  refine ⟨h1, ?_⟩
  rcases h2 with h2 | ⟨g, cap, cur, hv, hg, hh, r⟩
  · exact .inl h2
  · refine .inr ⟨g, cap, cur, hv, hg, ?_, r⟩
    have hne : g ≠ lb := by
      rintro rfl
      rw [show w.heap[g]? = _ from h] at hh
      simp at hh
      exact absurd hh.2 (by decide)
    rw [heap_setCell_other w ⟨lb, 0, none⟩ g u hne]; exact hh
/-- a directory's node, wherever it lies -/
def ANode (w : World) (n b N : Nat) (f : List UInt8 → Option Nat) : Prop := DirAt w n b N f ∧ ∃ o, w.heap[n]? = some o ∧ Other o
theorem cell_block {w w' : World} {a : Addr} (h : w'.heap[a.block]? = w.heap[a.block]?) : w'.cell? a = w.cell? a := World.cell?_of_block (w := w) h
theorem ANode.keep {w w' : World} {n b N : Nat} {f : List UInt8 → Option Nat} (h : ANode w n b N f) (hk : KeepX w w') : ANode w' n b N f := by
  obtain ⟨⟨h1, h2⟩, o, h3, h4⟩ := h
  have e := hk.keep n o h3 h4
  refine ⟨⟨?_, ?_⟩, o, e, h4⟩
  · rw [cell_block (w := w) (a := ⟨n, 4, none⟩) (by rw [e, h3])]; exact h1
  · obtain ⟨D, ⟨es, clock, h5, _⟩, _⟩ := id h2
    exact h2.block (by rw [hk.keep b _ h5 (other_map _ _), h5])
theorem TreeAt.anode {w : World} {B N : Nat} {a m : Pth → Nat} {F : Forest} (hT : TreeAt w B N a m F) (p : Pth) (h : isDirF F p = true) : ANode w (a p) (m p) N (kidsF F a p) := by
  obtain ⟨x, hx, hk⟩ := isDirF_iff.1 h
  exact ⟨hT.dirAt p x hx hk, _, hT.node p x hx, other_cells _ _ _ (by decide)⟩
theorem kids_none {F : Forest} {a : Pth → Nat} {p : Pth} (hT : IsTree F) (h : isDirF F p = false) : kidsF F a p = fun _ => none := by
  funext e
  unfold kidsF
  cases hs : (F (p ++ [e])).isSome with
  | false => rfl
  | true =>
    obtain ⟨x, hx, hk⟩ := hT.up p e hs
    rw [isDirF_iff.2 ⟨x, hx, hk⟩] at h; cases h
theorem fresh_anode (w : World) (N : Nat) : ANode ((w.alloc (.map #[] 0)).alloc (.cells #[.string (S []), .int .i64 0, .int .i64 0, .string (S []), .map (some w.heap.size)] tNode)) (w.heap.size + 1) w.heap.size N (fun _ => none) := by
  have h1 := heap_alloc_new (w.alloc (.map #[] 0)) (.cells #[.string (S []), .int .i64 0, .int .i64 0, .string (S []), .map (some w.heap.size)] tNode)
  rw [World.size_alloc] at h1
  refine ⟨⟨?_, ?_⟩, _, h1, other_cells _ _ _ (by decide)⟩
  · rw [cell_of_row _ _ _ _ _ _ h1]; rfl
  · have hm := (MapIs.made w).mono (Nat.zero_le N)
    exact hm.block (((Below.refl (w.alloc (.map #[] 0)).heap.size (w.alloc (.map #[] 0))).alloc (Nat.le_refl _) _).block w.heap.size (by simp))
end Go.Proofs.YtpkabccinhfmbaaGreatDoor
