/-
  The program: Put and Get of a store, from outside.
  The program: a store, from outside: put, got, what was done.
  The program: a store is begun.
  The program: the sum of a tree; layers.Sum and plain.Sum, at any list. The document's Sum.
  The law's own words: a number picked, numerals.
  The law Told.
-/
import Derived.Test.YtkdplkhnkimhpaaGreatDoorY12
import Derived.Test.YtkdplkhnkimhpaaGreatDoorY14
import Derived.Test.YtkdplkhnkimhpaaGreatDoorY17
import Derived.Test.YtkdplkhnkimhpaaGreatDoorY18
import Derived.Test.YtkdplkhnkimhpaaGreatDoorY19
import Derived.Test.YtkdplkhnkimhpaaGreatDoorY20
import Derived.Test.YtkdplkhnkimhpaaGreatDoorY21
set_option linter.unusedVariables false
set_option linter.unusedSimpArgs false
namespace Go.Proofs.YtkdplkhnkimhpaaGreatDoor
open Go.RowKit

theorem DiskAt.mono {w : World} {B fb : Nat} {q : Int} {na nb : Nat} {D : DiskL} (h : DiskAt w B fb q na D) (hn : na ≤ nb) : DiskAt w B fb q nb D := by
  obtain ⟨v1, v2, v3, h⟩ := h
  obtain ⟨n, xs, h1, h2⟩ := h.r3
  exact ⟨v1, v2, v3, h.blk, h.ge, h.r1, h.r2, ⟨n, xs, by omega, h2⟩, h.apart⟩
/-- the file that has a digest -/
def blobB (x : List UInt8) : List UInt8 := 98 :: 47 :: x
def gotB (D : DiskL) (x : List UInt8) : Bool := srchB D.ns (blobB x) && (shaB (rdD D (blobB x)) == x)
set_option maxHeartbeats 2000000 in
theorem get_any {w : World} {B fb : Nat} {q : Int} {na n : Nat} {D : DiskL} (h : DiskAt w B fb q na D) (hs : Small D n) (hn : n ≤ 700) (ht : Tabs w) (x : List UInt8) (hx : x.length ≤ 100) :
    Calls Tryz.prog 46 #[.pointer (some ⟨fb, 0, none⟩), .string (S x)] w fun e w' => e = .returned (.tuple #[.string (S (rdD D (blobB x))), .bool (gotB D x)]) ∧ Below w.heap.size w w' := by
  obtain ⟨v1, v2, v3, h⟩ := h
  have HR := Lib.hid (read_any h (Nat.le_trans hs.few (by omega)) hs.same (blobB x))
  have HS := Lib.hid (shaB_len (rdD D (blobB x)))
  have hl := hs.rd (blobB x)
  have HG := Lib.hid (show gotB D x = (srchB D.ns (blobB x) && (shaB (rdD D (blobB x)) == x)) from rfl)
  have HT := Lib.hid ht
  generalize srchB D.ns (blobB x) = is at HR HG
  generalize rdD D (blobB x) = b at HR HS hl HG ⊢
  have HO := Lib.hid (fun (wx : World) (hb : Below w.heap.size w wx) => shaOf_any b wx (by omega) (HT.out.below hb).keys (HT.out.below hb).starts)
  unfold blobB at HR
  generalize shaB b = sb at HS HG HO
  clear h hs ht
  go_enter Tryz.func46, Tryz.ntmps46
  go_wp2_with fail
  refine HR.out.mono ?_
  rintro e w1 ⟨rfl, qq, hq⟩
  have HB := Lib.hid (show Below w.heap.size w w1 by rw [hq]; exact below_drewN qq)
  clear hq
  cases is with
  | false =>
    go_wp2
    go_ret2
    exact ⟨by rw [HG.out]; rfl, HB.out⟩
  | true =>
    go_wp2_with fail
    refine (HO.out _ HB.out).mono ?_
    rintro e w2 ⟨rfl, hb2⟩
    have HB2 := Lib.hid (HB.out.trans (hb2.mono HB.out.size))
    clear hb2
    have HG2 := Lib.hid (show gotB D x = (sb == x) by rw [HG.out]; rfl)
    clear HG
    go_wp2
    go_ret2
    exact ⟨by rw [HG2.out]; rfl, HB2.out⟩
/-- the disk behind a Put -/
def putD (D : DiskL) (b : List UInt8) : DiskL := if gotB D (shaB b) = true then D else keepD D (blobB (shaB b)) b
theorem put_small {D : DiskL} {n : Nat} (h : Small D n) {b : List UInt8} (hb : b.length ≤ 5000) : Small (putD D b) (n + 2) := by
  unfold putD
  split
  · exact h.mono (by omega)
  · exact h.keep (by simp [blobB, shaB_len]) hb
theorem put_nil (b : List UInt8) : putD ⟨[], []⟩ b = ⟨[blobB (shaB b)], [b]⟩ := by
  have : gotB ⟨[], []⟩ (shaB b) = false := by unfold gotB; rw [(srch_nil _).2]; rfl
  unfold putD
  rw [this, if_neg (by decide), keep_nil]
theorem got_one (b : List UInt8) : gotB ⟨[blobB (shaB b)], [b]⟩ (shaB b) = true ∧ rdD ⟨[blobB (shaB b)], [b]⟩ (blobB (shaB b)) = b := by
  have h2 : rdD ⟨[blobB (shaB b)], [b]⟩ (blobB (shaB b)) = b := by unfold rdD; rw [if_pos (srch_one _).2]; simp [(srch_one _).1]
  refine ⟨?_, h2⟩
  unfold gotB
  rw [(srch_one _).2, h2]; simp
set_option maxHeartbeats 2000000 in
theorem putF_any {w : World} {B fb : Nat} {na n : Nat} {D : DiskL} (h : DiskAt w B fb 16777216 na D) (hB : B ≤ w.heap.size) (hna : na ≤ 900) (hs : Small D n) (hn : n ≤ 700) (ht : Tabs w) (b : List UInt8) (hb : b.length ≤ 5000) :
    Calls Tryz.prog 40 #[.pointer (some ⟨fb, 0, none⟩), .string (S b)] w fun e w' => e = .returned (.tuple #[.string (S (shaB b)), .bool true]) ∧ DiskAt w' B fb 16777216 (na + 4) (putD D b) ∧ Below B w w' ∧ KeepE w w' := by
  have HD := Lib.hid h
  have HS := Lib.hid hs
  have HT := Lib.hid ht
  have HO := Lib.hid (shaOf_any b w (by omega) ht.keys ht.starts)
  have hsl := shaB_len b
  have HP := Lib.hid (show putD D b = if gotB D (shaB b) = true then D else keepD D (blobB (shaB b)) b from rfl)
  generalize shaB b = sb at HO hsl HP ⊢
  have hsl2 : sb.length ≤ 100 := by omega
  have HLn := Lib.hid hsl
  clear h hs ht hsl
  go_enter Tryz.func40, Tryz.ntmps40
  go_wp2_with fail
  refine HO.out.mono ?_
  rintro e w1 ⟨rfl, hb1⟩
  have HD1 := Lib.hid (HD.out.below hb1)
  have HB1 := Lib.hid hb1
  have HT1 := Lib.hid (HT.out.below hb1)
  clear hb1 HO HD HT
  go_wp2_with fail
  refine (get_any HD1.out HS.out hn HT1.out sb hsl2).mono ?_
  rintro e w2 ⟨rfl, hb2⟩
  have HD2 := Lib.hid (HD1.out.below hb2)
  have HB2 := Lib.hid (HB1.out.trans (hb2.mono HB1.out.size))
  clear hb2 HD1 HB1 HT1
  generalize rdD D (blobB sb) = gb
  generalize gotB D sb = got at HP ⊢
  cases got with
  | true =>
    have HP2 := Lib.hid (HP.out.trans (if_pos rfl))
    clear HP
    go_wp2
    go_ret2
    exact ⟨rfl, by rw [HP2.out]; exact HD2.out.mono (by omega), HB2.out.mono hB, KeepE.below HB2.out⟩
  | false =>
    have HP2 := Lib.hid (HP.out.trans (if_neg (by decide)))
    have HK := Lib.hid (keep_any HD2.out (Nat.le_trans hB HB2.out.size) hna n hn HS.out (blobB sb) b (by simp [blobB]) (by simp [blobB]; rw [HLn.out]; decide) hb)
    rw [← HP2.out] at HK
    clear HP HP2
    unfold blobB at HK
    go_wp2_with fail
    refine HK.out.mono ?_
    rintro e w3 ⟨rfl, hd3, hb3, hk3⟩
    have HD3 := Lib.hid hd3
    have HB3 := Lib.hid ((HB2.out.mono hB).trans hb3)
    have HK3 := Lib.hid ((KeepE.below HB2.out).trans hk3)
    clear hd3 hb3 hk3
    go_wp2
    go_ret2
    exact ⟨rfl, HD3.out, HB3.out, HK3.out⟩
end Go.Proofs.YtkdplkhnkimhpaaGreatDoor
namespace Go.Proofs.YtkdplkhnkimhpaaGreatDoor
open Go.RowKit

abbrev tStore : TypeId := 75
structure St (W0 w : World) (sb : Nat) (D : DiskL) (n na : Nat) : Prop where
  disk : ∃ fb, w.heap[sb]? = some (.cells #[.pointer (some ⟨fb, 0, none⟩)] tStore (0, 0)) ∧ DiskAt w W0.heap.size fb 16777216 na D
  small : Small D n
  below : Below W0.heap.size W0 w
theorem St.after {W0 w w' : World} {sb : Nat} {D : DiskL} {n na : Nat} (h : St W0 w sb D n na) (hb : Below w.heap.size w w') : St W0 w' sb D n na := by
  obtain ⟨fb, h1, h2⟩ := h.disk
  exact ⟨⟨fb, (hb.block sb (Array.getElem?_eq_some_iff.1 h1).1).trans h1, h2.below hb⟩, h.small, h.below.trans (hb.mono h.below.size)⟩
set_option maxHeartbeats 1000000 in
theorem putL_any {W0 w : World} {sb : Nat} {D : DiskL} {n na : Nat} (h : St W0 w sb D n na) (ht : Tabs W0) (hn : n ≤ 700) (hna : na ≤ 900) (b : List UInt8) (hb : b.length ≤ 5000) :
    Calls Tryz.prog 23 #[.pointer (some ⟨sb, 0, none⟩), .string (S b)] w fun e w' => e = .returned (.tuple #[.string (S (shaB b)), .nilIface]) ∧ St W0 w' sb (putD D b) (n + 2) (na + 4) := by
  obtain ⟨fb, h1, h2⟩ := h.disk
  have HP := Lib.hid (putF_any h2 h.below.size hna h.small hn (ht.below h.below) b hb)
  have HS := Lib.hid (put_small h.small hb)
  have HW := Lib.hid h.below
  have H1 := Lib.hid h1
  have c0 : w.cell? ⟨sb, 0, none⟩ = some (.pointer (some ⟨fb, 0, none⟩)) := by rw [cell_of_row _ _ _ _ _ _ h1]; rfl
  generalize shaB b = dg at HP ⊢
  generalize putD D b = D2 at HP HS ⊢
  clear h h1 h2 ht
  go_enter Tryz.func23, Tryz.ntmps23
  go_wp2_with fail
  refine HP.out.mono ?_
  rintro e w1 ⟨rfl, hd, hb1, hk⟩
  have HR := Lib.hid (show St W0 w1 sb D2 (n + 2) (na + 4) from ⟨⟨fb, hk tStore (by decide) (by decide) (by decide) _ _ H1.out, hd⟩, HS.out, HW.out.trans hb1⟩)
  clear hd hb1 hk
  go_wp2
  go_ret2
  exact ⟨rfl, HR.out⟩
set_option maxHeartbeats 1000000 in
theorem putP_any {W0 w : World} {sb : Nat} {D : DiskL} {n na : Nat} (h : St W0 w sb D n na) (ht : Tabs W0) (hn : n ≤ 700) (hna : na ≤ 900) (b : List UInt8) (hb : b.length ≤ 5000) :
    Calls Tryz.prog 9 #[.pointer (some ⟨sb, 0, none⟩), .string (S b)] w fun e w' => e = .returned (.tuple #[.string (S (shaB b)), .int .i64 0]) ∧ St W0 w' sb (putD D b) (n + 2) (na + 4) := by
  have HP := Lib.hid (putL_any h ht hn hna b hb)
  generalize shaB b = dg at HP ⊢
  generalize putD D b = D2 at HP ⊢
  clear h ht
  go_enter Tryz.func9, Tryz.ntmps9
  go_wp2_with fail
  refine HP.out.mono ?_
  rintro e w1 ⟨rfl, hs⟩
  have HS := Lib.hid hs
  clear hs
  go_wp2_with fail
  refine (tell_nil _).mono ?_
  rintro e w2 ⟨rfl, hb2⟩
  have HS2 := Lib.hid (HS.out.after hb2)
  clear hb2
  go_wp2
  go_ret2
  exact ⟨rfl, HS2.out⟩
set_option maxHeartbeats 1000000 in
theorem getL_any {W0 w : World} {sb : Nat} {D : DiskL} {n na : Nat} (h : St W0 w sb D n na) (ht : Tabs W0) (hn : n ≤ 700) (x : List UInt8) (hx : x.length ≤ 100) (hg : gotB D x = true) :
    Calls Tryz.prog 34 #[.pointer (some ⟨sb, 0, none⟩), .string (S x)] w fun e w' => e = .returned (.tuple #[.string (S (rdD D (blobB x))), .nilIface]) ∧ St W0 w' sb D n na := by
  obtain ⟨fb, h1, h2⟩ := h.disk
  have HP := Lib.hid (get_any h2 h.small hn (ht.below h.below) x hx)
  rw [hg] at HP
  have HS := Lib.hid h
  have c0 : w.cell? ⟨sb, 0, none⟩ = some (.pointer (some ⟨fb, 0, none⟩)) := by rw [cell_of_row _ _ _ _ _ _ h1]; rfl
  generalize rdD D (blobB x) = b at HP ⊢
  clear h h1 h2 ht hg
  go_enter Tryz.func34, Tryz.ntmps34
  go_wp2_with fail
  refine HP.out.mono ?_
  rintro e w1 ⟨rfl, hb1⟩
  have HS1 := Lib.hid (HS.out.after hb1)
  clear hb1
  go_wp2
  go_ret2
  exact ⟨rfl, HS1.out⟩
set_option maxHeartbeats 1000000 in
theorem getP_any {W0 w : World} {sb : Nat} {D : DiskL} {n na : Nat} (h : St W0 w sb D n na) (ht : Tabs W0) (hn : n ≤ 700) (x : List UInt8) (hx : x.length ≤ 100) (hg : gotB D x = true) :
    Calls Tryz.prog 18 #[.pointer (some ⟨sb, 0, none⟩), .string (S x)] w fun e w' => e = .returned (.tuple #[.string (S (rdD D (blobB x))), .int .i64 0]) ∧ St W0 w' sb D n na := by
  have HP := Lib.hid (getL_any h ht hn x hx hg)
  generalize rdD D (blobB x) = b at HP ⊢
  clear h ht hg
  go_enter Tryz.func18, Tryz.ntmps18
  go_wp2_with fail
  refine HP.out.mono ?_
  rintro e w1 ⟨rfl, hs⟩
  have HS := Lib.hid hs
  clear hs
  go_wp2_with fail
  refine (tell_nil _).mono ?_
  rintro e w2 ⟨rfl, hb2⟩
  have HS2 := Lib.hid (HS.out.after hb2)
  clear hb2
  go_wp2
  go_ret2
  exact ⟨rfl, HS2.out⟩
/-- the acts are no more -/
theorem DiskV.set3n {w : World} {B fb : Nat} {v1 v2 v3 : Value} {q : Int} {na : Nat} {D : DiskL} (h : DiskV w B fb v1 v2 v3 q na D) :
    DiskV (w.setCell ⟨fb, 2, none⟩ (.slice none 0 0)) B fb v1 v2 (.slice none 0 0) q na D ∧ Below B w (w.setCell ⟨fb, 2, none⟩ (.slice none 0 0)) ∧ KeepE w (w.setCell ⟨fb, 2, none⟩ (.slice none 0 0)) := by
  have hfb1 := h.r1.ne_of h.blk (by decide)
  have hfb2 := h.r2.ne_of h.blk (by decide)
  refine ⟨⟨Go.heap_setCell_same w fb 2 _ _ _ h.blk, h.ge, ?_, ?_, ⟨0, [], Nat.zero_le _, World.ownsRow_nil _ _ _ _⟩, h.apart⟩, (Below.refl B w).setCell (p := ⟨fb, 2, none⟩) h.ge _, fun T h1 h2 h3 => KeepT.setCell h.blk (fun e => h2 e.symm) 2 _⟩
  · exact h.r1.keep fun g hv => heap_setCell_other w ⟨fb, 2, none⟩ g _ (by show g ≠ fb; intro e; rw [e] at hv; exact hfb1 hv)
  · exact h.r2.keep fun g hv => heap_setCell_other w ⟨fb, 2, none⟩ g _ (by show g ≠ fb; intro e; rw [e] at hv; exact hfb2 hv)
set_option maxHeartbeats 1000000 in
theorem actsD_any {w : World} {B fb : Nat} {q : Int} {na : Nat} {D : DiskL} (h : DiskAt w B fb q na D) :
    Calls Tryz.prog 35 #[.pointer (some ⟨fb, 0, none⟩)] w fun e w' => (∃ a n c, e = .returned (.slice a n c)) ∧ DiskAt w' B fb q na D ∧ Below B w w' ∧ KeepE w w' := by
  obtain ⟨v1, v2, v3, h⟩ := h
  obtain ⟨n, xs, hn, ho⟩ := h.r3
  obtain ⟨a, c, rfl⟩ := ownsRow_form ho
  obtain ⟨_, _, c2, _, f2⟩ := h.cells
  have f22 := f2 2
  obtain ⟨h1, h2, h3⟩ := h.set3n
  have H1 := Lib.hid h1
  have H2 := Lib.hid h2
  have H3 := Lib.hid h3
  clear h ho f2 h1 h2 h3 hn
  go_enter Tryz.func35, Tryz.ntmps35
  go_wp2
  go_ret
  exact ⟨⟨_, _, _, rfl⟩, ⟨_, _, _, H1.out⟩, H2.out, H3.out⟩
set_option maxHeartbeats 1000000 in
theorem actsL_any {W0 w : World} {sb : Nat} {D : DiskL} {n na : Nat} (h : St W0 w sb D n na) :
    Calls Tryz.prog 19 #[.pointer (some ⟨sb, 0, none⟩)] w fun e w' => (∃ a n c, e = .returned (.slice a n c)) ∧ St W0 w' sb D n na := by
  obtain ⟨fb, h1, h2⟩ := h.disk
  have HA := Lib.hid (actsD_any h2)
  have HS := Lib.hid h
  have H1 := Lib.hid h1
  have c0 : w.cell? ⟨sb, 0, none⟩ = some (.pointer (some ⟨fb, 0, none⟩)) := by rw [cell_of_row _ _ _ _ _ _ h1]; rfl
  clear h h1 h2
  go_enter Tryz.func19, Tryz.ntmps19
  go_wp2_with fail
  refine HA.out.mono ?_
  rintro e w1 ⟨⟨a, m, c, rfl⟩, hd, hb, hk⟩
  have HR := Lib.hid (show St W0 w1 sb D n na from ⟨⟨fb, hk tStore (by decide) (by decide) (by decide) _ _ H1.out, hd⟩, HS.out.small, HS.out.below.trans hb⟩)
  clear hd hb hk
  go_wp2
  go_ret
  exact ⟨⟨_, _, _, rfl⟩, HR.out⟩
end Go.Proofs.YtkdplkhnkimhpaaGreatDoor
namespace Go.Proofs.YtkdplkhnkimhpaaGreatDoor
open Go.RowKit

set_option maxHeartbeats 2000000 in
theorem open_any (w : World) :
    Calls Tryz.prog 45 #[.slice none 0 0, .int .i64 16777216] w fun e w' => e = .returned (.tuple #[.pointer (some ⟨w.heap.size, 0, none⟩), .int .i64 0, .int .i64 (-1)]) ∧ DiskAt w' w.heap.size w.heap.size 16777216 0 ⟨[], []⟩ ∧ Below w.heap.size w w' := by
  have HD := Lib.hid (show DiskV (w.alloc (.cells #[.slice none 0 0, .slice none 0 0, .slice none 0 0, .int .i64 16777216] tFiles)) w.heap.size w.heap.size (.slice none 0 0) (.slice none 0 0) (.slice none 0 0) 16777216 0 ⟨[], []⟩ from
    ⟨heap_alloc_new w _, Nat.le_refl _, RowS.nil _ _, RowS.nil _ _, ⟨0, [], Nat.le_refl _, World.ownsRow_nil _ _ _ _⟩, fun g hg => by cases hg⟩)
  have HB := Lib.hid (show Below w.heap.size w (w.alloc (.cells #[.slice none 0 0, .slice none 0 0, .slice none 0 0, .int .i64 16777216] tFiles)) from (Below.refl _ _).alloc (Nat.le_refl _) _)
  go_enter Tryz.func45, Tryz.ntmps45
  go_upto_region 2 with fail
  generalize hw : w.alloc (.cells #[.slice none 0 0, .slice none 0 0, .slice none 0 0, .int .i64 16777216] tFiles) = w1 at HD HB
  try rw [hw]
  clear hw
  go_wp2
  go_loop [19] (fun i => i = .int .i64 0) (fun _ => 0)
  case atStart => rfl
  case round =>
    obtain rfl := hrel
    obtain ⟨c0, _⟩ := HD.out.cells
    go_wp2_with fail
    refine (Tryz.slices_Clone_string_nil 0 0 w1).mono ?_
    rintro e w2 ⟨rfl, rfl⟩
    go_wp2
    go_loop [63] (fun i => i = .int .i64 0) (fun _ => 0)
    case atStart => rfl
    case round =>
      obtain rfl := hrel
      go_wp2
      go_ret3
      exact ⟨rfl, ⟨_, _, _, HD.out⟩, HB.out⟩
set_option maxHeartbeats 1000000 in
theorem newL_any (w : World) :
    Calls Tryz.prog 33 #[.slice none 0 0, .int .i64 16777216] w fun e w' => ∃ sb, e = .returned (.tuple #[.pointer (some ⟨sb, 0, none⟩), .nilIface]) ∧ St w w' sb ⟨[], []⟩ 0 0 := by
  go_enter Tryz.func33, Tryz.ntmps33
  go_wp2_with fail
  refine (open_any w).mono ?_
  rintro e w1 ⟨rfl, hd, hb⟩
  have hb2 : Below w1.heap.size w1 (w1.alloc (.cells #[.pointer (some ⟨w.heap.size, 0, none⟩)] tStore)) := (Below.refl _ _).alloc (Nat.le_refl _) _
  have HS := Lib.hid (show St w (w1.alloc (.cells #[.pointer (some ⟨w.heap.size, 0, none⟩)] tStore)) w1.heap.size ⟨[], []⟩ 0 0 from ⟨⟨w.heap.size, heap_alloc_new w1 _, hd.below hb2⟩, ⟨rfl, Nat.le_refl _, fun x hx => by simp at hx, fun x hx => by simp at hx⟩, hb.trans (hb2.mono hb.size)⟩)
  clear hd hb hb2
  go_wp2
  go_ret2
  exact ⟨_, rfl, HS.out⟩
set_option maxHeartbeats 1000000 in
theorem newP_any (w : World) :
    Calls Tryz.prog 17 #[.slice none 0 0, .int .i64 16777216] w fun e w' => ∃ sb, e = .returned (.tuple #[.pointer (some ⟨sb, 0, none⟩), .int .i64 0, .int .i64 (-1)]) ∧ St w w' sb ⟨[], []⟩ 0 0 := by
  go_enter Tryz.func17, Tryz.ntmps17
  go_wp2_with fail
  refine (newL_any w).mono ?_
  rintro e w1 ⟨sb, rfl, hs⟩
  have HS := Lib.hid hs
  clear hs
  go_wp2_with fail
  refine (tell_nil _).mono ?_
  rintro e w2 ⟨rfl, hb2⟩
  have HS2 := Lib.hid (HS.out.after hb2)
  clear hb2
  go_wp2
  go_ret3
  exact ⟨_, rfl, HS2.out⟩
def firstB : List UInt8 := [102, 105, 114, 115, 116]
set_option maxHeartbeats 2000000 in
theorem begun_any (w : World) (ht : Tabs w) :
    Calls Tryz.prog 5 #[.slice none 0 0] w fun e w' => ∃ sb D, e = .returned (.pointer (some ⟨sb, 0, none⟩)) ∧ St w w' sb D 2 4 := by
  have HT := Lib.hid ht
  have HG := Lib.hid (got_one firstB)
  have HN := Lib.hid (put_nil firstB)
  have HL := Lib.hid (shaB_len firstB)
  go_enter Tryz.func5, Tryz.ntmps5
  go_wp2_with fail
  refine (newP_any w).mono ?_
  rintro e w1 ⟨sb, rfl, hs⟩
  have HS := Lib.hid hs
  clear hs
  have HP := Lib.hid (putP_any HS.out HT.out (by decide) (by decide) firstB (by decide))
  rw [HN.out] at HP
  have HR := Lib.hid (fun (wx : World) (h : St w wx sb ⟨[blobB (shaB firstB)], [firstB]⟩ 2 4) => getP_any h HT.out (by decide) (shaB firstB) (by rw [HL.out]; decide) HG.out.1)
  rw [HG.out.2] at HR
  generalize shaB firstB = dg at HP HR
  unfold firstB at HP HR
  clear HG HN HL ht
  go_wp2_with fail
  refine HP.out.mono ?_
  rintro e w2 ⟨rfl, hs2⟩
  have HS2 := Lib.hid hs2
  clear hs2 HP
  go_wp2_with fail
  refine (HR.out _ HS2.out).mono ?_
  rintro e w3 ⟨rfl, hs3⟩
  have HS3 := Lib.hid hs3
  clear hs3 HR
  go_wp2_with fail
  refine (actsL_any HS3.out).mono ?_
  rintro e w4 ⟨⟨a, m, c, rfl⟩, hs4⟩
  have HS4 := Lib.hid hs4
  clear hs4
  go_wp2
  go_ret
  exact ⟨_, _, rfl, HS4.out⟩
end Go.Proofs.YtkdplkhnkimhpaaGreatDoor
namespace Go.Proofs.YtkdplkhnkimhpaaGreatDoor
open Go.RowKit

set_option maxRecDepth 100000 in
set_option maxHeartbeats 4000000 in
theorem treeSum_any {w : World} {B N : Nat} {a m : Pth → Nat} {F : Forest} (hT : TreeAt w B N a m F) {l : List Ent} (hLi : Lists l F) (hl : l.length ≤ 1000000) (hN : N ≤ 1000000) (t : Nat) (hV : TreeV w t a) (htab : Tabs w) :
    Calls Tryz.prog 38 #[.pointer (some ⟨t, 0, none⟩)] w fun e w' => e = .returned (.string (S (sumT l))) ∧ Below w.heap.size w w' := by
  have HS := Lib.hid (sumG_any hT hLi hl hN 13 [] rfl _ hLi.root w (Below.refl _ _) htab)
  have HE := Lib.hid (sumT_same hLi)
  have c1 : w.cell? ⟨t, 0, none⟩ = some (.pointer (some ⟨a [], 0, none⟩)) := hV
  clear hT hLi hV htab
  go_enter Tryz.func38, Tryz.ntmps38
  go_wp2_with fail
  refine HS.out.mono ?_
  rintro e w1 ⟨rfl, hb⟩
  go_wp2
  go_ret
  exact ⟨ret_str (by rw [HE.out]), hb⟩
/-- what Sum answers, from outside -/
noncomputable def sumAll (l : List Ent) (rx : Int) : List UInt8 × Int × Int := if rx ≠ -1 then ([], 2, rx) else (sumT l, 0, -1)
set_option maxHeartbeats 4000000 in
theorem sumLy_any (l : List Ent) (A : Option Addr) (cap : Nat) (w : World) (hw : Std w) (htab : Tabs w) (ha : Rd w A (ents l)) (hla : l.length ≤ 2000000000)
    (hsa : ∀ e ∈ l, e.path.length ≤ 2000000000 ∧ e.data.length ≤ 2000000000) (rx : Int) (hx : First (wrongP l) l.length rx) :
    Calls Tryz.prog 21 #[.slice A l.length cap] w fun e w' => ∃ er, e = .returned (.tuple #[.string (S (sumAll l rx).1), er]) ∧ ErrOut w w' er (sumAll l rx).2.1 (sumAll l rx).2.2 ∧ Below w.heap.size w w' := by
  have HT0 := Lib.hid htab
  have HOf := Lib.hid (of_any l A cap w hw ha hla hsa)
  have HX := Lib.hid hx
  clear hw ha hsa hx htab
  go_enter Tryz.func21, Tryz.ntmps21
  go_wp2_with fail
  refine HOf.out.mono ?_
  rintro e w1 ⟨r', hf, hb1, ho⟩
  obtain rfl := First.uniq HX.out hf (fun _ _ _ _ => rfl)
  have HB1 := Lib.hid hb1
  clear HOf hf hb1
  rcases ho with ⟨hr, t, a1, m1, rfl, hT, hV⟩ | ⟨k, hr, rfl⟩
  · obtain ⟨ha40, hLi⟩ := none_wrong (hr ▸ HX.out)
    have HE := Lib.hid (show sumAll l rx = (sumT l, 0, -1) by unfold sumAll; rw [if_neg (by rw [hr]; decide)])
    have HS := Lib.hid (treeSum_any hT hLi (by omega) (by omega) t hV (HT0.out.below HB1.out))
    clear hr hT hV hLi
    go_wp2_with fail
    refine HS.out.mono ?_
    rintro e w2 ⟨rfl, hb2⟩
    have HB2 := Lib.hid (HB1.out.trans (hb2.mono HB1.out.size))
    clear hb2
    go_wp2
    go_ret2
    exact ⟨_, by rw [HE.out]; rfl, by rw [HE.out]; exact .inl ⟨rfl, rfl, rfl⟩, HB2.out⟩
  · have HE := Lib.hid (show sumAll l rx = ([], 2, rx) by unfold sumAll; rw [if_pos (by omega)])
    subst hr
    go_wp2_with fail
    refine (at_out 2 k w _ (by decide) (.inr (by omega))).mono ?_
    rintro e w3 ⟨er, rfl, ho, hb3⟩
    have HO := Lib.hid ho
    have HB3 := Lib.hid (HB1.out.trans (hb3.mono HB1.out.size))
    clear ho hb3
    go_wp2
    go_ret2
    exact ⟨_, by rw [HE.out]; rfl, by rw [HE.out]; exact HO.out, HB3.out⟩
set_option maxHeartbeats 4000000 in
theorem sumPl_any (l : List Ent) (A : Option Addr) (cap : Nat) (w : World) (hw : Std w) (hg : ErrT w) (htab : Tabs w) (ha : Rd w A (ents l)) (hla : l.length ≤ 2000000000)
    (hsa : ∀ e ∈ l, e.path.length ≤ 2000000000 ∧ e.data.length ≤ 2000000000) (rx : Int) (hx : First (wrongP l) l.length rx) :
    Calls Tryz.prog 8 #[.slice A l.length cap] w fun e w' => e = .returned (.tuple #[.string (S (sumAll l rx).1), .int .i64 (sumAll l rx).2.1, .int .i64 (sumAll l rx).2.2]) ∧ Below w.heap.size w w' := by
  have HL := Lib.hid (sumLy_any l A cap w hw htab ha hla hsa rx hx)
  have HG := Lib.hid hg
  clear hw hg ha hsa hx htab
  obtain ⟨R, hR⟩ : ∃ R, sumAll l rx = R := ⟨_, rfl⟩
  rw [hR] at HL ⊢
  clear hR
  obtain ⟨R0, R1, R2⟩ := R
  go_enter Tryz.func8, Tryz.ntmps8
  go_wp2_with fail
  refine HL.out.mono ?_
  rintro e w1 ⟨er, rfl, ho, hb1⟩
  have HO := Lib.hid ho
  have HB := Lib.hid hb1
  clear ho hb1 HL
  go_wp2_with fail
  refine (tell_out er R1 R2 w w1 (HG.out.below HB.out) HO.out).mono ?_
  rintro e w2 ⟨rfl, hb2⟩
  have HB2 := Lib.hid (HB.out.trans (hb2.mono HB.out.size))
  clear hb2
  go_wp2
  go_ret3
  exact ⟨rfl, HB2.out⟩
end Go.Proofs.YtkdplkhnkimhpaaGreatDoor
namespace Go.Proofs.YtkdplkhnkimhpaaGreatDoor
open Go.RowKit

set_option maxHeartbeats 1000000 in
theorem pick_any (c n : Int) (w : World) (hn : 0 < n) (hn2 : n ≤ 1000) (h1 : -9223372036854775808 ≤ c) (h2 : c ≤ 9223372036854775807) :
    Calls Tryz.prog 20 #[.int .i64 c, .int .i64 n] w fun e w' => (∃ r, e = .returned (.int .i64 r) ∧ 0 ≤ r ∧ r < n) ∧ w = w' := by
  have f0 : (n == 0) = false := by rw [beq_eq_false_iff_ne]; omega
  have f1 : ¬ n = 0 := by omega
  have HZ := Lib.hid (show -n < c.tmod n ∧ c.tmod n < n from ⟨Int.lt_tmod_of_pos c hn, Int.tmod_lt_of_pos c hn⟩)
  have hneg : n ≠ -1 := by omega
  by_cases hz : c.tmod n < 0
  · have hb : -1000 ≤ c.tmod n := by have := HZ.out; omega
    go_enter Tryz.func20, Tryz.ntmps20
    go_wp2
    go_ret
    have := HZ.out
    exact ⟨⟨_, rfl, by omega, by omega⟩, rfl⟩
  · have hb : 0 ≤ c.tmod n := by omega
    go_enter Tryz.func20, Tryz.ntmps20
    go_wp2
    go_ret
    have := HZ.out
    exact ⟨⟨_, rfl, by omega, by omega⟩, rfl⟩
set_option maxHeartbeats 1000000 in
theorem pickK_any (c : Int) (n : Nat) (w : World) (hn : 0 < n) (hn2 : n ≤ 1000) (h1 : -9223372036854775808 ≤ c) (h2 : c ≤ 9223372036854775807) :
    Calls Tryz.prog 6 #[.int .i64 c, .int .i64 n] w fun e w' => (∃ r : Nat, e = .returned (.int .i64 (r : Int)) ∧ r < n) ∧ w = w' := by
  have HP := Lib.hid (pick_any c n w (by omega) (by omega) h1 h2)
  go_enter Tryz.func6, Tryz.ntmps6
  go_wp2_with fail
  refine HP.out.mono ?_
  rintro e w1 ⟨⟨r, rfl, hr0, hr1⟩, rfl⟩
  obtain ⟨r, rfl⟩ : ∃ r' : Nat, r = (r' : Int) := ⟨r.toNat, by omega⟩
  go_wp2
  go_ret
  exact ⟨⟨r, rfl, by omega⟩, rfl⟩
theorem oct_digit : ∀ k : Nat, k < 8 → List.take (k + 1 - k) (List.drop k [48, 49, 50, 51, 52, 53, 54, (55 : UInt8)]) = [UInt8.ofNat (48 + k)] := by decide
set_option maxHeartbeats 1000000 in
theorem octK_any (n : Nat) (hn : n < 4294967290) (w : World) :
    Calls Tryz.prog 10 #[.int .i64 n] w fun e w' => e = .returned (.string (S (octB n))) ∧ w = w' := by
  induction n using Nat.strongRecOn generalizing w with
  | ind n ih =>
    have h8 : n % 8 < 8 := Nat.mod_lt _ (by omega)
    have hd := Lib.hid (oct_digit (n % 8) h8)
    by_cases h : n < 8
    · have X := Lib.hid (show octB n = [UInt8.ofNat (48 + n % 8)] by rw [octB_small h, Nat.mod_eq_of_lt h])
      clear ih
      go_enter Tryz.func10, Tryz.ntmps10
      go_wp2
      go_ret
      exact ⟨ret_str (by rw [X.out, hd.out]), rfl⟩
    · have X := Lib.hid (octB_big h)
      have hL : (octB (n / 8)).length ≤ 11 := octB_len (n / 8) 10 (by omega)
      have hI := Lib.hid (ih (n / 8) (by omega) (by omega))
      clear ih
      go_enter Tryz.func10, Tryz.ntmps10
      go_wp2_with fail
      refine (hI.out _).mono ?_
      rintro e w' ⟨rfl, rfl⟩
      go_wp2
      go_ret
      exact ⟨ret_str (by rw [X.out, ← hd.out, show n % 8 + 1 - n % 8 = 1 by omega]), rfl⟩
set_option maxHeartbeats 1000000 in
theorem decK_any (n : Nat) (hn : n < 4294967290) (w : World) :
    Calls Tryz.prog 7 #[.int .i64 n] w fun e w' => e = .returned (.string (S (Lib.decDigits n))) ∧ w = w' := by
  induction n using Nat.strongRecOn generalizing w with
  | ind n ih =>
    have h8 : n % 10 < 10 := Nat.mod_lt _ (by omega)
    have hd := Lib.hid (dec_digit (n % 10) h8)
    by_cases h : n < 10
    · have X := Lib.hid (show Lib.decDigits n = [UInt8.ofNat (48 + n % 10)] by rw [decB_small h, Nat.mod_eq_of_lt h])
      clear ih
      go_enter Tryz.func7, Tryz.ntmps7
      go_wp2
      go_ret
      exact ⟨ret_str (by rw [X.out, hd.out]), rfl⟩
    · have X := Lib.hid (decB_big h)
      have hL : (Lib.decDigits (n / 10)).length ≤ 11 := decB_len (n / 10) 10 (by omega)
      have hI := Lib.hid (ih (n / 10) (by omega) (by omega))
      clear ih
      generalize Lib.decDigits (n / 10) = D at *
      go_enter Tryz.func7, Tryz.ntmps7
      go_wp2_with fail
      refine (hI.out _).mono ?_
      rintro e w' ⟨rfl, rfl⟩
      go_wp2
      go_ret
      exact ⟨ret_str (by rw [X.out, ← hd.out, show n % 10 + 1 - n % 10 = 1 by omega]), rfl⟩
end Go.Proofs.YtkdplkhnkimhpaaGreatDoor
namespace Go.Proofs.YtkdplkhnkimhpaaGreatDoor
open Go.RowKit

theorem oct493 : octB 493 = [55, 53, 53] := by
  rw [octB_big (by decide), octB_big (by decide), octB_small (by decide)]; rfl
theorem rd_tree (w : World) (d m : Int) (data tg : List UInt8) (t : TypeId) : Rd (w.alloc (.cells #[.string (S [100]), .int .i64 1, .int .i64 d, .string (S []), .string (S [100, 47, 102]), .int .i64 2, .int .i64 m, .string (S data), .string (S [100, 47, 108]), .int .i64 3, .int .i64 0, .string (S tg)] t)) (some ⟨w.heap.size, 0, none⟩) (ents (told d m data tg)) :=
  rd_alloc w (ents (told d m data tg)) t
/-- the texts whose digests are put -/
def text1 (m : Nat) (data : List UInt8) : List UInt8 := 102 :: 105 :: 108 :: 101 :: 32 :: (octB m ++ 32 :: (Lib.decDigits data.length ++ 10 :: data))
def text2 (tg : List UInt8) : List UInt8 := 108 :: 105 :: 110 :: 107 :: 32 :: tg
def text3 (d : Nat) (f1 f2 : List UInt8) : List UInt8 := 100 :: 105 :: 114 :: 32 :: (octB d ++ 10 :: 102 :: 32 :: (f1 ++ 10 :: 108 :: 32 :: (f2 ++ [10])))
def text4 (f3 : List UInt8) : List UInt8 := 100 :: 105 :: 114 :: 32 :: 55 :: 53 :: 53 :: 10 :: 100 :: 32 :: (f3 ++ [10])
theorem told_texts (d m : Nat) (data tg : List UInt8) : sumT (told d m data tg) = shaB (text4 (shaB (text3 d (shaB (text1 m data)) (shaB (text2 tg))))) := by
  rw [told_sum]
  have e1 : fileT (m : Int) data = text1 m data := by simp [fileT, text1]
  have e2 : linkT tg = text2 tg := by simp [linkT, text2]
  rw [e1, e2]
  have e3 : ∀ f1 f2 : List UInt8, headT (d : Int) ++ (lineT [102] f1 ++ lineT [108] f2) = text3 d f1 f2 := by intro f1 f2; simp [headT, lineT, text3]
  rw [e3]
  have e4 : ∀ f3 : List UInt8, headT 493 ++ lineT [100] f3 = text4 f3 := by
    intro f3
    have : headT 493 = [100, 105, 114, 32] ++ (octB 493 ++ [10]) := rfl
    rw [this, oct493]; simp [lineT, text4]
  rw [e4]
set_option maxRecDepth 100000 in
set_option maxHeartbeats 8000000 in
theorem told_any (dir mode target : Int) (data : List UInt8) (w : World) (hw : Std w) (hg : ErrT w) (ht : Tabs w) (h1 : -9223372036854775808 ≤ dir ∧ dir ≤ 9223372036854775807) (h2 : -9223372036854775808 ≤ mode ∧ mode ≤ 9223372036854775807) (h3 : -9223372036854775808 ≤ target ∧ target ≤ 9223372036854775807) (hd : data.length ≤ maxLen) :
    Calls Tryz.prog 3 #[.int .i64 dir, .int .i64 mode, .string (S data), .int .i64 target] w fun e w' => e = .returned (.bool true) ∧ Below w.heap.size w w' := by
  have HW := Lib.hid hw
  have HG := Lib.hid hg
  have HT := Lib.hid ht
  have HBg := Lib.hid (begun_any w ht)
  have P1 := Lib.hid (fun wx => pickK_any dir 512 wx (by decide) (by decide) h1.1 h1.2)
  have P2 := Lib.hid (fun wx => pickK_any mode 512 wx (by decide) (by decide) h2.1 h2.2)
  have P3 := Lib.hid (fun wx => pickK_any target 1000 wx (by decide) (by decide) h3.1 h3.2)
  clear hw hg ht h1 h2 h3
  go_enter Tryz.func3, Tryz.ntmps3
  go_wp2_with fail
  refine HBg.out.mono ?_
  rintro e w1 ⟨sb, D, rfl, hs⟩
  have HS1 := Lib.hid hs
  clear hs HBg
  by_cases hlen : data.length ≤ 4096
  · have hle : ¬ (4096 : Int) < (data.length : Int) := by omega
    go_wp2_with fail
    refine (P1.out _).mono ?_
    rintro e u1 ⟨⟨dN, rfl, hdN⟩, rfl⟩
    go_wp2_with fail
    refine (P2.out _).mono ?_
    rintro e u2 ⟨⟨mN, rfl, hmN⟩, rfl⟩
    go_wp2_with fail
    refine (P3.out _).mono ?_
    rintro e u3 ⟨⟨kN, rfl, hkN⟩, rfl⟩
    have hdk : (Lib.decDigits kN).length ≤ 3 := decB_len kN 2 (by omega)
    have HTg := Lib.hid (told_target kN hkN)
    have HDk := Lib.hid (fun wx => decK_any kN (by omega) wx)
    generalize Lib.decDigits kN = Dk at hdk HTg HDk
    go_wp2_with fail
    refine (HDk.out _).mono ?_
    rintro e u4 ⟨rfl, rfl⟩
    have hbA : Below w1.heap.size w1 (w1.alloc (.cells #[.string (S [100]), .int .i64 1, .int .i64 (dN : Int), .string (S []), .string (S [100, 47, 102]), .int .i64 2, .int .i64 (mN : Int), .string (S data), .string (S [100, 47, 108]), .int .i64 3, .int .i64 0, .string (S (116 :: Dk))] 27)) := (Below.refl _ _).alloc (Nat.le_refl _) _
    have HRd := Lib.hid (rd_tree w1 (dN : Int) (mN : Int) data (116 :: Dk) 27)
    have HSA := Lib.hid (HS1.out.after hbA)
    have HF := Lib.hid (told_first (d := (dN : Int)) (m := (mN : Int)) (data := data) (tg := 116 :: Dk) (by omega) (by omega) hlen HTg.out)
    have HSm := Lib.hid (sumPl_any (told (dN : Int) (mN : Int) data (116 :: Dk)) (some ⟨w1.heap.size, 0, none⟩) 3 _ (HW.out.below HSA.out.below) (HG.out.below HSA.out.below) (HT.out.below HSA.out.below) HRd.out (by show 3 ≤ _; decide) (fun e he => by
      have he' : e = ⟨pD, 1, (dN : Int), []⟩ ∨ e = ⟨pF, 2, (mN : Int), data⟩ ∨ e = ⟨pL, 3, 0, 116 :: Dk⟩ := by simpa [told] using he
      rcases he' with rfl | rfl | rfl
      · exact ⟨by show (1 : Nat) ≤ _; decide, by show (0 : Nat) ≤ _; decide⟩
      · exact ⟨by show pF.length ≤ _; decide, by show data.length ≤ _; omega⟩
      · exact ⟨by show pL.length ≤ _; decide, by simp; omega⟩) (-1) HF.out)
    have HX := Lib.hid (told_texts dN mN data (116 :: Dk))
    rw [show sumAll (told (dN : Int) (mN : Int) data (116 :: Dk)) (-1) = (sumT (told (dN : Int) (mN : Int) data (116 :: Dk)), 0, -1) by unfold sumAll; rw [if_neg (by decide)]] at HSm
    rw [show (told (dN : Int) (mN : Int) data (116 :: Dk)).length = 3 from rfl] at HSm
    generalize sumT (told (dN : Int) (mN : Int) data (116 :: Dk)) = all0 at HSm HX
    clear hbA HF HRd HDk HTg P1 P2 P3
    go_upto_region 10 with fail
    generalize hwA : w1.alloc (.cells #[.string (S [100]), .int .i64 1, .int .i64 (dN : Int), .string (S []), .string (S [100, 47, 102]), .int .i64 2, .int .i64 (mN : Int), .string (S data), .string (S [100, 47, 108]), .int .i64 3, .int .i64 0, .string (S (116 :: Dk))] 27) = wA at HSm HSA
    try rw [hwA]
    clear hwA
    have hol : (octB mN).length ≤ 11 := octB_len mN 10 (by omega)
    have hod : (octB dN).length ≤ 11 := octB_len dN 10 (by omega)
    have hdc : (Lib.decDigits data.length).length ≤ 11 := decB_len data.length 10 (by omega)
    have HOm := Lib.hid (fun wx => octK_any mN (by omega) wx)
    have HOd := Lib.hid (fun wx => octK_any dN (by omega) wx)
    have HDc := Lib.hid (fun wx => decK_any data.length (by omega) wx)
    have t1e := Lib.hid (show text1 mN data = 102 :: 105 :: 108 :: 101 :: 32 :: (octB mN ++ 32 :: (Lib.decDigits data.length ++ 10 :: data)) from rfl)
    have t3e := Lib.hid (fun f1 f2 => show text3 dN f1 f2 = 100 :: 105 :: 114 :: 32 :: (octB dN ++ 10 :: 102 :: 32 :: (f1 ++ 10 :: 108 :: 32 :: (f2 ++ [10]))) from rfl)
    generalize octB mN = Om at *
    generalize octB dN = Od at *
    generalize Lib.decDigits data.length = Dc at *
    go_wp2_with fail
    refine HSm.out.mono ?_
    rintro e w2 ⟨rfl, hb2⟩
    have HS2 := Lib.hid (HSA.out.after hb2)
    clear hb2 HSm HSA
    go_wp2_with fail
    refine (HOm.out _).mono ?_
    rintro e u5 ⟨rfl, rfl⟩
    go_wp2_with fail
    refine (HDc.out _).mono ?_
    rintro e u6 ⟨rfl, rfl⟩
    obtain ⟨T1, hT1⟩ : ∃ T1, text1 mN data = T1 := ⟨_, rfl⟩
    have hl1 : T1.length ≤ 5000 := by rw [← hT1, t1e.out]; simp; omega
    have HP1 := Lib.hid (putP_any HS2.out HT.out (by decide) (by decide) T1 hl1)
    have hf1 := shaB_len T1
    rw [hT1] at HX
    generalize shaB T1 = f1 at HP1 hf1 HX
    generalize putD D T1 = D1 at HP1
    rw [← hT1, t1e.out] at HP1
    clear hT1 hl1 t1e HOm HDc
    go_wp2_with fail
    refine HP1.out.mono ?_
    rintro e w3 ⟨rfl, hs3⟩
    have HS3 := Lib.hid hs3
    clear hs3 HS2 HP1
    obtain ⟨T2, hT2⟩ : ∃ T2, text2 (116 :: Dk) = T2 := ⟨_, rfl⟩
    have hl2 : T2.length ≤ 5000 := by rw [← hT2]; simp [text2]; omega
    have HP2 := Lib.hid (putP_any HS3.out HT.out (by decide) (by decide) T2 hl2)
    have hf2 := shaB_len T2
    rw [hT2] at HX
    generalize shaB T2 = f2 at HP2 hf2 HX
    generalize putD D1 T2 = D2 at HP2
    rw [← hT2, text2] at HP2
    clear hT2 hl2
    go_wp2_with fail
    refine HP2.out.mono ?_
    rintro e w4 ⟨rfl, hs4⟩
    have HS4 := Lib.hid hs4
    clear hs4 HS3 HP2
    go_wp2_with fail
    refine (HOd.out _).mono ?_
    rintro e u7 ⟨rfl, rfl⟩
    obtain ⟨T3, hT3⟩ : ∃ T3, text3 dN f1 f2 = T3 := ⟨_, rfl⟩
    have hl3 : T3.length ≤ 5000 := by rw [← hT3, t3e.out]; simp; omega
    have HP3 := Lib.hid (putP_any HS4.out HT.out (by decide) (by decide) T3 hl3)
    have hf3 := shaB_len T3
    rw [hT3] at HX
    generalize shaB T3 = f3 at HP3 hf3 HX
    generalize putD D2 T3 = D3 at HP3
    rw [← hT3, t3e.out] at HP3
    clear hT3 hl3 HOd t3e
    go_wp2_with fail
    refine HP3.out.mono ?_
    rintro e w5 ⟨rfl, hs5⟩
    have HS5 := Lib.hid hs5
    clear hs5 HS4 HP3
    obtain ⟨T4, hT4⟩ : ∃ T4, text4 f3 = T4 := ⟨_, rfl⟩
    have hl4 : T4.length ≤ 5000 := by rw [← hT4]; simp [text4]; omega
    have HP4 := Lib.hid (putP_any HS5.out HT.out (by decide) (by decide) T4 hl4)
    have hf4 := shaB_len T4
    rw [hT4] at HX
    generalize shaB T4 = f4 at HP4 hf4 HX
    generalize putD D3 T4 = D4 at HP4
    rw [← hT4, text4] at HP4
    clear hT4 hl4
    obtain rfl : all0 = f4 := HX.out
    clear HX
    go_wp2_with fail
    refine HP4.out.mono ?_
    rintro e w6 ⟨rfl, hs6⟩
    have HS6 := Lib.hid hs6
    clear hs6 HS5 HP4
    go_wp2
    go_ret
    exact ⟨rfl, HS6.out.below⟩
  · have hle2 : (4096 : Int) < (data.length : Int) := by omega
    have hle3 : (4096 : Int) ≤ (data.length : Int) := by omega
    obtain ⟨data2, hdt⟩ : ∃ x, data.take 4096 = x := ⟨_, rfl⟩
    replace hlen : data2.length ≤ 4096 := by rw [← hdt, List.length_take]; omega
    go_upto_region 6 with fail
    try rw [hdt]
    clear hdt hle2 hle3
    go_wp2_with fail
    refine (P1.out _).mono ?_
    rintro e u1 ⟨⟨dN, rfl, hdN⟩, rfl⟩
    go_wp2_with fail
    refine (P2.out _).mono ?_
    rintro e u2 ⟨⟨mN, rfl, hmN⟩, rfl⟩
    go_wp2_with fail
    refine (P3.out _).mono ?_
    rintro e u3 ⟨⟨kN, rfl, hkN⟩, rfl⟩
    have hdk : (Lib.decDigits kN).length ≤ 3 := decB_len kN 2 (by omega)
    have HTg := Lib.hid (told_target kN hkN)
    have HDk := Lib.hid (fun wx => decK_any kN (by omega) wx)
    generalize Lib.decDigits kN = Dk at hdk HTg HDk
    go_wp2_with fail
    refine (HDk.out _).mono ?_
    rintro e u4 ⟨rfl, rfl⟩
    have hbA : Below w1.heap.size w1 (w1.alloc (.cells #[.string (S [100]), .int .i64 1, .int .i64 (dN : Int), .string (S []), .string (S [100, 47, 102]), .int .i64 2, .int .i64 (mN : Int), .string (S data2), .string (S [100, 47, 108]), .int .i64 3, .int .i64 0, .string (S (116 :: Dk))] 27)) := (Below.refl _ _).alloc (Nat.le_refl _) _
    have HRd := Lib.hid (rd_tree w1 (dN : Int) (mN : Int) data2 (116 :: Dk) 27)
    have HSA := Lib.hid (HS1.out.after hbA)
    have HF := Lib.hid (told_first (d := (dN : Int)) (m := (mN : Int)) (data := data2) (tg := 116 :: Dk) (by omega) (by omega) hlen HTg.out)
    have HSm := Lib.hid (sumPl_any (told (dN : Int) (mN : Int) data2 (116 :: Dk)) (some ⟨w1.heap.size, 0, none⟩) 3 _ (HW.out.below HSA.out.below) (HG.out.below HSA.out.below) (HT.out.below HSA.out.below) HRd.out (by show 3 ≤ _; decide) (fun e he => by
      have he' : e = ⟨pD, 1, (dN : Int), []⟩ ∨ e = ⟨pF, 2, (mN : Int), data2⟩ ∨ e = ⟨pL, 3, 0, 116 :: Dk⟩ := by simpa [told] using he
      rcases he' with rfl | rfl | rfl
      · exact ⟨by show (1 : Nat) ≤ _; decide, by show (0 : Nat) ≤ _; decide⟩
      · exact ⟨by show pF.length ≤ _; decide, by show data2.length ≤ _; omega⟩
      · exact ⟨by show pL.length ≤ _; decide, by simp; omega⟩) (-1) HF.out)
    have HX := Lib.hid (told_texts dN mN data2 (116 :: Dk))
    rw [show sumAll (told (dN : Int) (mN : Int) data2 (116 :: Dk)) (-1) = (sumT (told (dN : Int) (mN : Int) data2 (116 :: Dk)), 0, -1) by unfold sumAll; rw [if_neg (by decide)]] at HSm
    rw [show (told (dN : Int) (mN : Int) data2 (116 :: Dk)).length = 3 from rfl] at HSm
    generalize sumT (told (dN : Int) (mN : Int) data2 (116 :: Dk)) = all0 at HSm HX
    clear hbA HF HRd HDk HTg P1 P2 P3
    go_upto_region 10 with fail
    generalize hwA : w1.alloc (.cells #[.string (S [100]), .int .i64 1, .int .i64 (dN : Int), .string (S []), .string (S [100, 47, 102]), .int .i64 2, .int .i64 (mN : Int), .string (S data2), .string (S [100, 47, 108]), .int .i64 3, .int .i64 0, .string (S (116 :: Dk))] 27) = wA at HSm HSA
    try rw [hwA]
    clear hwA
    have hol : (octB mN).length ≤ 11 := octB_len mN 10 (by omega)
    have hod : (octB dN).length ≤ 11 := octB_len dN 10 (by omega)
    have hdc : (Lib.decDigits data2.length).length ≤ 11 := decB_len data2.length 10 (by omega)
    have HOm := Lib.hid (fun wx => octK_any mN (by omega) wx)
    have HOd := Lib.hid (fun wx => octK_any dN (by omega) wx)
    have HDc := Lib.hid (fun wx => decK_any data2.length (by omega) wx)
    have t1e := Lib.hid (show text1 mN data2 = 102 :: 105 :: 108 :: 101 :: 32 :: (octB mN ++ 32 :: (Lib.decDigits data2.length ++ 10 :: data2)) from rfl)
    have t3e := Lib.hid (fun f1 f2 => show text3 dN f1 f2 = 100 :: 105 :: 114 :: 32 :: (octB dN ++ 10 :: 102 :: 32 :: (f1 ++ 10 :: 108 :: 32 :: (f2 ++ [10]))) from rfl)
    generalize octB mN = Om at *
    generalize octB dN = Od at *
    generalize Lib.decDigits data2.length = Dc at *
    go_wp2_with fail
    refine HSm.out.mono ?_
    rintro e w2 ⟨rfl, hb2⟩
    have HS2 := Lib.hid (HSA.out.after hb2)
    clear hb2 HSm HSA
    go_wp2_with fail
    refine (HOm.out _).mono ?_
    rintro e u5 ⟨rfl, rfl⟩
    go_wp2_with fail
    refine (HDc.out _).mono ?_
    rintro e u6 ⟨rfl, rfl⟩
    obtain ⟨T1, hT1⟩ : ∃ T1, text1 mN data2 = T1 := ⟨_, rfl⟩
    have hl1 : T1.length ≤ 5000 := by rw [← hT1, t1e.out]; simp; omega
    have HP1 := Lib.hid (putP_any HS2.out HT.out (by decide) (by decide) T1 hl1)
    have hf1 := shaB_len T1
    rw [hT1] at HX
    generalize shaB T1 = f1 at HP1 hf1 HX
    generalize putD D T1 = D1 at HP1
    rw [← hT1, t1e.out] at HP1
    clear hT1 hl1 t1e HOm HDc
    go_wp2_with fail
    refine HP1.out.mono ?_
    rintro e w3 ⟨rfl, hs3⟩
    have HS3 := Lib.hid hs3
    clear hs3 HS2 HP1
    obtain ⟨T2, hT2⟩ : ∃ T2, text2 (116 :: Dk) = T2 := ⟨_, rfl⟩
    have hl2 : T2.length ≤ 5000 := by rw [← hT2]; simp [text2]; omega
    have HP2 := Lib.hid (putP_any HS3.out HT.out (by decide) (by decide) T2 hl2)
    have hf2 := shaB_len T2
    rw [hT2] at HX
    generalize shaB T2 = f2 at HP2 hf2 HX
    generalize putD D1 T2 = D2 at HP2
    rw [← hT2, text2] at HP2
    clear hT2 hl2
    go_wp2_with fail
    refine HP2.out.mono ?_
    rintro e w4 ⟨rfl, hs4⟩
    have HS4 := Lib.hid hs4
    clear hs4 HS3 HP2
    go_wp2_with fail
    refine (HOd.out _).mono ?_
    rintro e u7 ⟨rfl, rfl⟩
    obtain ⟨T3, hT3⟩ : ∃ T3, text3 dN f1 f2 = T3 := ⟨_, rfl⟩
    have hl3 : T3.length ≤ 5000 := by rw [← hT3, t3e.out]; simp; omega
    have HP3 := Lib.hid (putP_any HS4.out HT.out (by decide) (by decide) T3 hl3)
    have hf3 := shaB_len T3
    rw [hT3] at HX
    generalize shaB T3 = f3 at HP3 hf3 HX
    generalize putD D2 T3 = D3 at HP3
    rw [← hT3, t3e.out] at HP3
    clear hT3 hl3 HOd t3e
    go_wp2_with fail
    refine HP3.out.mono ?_
    rintro e w5 ⟨rfl, hs5⟩
    have HS5 := Lib.hid hs5
    clear hs5 HS4 HP3
    obtain ⟨T4, hT4⟩ : ∃ T4, text4 f3 = T4 := ⟨_, rfl⟩
    have hl4 : T4.length ≤ 5000 := by rw [← hT4]; simp [text4]; omega
    have HP4 := Lib.hid (putP_any HS5.out HT.out (by decide) (by decide) T4 hl4)
    have hf4 := shaB_len T4
    rw [hT4] at HX
    generalize shaB T4 = f4 at HP4 hf4 HX
    generalize putD D3 T4 = D4 at HP4
    rw [← hT4, text4] at HP4
    clear hT4 hl4
    obtain rfl : all0 = f4 := HX.out
    clear HX
    go_wp2_with fail
    refine HP4.out.mono ?_
    rintro e w6 ⟨rfl, hs6⟩
    have HS6 := Lib.hid hs6
    clear hs6 HS5 HP4
    go_wp2
    go_ret
    exact ⟨rfl, HS6.out.below⟩
end Go.Proofs.YtkdplkhnkimhpaaGreatDoor
