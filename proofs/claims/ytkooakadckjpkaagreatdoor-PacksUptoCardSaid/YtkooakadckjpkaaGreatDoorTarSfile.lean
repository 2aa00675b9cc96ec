/-
  The program: an archive's entry: file.
-/
import Derived.Test.YtkooakadckjpkaaGreatDoorTarR
namespace Go.Proofs.YtkooakadckjpkaaGreatDoor
open Go.RowKit

set_option maxRecDepth 100000 in
set_option maxHeartbeats 8000000 in
theorem entryP_file (p : List UInt8) (m : Nat) (w : World) (hF : Fit ⟨p, 2, m, []⟩) (hm : m ≤ 511) (hp : p.length ≤ 170) (hS : Std w) (hT : Tz w) :
    Calls Tryz.prog 31 #[.agg #[.string (S p), .int .i64 2, .int .i64 m, .string (S [])]] w (EntOut (entB ⟨p, 2, m, []⟩) w) := by
  obtain ⟨hnam, hE⟩ := elems_name hF
  have hnl := name_len hF
  rw [hnam] at hnl
  have hsl := split_len hE hnl
  rw [← hnam] at hsl
  have hN := hnam
  have HE := Lib.hid hE
  have HS := Lib.hid hS
  have HT := Lib.hid hT
  have hom := octB_len m 3 (by omega)
  have ho0 := octB_len 0 0 (by omega)
  have h1 := (Below.refl w.heap.size w).alloc (Nat.le_refl _) (.cells #[.string (S p), .int .i64 2, .int .i64 m, .string (S [])] 36)
  have C1 := Cell4.new w ⟨p, 2, m, []⟩ 36
  have H0 := Hdr.new (w.alloc (.cells #[.string (S p), .int .i64 2, .int .i64 m, .string (S [])] 36)) _ zeroHdr
  have BW := h1.alloc (by simp) (.cells Tryz.zeroCells85 85)
  have C2 := C1.below ((Below.refl _ _).alloc (Nat.le_refl _) (.cells Tryz.zeroCells85 85))
  rw [show (w.alloc (.cells #[.string (S p), .int .i64 2, .int .i64 m, .string (S [])] 36)).heap.size = w.heap.size + 1 by simp] at H0
  have XE := Lib.hid (head_fields ⟨p, 2, m, []⟩)
  have XS := Lib.hid (sumB_fields ⟨p, 2, m, []⟩)
  have HN := Lib.hid (show p = joinB (elemsB ⟨p, 2, m, []⟩) from hN)
  have HJ := Lib.hid (show p = namB ⟨p, 2, m, []⟩ from rfl)
  clear hN
  clear hE hS hT h1 C1 hnam
  go_enter Tryz.func31, Tryz.ntmps31
  go_wp2_with fail
  generalize hW2 : (w.alloc (.cells #[.string (S p), .int .i64 2, .int .i64 m, .string (S [])] 36)).alloc (.cells Tryz.zeroCells85 85) = w2 at H0 BW C2 ⊢
  clear hW2
  have HLT := Lib.hid H0.lt
  replace H0 := Lib.hid H0
  replace C2 := Lib.hid C2
  replace BW := Lib.hid BW
  have BC := Lib.hid (Below.refl (w.heap.size + 1) w2)
  have hNM := name_any (w.heap.size + 1) _ _ _ HE.out hnl H0.out (HS.out.below BW.out)
  rw [← HN.out] at hNM
  refine hNM.mono ?_
  rintro e w3 ⟨rfl, h3, b3⟩
  rw [HJ.out] at h3
  clear hNM
  have H3 := Lib.hid h3
  have BC3 := Lib.hid (BC.out.trans b3)
  have BW3 := Lib.hid (BW.out.trans (b3.mono (Nat.le_succ _)))
  clear h3 b3 H0 BW BC HE HN HJ HLT
  have c3m : w3.cell? ⟨w.heap.size, 2, none⟩ = some (.int .i64 m) := (BC3.out.cell (p := ⟨w.heap.size, 2, none⟩) (Nat.lt_succ_self _)).trans C2.out.2.2.1
  go_wp2_with fail
  refine (num_any (w.heap.size + 1) _ 100 7 m _ H3.out (HT.out.below BW3.out) (by omega) (by omega) (by omega) (by omega)).mono ?_
  rintro e w4 ⟨rfl, h4, b4⟩
  have H4 := Lib.hid h4
  have BW4 := Lib.hid (BW3.out.trans (b4.mono (Nat.le_succ _)))
  clear h4 b4 H3 BW3 c3m
  go_wp2_with fail
  refine (num_any (w.heap.size + 1) _ 108 7 0 _ H4.out (HT.out.below BW4.out) (by omega) (by omega) (by omega) (by omega)).mono ?_
  rintro e w5 ⟨rfl, h5, b5⟩
  have H5 := Lib.hid h5
  have BW5 := Lib.hid (BW4.out.trans (b5.mono (Nat.le_succ _)))
  clear h5 b5 H4 BW4
  go_wp2_with fail
  refine (num_any (w.heap.size + 1) _ 116 7 0 _ H5.out (HT.out.below BW5.out) (by omega) (by omega) (by omega) (by omega)).mono ?_
  rintro e w6 ⟨rfl, h6, b6⟩
  have H6 := Lib.hid h6
  have BW6 := Lib.hid (BW5.out.trans (b6.mono (Nat.le_succ _)))
  clear h6 b6 H5 BW5
  go_wp2_with fail
  refine (num_any (w.heap.size + 1) _ 124 11 0 _ H6.out (HT.out.below BW6.out) (by omega) (by omega) (by omega) (by omega)).mono ?_
  rintro e w7 ⟨rfl, h7, b7⟩
  have H7 := Lib.hid h7
  have BW7 := Lib.hid (BW6.out.trans (b7.mono (Nat.le_succ _)))
  clear h7 b7 H6 BW6
  go_wp2_with fail
  refine (num_any (w.heap.size + 1) _ 136 11 0 _ H7.out (HT.out.below BW7.out) (by omega) (by omega) (by omega) (by omega)).mono ?_
  rintro e w8 ⟨rfl, h8, b8⟩
  have H8 := Lib.hid h8
  have BW8 := Lib.hid (BW7.out.trans (b8.mono (Nat.le_succ _)))
  clear h8 b8 H7 BW7
  go_wp2_with fail
  refine (text_any (w.heap.size + 1) _ 148 [32, 32, 32, 32, 32, 32, 32, 32] _ H8.out (by first | omega | decide) (by omega)).mono ?_
  rintro e w9 ⟨rfl, hw9⟩
  have h9 := H8.out.set 148 [32, 32, 32, 32, 32, 32, 32, 32] (by first | omega | decide)
  have b9 := below_setCells (Nat.le_refl (w.heap.size + 1)) (List.map (fun x : UInt8 => Value.int .u8 (x.toNat : Int)) [32, 32, 32, 32, 32, 32, 32, 32]) 148 _ (Below.refl _ w8)
  rw [← hw9] at h9 b9
  clear hw9
  have H9 := Lib.hid h9
  have BW9 := Lib.hid (BW8.out.trans (b9.mono (Nat.le_succ _)))
  clear h9 b9 H8 BW8
  have c156 := H9.out.cell 156 (by omega)
  have f156 := H9.out.2.frozen 156
  go_upto_region 24 with fail
  have h10 := H9.out.set1 156 48 (by omega)
  have b10 := (Below.refl (w.heap.size + 1) w9).setCell (p := ⟨w.heap.size + 1, 156, none⟩) (Nat.le_refl _) (.int .u8 ((48 : UInt8).toNat : Int))
  rw [show ((48 : UInt8).toNat : Int) = 48 from rfl] at h10 b10
  clear c156 f156
  generalize hw10 : w9.setCell ⟨w.heap.size + 1, 156, none⟩ (.int .u8 48) = w10 at h10 b10 ⊢
  clear hw10
  have H10 := Lib.hid h10
  have BW10 := Lib.hid (BW9.out.trans (b10.mono (Nat.le_succ _)))
  clear h10 b10 H9 BW9
  go_wp2_with fail
  refine (text_any (w.heap.size + 1) _ 157 [] _ H10.out (by first | omega | decide) (by omega)).mono ?_
  rintro e w11 ⟨rfl, hw11⟩
  have h11 := H10.out.set 157 [] (by first | omega | decide)
  have b11 := below_setCells (Nat.le_refl (w.heap.size + 1)) (List.map (fun x : UInt8 => Value.int .u8 (x.toNat : Int)) []) 157 _ (Below.refl _ w10)
  rw [← hw11] at h11 b11
  clear hw11
  have H11 := Lib.hid h11
  have BW11 := Lib.hid (BW10.out.trans (b11.mono (Nat.le_succ _)))
  clear h11 b11 H10 BW10
  go_wp2_with fail
  refine (text_any (w.heap.size + 1) _ 257 [117, 115, 116, 97, 114, 0, 48, 48] _ H11.out (by first | omega | decide) (by omega)).mono ?_
  rintro e w12 ⟨rfl, hw12⟩
  have h12 := H11.out.set 257 [117, 115, 116, 97, 114, 0, 48, 48] (by first | omega | decide)
  have b12 := below_setCells (Nat.le_refl (w.heap.size + 1)) (List.map (fun x : UInt8 => Value.int .u8 (x.toNat : Int)) [117, 115, 116, 97, 114, 0, 48, 48]) 257 _ (Below.refl _ w11)
  rw [← hw12] at h12 b12
  clear hw12
  have H12 := Lib.hid h12
  have BW12 := Lib.hid (BW11.out.trans (b12.mono (Nat.le_succ _)))
  clear h12 b12 H11 BW11
  go_wp2_with fail
  refine (num_any (w.heap.size + 1) _ 329 7 0 _ H12.out (HT.out.below BW12.out) (by omega) (by omega) (by omega) (by omega)).mono ?_
  rintro e w13 ⟨rfl, h13, b13⟩
  have H13 := Lib.hid h13
  have BW13 := Lib.hid (BW12.out.trans (b13.mono (Nat.le_succ _)))
  clear h13 b13 H12 BW12
  go_wp2_with fail
  refine (num_any (w.heap.size + 1) _ 337 7 0 _ H13.out (HT.out.below BW13.out) (by omega) (by omega) (by omega) (by omega)).mono ?_
  rintro e w14 ⟨rfl, h14, b14⟩
  have H14 := Lib.hid h14
  have BW14 := Lib.hid (BW13.out.trans (b14.mono (Nat.le_succ _)))
  clear h14 b14 H13 BW13
  have HL : Hdr w14 (w.heap.size + 1) (stepB (splB (namB ⟨p, 2, m, []⟩)).2 (splB (namB ⟨p, 2, m, []⟩)).1 m 0 48 []) := H14.out
  rw [stepB_fields _ _ _ _ _ _ hsl.2 hsl.1 (by omega) (by omega) (by first | omega | decide)] at HL
  have HL2 := Lib.hid HL
  have XS2 := Lib.hid (show sumB (fieldsB (splB (namB ⟨p, 2, m, []⟩)).2 (splB (namB ⟨p, 2, m, []⟩)).1 m 0 48 [] (List.replicate 8 32)).flatten = totB ⟨p, 2, m, []⟩ from XS.out)
  have XT := Lib.hid (fun hv => stepB_sum (splB (namB ⟨p, 2, m, []⟩)).2 (splB (namB ⟨p, 2, m, []⟩)).1 m 0 48 [] (totB ⟨p, 2, m, []⟩) hsl.2 (by omega) (by omega) hv)
  have XE2 := Lib.hid (show (fieldsB (splB (namB ⟨p, 2, m, []⟩)).2 (splB (namB ⟨p, 2, m, []⟩)).1 m 0 48 [] (digB (totB ⟨p, 2, m, []⟩) 6 ++ [32])).flatten = headB ⟨p, 2, m, []⟩ ++ digB (totB ⟨p, 2, m, []⟩) 6 ++ [32] ++ tailB ⟨p, 2, m, []⟩ from XE.out)
  clear H14 XS XE HL hsl
  generalize (fieldsB (splB (namB ⟨p, 2, m, []⟩)).2 (splB (namB ⟨p, 2, m, []⟩)).1 m 0 48 [] (List.replicate 8 32)).flatten = F at HL2 XS2 XT
  obtain ⟨hFl, cs, hcs, hsz, hget⟩ := HL2.out
  have hsum := sumB_le F
  rw [hFl] at hsum
  have Hcs := Lib.hid hcs
  have Hget := Lib.hid hget
  have Hsz := Lib.hid hsz
  have HFl := Lib.hid hFl
  clear hcs hget hsz hFl
  go_wp2_with (refine wpList_load_row rfl _ _ rfl (w.heap.size + 1) rfl _ cs (0, 0) _ Hcs.out Tryz.underlying83 rfl (by rw [Hsz.out]; kernel_rfl) ?_)
  go_loop [10, 84] (fun s i => ∃ k : Nat, k ≤ 512 ∧ i = .int .i64 k ∧ s = .int .i64 (sumB (F.take k) : Nat)) (fun _ i => 512 - (intOf i).toNat)
  case atStart => exact ⟨0, Nat.zero_le _, rfl, by simp [sumB]⟩
  case round =>
    obtain ⟨k, hk, rfl, rfl⟩ := hrel
    by_cases hlt : k < 512
    · have hFk : k < F.length := by rw [HFl.out]; exact hlt
      have hs1 := Lib.hid (sumB_take F k hFk)
      have hs2 := sumB_le (F.take k)
      have hs3 : (F.take k).length ≤ 512 := by rw [List.length_take]; omega
      have hck := Hget.out k hlt
      rw [List.getD_eq_getElem?_getD, List.getElem?_eq_getElem hFk, Option.getD_some] at hck
      have hs4 := F[k].toNat_lt
      have hix := index512 w14 cs k _ hlt hck
      clear hck
      go_wp2
      go_round
      case rel => exact ⟨k + 1, by omega, by go_num, int_eq (by have := hs1.out; omega)⟩
      case measure => simp [intOf]; omega
    · obtain rfl : k = 512 := by omega
      have ht512 : F.take 512 = F := List.take_of_length_le (by rw [HFl.out]; omega)
      rw [ht512, XS2.out]
      rw [XS2.out] at hsum
      clear ht512 hk hlt
      have hot := octB_len (totB ⟨p, 2, m, []⟩) 5 (by omega)
      have XT2 := Lib.hid (XT.out hot)
      generalize hTOT : totB ⟨p, 2, m, []⟩ = tot at *
      have H0 := Lib.hid HL2.out
      go_wp2_with fail
      refine (num_any (w.heap.size + 1) _ 148 6 tot _ H0.out (HT.out.below BW14.out) (by omega) (by omega) (by omega) (by omega)).mono ?_
      rintro e v1 ⟨rfl, h1, b1⟩
      have HV := Lib.hid h1
      have BV := Lib.hid (BW14.out.trans (b1.mono (Nat.le_succ _)))
      clear h1 b1 H0
      have c154 := HV.out.cell 154 (by omega)
      have f154 := HV.out.2.frozen 154
      go_upto_region 36 with fail
      have h2 := HV.out.set1 154 0 (by omega)
      have b2 := BV.out.setCell (p := ⟨w.heap.size + 1, 154, none⟩) (Nat.le_succ _) (.int .u8 ((0 : UInt8).toNat : Int))
      rw [XT2.out, XE2.out] at h2
      rw [show ((0 : UInt8).toNat : Int) = 0 from rfl] at h2 b2
      clear c154 f154 HV BV
      generalize hv2 : v1.setCell ⟨w.heap.size + 1, 154, none⟩ (.int .u8 0) = v2 at h2 b2 ⊢
      have HV := Lib.hid h2
      have BV := Lib.hid b2
      clear hv2 h2 b2 XT2 XE2 XT XS2 BW14 HL2 Hcs Hget Hsz HFl
      have hwh := whole_any v2 (w.heap.size + 1)
      have hst := store_empty v2 (w.heap.size + 1)
      have XEE := Lib.hid (show entB ⟨p, 2, m, []⟩ = headB ⟨p, 2, m, []⟩ ++ digB tot 6 ++ [32] ++ tailB ⟨p, 2, m, []⟩ by
        unfold entB; rw [hTOT]; simp [dataB, filB])
      have hlen := HV.out.1
      go_wp2
      go_loop [13] (fun v => v = .slice (some ⟨w.heap.size + 1, 0, none⟩) 512 512) (fun _ => 0)
      case atStart => rfl
      case round =>
        subst hrel
        go_wp2
        go_ret
        exact ⟨some ⟨w.heap.size + 1, 0, none⟩, 512, by rw [XEE.out, hlen]; rfl, by rw [XEE.out]; exact HV.out.rd, BV.out⟩
end Go.Proofs.YtkooakadckjpkaaGreatDoor
