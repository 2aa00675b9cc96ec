/-
  The document's answer: a change's bytes.
-/
import Derived.Test.YtkooakadckjpkaaGreatDoorTarB
import Derived.Deep.DeepCutAuto
namespace Go.Proofs.YtkooakadckjpkaaGreatDoor
open Go.RowKit

/-- a change that has its place in an archive: bounds -/
def Small (c : Ent) : Prop := c.path.length ≤ 200 ∧ c.data.length ≤ 4096 ∧ 0 ≤ c.mode ∧ c.mode ≤ 511 ∧ (c.kind = 4 → 0 < (partsB c.path).length) ∧ (c.kind = 3 → c.data.length ≤ 100)
theorem inB_len (a b : List UInt8) : (inB a b).length ≤ a.length + b.length + 1 := by
  unfold inB; split <;> simp <;> omega
theorem namB_len (c : Ent) : (namB c).length ≤ 2 * c.path.length + 20 := by
  have h := upB_len c.path
  unfold namB; split
  · simp; omega
  · split
    · have := inB_len (upB c.path).1 ([46, 119, 104, 46] ++ (upB c.path).2); simp only [List.length_append, List.length_cons, List.length_nil] at this; omega
    · split
      · have := inB_len c.path [46, 119, 104, 46, 46, 119, 104, 46, 46, 111, 112, 113]; simp at this; omega
      · omega
theorem splB_len (s : List UInt8) : (splB s).1.length ≤ s.length ∧ (splB s).2.length ≤ s.length := by
  unfold splB; split
  · simp
  · split
    · simp; omega
    · simp
theorem filB_len' (s : List UInt8) (n : Nat) : (filB s n).length ≤ s.length + n := by simp [filB] <;> omega
theorem digB_len' (v n : Nat) : (digB v n).length ≤ (octB v).length + n + 1 := by simp [digB]; omega

set_option maxRecDepth 100000 in
set_option maxHeartbeats 8000000 in
theorem entryR_file (p d : List UInt8) (m : Nat) (w : World) (hp : p.length ≤ 200) (hd : d.length ≤ 4096) (hm : m ≤ 511) :
    Calls Tryz.prog 13 #[.agg #[.string (S p), .int .i64 2, .int .i64 m, .string (S d)]] w fun e w' => e = .returned (.string (S (entB ⟨p, 2, m, d⟩))) ∧ Below w.heap.size w w' := by
  have hb0 := (Below.refl w.heap.size w).alloc (Nat.le_refl _) (.cells #[.string (S p), .int .i64 2, .int .i64 m, .string (S d)] 36)
  have h4 := Lib.hid (Cell4.new w ⟨p, 2, m, d⟩ 36)
  have hN := Lib.hid (fun w => named_any ⟨p, 2, m, d⟩ w (show p.length ≤ 5000 by omega) (by intro h; exact absurd h (by show ¬ (2 : Int) = 4; omega)))
  skip
  have hNl : (namB ⟨p, 2, m, d⟩).length ≤ 2 * p.length + 20 := namB_len ⟨p, 2, m, d⟩
  rw [show Ent.agg ⟨p, 2, m, d⟩ = .agg #[.string (S p), .int .i64 2, .int .i64 m, .string (S d)] from rfl] at hN
  have X1 := Lib.hid (show headB ⟨p, 2, m, d⟩ = filB (splB (namB ⟨p, 2, m, d⟩)).2 100 ++ (digB m 7 ++ (digB 0 7 ++ (digB 0 7 ++ (digB d.length 11 ++ digB 0 11)))) by
    have hdat : dataB ⟨p, 2, m, d⟩ = d := rfl
    unfold headB; rw [hdat]; simp only [List.append_assoc]; rfl)
  have X2 := Lib.hid (show tailB ⟨p, 2, m, d⟩ = [48] ++ (filB [] 100 ++ ([117, 115, 116, 97, 114, 0, 48, 48] ++ (filB [] 64 ++ (digB 0 7 ++ (digB 0 7 ++ (filB (splB (namB ⟨p, 2, m, d⟩)).1 155 ++ filB [] 12)))))) by
    have hlnk : linkB ⟨p, 2, m, d⟩ = [] := rfl
    have hflg : flagB ⟨p, 2, m, d⟩ = 48 := rfl
    unfold tailB; rw [hlnk, hflg]; simp only [List.append_assoc, List.cons_append, List.nil_append])
  have X3 := Lib.hid (show entB ⟨p, 2, m, d⟩ = headB ⟨p, 2, m, d⟩ ++ (digB (totB ⟨p, 2, m, d⟩) 6 ++ ([32] ++ (tailB ⟨p, 2, m, d⟩ ++ (d ++ filB [] ((512 - d.length % 512) % 512))))) by
    have hdat : dataB ⟨p, 2, m, d⟩ = d := rfl
    unfold entB; rw [hdat]; simp only [List.append_assoc, List.nil_append]; try rfl)
  have X4 := Lib.hid (show totB ⟨p, 2, m, d⟩ = 256 + sumB (headB ⟨p, 2, m, d⟩) + sumB (tailB ⟨p, 2, m, d⟩) from rfl)
  go_enter Tryz.func13, Tryz.ntmps13
  go_wp2_with fail
  refine (hN.out _).mono ?_
  rintro e w1 ⟨rfl, hb1⟩
  have hb01 := hb0.trans (hb1.mono hb0.size)
  have c1 := Lib.hid (h4.out.below hb1)
  clear hN h4
  have hS := splB_len (namB ⟨p, 2, m, d⟩)
  generalize hNN : namB ⟨p, 2, m, d⟩ = N at *
  clear hNN
  go_wp2_with fail
  refine (splitR_any N (by omega) _).mono ?_
  rintro e w2 ⟨rfl, hb2⟩
  have hb02 := Lib.hid (hb01.trans (hb2.mono hb01.size))
  obtain ⟨d0, d1, d2, d3⟩ := c1.out.below hb2
  clear c1 hb01 hb1 hb2 hb0
  generalize hq1 : (splB N).1 = q1 at *
  generalize hq2 : (splB N).2 = q2 at *
  clear hq1 hq2
  go_wp2_with fail
  refine (filled_any q2 100 (by omega) (by omega) _).mono ?_
  rintro e w' ⟨rfl, rfl⟩
  have l1 := filB_len' q2 100
  generalize hf1 : filB q2 100 = f1 at *
  clear hf1
  go_wp2_with fail
  refine (digits_any m 7 (by omega) (by omega) (by have := octB_len m 10 (by omega); omega) _).mono ?_
  rintro e w' ⟨rfl, rfl⟩
  have l2 := digB_len' m 7
  have l2' := octB_len m 10 (by omega)
  generalize hf2 : digB m 7 = f2 at *
  clear hf2
  go_wp2_with fail
  refine (digits_any 0 7 (by omega) (by omega) (by have := octB_len 0 10 (by omega); omega) _).mono ?_
  rintro e w' ⟨rfl, rfl⟩
  have l3 := digB_len' 0 7
  have l3' := octB_len 0 10 (by omega)
  generalize hf3 : digB 0 7 = f3 at *
  clear hf3
  go_wp2_with fail
  refine (digits_any d.length 11 (by first | omega | (simp; done) | (simp; omega)) (by omega) (by have := octB_len d.length 10 (by first | omega | (simp; done) | (simp; omega)); omega) _).mono ?_
  rintro e w' ⟨rfl, rfl⟩
  have l4 := digB_len' d.length 11
  have l4' := octB_len d.length 10 (by first | omega | (simp; done) | (simp; omega))
  generalize hf4 : digB d.length 11 = f4 at *
  clear hf4
  go_wp2_with fail
  refine (digits_any 0 11 (by omega) (by omega) (by have := octB_len 0 10 (by omega); omega) _).mono ?_
  rintro e w' ⟨rfl, rfl⟩
  have l5 := digB_len' 0 11
  generalize hf5 : digB 0 11 = f5 at *
  clear hf5
  have lH : (f1 ++ (f2 ++ (f3 ++ (f3 ++ (f4 ++ f5))))).length ≤ 2000 := by simp only [List.length_append]; omega
  generalize hH : headB ⟨p, 2, m, d⟩ = H at *
  go_wp2_with fail
  refine (filled_any [] 100 (by first | omega | (simp; done) | (simp; omega)) (by omega) _).mono ?_
  rintro e w' ⟨rfl, rfl⟩
  have l6 := filB_len' ([] : List UInt8) 100
  generalize hf6 : filB ([] : List UInt8) 100 = f6 at X2 l6 ⊢
  clear hf6
  replace l6 : f6.length ≤ 1000 := by first | omega | (simp only [List.length_nil] at l6; omega)
  go_wp2_with fail
  refine (filled_any [] 64 (by simp) (by omega) _).mono ?_
  rintro e w' ⟨rfl, rfl⟩
  have l7 := filB_len' [] 64
  generalize hf7 : filB [] 64 = f7 at X2 l7 ⊢
  clear hf7
  replace l7 : f7.length ≤ 1000 := by simp only [List.length_nil] at l7; omega
  go_wp2_with fail
  refine (filled_any q1 155 (by omega) (by omega) _).mono ?_
  rintro e w' ⟨rfl, rfl⟩
  have l8 := filB_len' q1 155
  generalize hf8 : filB q1 155 = f8 at X2 l8 ⊢
  clear hf8
  replace l8 : f8.length ≤ 1000 := by first | omega | (simp only [List.length_nil] at l8; omega)
  go_wp2_with fail
  refine (filled_any [] 12 (by simp) (by omega) _).mono ?_
  rintro e w' ⟨rfl, rfl⟩
  have l9 := filB_len' [] 12
  generalize hf9 : filB [] 12 = f9 at X2 l9 ⊢
  clear hf9
  replace l9 : f9.length ≤ 1000 := by simp only [List.length_nil] at l9; omega
  have lT : ([48] ++ (f6 ++ ([117, 115, 116, 97, 114, 0, 48, 48] ++ (f7 ++ (f3 ++ (f3 ++ (f8 ++ f9))))))).length ≤ 5000 := by simp only [List.length_append, List.length_cons, List.length_nil]; omega
  generalize hT : tailB ⟨p, 2, m, d⟩ = T at X2 X3 X4
  have E2 : [48] ++ (f6 ++ ([117, 115, 116, 97, 114, 0, 48, 48] ++ (f7 ++ (f3 ++ (f3 ++ (f8 ++ f9)))))) = T := X2.out.symm
  have E1 : f1 ++ (f2 ++ (f3 ++ (f3 ++ (f4 ++ f5)))) = H := X1.out.symm
  replace lT : T.length ≤ 5000 := by rw [← E2]; exact lT
  replace lH : H.length ≤ 5000 := by rw [← E1]; omega
  simp only [List.cons_append, List.nil_append] at E2
  have E1h := Lib.hid E1
  have E2h := Lib.hid E2
  clear E1 E2 X1 X2
  have hTT := sumB_le T
  go_upto_region 26 with fail
  rw [E1h.out, E2h.out]
  clear E1h E2h
  go_wp2
  go_loop [20, 21] (fun v i => ∃ k : Nat, k ≤ H.length ∧ i = .int .i64 k ∧ v = .int .i64 (256 + sumB (H.take k) : Nat)) (fun _ i => H.length - (intOf i).toNat)
  case atStart => exact ⟨0, Nat.zero_le _, rfl, by simp [sumB]⟩
  case round =>
    obtain ⟨k, hk, rfl, rfl⟩ := hrel
    by_cases hlt : k < H.length
    · have hs1 := Lib.hid (sumB_take H k hlt)
      have hs2 := sumB_le (H.take k)
      have hs3 : (H.take k).length ≤ 5000 := by simp; omega
      have hs4 := H[k].toNat_lt
      go_wp2
      go_round
      case rel => exact ⟨k + 1, by omega, by go_num, int_eq (by have := hs1.out; omega)⟩
      case measure => simp [intOf]; omega
    · obtain rfl : k = H.length := by omega
      rw [List.take_length]
      have hHH := sumB_le H
      generalize hsH : sumB H = sH at X4 hHH ⊢
      go_wp2
      go_loop [20, 22] (fun v i => ∃ k : Nat, k ≤ T.length ∧ i = .int .i64 k ∧ v = .int .i64 (256 + sH + sumB (T.take k) : Nat)) (fun _ i => T.length - (intOf i).toNat)
      case atStart => exact ⟨0, Nat.zero_le _, rfl, by simp [sumB]⟩
      case round =>
        obtain ⟨k, hk, rfl, rfl⟩ := hrel
        by_cases hlt : k < T.length
        · have hs1 := Lib.hid (sumB_take T k hlt)
          have hs2 := sumB_le (T.take k)
          have hs3 : (T.take k).length ≤ 5000 := by simp; omega
          have hs4 := T[k].toNat_lt
          go_wp2
          go_round
          case rel => exact ⟨k + 1, by omega, by go_num, int_eq (by have := hs1.out; omega)⟩
          case measure => simp [intOf]; omega
        · obtain rfl : k = T.length := by omega
          rw [List.take_length, ← X4.out]
          have ltot : totB ⟨p, 2, m, d⟩ ≤ 3000000 := by rw [X4.out]; omega
          generalize htot : totB ⟨p, 2, m, d⟩ = tot at X3 ltot ⊢
          go_wp2_with fail
          refine (digits_any tot 6 (by omega) (by omega) (by have := octB_len tot 10 (by omega); omega) _).mono ?_
          rintro e w' ⟨rfl, rfl⟩
          have lg := digB_len' tot 6
          have lg' := octB_len tot 10 (by omega)
          generalize hfg : digB tot 6 = g at X3 lg ⊢
          have hpad : (-((d.length : Int) % 512)) % 512 = (((512 - d.length % 512) % 512 : Nat) : Int) := by omega
          have lnp : (512 - d.length % 512) % 512 ≤ 511 := by omega
          generalize hnp : (512 - d.length % 512) % 512 = np at X3 hpad lnp
          replace hpad := Lib.hid hpad
          go_wp2_with fail
          rw [hpad.out]
          refine (filled_any [] np (by simp) (by omega) _).mono ?_
          rintro e w' ⟨rfl, rfl⟩
          have lz := filB_len' [] np
          replace lz : (filB [] np).length ≤ 1000 := by simp only [List.length_nil] at lz; omega
          generalize hfz : filB [] np = z at X3 lz ⊢
          go_wp2_with fail
          go_ret
          exact ⟨ret_str X3.out.symm, hb02.out⟩

set_option maxRecDepth 100000 in
set_option maxHeartbeats 8000000 in
theorem entryR_dir (p d : List UInt8) (m : Nat) (w : World) (hp : p.length ≤ 200) (hd : d.length ≤ 4096) (hm : m ≤ 511) :
    Calls Tryz.prog 13 #[.agg #[.string (S p), .int .i64 1, .int .i64 m, .string (S d)]] w fun e w' => e = .returned (.string (S (entB ⟨p, 1, m, d⟩))) ∧ Below w.heap.size w w' := by
  have hb0 := (Below.refl w.heap.size w).alloc (Nat.le_refl _) (.cells #[.string (S p), .int .i64 1, .int .i64 m, .string (S d)] 36)
  have h4 := Lib.hid (Cell4.new w ⟨p, 1, m, d⟩ 36)
  have hN := Lib.hid (fun w => named_any ⟨p, 1, m, d⟩ w (show p.length ≤ 5000 by omega) (by intro h; exact absurd h (by show ¬ (1 : Int) = 4; omega)))
  skip
  have hNl : (namB ⟨p, 1, m, d⟩).length ≤ 2 * p.length + 20 := namB_len ⟨p, 1, m, d⟩
  rw [show Ent.agg ⟨p, 1, m, d⟩ = .agg #[.string (S p), .int .i64 1, .int .i64 m, .string (S d)] from rfl] at hN
  have X1 := Lib.hid (show headB ⟨p, 1, m, d⟩ = filB (splB (namB ⟨p, 1, m, d⟩)).2 100 ++ (digB m 7 ++ (digB 0 7 ++ (digB 0 7 ++ (digB 0 11 ++ digB 0 11)))) by
    have hdat : dataB ⟨p, 1, m, d⟩ = [] := rfl
    unfold headB; rw [hdat]; simp only [List.append_assoc]; rfl)
  have X2 := Lib.hid (show tailB ⟨p, 1, m, d⟩ = [53] ++ (filB [] 100 ++ ([117, 115, 116, 97, 114, 0, 48, 48] ++ (filB [] 64 ++ (digB 0 7 ++ (digB 0 7 ++ (filB (splB (namB ⟨p, 1, m, d⟩)).1 155 ++ filB [] 12)))))) by
    have hlnk : linkB ⟨p, 1, m, d⟩ = [] := rfl
    have hflg : flagB ⟨p, 1, m, d⟩ = 53 := rfl
    unfold tailB; rw [hlnk, hflg]; simp only [List.append_assoc, List.cons_append, List.nil_append])
  have X3 := Lib.hid (show entB ⟨p, 1, m, d⟩ = headB ⟨p, 1, m, d⟩ ++ (digB (totB ⟨p, 1, m, d⟩) 6 ++ ([32] ++ (tailB ⟨p, 1, m, d⟩ ++ (filB [] 0)))) by
    have hdat : dataB ⟨p, 1, m, d⟩ = [] := rfl
    unfold entB; rw [hdat]; simp only [List.append_assoc, List.nil_append]; try rfl)
  have X4 := Lib.hid (show totB ⟨p, 1, m, d⟩ = 256 + sumB (headB ⟨p, 1, m, d⟩) + sumB (tailB ⟨p, 1, m, d⟩) from rfl)
  go_enter Tryz.func13, Tryz.ntmps13
  go_wp2_with fail
  refine (hN.out _).mono ?_
  rintro e w1 ⟨rfl, hb1⟩
  have hb01 := hb0.trans (hb1.mono hb0.size)
  have c1 := Lib.hid (h4.out.below hb1)
  clear hN h4
  have hS := splB_len (namB ⟨p, 1, m, d⟩)
  generalize hNN : namB ⟨p, 1, m, d⟩ = N at *
  clear hNN
  go_wp2_with fail
  refine (splitR_any N (by omega) _).mono ?_
  rintro e w2 ⟨rfl, hb2⟩
  have hb02 := Lib.hid (hb01.trans (hb2.mono hb01.size))
  obtain ⟨d0, d1, d2, d3⟩ := c1.out.below hb2
  clear c1 hb01 hb1 hb2 hb0
  generalize hq1 : (splB N).1 = q1 at *
  generalize hq2 : (splB N).2 = q2 at *
  clear hq1 hq2
  go_wp2_with fail
  refine (filled_any q2 100 (by omega) (by omega) _).mono ?_
  rintro e w' ⟨rfl, rfl⟩
  have l1 := filB_len' q2 100
  generalize hf1 : filB q2 100 = f1 at *
  clear hf1
  go_wp2_with fail
  refine (digits_any m 7 (by omega) (by omega) (by have := octB_len m 10 (by omega); omega) _).mono ?_
  rintro e w' ⟨rfl, rfl⟩
  have l2 := digB_len' m 7
  have l2' := octB_len m 10 (by omega)
  generalize hf2 : digB m 7 = f2 at *
  clear hf2
  go_wp2_with fail
  refine (digits_any 0 7 (by omega) (by omega) (by have := octB_len 0 10 (by omega); omega) _).mono ?_
  rintro e w' ⟨rfl, rfl⟩
  have l3 := digB_len' 0 7
  have l3' := octB_len 0 10 (by omega)
  generalize hf3 : digB 0 7 = f3 at *
  clear hf3
  go_wp2_with fail
  refine (digits_any 0 11 (by first | omega | (simp; done) | (simp; omega)) (by omega) (by have := octB_len 0 10 (by first | omega | (simp; done) | (simp; omega)); omega) _).mono ?_
  rintro e w' ⟨rfl, rfl⟩
  have l4 := digB_len' 0 11
  have l4' := octB_len 0 10 (by first | omega | (simp; done) | (simp; omega))
  generalize hf4 : digB 0 11 = f4 at *
  skip
  go_wp2_with fail
  refine (digits_any 0 11 (by omega) (by omega) (by have := octB_len 0 10 (by omega); omega) _).mono ?_
  rintro e w' ⟨rfl, rfl⟩
  have l5 := digB_len' 0 11
  rw [hf4] at l5 ⊢
  have lH : (f1 ++ (f2 ++ (f3 ++ (f3 ++ (f4 ++ f4))))).length ≤ 2000 := by simp only [List.length_append]; omega
  generalize hH : headB ⟨p, 1, m, d⟩ = H at *
  go_wp2_with fail
  refine (filled_any [] 100 (by first | omega | (simp; done) | (simp; omega)) (by omega) _).mono ?_
  rintro e w' ⟨rfl, rfl⟩
  have l6 := filB_len' ([] : List UInt8) 100
  generalize hf6 : filB ([] : List UInt8) 100 = f6 at X2 l6 ⊢
  clear hf6
  replace l6 : f6.length ≤ 1000 := by first | omega | (simp only [List.length_nil] at l6; omega)
  go_wp2_with fail
  refine (filled_any [] 64 (by simp) (by omega) _).mono ?_
  rintro e w' ⟨rfl, rfl⟩
  have l7 := filB_len' [] 64
  generalize hf7 : filB [] 64 = f7 at X2 l7 ⊢
  clear hf7
  replace l7 : f7.length ≤ 1000 := by simp only [List.length_nil] at l7; omega
  go_wp2_with fail
  refine (filled_any q1 155 (by omega) (by omega) _).mono ?_
  rintro e w' ⟨rfl, rfl⟩
  have l8 := filB_len' q1 155
  generalize hf8 : filB q1 155 = f8 at X2 l8 ⊢
  clear hf8
  replace l8 : f8.length ≤ 1000 := by first | omega | (simp only [List.length_nil] at l8; omega)
  go_wp2_with fail
  refine (filled_any [] 12 (by simp) (by omega) _).mono ?_
  rintro e w' ⟨rfl, rfl⟩
  have l9 := filB_len' [] 12
  generalize hf9 : filB [] 12 = f9 at X2 l9 ⊢
  clear hf9
  replace l9 : f9.length ≤ 1000 := by simp only [List.length_nil] at l9; omega
  have lT : ([53] ++ (f6 ++ ([117, 115, 116, 97, 114, 0, 48, 48] ++ (f7 ++ (f3 ++ (f3 ++ (f8 ++ f9))))))).length ≤ 5000 := by simp only [List.length_append, List.length_cons, List.length_nil]; omega
  generalize hT : tailB ⟨p, 1, m, d⟩ = T at X2 X3 X4
  have E2 : [53] ++ (f6 ++ ([117, 115, 116, 97, 114, 0, 48, 48] ++ (f7 ++ (f3 ++ (f3 ++ (f8 ++ f9)))))) = T := X2.out.symm
  have E1 : f1 ++ (f2 ++ (f3 ++ (f3 ++ (f4 ++ f4)))) = H := X1.out.symm
  replace lT : T.length ≤ 5000 := by rw [← E2]; exact lT
  replace lH : H.length ≤ 5000 := by rw [← E1]; omega
  simp only [List.cons_append, List.nil_append] at E2
  have E1h := Lib.hid E1
  have E2h := Lib.hid E2
  clear E1 E2 X1 X2
  have hTT := sumB_le T
  go_upto_region 26 with fail
  rw [E1h.out, E2h.out]
  clear E1h E2h
  go_wp2
  go_loop [20, 21] (fun v i => ∃ k : Nat, k ≤ H.length ∧ i = .int .i64 k ∧ v = .int .i64 (256 + sumB (H.take k) : Nat)) (fun _ i => H.length - (intOf i).toNat)
  case atStart => exact ⟨0, Nat.zero_le _, rfl, by simp [sumB]⟩
  case round =>
    obtain ⟨k, hk, rfl, rfl⟩ := hrel
    by_cases hlt : k < H.length
    · have hs1 := Lib.hid (sumB_take H k hlt)
      have hs2 := sumB_le (H.take k)
      have hs3 : (H.take k).length ≤ 5000 := by simp; omega
      have hs4 := H[k].toNat_lt
      go_wp2
      go_round
      case rel => exact ⟨k + 1, by omega, by go_num, int_eq (by have := hs1.out; omega)⟩
      case measure => simp [intOf]; omega
    · obtain rfl : k = H.length := by omega
      rw [List.take_length]
      have hHH := sumB_le H
      generalize hsH : sumB H = sH at X4 hHH ⊢
      go_wp2
      go_loop [20, 22] (fun v i => ∃ k : Nat, k ≤ T.length ∧ i = .int .i64 k ∧ v = .int .i64 (256 + sH + sumB (T.take k) : Nat)) (fun _ i => T.length - (intOf i).toNat)
      case atStart => exact ⟨0, Nat.zero_le _, rfl, by simp [sumB]⟩
      case round =>
        obtain ⟨k, hk, rfl, rfl⟩ := hrel
        by_cases hlt : k < T.length
        · have hs1 := Lib.hid (sumB_take T k hlt)
          have hs2 := sumB_le (T.take k)
          have hs3 : (T.take k).length ≤ 5000 := by simp; omega
          have hs4 := T[k].toNat_lt
          go_wp2
          go_round
          case rel => exact ⟨k + 1, by omega, by go_num, int_eq (by have := hs1.out; omega)⟩
          case measure => simp [intOf]; omega
        · obtain rfl : k = T.length := by omega
          rw [List.take_length, ← X4.out]
          have ltot : totB ⟨p, 1, m, d⟩ ≤ 3000000 := by rw [X4.out]; omega
          generalize htot : totB ⟨p, 1, m, d⟩ = tot at X3 ltot ⊢
          go_wp2_with fail
          refine (digits_any tot 6 (by omega) (by omega) (by have := octB_len tot 10 (by omega); omega) _).mono ?_
          rintro e w' ⟨rfl, rfl⟩
          have lg := digB_len' tot 6
          have lg' := octB_len tot 10 (by omega)
          generalize hfg : digB tot 6 = g at X3 lg ⊢
          skip
          go_wp2_with fail
          skip
          refine (filled_any [] 0 (by simp) (by omega) _).mono ?_
          rintro e w' ⟨rfl, rfl⟩
          have lz := filB_len' [] 0
          replace lz : (filB [] 0).length ≤ 1000 := by simp only [List.length_nil] at lz; omega
          generalize hfz : filB [] 0 = z at X3 lz ⊢
          go_wp2_with fail
          go_ret
          exact ⟨ret_str X3.out.symm, hb02.out⟩

set_option maxRecDepth 100000 in
set_option maxHeartbeats 8000000 in
theorem entryR_link (p d : List UInt8) (m : Nat) (w : World) (hp : p.length ≤ 200) (hd : d.length ≤ 4096) (hm : m ≤ 511) (hd3 : d.length ≤ 100) :
    Calls Tryz.prog 13 #[.agg #[.string (S p), .int .i64 3, .int .i64 m, .string (S d)]] w fun e w' => e = .returned (.string (S (entB ⟨p, 3, m, d⟩))) ∧ Below w.heap.size w w' := by
  have hb0 := (Below.refl w.heap.size w).alloc (Nat.le_refl _) (.cells #[.string (S p), .int .i64 3, .int .i64 m, .string (S d)] 36)
  have h4 := Lib.hid (Cell4.new w ⟨p, 3, m, d⟩ 36)
  have hN := Lib.hid (fun w => named_any ⟨p, 3, m, d⟩ w (show p.length ≤ 5000 by omega) (by intro h; exact absurd h (by show ¬ (3 : Int) = 4; omega)))
  skip
  have hNl : (namB ⟨p, 3, m, d⟩).length ≤ 2 * p.length + 20 := namB_len ⟨p, 3, m, d⟩
  rw [show Ent.agg ⟨p, 3, m, d⟩ = .agg #[.string (S p), .int .i64 3, .int .i64 m, .string (S d)] from rfl] at hN
  have X1 := Lib.hid (show headB ⟨p, 3, m, d⟩ = filB (splB (namB ⟨p, 3, m, d⟩)).2 100 ++ (digB m 7 ++ (digB 0 7 ++ (digB 0 7 ++ (digB 0 11 ++ digB 0 11)))) by
    have hdat : dataB ⟨p, 3, m, d⟩ = [] := rfl
    unfold headB; rw [hdat]; simp only [List.append_assoc]; rfl)
  have X2 := Lib.hid (show tailB ⟨p, 3, m, d⟩ = [50] ++ (filB d 100 ++ ([117, 115, 116, 97, 114, 0, 48, 48] ++ (filB [] 64 ++ (digB 0 7 ++ (digB 0 7 ++ (filB (splB (namB ⟨p, 3, m, d⟩)).1 155 ++ filB [] 12)))))) by
    have hlnk : linkB ⟨p, 3, m, d⟩ = d := rfl
    have hflg : flagB ⟨p, 3, m, d⟩ = 50 := rfl
    unfold tailB; rw [hlnk, hflg]; simp only [List.append_assoc, List.cons_append, List.nil_append])
  have X3 := Lib.hid (show entB ⟨p, 3, m, d⟩ = headB ⟨p, 3, m, d⟩ ++ (digB (totB ⟨p, 3, m, d⟩) 6 ++ ([32] ++ (tailB ⟨p, 3, m, d⟩ ++ (filB [] 0)))) by
    have hdat : dataB ⟨p, 3, m, d⟩ = [] := rfl
    unfold entB; rw [hdat]; simp only [List.append_assoc, List.nil_append]; try rfl)
  have X4 := Lib.hid (show totB ⟨p, 3, m, d⟩ = 256 + sumB (headB ⟨p, 3, m, d⟩) + sumB (tailB ⟨p, 3, m, d⟩) from rfl)
  go_enter Tryz.func13, Tryz.ntmps13
  go_wp2_with fail
  refine (hN.out _).mono ?_
  rintro e w1 ⟨rfl, hb1⟩
  have hb01 := hb0.trans (hb1.mono hb0.size)
  have c1 := Lib.hid (h4.out.below hb1)
  clear hN h4
  have hS := splB_len (namB ⟨p, 3, m, d⟩)
  generalize hNN : namB ⟨p, 3, m, d⟩ = N at *
  clear hNN
  go_wp2_with fail
  refine (splitR_any N (by omega) _).mono ?_
  rintro e w2 ⟨rfl, hb2⟩
  have hb02 := Lib.hid (hb01.trans (hb2.mono hb01.size))
  obtain ⟨d0, d1, d2, d3⟩ := c1.out.below hb2
  clear c1 hb01 hb1 hb2 hb0
  generalize hq1 : (splB N).1 = q1 at *
  generalize hq2 : (splB N).2 = q2 at *
  clear hq1 hq2
  go_wp2_with fail
  refine (filled_any q2 100 (by omega) (by omega) _).mono ?_
  rintro e w' ⟨rfl, rfl⟩
  have l1 := filB_len' q2 100
  generalize hf1 : filB q2 100 = f1 at *
  clear hf1
  go_wp2_with fail
  refine (digits_any m 7 (by omega) (by omega) (by have := octB_len m 10 (by omega); omega) _).mono ?_
  rintro e w' ⟨rfl, rfl⟩
  have l2 := digB_len' m 7
  have l2' := octB_len m 10 (by omega)
  generalize hf2 : digB m 7 = f2 at *
  clear hf2
  go_wp2_with fail
  refine (digits_any 0 7 (by omega) (by omega) (by have := octB_len 0 10 (by omega); omega) _).mono ?_
  rintro e w' ⟨rfl, rfl⟩
  have l3 := digB_len' 0 7
  have l3' := octB_len 0 10 (by omega)
  generalize hf3 : digB 0 7 = f3 at *
  clear hf3
  go_wp2_with fail
  refine (digits_any 0 11 (by first | omega | (simp; done) | (simp; omega)) (by omega) (by have := octB_len 0 10 (by first | omega | (simp; done) | (simp; omega)); omega) _).mono ?_
  rintro e w' ⟨rfl, rfl⟩
  have l4 := digB_len' 0 11
  have l4' := octB_len 0 10 (by first | omega | (simp; done) | (simp; omega))
  generalize hf4 : digB 0 11 = f4 at *
  skip
  go_wp2_with fail
  refine (digits_any 0 11 (by omega) (by omega) (by have := octB_len 0 10 (by omega); omega) _).mono ?_
  rintro e w' ⟨rfl, rfl⟩
  have l5 := digB_len' 0 11
  rw [hf4] at l5 ⊢
  have lH : (f1 ++ (f2 ++ (f3 ++ (f3 ++ (f4 ++ f4))))).length ≤ 2000 := by simp only [List.length_append]; omega
  generalize hH : headB ⟨p, 3, m, d⟩ = H at *
  go_wp2_with fail
  refine (filled_any d 100 (by first | omega | (simp; done) | (simp; omega)) (by omega) _).mono ?_
  rintro e w' ⟨rfl, rfl⟩
  have l6 := filB_len' (d : List UInt8) 100
  generalize hf6 : filB (d : List UInt8) 100 = f6 at X2 l6 ⊢
  clear hf6
  replace l6 : f6.length ≤ 1000 := by first | omega | (simp only [List.length_nil] at l6; omega)
  go_wp2_with fail
  refine (filled_any [] 64 (by simp) (by omega) _).mono ?_
  rintro e w' ⟨rfl, rfl⟩
  have l7 := filB_len' [] 64
  generalize hf7 : filB [] 64 = f7 at X2 l7 ⊢
  clear hf7
  replace l7 : f7.length ≤ 1000 := by simp only [List.length_nil] at l7; omega
  go_wp2_with fail
  refine (filled_any q1 155 (by omega) (by omega) _).mono ?_
  rintro e w' ⟨rfl, rfl⟩
  have l8 := filB_len' q1 155
  generalize hf8 : filB q1 155 = f8 at X2 l8 ⊢
  clear hf8
  replace l8 : f8.length ≤ 1000 := by first | omega | (simp only [List.length_nil] at l8; omega)
  go_wp2_with fail
  refine (filled_any [] 12 (by simp) (by omega) _).mono ?_
  rintro e w' ⟨rfl, rfl⟩
  have l9 := filB_len' [] 12
  generalize hf9 : filB [] 12 = f9 at X2 l9 ⊢
  clear hf9
  replace l9 : f9.length ≤ 1000 := by simp only [List.length_nil] at l9; omega
  have lT : ([50] ++ (f6 ++ ([117, 115, 116, 97, 114, 0, 48, 48] ++ (f7 ++ (f3 ++ (f3 ++ (f8 ++ f9))))))).length ≤ 5000 := by simp only [List.length_append, List.length_cons, List.length_nil]; omega
  generalize hT : tailB ⟨p, 3, m, d⟩ = T at X2 X3 X4
  have E2 : [50] ++ (f6 ++ ([117, 115, 116, 97, 114, 0, 48, 48] ++ (f7 ++ (f3 ++ (f3 ++ (f8 ++ f9)))))) = T := X2.out.symm
  have E1 : f1 ++ (f2 ++ (f3 ++ (f3 ++ (f4 ++ f4)))) = H := X1.out.symm
  replace lT : T.length ≤ 5000 := by rw [← E2]; exact lT
  replace lH : H.length ≤ 5000 := by rw [← E1]; omega
  simp only [List.cons_append, List.nil_append] at E2
  have E1h := Lib.hid E1
  have E2h := Lib.hid E2
  clear E1 E2 X1 X2
  have hTT := sumB_le T
  go_upto_region 26 with fail
  rw [E1h.out, E2h.out]
  clear E1h E2h
  go_wp2
  go_loop [20, 21] (fun v i => ∃ k : Nat, k ≤ H.length ∧ i = .int .i64 k ∧ v = .int .i64 (256 + sumB (H.take k) : Nat)) (fun _ i => H.length - (intOf i).toNat)
  case atStart => exact ⟨0, Nat.zero_le _, rfl, by simp [sumB]⟩
  case round =>
    obtain ⟨k, hk, rfl, rfl⟩ := hrel
    by_cases hlt : k < H.length
    · have hs1 := Lib.hid (sumB_take H k hlt)
      have hs2 := sumB_le (H.take k)
      have hs3 : (H.take k).length ≤ 5000 := by simp; omega
      have hs4 := H[k].toNat_lt
      go_wp2
      go_round
      case rel => exact ⟨k + 1, by omega, by go_num, int_eq (by have := hs1.out; omega)⟩
      case measure => simp [intOf]; omega
    · obtain rfl : k = H.length := by omega
      rw [List.take_length]
      have hHH := sumB_le H
      generalize hsH : sumB H = sH at X4 hHH ⊢
      go_wp2
      go_loop [20, 22] (fun v i => ∃ k : Nat, k ≤ T.length ∧ i = .int .i64 k ∧ v = .int .i64 (256 + sH + sumB (T.take k) : Nat)) (fun _ i => T.length - (intOf i).toNat)
      case atStart => exact ⟨0, Nat.zero_le _, rfl, by simp [sumB]⟩
      case round =>
        obtain ⟨k, hk, rfl, rfl⟩ := hrel
        by_cases hlt : k < T.length
        · have hs1 := Lib.hid (sumB_take T k hlt)
          have hs2 := sumB_le (T.take k)
          have hs3 : (T.take k).length ≤ 5000 := by simp; omega
          have hs4 := T[k].toNat_lt
          go_wp2
          go_round
          case rel => exact ⟨k + 1, by omega, by go_num, int_eq (by have := hs1.out; omega)⟩
          case measure => simp [intOf]; omega
        · obtain rfl : k = T.length := by omega
          rw [List.take_length, ← X4.out]
          have ltot : totB ⟨p, 3, m, d⟩ ≤ 3000000 := by rw [X4.out]; omega
          generalize htot : totB ⟨p, 3, m, d⟩ = tot at X3 ltot ⊢
          go_wp2_with fail
          refine (digits_any tot 6 (by omega) (by omega) (by have := octB_len tot 10 (by omega); omega) _).mono ?_
          rintro e w' ⟨rfl, rfl⟩
          have lg := digB_len' tot 6
          have lg' := octB_len tot 10 (by omega)
          generalize hfg : digB tot 6 = g at X3 lg ⊢
          skip
          go_wp2_with fail
          skip
          refine (filled_any [] 0 (by simp) (by omega) _).mono ?_
          rintro e w' ⟨rfl, rfl⟩
          have lz := filB_len' [] 0
          replace lz : (filB [] 0).length ≤ 1000 := by simp only [List.length_nil] at lz; omega
          generalize hfz : filB [] 0 = z at X3 lz ⊢
          go_wp2_with fail
          go_ret
          exact ⟨ret_str X3.out.symm, hb02.out⟩

set_option maxRecDepth 100000 in
set_option maxHeartbeats 8000000 in
theorem entryR_mark (p d : List UInt8) (k : Int) (m : Nat) (w : World) (hp : p.length ≤ 200) (hd : d.length ≤ 4096) (hm : m ≤ 511) (h1 : ¬ k = 1) (h2 : ¬ k = 2) (h3 : ¬ k = 3) (hk4 : k = 4 → 0 < (partsB p).length) :
    Calls Tryz.prog 13 #[.agg #[.string (S p), .int .i64 k, .int .i64 m, .string (S d)]] w fun e w' => e = .returned (.string (S (entB ⟨p, k, m, d⟩))) ∧ Below w.heap.size w w' := by
  have hb0 := (Below.refl w.heap.size w).alloc (Nat.le_refl _) (.cells #[.string (S p), .int .i64 k, .int .i64 m, .string (S d)] 36)
  have h4 := Lib.hid (Cell4.new w ⟨p, k, m, d⟩ 36)
  have hN := Lib.hid (fun w => named_any ⟨p, k, m, d⟩ w (show p.length ≤ 5000 by omega) hk4)
  clear hk4
  have hNl : (namB ⟨p, k, m, d⟩).length ≤ 2 * p.length + 20 := namB_len ⟨p, k, m, d⟩
  rw [show Ent.agg ⟨p, k, m, d⟩ = .agg #[.string (S p), .int .i64 k, .int .i64 m, .string (S d)] from rfl] at hN
  have X1 := Lib.hid (show headB ⟨p, k, m, d⟩ = filB (splB (namB ⟨p, k, m, d⟩)).2 100 ++ (digB m 7 ++ (digB 0 7 ++ (digB 0 7 ++ (digB 0 11 ++ digB 0 11)))) by
    have hdat : dataB ⟨p, k, m, d⟩ = [] := by simp [dataB, h1, h2, h3]
    unfold headB; rw [hdat]; simp only [List.append_assoc]; rfl)
  have X2 := Lib.hid (show tailB ⟨p, k, m, d⟩ = [48] ++ (filB [] 100 ++ ([117, 115, 116, 97, 114, 0, 48, 48] ++ (filB [] 64 ++ (digB 0 7 ++ (digB 0 7 ++ (filB (splB (namB ⟨p, k, m, d⟩)).1 155 ++ filB [] 12)))))) by
    have hlnk : linkB ⟨p, k, m, d⟩ = [] := by simp [linkB, h1, h2, h3]
    have hflg : flagB ⟨p, k, m, d⟩ = 48 := by simp [flagB, h1, h2, h3]
    unfold tailB; rw [hlnk, hflg]; simp only [List.append_assoc, List.cons_append, List.nil_append])
  have X3 := Lib.hid (show entB ⟨p, k, m, d⟩ = headB ⟨p, k, m, d⟩ ++ (digB (totB ⟨p, k, m, d⟩) 6 ++ ([32] ++ (tailB ⟨p, k, m, d⟩ ++ (filB [] 0)))) by
    have hdat : dataB ⟨p, k, m, d⟩ = [] := by simp [dataB, h1, h2, h3]
    unfold entB; rw [hdat]; simp only [List.append_assoc, List.nil_append]; try rfl)
  have X4 := Lib.hid (show totB ⟨p, k, m, d⟩ = 256 + sumB (headB ⟨p, k, m, d⟩) + sumB (tailB ⟨p, k, m, d⟩) from rfl)
  go_enter Tryz.func13, Tryz.ntmps13
  go_wp2_with fail
  refine (hN.out _).mono ?_
  rintro e w1 ⟨rfl, hb1⟩
  have hb01 := hb0.trans (hb1.mono hb0.size)
  have c1 := Lib.hid (h4.out.below hb1)
  clear hN h4
  have hS := splB_len (namB ⟨p, k, m, d⟩)
  generalize hNN : namB ⟨p, k, m, d⟩ = N at *
  clear hNN
  go_wp2_with fail
  refine (splitR_any N (by omega) _).mono ?_
  rintro e w2 ⟨rfl, hb2⟩
  have hb02 := Lib.hid (hb01.trans (hb2.mono hb01.size))
  obtain ⟨d0, d1, d2, d3⟩ := c1.out.below hb2
  clear c1 hb01 hb1 hb2 hb0
  generalize hq1 : (splB N).1 = q1 at *
  generalize hq2 : (splB N).2 = q2 at *
  clear hq1 hq2
  go_wp2_with fail
  refine (filled_any q2 100 (by omega) (by omega) _).mono ?_
  rintro e w' ⟨rfl, rfl⟩
  have l1 := filB_len' q2 100
  generalize hf1 : filB q2 100 = f1 at *
  clear hf1
  go_wp2_with fail
  refine (digits_any m 7 (by omega) (by omega) (by have := octB_len m 10 (by omega); omega) _).mono ?_
  rintro e w' ⟨rfl, rfl⟩
  have l2 := digB_len' m 7
  have l2' := octB_len m 10 (by omega)
  generalize hf2 : digB m 7 = f2 at *
  clear hf2
  go_wp2_with fail
  refine (digits_any 0 7 (by omega) (by omega) (by have := octB_len 0 10 (by omega); omega) _).mono ?_
  rintro e w' ⟨rfl, rfl⟩
  have l3 := digB_len' 0 7
  have l3' := octB_len 0 10 (by omega)
  generalize hf3 : digB 0 7 = f3 at *
  clear hf3
  go_wp2_with fail
  refine (digits_any 0 11 (by first | omega | (simp; done) | (simp; omega)) (by omega) (by have := octB_len 0 10 (by first | omega | (simp; done) | (simp; omega)); omega) _).mono ?_
  rintro e w' ⟨rfl, rfl⟩
  have l4 := digB_len' 0 11
  have l4' := octB_len 0 10 (by first | omega | (simp; done) | (simp; omega))
  generalize hf4 : digB 0 11 = f4 at *
  skip
  go_wp2_with fail
  refine (digits_any 0 11 (by omega) (by omega) (by have := octB_len 0 10 (by omega); omega) _).mono ?_
  rintro e w' ⟨rfl, rfl⟩
  have l5 := digB_len' 0 11
  rw [hf4] at l5 ⊢
  have lH : (f1 ++ (f2 ++ (f3 ++ (f3 ++ (f4 ++ f4))))).length ≤ 2000 := by simp only [List.length_append]; omega
  generalize hH : headB ⟨p, k, m, d⟩ = H at *
  go_wp2_with fail
  refine (filled_any [] 100 (by first | omega | (simp; done) | (simp; omega)) (by omega) _).mono ?_
  rintro e w' ⟨rfl, rfl⟩
  have l6 := filB_len' ([] : List UInt8) 100
  generalize hf6 : filB ([] : List UInt8) 100 = f6 at X2 l6 ⊢
  clear hf6
  replace l6 : f6.length ≤ 1000 := by first | omega | (simp only [List.length_nil] at l6; omega)
  go_wp2_with fail
  refine (filled_any [] 64 (by simp) (by omega) _).mono ?_
  rintro e w' ⟨rfl, rfl⟩
  have l7 := filB_len' [] 64
  generalize hf7 : filB [] 64 = f7 at X2 l7 ⊢
  clear hf7
  replace l7 : f7.length ≤ 1000 := by simp only [List.length_nil] at l7; omega
  go_wp2_with fail
  refine (filled_any q1 155 (by omega) (by omega) _).mono ?_
  rintro e w' ⟨rfl, rfl⟩
  have l8 := filB_len' q1 155
  generalize hf8 : filB q1 155 = f8 at X2 l8 ⊢
  clear hf8
  replace l8 : f8.length ≤ 1000 := by first | omega | (simp only [List.length_nil] at l8; omega)
  go_wp2_with fail
  refine (filled_any [] 12 (by simp) (by omega) _).mono ?_
  rintro e w' ⟨rfl, rfl⟩
  have l9 := filB_len' [] 12
  generalize hf9 : filB [] 12 = f9 at X2 l9 ⊢
  clear hf9
  replace l9 : f9.length ≤ 1000 := by simp only [List.length_nil] at l9; omega
  have lT : ([48] ++ (f6 ++ ([117, 115, 116, 97, 114, 0, 48, 48] ++ (f7 ++ (f3 ++ (f3 ++ (f8 ++ f9))))))).length ≤ 5000 := by simp only [List.length_append, List.length_cons, List.length_nil]; omega
  generalize hT : tailB ⟨p, k, m, d⟩ = T at X2 X3 X4
  have E2 : [48] ++ (f6 ++ ([117, 115, 116, 97, 114, 0, 48, 48] ++ (f7 ++ (f3 ++ (f3 ++ (f8 ++ f9)))))) = T := X2.out.symm
  have E1 : f1 ++ (f2 ++ (f3 ++ (f3 ++ (f4 ++ f4)))) = H := X1.out.symm
  replace lT : T.length ≤ 5000 := by rw [← E2]; exact lT
  replace lH : H.length ≤ 5000 := by rw [← E1]; omega
  simp only [List.cons_append, List.nil_append] at E2
  have E1h := Lib.hid E1
  have E2h := Lib.hid E2
  clear E1 E2 X1 X2
  have hTT := sumB_le T
  go_upto_region 26 with fail
  rw [E1h.out, E2h.out]
  clear E1h E2h
  go_wp2
  go_loop [20, 21] (fun v i => ∃ k : Nat, k ≤ H.length ∧ i = .int .i64 k ∧ v = .int .i64 (256 + sumB (H.take k) : Nat)) (fun _ i => H.length - (intOf i).toNat)
  case atStart => exact ⟨0, Nat.zero_le _, rfl, by simp [sumB]⟩
  case round =>
    obtain ⟨k, hk, rfl, rfl⟩ := hrel
    by_cases hlt : k < H.length
    · have hs1 := Lib.hid (sumB_take H k hlt)
      have hs2 := sumB_le (H.take k)
      have hs3 : (H.take k).length ≤ 5000 := by simp; omega
      have hs4 := H[k].toNat_lt
      go_wp2
      go_round
      case rel => exact ⟨k + 1, by omega, by go_num, int_eq (by have := hs1.out; omega)⟩
      case measure => simp [intOf]; omega
    · obtain rfl : k = H.length := by omega
      rw [List.take_length]
      have hHH := sumB_le H
      generalize hsH : sumB H = sH at X4 hHH ⊢
      go_wp2
      go_loop [20, 22] (fun v i => ∃ k : Nat, k ≤ T.length ∧ i = .int .i64 k ∧ v = .int .i64 (256 + sH + sumB (T.take k) : Nat)) (fun _ i => T.length - (intOf i).toNat)
      case atStart => exact ⟨0, Nat.zero_le _, rfl, by simp [sumB]⟩
      case round =>
        obtain ⟨k, hk, rfl, rfl⟩ := hrel
        by_cases hlt : k < T.length
        · have hs1 := Lib.hid (sumB_take T k hlt)
          have hs2 := sumB_le (T.take k)
          have hs3 : (T.take k).length ≤ 5000 := by simp; omega
          have hs4 := T[k].toNat_lt
          go_wp2
          go_round
          case rel => exact ⟨k + 1, by omega, by go_num, int_eq (by have := hs1.out; omega)⟩
          case measure => simp [intOf]; omega
        · obtain rfl : k = T.length := by omega
          rw [List.take_length, ← X4.out]
          have ltot : totB ⟨p, k, m, d⟩ ≤ 3000000 := by rw [X4.out]; omega
          generalize htot : totB ⟨p, k, m, d⟩ = tot at X3 ltot ⊢
          go_wp2_with fail
          refine (digits_any tot 6 (by omega) (by omega) (by have := octB_len tot 10 (by omega); omega) _).mono ?_
          rintro e w' ⟨rfl, rfl⟩
          have lg := digB_len' tot 6
          have lg' := octB_len tot 10 (by omega)
          generalize hfg : digB tot 6 = g at X3 lg ⊢
          skip
          go_wp2_with fail
          skip
          refine (filled_any [] 0 (by simp) (by omega) _).mono ?_
          rintro e w' ⟨rfl, rfl⟩
          have lz := filB_len' [] 0
          replace lz : (filB [] 0).length ≤ 1000 := by simp only [List.length_nil] at lz; omega
          generalize hfz : filB [] 0 = z at X3 lz ⊢
          go_wp2_with fail
          go_ret
          exact ⟨ret_str X3.out.symm, hb02.out⟩
end Go.Proofs.YtkooakadckjpkaaGreatDoor
