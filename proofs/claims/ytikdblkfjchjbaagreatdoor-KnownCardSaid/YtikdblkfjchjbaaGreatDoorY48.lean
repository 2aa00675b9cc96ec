import Derived.Test.YtikdblkfjchjbaaGreatDoorY40
import Derived.Test.YtikdblkfjchjbaaGreatDoorY43
import Derived.Test.YtikdblkfjchjbaaGreatDoorY45
import Derived.Test.YtikdblkfjchjbaaGreatDoorY47
set_option linter.unusedVariables false
set_option linter.unusedSimpArgs false
set_option maxHeartbeats 16000000
set_option maxRecDepth 100000
namespace Go.Proofs.YtikdblkfjchjbaaGreatDoor
open Go.RowKit
theorem qse (w : World) : Calls Tryz.prog 12 #[] w fun e w' => ∃ A cap, e = .returned (.slice A ctxK.length cap) ∧ Rd w' A (ents ctxK) ∧ Below w.heap.size w w' := by
 go_enter Tryz.func12, Tryz.ntmps12;go_wp2;have h := Go.heap_alloc_new w (.cells (ents ctxK).toArray 47);go_ret;refine ⟨_, 2, rfl, .inr ⟨w.heap.size, 0, rfl, fun i u hu => ?_⟩, (Below.refl _ _).alloc (Nat.le_refl _) _⟩;show (w.alloc (.cells (ents ctxK).toArray 47)).cell? ⟨w.heap.size, 0 + i, none⟩ = some u
 rw [Nat.zero_add, cell_of_row _ _ _ _ _ _ h, List.getElem?_toArray];exact hu
def csK : Array Value := #[.string (S [70, 82, 79, 77, 32, 115, 99, 114, 97, 116, 99, 104, 10, 67, 79, 80, 89, 32, 115, 114, 99, 32, 47, 97, 112, 112, 10]), .int .i64 0, .int .i64 (-1), .string (S [70, 82, 79, 77, 32, 98, 97, 115, 101, 10]), .int .i64 6, .int .i64 5, .string (S [70, 82, 79, 77, 32, 115, 99, 114, 97, 116, 99, 104, 10, 82, 77, 32, 120, 10]), .int .i64 8, .int .i64 13, .string (S [70, 82, 79, 77, 32, 115, 99, 114, 97, 116, 99, 104, 10, 77, 75, 68, 73, 82, 32, 36, 65, 10]), .int .i64 7, .int .i64 19, .string (S [77, 75, 68, 73, 82, 32, 97, 10]), .int .i64 5, .int .i64 0, .string (S [70, 82, 79, 77, 32, 115, 99, 114, 97, 116, 99, 104, 10, 67, 79, 80, 89, 32, 115, 114, 99, 47, 109, 97, 105, 110, 32, 97, 10, 77, 75, 68, 73, 82, 32, 97, 47, 98, 10]), .int .i64 9, .int .i64 29, .string (S [70, 82, 79, 77, 32, 115, 99, 114, 97, 116, 99, 104, 32, 65, 83, 32, 97, 10, 82, 77, 32, 120, 10, 70, 82, 79, 77, 32, 115, 99, 114, 97, 116, 99, 104, 10, 77, 75, 68, 73, 82, 32, 121, 10]), .int .i64 0, .int .i64 (-1), .string (S [70, 82, 79, 77, 32, 115, 99, 114, 97, 116, 99, 104, 10, 87, 79, 82, 75, 68, 73, 82, 32, 47, 97, 47, 98, 10, 77, 75, 68, 73, 82, 32, 46, 46, 47, 46, 46, 47, 46, 46, 47, 99, 10]), .int .i64 1, .int .i64 26, .string (S [70, 82, 79, 77, 32, 115, 99, 114, 97, 116, 99, 104, 10, 65, 68, 68, 32, 115, 114, 99, 47, 109, 97, 105, 110, 32, 47, 10]), .int .i64 4, .int .i64 13, .string (S [70, 82, 79, 77, 32, 115, 99, 114, 97, 116, 99, 104, 10, 77, 75, 68, 73, 82, 32, 34, 97, 10]), .int .i64 5, .int .i64 19]
theorem q4e : ∀ p, p < 10 → csK[p * 3]? = some (.string (S (txK p))) ∧ csK[p * 3 + 1]? = some (.int .i64 (erK p)) ∧ csK[p * 3 + 2]? = some (.int .i64 (plK p))
 | 0, _ => ⟨rfl, rfl, rfl⟩
 | 1, _ => ⟨rfl, rfl, rfl⟩
 | 2, _ => ⟨rfl, rfl, rfl⟩
 | 3, _ => ⟨rfl, rfl, rfl⟩
 | 4, _ => ⟨rfl, rfl, rfl⟩
 | 5, _ => ⟨rfl, rfl, rfl⟩
 | 6, _ => ⟨rfl, rfl, rfl⟩
 | 7, _ => ⟨rfl, rfl, rfl⟩
 | 8, _ => ⟨rfl, rfl, rfl⟩
 | 9, _ => ⟨rfl, rfl, rfl⟩
 | p + 10, h => by omega
theorem q2j : ∀ p, (txK p).length ≤ maxLen := by
 intro p;have h : (txK p).length ≤ 100 := by
  unfold txK; split <;> decide
 unfold maxLen; omega
theorem qjq : ∀ e ∈ ctxK, e.path.length ≤ 2000000000 ∧ e.data.length ≤ 2000000000 := by decide
theorem qvx : Lists ctxK (qa0 ctxK) := (qhl (.inr ⟨rfl, qhs⟩)).2
theorem q3z : ∀ p, p < 10 → p ≠ 0 → p ≠ 6 → rK p = .error (erK p, (plK p).toNat) ∧ (((plK p).toNat : Nat) : Int) = plK p ∧ erK p ≠ 0
 | 0, _, h, _ => absurd rfl h
 | 1, _, _, _ => ⟨rfl, rfl, by decide⟩
 | 2, _, _, _ => ⟨rfl, rfl, by decide⟩
 | 3, _, _, _ => ⟨rfl, rfl, by decide⟩
 | 4, _, _, _ => ⟨rfl, rfl, by decide⟩
 | 5, _, _, _ => ⟨rfl, rfl, by decide⟩
 | 6, _, _, h => absurd rfl h
 | 7, _, _, _ => ⟨rfl, rfl, by decide⟩
 | 8, _, _, _ => ⟨rfl, rfl, by decide⟩
 | 9, _, _, _ => ⟨rfl, rfl, by decide⟩
 | p + 10, h, _, _ => by omega
theorem MakeOutP.form {w w' : World} {e : Ending} {R : Except (Int × Nat) (List Ent × List UInt8)} (h : MakeOutP w w' e R) : ∃ (t : List UInt8) (A : Option Addr) (m c : Nat) (e1 n : Int), e = .returned (.tuple #[.agg #[.slice none 0 0, .string (S t), .slice A m c], .int .i64 e1, .int .i64 n]) := by
 cases R with
 | error q => obtain ⟨k, a⟩ := q; exact ⟨_, _, _, _, _, _, h⟩
 | ok q =>
  obtain ⟨l, wk⟩ := q; obtain ⟨v, h, ho⟩ := h;obtain ⟨va, vc, rfl⟩ := qad ho;exact ⟨_, _, _, _, _, _, h⟩
theorem MakeOutP.base {w0 w w' : World} {e : Ending} {R : Except (Int × Nat) (List Ent × List UInt8)} (h : MakeOutP w w' e R) (hs : w0.heap.size ≤ w.heap.size) : MakeOutP w0 w' e R := by
 cases R with
 | error q => obtain ⟨k, a⟩ := q; exact h
 | ok q => obtain ⟨l, wk⟩ := q; obtain ⟨v, h, ho⟩ := h; exact ⟨v, h, qaq ho hs⟩
theorem MakeOutP.setB {w w' : World} {e : Ending} {R : Except (Int × Nat) (List Ent × List UInt8)} (h : MakeOutP w w' e R) (a : Addr) (x : Value) (ha : a.block < w.heap.size) : MakeOutP w (w'.setCell a x) e R := by
 cases R with
 | error q => obtain ⟨k, a⟩ := q; exact h
 | ok q => obtain ⟨l, wk⟩ := q; obtain ⟨v, h, ho⟩ := h; exact ⟨v, h, ownsRow_setCell_below ho ha x⟩
theorem MakeOutP.after {w w' w2 : World} {e : Ending} {R : Except (Int × Nat) (List Ent × List UInt8)} (h : MakeOutP w w' e R) (hb : Below w'.heap.size w' w2) : MakeOutP w w2 e R := by
 cases R with
 | error q => obtain ⟨k, a⟩ := q; exact h
 | ok q => obtain ⟨l, wk⟩ := q; obtain ⟨v, h, ho⟩ := h; exact ⟨v, h, qac ho hb⟩
theorem qrq : ∀ e ∈ qlh, e.path.length ≤ 2000000000 ∧ e.data.length ≤ 2000000000 := by decide
theorem qv0 : ∀ e ∈ chgK, e.path.length ≤ 2000000000 ∧ e.data.length ≤ 2000000000 := by decide
theorem q1h (A B : Option Addr) (ca cb : Nat) (w : World) (hS : Std w) (hg : ErrT w) (hA : Rd w A (ents ctxK)) (hB : Rd w B (ents qlh)) :
 Calls Tryz.prog 13 #[.slice A ctxK.length ca, .slice B qlh.length cb] w fun e w' => (∃ V c, e = .returned (.tuple #[.slice V 1 c, .int .i64 0, .int .i64 (-1)])) ∧ Below w.heap.size w w' := by
 refine (qyx ctxK qlh A B ca cb w hS hg hA hB (by decide) (by decide) qjq qrq (-1) (-1) (.inr ⟨rfl, qhs⟩) (.inr ⟨rfl, qrr⟩)).mono ?_;rintro e w' ⟨v, rfl, ho, hb⟩;obtain ⟨va, vc, rfl⟩ := qad ho;have hp : qgd ctxK qlh (-1) (-1) = (qi1 ctxK qlh, 0, -1) := rfl;rw [hp];dsimp only;rw [difK];exact ⟨⟨va, vc, rfl⟩, hb⟩
theorem q0c (A B : Option Addr) (ca cb : Nat) (w : World) (hS : Std w) (hg : ErrT w) (hA : Rd w A (ents ctxK)) (hB : Rd w B (ents chgK)) :
 Calls Tryz.prog 14 #[.slice A ctxK.length ca, .slice B chgK.length cb] w fun e w' => (∃ V c, e = .returned (.tuple #[.slice V 2 c, .int .i64 0, .int .i64 (-1)])) ∧ Below w.heap.size w w' := by
 refine (qxj ctxK chgK A B ca cb w hS hg hA hB (by decide) (by decide) qjq qv0 (-1) (-1) (.inr ⟨rfl, qhs⟩) (.inr ⟨rfl, qv1⟩)).mono ?_;rintro e w' ⟨v, rfl, ho, hb⟩;have hp : qga ctxK chgK (-1) (-1) = ([⟨[115, 114, 99], 1, 493, []⟩, ⟨[115, 114, 99, 47, 97], 1, 1, []⟩], 0, -1) := patK;rw [hp] at ho ⊢;obtain ⟨va, vc, rfl⟩ := qad ho;exact ⟨⟨va, vc, rfl⟩, hb⟩
theorem qyn : (qef qh7).length ≤ 1000000 := of_decide_eq_true (by kernel_rfl)
theorem mayK : May qh7 := ⟨fun c hc => by
 obtain ⟨i, hi, rfl⟩ := List.getElem_of_mem hc;exact qtk (List.getElem?_eq_getElem hi) (qr2 i hi), qve, by decide⟩
theorem qxn (A : Option Addr) (ca : Nat) (w : World) (hS : Std w) (hT : Tz w) (hA : Rd w A (ents qh7)) :
 Calls Tryz.prog 15 #[.slice A qh7.length ca] w fun e w' => e = .returned (.tuple #[.string (S (qnw qh7)), .int .i64 0, .int .i64 (-1)]) ∧ Below w.heap.size w w' :=
 qux qh7 mayK (by decide) qyn A ca w hS hT hA
theorem quv (w : World) (hg : ErrT w) (hord : Ord w) :
 Calls Tryz.prog 7 #[.string (S oneK)] w fun e w' => e = .returned (.tuple #[.string (S q28), .int .i64 0, .int .i64 (-1)]) ∧ Below w.heap.size w w' := by
 obtain ⟨st, h1, h2⟩ := q30;refine (qvj oneK w (by decide) hg hord).mono ?_;rintro e w' ⟨ho, hb⟩;rw [h1] at ho;exact ⟨by rw [show e = _ from ho, h2], hb⟩
theorem qxb (w : World) (l : List Ent) (T : TypeId) : Rd (w.alloc (.cells (ents l).toArray T)) (some ⟨w.heap.size, 0, none⟩) (ents l) := .inr ⟨w.heap.size, 0, rfl, fun i u hu => by
 rw [Nat.zero_add, cell_of_row _ _ _ _ _ _ (Go.heap_alloc_new w _), List.getElem?_toArray]; exact hu⟩
theorem qyf (k : Int) (w : World) (hS : Std w) (hT : Tz w) (hg : ErrT w) (hord : Ord w) (h1 : -9223372036854775808 ≤ k) (h2 : k ≤ 9223372036854775807) :
 Calls Tryz.prog 4 #[.int .i64 k] w fun e w' => e = .returned (.bool true) ∧ Below w.heap.size w w' := by
 have HS := q4z hS;have HT := q4z hT;have HG := q4z hg;have HORD := q4z hord;have hb0 : Below w.heap.size w (w.alloc (.cells csK 39)) := (Below.refl _ _).alloc (Nat.le_refl _) _;have hk0 := Go.heap_alloc_new w (.cells csK 39);have hz0 : (w.alloc (.cells csK 39)).heap.size = w.heap.size + 1 := by simp
 clear hS hT hg hord;go_enter Tryz.func4, Tryz.ntmps4;go_wp2_with fail;obtain ⟨w1, hw1⟩ : ∃ w1, w.alloc (.cells csK 39) = w1 := ⟨_, rfl⟩;rw [hw1] at hb0 hk0 hz0
 rw [show w.alloc (.cells #[.string (S [70, 82, 79, 77, 32, 115, 99, 114, 97, 116, 99, 104, 10, 67, 79, 80, 89, 32, 115, 114, 99, 32, 47, 97, 112, 112, 10]), .int .i64 0, .int .i64 (-1), .string (S [70, 82, 79, 77, 32, 98, 97, 115, 101, 10]), .int .i64 6, .int .i64 5, .string (S [70, 82, 79, 77, 32, 115, 99, 114, 97, 116, 99, 104, 10, 82, 77, 32, 120, 10]), .int .i64 8, .int .i64 13, .string (S [70, 82, 79, 77, 32, 115, 99, 114, 97, 116, 99, 104, 10, 77, 75, 68, 73, 82, 32, 36, 65, 10]), .int .i64 7, .int .i64 19, .string (S [77, 75, 68, 73, 82, 32, 97, 10]), .int .i64 5, .int .i64 0, .string (S [70, 82, 79, 77, 32, 115, 99, 114, 97, 116, 99, 104, 10, 67, 79, 80, 89, 32, 115, 114, 99, 47, 109, 97, 105, 110, 32, 97, 10, 77, 75, 68, 73, 82, 32, 97, 47, 98, 10]), .int .i64 9, .int .i64 29, .string (S [70, 82, 79, 77, 32, 115, 99, 114, 97, 116, 99, 104, 32, 65, 83, 32, 97, 10, 82, 77, 32, 120, 10, 70, 82, 79, 77, 32, 115, 99, 114, 97, 116, 99, 104, 10, 77, 75, 68, 73, 82, 32, 121, 10]), .int .i64 0, .int .i64 (-1), .string (S [70, 82, 79, 77, 32, 115, 99, 114, 97, 116, 99, 104, 10, 87, 79, 82, 75, 68, 73, 82, 32, 47, 97, 47, 98, 10, 77, 75, 68, 73, 82, 32, 46, 46, 47, 46, 46, 47, 46, 46, 47, 99, 10]), .int .i64 1, .int .i64 26, .string (S [70, 82, 79, 77, 32, 115, 99, 114, 97, 116, 99, 104, 10, 65, 68, 68, 32, 115, 114, 99, 47, 109, 97, 105, 110, 32, 47, 10]), .int .i64 4, .int .i64 13, .string (S [70, 82, 79, 77, 32, 115, 99, 114, 97, 116, 99, 104, 10, 77, 75, 68, 73, 82, 32, 34, 97, 10]), .int .i64 5, .int .i64 19] 39) = w1 from hw1]
 clear hw1;have HB0 := q4z hb0;refine (qxg k 10 _ (by omega) (by omega) h1 h2).mono ?_;rintro _ wq ⟨⟨p, rfl, hp⟩, rfl⟩;have hpi : (p : Int) < 10 := by omega
 obtain ⟨t0, t1, t2⟩ := q4e p hp;have c0 : w1.cell? ⟨w.heap.size, p * 3, none⟩ = some (.string (S (txK p))) := by rw [cell_of_row _ _ _ _ _ _ hk0]; exact t0
 have c1 : w1.cell? ⟨w.heap.size, p * 3 + 1, none⟩ = some (.int .i64 (erK p)) := by rw [cell_of_row _ _ _ _ _ _ hk0]; exact t1
 have c2 : w1.cell? ⟨w.heap.size, p * 3 + 2, none⟩ = some (.int .i64 (plK p)) := by rw [cell_of_row _ _ _ _ _ _ hk0]; exact t2
 clear t0 t1 t2 hk0;go_upto_region 3 with fail;have hb3 : Below w1.heap.size w1 (w1.alloc (.cells #[.string (S (txK p)), .int .i64 (erK p), .int .i64 (plK p)] 39)) := (Below.refl _ _).alloc (Nat.le_refl _) _;have hk3 := Go.heap_alloc_new w1 (.cells #[.string (S (txK p)), .int .i64 (erK p), .int .i64 (plK p)] 39);generalize w1.alloc (.cells #[.string (S (txK p)), .int .i64 (erK p), .int .i64 (plK p)] 39) = w3 at hb3 hk3 ⊢;rw [hz0] at hk3;have HB3 := q4z (hb0.trans (hb3.mono hb0.size));have HK3 := q4z hk3;obtain ⟨x0, x1, x2, _, _, _⟩ := qby hk3;have hx3 := (q41 hk3).1;clear hb3 hk3 hb0 c0 c1 c2
 have HMk := q4z (fun (A : Option Addr) (cap : Nat) (wx : World) (hb : Below w.heap.size w wx) (hr : Rd wx A (ents ctxK)) => qu5 (txK p) ctxK A cap wx (q2j p) (HG.out.below hb) (HORD.out.after hb) (HS.out.below hb) hr (by decide) qjq qvx (.inr ⟨rfl, qhs⟩) (rK p) (q35 p hp));have HCt := q4z (fun (wx : World) => qse wx)
 go_cut [5, 6, 7] (fun v5 v6 v7 wx => ∃ (gi : Nat) (e n : Int) (t : List UInt8) (A : Option Addr) (m c : Nat), v5 = .pointer (some ⟨gi, 0, none⟩) ∧ v6 = .int .i64 e ∧ v7 = .int .i64 n ∧ w.heap.size + 1 < gi ∧ Hid (wx.heap[gi]? = some (.cells #[.slice none 0 0, .string (S t), .slice A m c] 32 (0, 0))) ∧ Hid (MakeOutP w3 wx (.returned (.tuple #[.agg #[.slice none 0 0, .string (S t), .slice A m c], .int .i64 e, .int .i64 n])) (rK p)) ∧ Hid (Below w3.heap.size w3 wx))
 case first =>
  have t0 : Below w3.heap.size w3 w3.drew := qbn (Below.refl _ _);have t1 : ∀ o, Below w3.heap.size w3 (w3.alloc o).drew := fun o => qbn ((Below.refl _ _).alloc (Nat.le_refl _) o)
  have ne1 : w.heap.size + 1 ≠ w3.heap.size := by omega
  have ne1b : w3.heap.size ≠ w.heap.size + 1 := Ne.symm ne1;go_region_held3 (fun w' => w'.cell? ⟨w.heap.size + 1, 0, none⟩ = some (.string (S (txK p)))) (go_keep) (first
   | (go_at_call 12; refine (HCt.out _).mono ?_; rintro e6 w6 ⟨A, cap, rfl, hr6, hb6⟩; have HR6 := q4z hr6; have hbw : Below w3.heap.size w3 w6 := (by first | exact t0.trans (hb6.mono t0.size) | exact (t1 _).trans (hb6.mono (t1 _).size)); have HB6 := q4z hbw; have hz6 := hbw.size; have ne6 : w.heap.size + 1 ≠ w6.heap.size := (by omega); have ne6b : w6.heap.size ≠ w.heap.size + 1 := Ne.symm ne6; have k60 := (hbw.cell (p := ⟨w.heap.size + 1, 0, none⟩) hx3).trans x0; (first | (have hk6 : w6.heap[w3.heap.size]? = some (.cells #[.slice none 0 0, .string (S []), .slice none 0 0] 32 (0, 0)) := (hb6.block _ (by simp)).trans (show (w3.alloc (.cells #[.slice none 0 0, .string (S []), .slice none 0 0] 32)).heap[w3.heap.size]? = _ from Go.heap_alloc_new w3 _); have hl6 := (q41 hk6).1) | skip); clear hr6 hb6 hbw)
   | (go_at_call 8; refine (HMk.out _ _ _ (by first | exact HB3.out.trans (HB6.out.mono HB3.out.size) | exact (HB3.out.trans (HB6.out.mono HB3.out.size)).alloc (Nat.le_trans HB3.out.size HB6.out.size) _) (by first | exact HR6.out | exact HR6.out.below ((Below.refl _ _).alloc (Nat.le_refl _) _))).mono ?_; rintro e7 w7 ⟨ho7, hb7⟩; obtain ⟨it, ia, im, ic, e1, n1, rfl⟩ := ho7.form; have HO7 := q4z ho7; have hbw7 : Below w3.heap.size w3 w7 := (by first | exact HB6.out.trans (hb7.mono HB6.out.size) | exact (HB6.out.alloc HB6.out.size _).trans (hb7.mono (by have := HB6.out.size; simp; omega))); have HB7 := q4z hbw7; have k70 := (hbw7.cell (p := ⟨w.heap.size + 1, 0, none⟩) hx3).trans x0; (first | (have hk7 : w7.heap[w6.heap.size]? = some (.cells #[.slice none 0 0, .string (S []), .slice none 0 0] 32 (0, 0)) := (hb7.block _ (by simp)).trans (show (w6.alloc (.cells #[.slice none 0 0, .string (S []), .slice none 0 0] 32)).heap[w6.heap.size]? = _ from Go.heap_alloc_new w6 _); obtain ⟨d0, d1, d2, d3, d4, d5⟩ := qby hk7; have hl7 := (q41 hk7).1) | (have hk7 : w7.heap[w3.heap.size]? = some (.cells #[.slice none 0 0, .string (S []), .slice none 0 0] 32 (0, 0)) := (hb7.block _ hl6).trans hk6; obtain ⟨d0, d1, d2, d3, d4, d5⟩ := qby hk7; have hl7 := (q41 hk7).1) | skip); clear ho7 hb7 hbw7))
  all_goals
   go_wp2;go_meet
   first
    | (exact ⟨w7.heap.size, e1, n1, it, ia, im, ic, rfl, rfl, rfl, by have := HB7.out.size; omega, Go.heap_alloc_new w7 _, (HO7.out.after ((Below.refl _ _).alloc (Nat.le_refl _) _)).base HB6.out.size, HB7.out.alloc HB7.out.size _⟩)
    | (exact ⟨w6.heap.size, e1, n1, it, ia, im, ic, rfl, rfl, rfl, by omega, heap_setCell_same _ w6.heap.size 2 _ _ _ (heap_setCell_same _ w6.heap.size 1 _ _ _ (heap_setCell_same w7 w6.heap.size 0 _ _ _ hk7)), (((HO7.out.setB ⟨w6.heap.size, 0, none⟩ _ (by first | (simp only [World.size_alloc]; omega) | (show w3.heap.size < w6.heap.size; omega) | omega)).setB ⟨w6.heap.size, 1, none⟩ _ (by first | (simp only [World.size_alloc]; omega) | (show w3.heap.size < w6.heap.size; omega) | omega)).setB ⟨w6.heap.size, 2, none⟩ _ (by first | (simp only [World.size_alloc]; omega) | (show w3.heap.size < w6.heap.size; omega) | omega)).base (by first | (simp only [World.size_alloc]; omega) | (show w3.heap.size < w6.heap.size; omega) | omega), ((HB7.out.setCell (p := ⟨w6.heap.size, 0, none⟩) (by show w3.heap.size ≤ w6.heap.size; omega) _).setCell (p := ⟨w6.heap.size, 1, none⟩) (by show w3.heap.size ≤ w6.heap.size; omega) _).setCell (p := ⟨w6.heap.size, 2, none⟩) (by show w3.heap.size ≤ w6.heap.size; omega) _⟩)
    | (exact ⟨w3.heap.size, e1, n1, it, ia, im, ic, rfl, rfl, rfl, by omega, heap_setCell_same _ w3.heap.size 2 _ _ _ (heap_setCell_same _ w3.heap.size 1 _ _ _ (heap_setCell_same w7 w3.heap.size 0 _ _ _ hk7)), (((HO7.out.setB ⟨w3.heap.size, 0, none⟩ _ (by first | (simp only [World.size_alloc]; omega) | (show w3.heap.size < w6.heap.size; omega) | omega)).setB ⟨w3.heap.size, 1, none⟩ _ (by first | (simp only [World.size_alloc]; omega) | (show w3.heap.size < w6.heap.size; omega) | omega)).setB ⟨w3.heap.size, 2, none⟩ _ (by first | (simp only [World.size_alloc]; omega) | (show w3.heap.size < w6.heap.size; omega) | omega)).base (by first | (simp only [World.size_alloc]; omega) | (show w3.heap.size < w6.heap.size; omega) | omega), ((HB7.out.setCell (p := ⟨w3.heap.size, 0, none⟩) (by show w3.heap.size ≤ w3.heap.size; omega) _).setCell (p := ⟨w3.heap.size, 1, none⟩) (by show w3.heap.size ≤ w3.heap.size; omega) _).setCell (p := ⟨w3.heap.size, 2, none⟩) (by show w3.heap.size ≤ w3.heap.size; omega) _⟩)
 case rest =>
  obtain ⟨gi, ie, inn, it, ia, im, ic, rfl, rfl, rfl, hgi, HKi, HMo, HB4⟩ := hcut;clear HMk x0 x1 x2;obtain ⟨w4, hw4⟩ : ∃ w4, wc = w4 := ⟨_, rfl⟩;rw [hw4] at HKi HMo HB4 ⊢;clear hw4;have HBw4 := q4z (HB3.out.trans (HB4.out.mono HB3.out.size));have HDf := q4z (fun (A B : Option Addr) (ca cb : Nat) (wx : World) (hb : Below w4.heap.size w4 wx) (hr : Rd wx A (ents ctxK)) (hr2 : Rd wx B (ents qlh)) => q1h A B ca cb wx (HS.out.below (HBw4.out.trans (hb.mono HBw4.out.size))) (HG.out.below (HBw4.out.trans (hb.mono HBw4.out.size))) hr hr2);go_upto_region 4 with fail;go_wp2_with fail;refine (HCt.out _).mono ?_;rintro e a4 ⟨A4, c4, rfl, hr6, hb6⟩;have HR := q4z hr6;have HBa := q4z hb6;clear hr6 hb6
  go_wp2_with fail;refine (HDf.out _ _ _ _ _ (HBa.out.alloc HBa.out.size _) (HR.out.below ((Below.refl _ _).alloc (Nat.le_refl _) _)) (qxb a4 qlh 47)).mono ?_;rintro e b4 ⟨⟨V4, vc4, rfl⟩, hb7⟩;have hbw7 : Below w4.heap.size w4 b4 := (HBa.out.alloc HBa.out.size _).trans (hb7.mono (by have := HBa.out.size; simp; omega));have HBb4 := q4z hbw7;clear hb7 hbw7 HBa HR HDf;have HBw5 := q4z (HBw4.out.trans (HBb4.out.mono HBw4.out.size))
  have HPa := q4z (fun (A B : Option Addr) (ca cb : Nat) (wx : World) (hb : Below b4.heap.size b4 wx) (hr : Rd wx A (ents ctxK)) (hr2 : Rd wx B (ents chgK)) => q0c A B ca cb wx (HS.out.below (HBw5.out.trans (hb.mono HBw5.out.size))) (HG.out.below (HBw5.out.trans (hb.mono HBw5.out.size))) hr hr2);go_upto_region 5 with fail;go_wp2_with fail;refine (HCt.out _).mono ?_;rintro e a5 ⟨A5, c5, rfl, hr6, hb6⟩;have HR := q4z hr6;have HBa := q4z hb6;clear hr6 hb6;go_wp2_with fail;refine (HPa.out _ _ _ _ _ (HBa.out.alloc HBa.out.size _) (HR.out.below ((Below.refl _ _).alloc (Nat.le_refl _) _)) (qxb a5 chgK 50)).mono ?_;rintro e b5 ⟨⟨V5, vc5, rfl⟩, hb7⟩
  have hbw7 : Below b4.heap.size b4 b5 := (HBa.out.alloc HBa.out.size _).trans (hb7.mono (by have := HBa.out.size; simp; omega));have HBb5 := q4z hbw7;clear hb7 hbw7 HBa HR HPa;have HBw6 := q4z (HBw5.out.trans (HBb5.out.mono HBw5.out.size));go_upto_region 6 with fail;go_wp2_with fail;refine (qxn _ _ _ (HS.out.below (HBw6.out.alloc HBw6.out.size _)) (HT.out.below (HBw6.out.alloc HBw6.out.size _)) (qxb b5 qh7 50)).mono ?_;rintro e b6 ⟨rfl, hb7⟩;have HBw7 := q4z ((HBw6.out.alloc HBw6.out.size _).trans (hb7.mono (by have := HBw6.out.size; simp; omega)));have HR6 := q4z (((Below.refl b5.heap.size b5).alloc (Nat.le_refl _) (.cells (ents qh7).toArray 50)).trans (hb7.mono (by simp)));have hpl := qxm
  have hpt := quy;clear hb7;generalize qnw qh7 = pk at hpl hpt ⊢;go_upto_region 9 with fail;go_wp2_with fail;refine (quv _ (HG.out.below HBw7.out) (HORD.out.after HBw7.out)).mono ?_;rintro e b7 ⟨rfl, hb8⟩;have HBw8 := q4z (HBw7.out.trans (hb8.mono HBw7.out.size));have r47 : Below w4.heap.size w4 b7 := HBb4.out.trans ((HBb5.out.trans ((HR6.out.trans (hb8.mono HR6.out.size)).mono HBb5.out.size)).mono HBb4.out.size);have r37 : Below w3.heap.size w3 b7 := HB4.out.trans (r47.mono HB4.out.size);have hkx := (r37.block _ hx3).trans HK3.out;have hki := (r47.block _ (q41 HKi.out).1).trans HKi.out;have HMo7 := q4z (HMo.out.after r47);obtain ⟨y0, y1, y2, _, _, _⟩ := qby hkx
  obtain ⟨i0, i1, i2, _, _, _⟩ := qby hki;clear hb8 r47 r37 hkx hki HMo HK3 HKi HR6 HBb4 HBb5 HB4 HBw4 HBw5 HBw6 HBw7 HB3 HCt hpl hpt;unfold q28;go_upto_region 12 with fail;by_cases hpe : p ≠ 0 ∧ p ≠ 6
  ·obtain ⟨q1, q2, q3⟩ := q3z p hp hpe.1 hpe.2
   have hm := HMo7.out;rw [q1] at hm;injection hm with hm;injection hm with hm;have hm' := congrArg Array.toList hm;simp only [List.cons.injEq, Value.int.injEq, true_and, and_true] at hm';obtain ⟨_, rfl, rfl⟩ := hm';rw [q2];have q4 : (erK p != 0) = true := by simpa using q3
   have q5 : (erK p == 0) = false := by simpa using q3
   generalize erK p = ep at *;generalize plK p = pp at *;clear q1 q2 HMo7 hm q3;go_wp2;go_ret;exact ⟨qau (by simp), HBw8.out⟩
  ·have hp06 : p = 0 ∨ p = 6 := by omega
   rcases hp06 with rfl | rfl
   ·obtain ⟨v, hm, ho⟩ := HMo7.out
    injection hm with hm;injection hm with hm;have hm' := congrArg Array.toList hm;simp only [List.cons.injEq, Value.int.injEq, Value.agg.injEq, true_and, and_true] at hm';obtain ⟨hm1, rfl, rfl⟩ := hm';have hm2 := congrArg Array.toList hm1;simp only [List.cons.injEq, Value.int.injEq, Value.string.injEq, true_and, and_true] at hm2;obtain ⟨ht, rfl⟩ := hm2;obtain rfl : it = [47] := qzh (by simpa using ht);have ho2 := ho;obtain ⟨A', c', hv, _, _, hrd⟩ := Rd.of_own ho2;injection hv with hv1 hv2 hv3;subst hv1;obtain rfl : im = 2 := hv2;obtain ⟨bt, ot, rfl, hbt, hct⟩ := hrd.at 0 (by decide);have z0 : b7.cell? ⟨bt, ot, none⟩ = some _ := hct 0 _ rfl;have z1 := hct 1 _ rfl;have z2 := hct 2 _ rfl
    have z3 := hct 3 _ rfl;have z4 := hct 4 _ rfl;have z5 := hct 5 _ rfl;have z6 := hct 6 _ rfl;have z7 := hct 7 _ rfl;have hq0 : ∀ w, (binOp .eql 47 (.agg #[.string (S [97, 112, 112]), .int .i64 1, .int .i64 493, .string (S [])]) (.agg #[.string (S [97, 112, 112]), .int .i64 1, .int .i64 493, .string (S [])])).run Tryz.prog w = .ok (.bool true) w := fun w => by kernel_rfl
    have hq1 : ∀ w, (binOp .eql 47 (.agg #[.string (S [97, 112, 112, 47, 109, 97, 105, 110]), .int .i64 2, .int .i64 420, .string (S [104, 105])]) (.agg #[.string (S [97, 112, 112, 47, 109, 97, 105, 110]), .int .i64 2, .int .i64 420, .string (S [104, 105])])).run Tryz.prog w = .ok (.bool true) w := fun w => by kernel_rfl
    rw [show txK 0 = [70, 82, 79, 77, 32, 115, 99, 114, 97, 116, 99, 104, 10, 67, 79, 80, 89, 32, 115, 114, 99, 32, 47, 97, 112, 112, 10] from rfl] at y0;rw [show erK 0 = 0 from rfl] at y1;rw [show plK 0 = -1 from rfl] at y2;clear HMo7 hm ho ho2 hrd hct ht hm1;go_wp2;go_ret;exact ⟨rfl, HBw8.out⟩
   ·obtain ⟨v, hm, ho⟩ := HMo7.out
    injection hm with hm;injection hm with hm;have hm' := congrArg Array.toList hm;simp only [List.cons.injEq, Value.int.injEq, true_and, and_true] at hm';obtain ⟨_, rfl, rfl⟩ := hm';rw [show txK 6 = [70, 82, 79, 77, 32, 115, 99, 114, 97, 116, 99, 104, 32, 65, 83, 32, 97, 10, 82, 77, 32, 120, 10, 70, 82, 79, 77, 32, 115, 99, 114, 97, 116, 99, 104, 10, 77, 75, 68, 73, 82, 32, 121, 10] from rfl] at y0;rw [show erK 6 = 0 from rfl] at y1;rw [show plK 6 = -1 from rfl] at y2;clear HMo7 hm ho;go_wp2;go_ret;exact ⟨rfl, HBw8.out⟩
end Go.Proofs.YtikdblkfjchjbaaGreatDoor
