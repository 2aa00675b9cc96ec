import Derived.Test.YtikdblkfjchjbaaGreatDoorY11
import Derived.Test.YtikdblkfjchjbaaGreatDoorY13
set_option linter.unusedVariables false
set_option linter.unusedSimpArgs false
set_option maxHeartbeats 16000000
set_option maxRecDepth 100000
namespace Go.Proofs.YtikdblkfjchjbaaGreatDoor
open Go.RowKit
theorem qv8 (k : Int) (w : World) : (Instr.typeAssert (.iface qgl (.agg #[.int .i64 k])) 20 208 true).run Tryz.prog w = .ok (.tuple #[.agg #[.int .i64 k], .bool true]) w := by kernel_rfl
theorem qsk (w : World) : (Instr.typeAssert .nilIface 20 208 true).run Tryz.prog w = .ok (.tuple #[.agg #[.int .i64 0], .bool false]) w := by kernel_rfl
theorem qih (b : Nat) (w : World) :
 CallsD Tryz.prog 92 #[.pointer (some ⟨b, 0, none⟩)] .returning w fun e u' w' => e = .returned (.tuple #[]) ∧ u' = .returning ∧ w' = w.alloc (.cells #[.int .i64 0] qgl) := by
 refine callsD_of_wpS Tryz.func92 rfl fun c₀ cs hu => ?_
 apply wpS_seq;apply wpS_region;simp [wpOpsS, go_sem, recoverD, hu, Tryz.ntmps92, Exit.thenS, qsk]
 apply wpS_seq;apply wpS_region;simp [wpOpsS, go_sem, hu, Exit.thenS, Region.wanted, yielded]
 refine wpS_cond (t := false) (by simp [Act.eval, Array.replicate]) ?_;simp only [Bool.false_eq_true, if_false];refine wpS_of_wp (wp_skip ?_);cases c₀;simp_all [bodyPostS, results, Tryz.results92]
theorem qbq (b : Nat) (k : Int) (older : List PanicEntry) (w : World) (v : Value) (hc : w.cell? ⟨b, 0, none⟩ = some v) (hf : w.frozen? ⟨b, 0, none⟩ = false) :
 CallsD Tryz.prog 92 #[.pointer (some ⟨b, 0, none⟩)] (.panicking ({ v := .iface qgl (.agg #[.int .i64 k]), recovered := false } :: older)) w fun e u' w' => e = .returned (.tuple #[]) ∧ u' = .panicking ({ v := .iface qgl (.agg #[.int .i64 k]), recovered := true } :: older) ∧ w' = (w.alloc (.cells #[.int .i64 k] qgl)).setCell ⟨b, 0, none⟩ (.int .i64 k) := by
 refine callsD_of_wpS Tryz.func92 rfl fun c₀ cs hu => ?_
 have hbA : Below w.heap.size w (w.alloc (.cells #[.int .i64 k] qgl)) := (Below.refl _ _).alloc (Nat.le_refl _) _;have h2l := q40 w _ hc;have k2 : (w.alloc (.cells #[.int .i64 k] qgl)).cell? ⟨b, 0, none⟩ = some v := (hbA.cell (p := ⟨b, 0, none⟩) h2l).trans hc;have g2 : (w.alloc (.cells #[.int .i64 k] qgl)).frozen? ⟨b, 0, none⟩ = false := (hbA.frozen (p := ⟨b, 0, none⟩) h2l).trans hf;apply wpS_seq;apply wpS_region;simp [wpOpsS, go_sem, recoverD, hu, Tryz.ntmps92, Exit.thenS, qv8]
 apply wpS_seq;apply wpS_region;simp [wpOpsS, go_sem, Exit.thenS, Region.wanted, yielded]
 refine wpS_cond (t := true) (by simp [Act.eval, Array.replicate]) ?_;simp only [if_true];apply wpS_region;simp [wpOpsS, go_sem, k2, g2, bodyPostS, results, Tryz.results92, Array.replicate]
open Go Go.RowKit Go.Shelf
attribute [local go_sem] Oper.semAt_some
theorem qwg {w0 : World} {p : List UInt8} (hpl : p.length ≤ 4294967280) {B N : Nat} {a m : Pth → Nat} {F : qaf} (hT : TreeAt w0 B N a m F) (hF : FineF (qfm F (qaa p))) (hN : N ≤ 4294967290) (hS : Std w0) (t : Nat) (hV : TreeV w0 t a) (X0 : Nat → Prop) (hX0 : qsm X0 a m F) (hXS : StdX X0) (hXt : X0 t)
 (b1 b2 : Nat) (hX1 : X0 b1) (hX2 : X0 b2) (c1 : w0.cell? ⟨b1, 0, none⟩ = some (.pointer (some ⟨t, 0, none⟩))) (c2 : w0.cell? ⟨b2, 0, none⟩ = some (.string (S p))) (L : List Ent) (hL : WalkL (qfm F (qaa p)) [] L) (x : Nd) (hx : F (qaa p) = some x) (hk : x.kind = 1) (n : Nat) :
 qzg Fence.wide n Tryz.prog 111 #[.pointer (some ⟨b1, 0, none⟩), .pointer (some ⟨b2, 0, none⟩)] encE L X0 w0 := by
 intro l J X W hrely hY hJX hX hW hJ;have d1 : W.cell? ⟨b1, 0, none⟩ = some (.pointer (some ⟨t, 0, none⟩)) := qap c1 (hW _ hX1);have d2 : W.cell? ⟨b2, 0, none⟩ = some (.string (S p)) := qap c2 (hW _ hX2);have hT1 := hT.stayX hX0 hW;have hS1 := hS.stayX hXS hW;have hV1 : TreeV W t a := qap hV (hW _ hXt);have hYn : ∀ n pre x rest X W, L = pre ++ x :: rest → J pre X W → YieldAt Fence.wide n Tryz.prog l (encE x) W fun e W' => e = .returned (.bool true) ∧ J (pre ++ [x]) X W' ∧ StaysX X W W' := fun n' pre x rest X W h1 h2 => YieldAt.wide (hY pre x rest X W h1 h2)
 obtain ⟨w2, hw2⟩ : ∃ w2, (W.alloc (Obj.cells #[.func (.yield l) #[] #[]] 221)).alloc (Obj.cells #[goV W.heap.size (W.heap.size + 1)] 222) = w2 := ⟨_, rfl⟩;have hb2 : Below W.heap.size W w2 := by rw [← hw2]; exact ((Below.refl _ _).alloc (Nat.le_refl _) _).alloc (by simp) _
 have hsz : w2.heap.size = W.heap.size + 2 := by rw [← hw2]; simp
 have k3 : w2.heap[W.heap.size]? = some (Obj.cells #[.func (.yield l) #[] #[]] 221) := by rw [← hw2]; exact (Below.heap_alloc (W.alloc _) _ W.heap.size (by simp)).trans (Go.heap_alloc_new W _)
 have k4 : w2.heap[W.heap.size + 1]? = some (Obj.cells #[goV W.heap.size (W.heap.size + 1)] 222) := by
  rw [← hw2]; have := Go.heap_alloc_new (W.alloc (Obj.cells #[.func (.yield l) #[] #[]] 221)) (Obj.cells #[goV W.heap.size (W.heap.size + 1)] 222);rwa [World.size_alloc] at this
 have HFi : Hid (CallsIn Fence.wide (n - 1) Tryz.prog 70 #[.pointer (some ⟨t, 0, none⟩), .string (S p)] w2 fun e w' => e = .returned (.pointer (some ⟨a (qaa p), 0, none⟩)) ∧ Below w2.heap.size w2 w') := q4z (by
  have h := qfb (hT1.below hb2) t (hV1.below hb2) p hpl (hS1.below hb2);rw [qel hx] at h;exact callsIn_wide.2 h)
 have HGo : Hid (∀ w3, Below w2.heap.size w2 w3 → CallsIn Fence.wide (n - 1) Tryz.prog 112 #[.pointer (some ⟨a (qaa p), 0, none⟩), .string (S []), .pointer (some ⟨W.heap.size, 0, none⟩), .pointer (some ⟨W.heap.size + 1, 0, none⟩)] w3 fun e w4 =>
  e = .returned (.bool true) ∧ ∃ X', J L X' w4) := q4z fun w3 hb3 => by
  have hb : Below W.heap.size W w3 := hb2.trans (hb3.mono hb2.size);have f3 : w3.cell? ⟨W.heap.size, 0, none⟩ = some (.func (.yield l) #[] #[]) := by rw [cell_of_row w3 _ _ _ _ _ ((hb3.block _ (by omega)).trans k3)]; rfl
  have f4 : w3.cell? ⟨W.heap.size + 1, 0, none⟩ = some (goV W.heap.size (W.heap.size + 1)) := by rw [cell_of_row w3 _ _ _ _ _ ((hb3.block _ (by omega)).trans k4)]; rfl
  have hg := q17 (hT.shift (qaa p) x hx hk) hF hN X0 (fun q y hy => hX0 _ y hy) l L J hrely hYn hJX W.heap.size (W.heap.size + 1) 13 (n - 1) [] x L [] [] (qde X W w3) w3 (by simp) (show qfm F (qaa p) [] = some x by unfold qfm; rw [List.append_nil]; exact hx) hL (by simp) (hrely _ _ _ _ hJ hb) (fun k hk => .inl (hX k hk)) (fun k hk => (hb.block k (hJX _ _ _ hJ k (hX k hk))).trans (hW k hk))
   (.inr ⟨Nat.le_refl _, by have := hb3.size; omega⟩) (.inr ⟨by omega, by have := hb3.size; omega⟩) f3 f4
  simp only [List.append_nil] at hg;refine hg.mono ?_;rintro e w4 ⟨he, X', hj, _⟩;exact ⟨he, X', by simpa using hj⟩
 have e4 : w2.cell? ⟨W.heap.size + 1, 0, none⟩ = some (.func (.func 112) #[] #[.pointer (some ⟨W.heap.size, 0, none⟩), .pointer (some ⟨W.heap.size + 1, 0, none⟩)]) := by rw [cell_of_row w2 _ _ _ _ _ k4]; rfl
 have HE4 := q4z (fun w3 (hb3 : Below w2.heap.size w2 w3) => (hb3.cell (p := ⟨W.heap.size + 1, 0, none⟩) (by simp; omega)).trans e4);have g1 : w2.cell? ⟨b1, 0, none⟩ = some (.pointer (some ⟨t, 0, none⟩)) := (hb2.cell (q40 W _ d1)).trans d1;have g2 : w2.cell? ⟨b2, 0, none⟩ = some (.string (S p)) := (hb2.cell (q40 W _ d2)).trans d2;unfold goV at hw2;clear hY hYn hT1 hS1 hV1 k3 k4 hb2 hJX hrely e4;refine callsIn_of_wp Tryz.func111 rfl trivial ?_ rfl;simp only [Tryz.ntmps111, List.size_toArray, List.length_cons, List.length_nil, Nat.reduceAdd, Nat.reduceSub, Array.replicate_succ, Array.replicate_zero, List.push_toArray, List.append_toArray, List.nil_append, List.cons_append];gi_wp2_with (first
  | ((first | refine ⟨trivial, fun h => (by cases h), ?_⟩ | refine ⟨fun h => (by cases h), ?_⟩ | skip); gi_at_call 70; refine (HFi.out).mono ?_; rintro e w3 ⟨rfl, hb3⟩; have f4 := HE4.out w3 hb3)
  | ((first | refine ⟨trivial, fun h => (by cases h), ?_⟩ | refine ⟨fun h => (by cases h), ?_⟩ | skip); gi_at_call 112; refine (HGo.out w3 hb3).mono ?_; rintro e w4 ⟨rfl, X', hj⟩))
 go_end0
 exact ⟨⟨_, rfl⟩, X', hj⟩
end Go.Proofs.YtikdblkfjchjbaaGreatDoor
