/-
  The program: what Walk gives for a tree's root.
  The program: how many entries a tree has.
-/
import Derived.Laws.EntriesVeiled
import Derived.RangeFuncCalls
import Derived.Test.YtafokdidpbainaaGreatDoorY02
import Derived.Test.YtafokdidpbainaaGreatDoorY07
set_option linter.unusedVariables false
set_option linter.unusedSimpArgs false
namespace Go.Proofs.YtafokdidpbainaaGreatDoor
open Go Go.RowKit Go.Shelf
attribute [local go_sem] Oper.semAt_some

/-- the variables of the library are among X -/
def StdX (X : Nat → Prop) : Prop := X 3
theorem Std.stayX {w w' : World} {X : Nat → Prop} (h : Std w) (hX : StdX X) (hs : ∀ k, X k → w'.heap[k]? = w.heap[k]?) : Std w' := by
  obtain ⟨m, hm⟩ := h.maxlen
  exact ⟨⟨m, cell_stay hm (hs _ hX)⟩⟩
set_option maxRecDepth 100000 in
set_option maxHeartbeats 8000000 in
theorem walk1_seq {w0 : World} {B N : Nat} {a m : Pth → Nat} {F : Forest} (hT : TreeAt w0 B N a m F) (hF : FineF F) (hN : N ≤ 4294967290) (hS : Std w0) (t : Nat) (hV : TreeV w0 t a) (X0 : Nat → Prop) (hX0 : TreeX X0 a m F) (hXS : StdX X0) (hXt : X0 t)
    (b1 b2 : Nat) (hX1 : X0 b1) (hX2 : X0 b2) (c1 : w0.cell? ⟨b1, 0, none⟩ = some (.pointer (some ⟨t, 0, none⟩))) (c2 : w0.cell? ⟨b2, 0, none⟩ = some (.string (S []))) (L : List Ent) (hL : WalkL F [] L) (x : Nd) (hx : F [] = some x) (n : Nat) :
    SeqRel Fence.wide n Tryz.prog 92 #[.pointer (some ⟨b1, 0, none⟩), .pointer (some ⟨b2, 0, none⟩)] encE L X0 w0 := by
  intro l J X W hrely hY hJX hX hW hJ
  have d1 : W.cell? ⟨b1, 0, none⟩ = some (.pointer (some ⟨t, 0, none⟩)) := cell_stay c1 (hW _ hX1)
  have d2 : W.cell? ⟨b2, 0, none⟩ = some (.string (S [])) := cell_stay c2 (hW _ hX2)
  have hT1 := hT.stayX hX0 hW
  have hS1 := hS.stayX hXS hW
  have hV1 : TreeV W t a := cell_stay hV (hW _ hXt)
  have hYn : ∀ n pre x rest X W, L = pre ++ x :: rest → J pre X W → YieldAt Fence.wide n Tryz.prog l (encE x) W fun e W' => e = .returned (.bool true) ∧ J (pre ++ [x]) X W' ∧ StaysX X W W' := fun n' pre x rest X W h1 h2 => YieldAt.wide (hY pre x rest X W h1 h2)
  obtain ⟨w2, hw2⟩ : ∃ w2, (W.alloc (Obj.cells #[.func (.yield l) #[] #[]] 147)).alloc (Obj.cells #[goV W.heap.size (W.heap.size + 1)] 148) = w2 := ⟨_, rfl⟩
  have hb2 : Below W.heap.size W w2 := by rw [← hw2]; exact ((Below.refl _ _).alloc (Nat.le_refl _) _).alloc (by simp) _
  have hsz : w2.heap.size = W.heap.size + 2 := by rw [← hw2]; simp
  have k3 : w2.heap[W.heap.size]? = some (Obj.cells #[.func (.yield l) #[] #[]] 147) := by rw [← hw2]; exact (Below.heap_alloc (W.alloc _) _ W.heap.size (by simp)).trans (Go.heap_alloc_new W _)
  have k4 : w2.heap[W.heap.size + 1]? = some (Obj.cells #[goV W.heap.size (W.heap.size + 1)] 148) := by
    rw [← hw2]; have := Go.heap_alloc_new (W.alloc (Obj.cells #[.func (.yield l) #[] #[]] 147)) (Obj.cells #[goV W.heap.size (W.heap.size + 1)] 148)
    rwa [World.size_alloc] at this
  have HFi : Hid (CallsIn Fence.wide (n - 1) Tryz.prog 67 #[.pointer (some ⟨t, 0, none⟩), .string (S [])] w2 fun e w' => e = .returned (.pointer (some ⟨a [], 0, none⟩)) ∧ Below w2.heap.size w2 w') := Lib.hid (by
    have h := find_any (hT1.below hb2) t (hV1.below hb2) [] (by simp) (hS1.below hb2)
    rw [show partsB ([] : List UInt8) = [] from rfl, atV_some hx] at h
    exact callsIn_wide.2 h)
  have HGo : Hid (∀ w3, Below w2.heap.size w2 w3 → CallsIn Fence.wide (n - 1) Tryz.prog 93 #[.pointer (some ⟨a [], 0, none⟩), .string (S []), .pointer (some ⟨W.heap.size, 0, none⟩), .pointer (some ⟨W.heap.size + 1, 0, none⟩)] w3 fun e w4 =>
      e = .returned (.bool true) ∧ ∃ X', J L X' w4) := Lib.hid fun w3 hb3 => by
    have hb : Below W.heap.size W w3 := hb2.trans (hb3.mono hb2.size)
    refine (go1_in hT hF hN X0 hX0 l L J hrely hYn hJX W.heap.size (W.heap.size + 1) 13 (n - 1) [] x L [] [] (freshX X W w3) w3 (by simp) hx hL (by simp) (hrely _ _ _ _ hJ hb) (fun k hk => .inl (hX k hk)) (fun k hk => (hb.block k (hJX _ _ _ hJ k (hX k hk))).trans (hW k hk))
      (.inr ⟨Nat.le_refl _, by have := hb3.size; omega⟩) (.inr ⟨by omega, by have := hb3.size; omega⟩) ?_ ?_).mono ?_
    · rw [cell_of_row w3 _ _ _ _ _ ((hb3.block _ (by omega)).trans k3)]; rfl
    · rw [cell_of_row w3 _ _ _ _ _ ((hb3.block _ (by omega)).trans k4)]; rfl
    · rintro e w4 ⟨he, X', hj, _⟩
      exact ⟨he, X', by simpa using hj⟩
  have e4 : w2.cell? ⟨W.heap.size + 1, 0, none⟩ = some (.func (.func 93) #[] #[.pointer (some ⟨W.heap.size, 0, none⟩), .pointer (some ⟨W.heap.size + 1, 0, none⟩)]) := by rw [cell_of_row w2 _ _ _ _ _ k4]; rfl
  have HE4 := Lib.hid (fun w3 (hb3 : Below w2.heap.size w2 w3) => (hb3.cell (p := ⟨W.heap.size + 1, 0, none⟩) (by simp; omega)).trans e4)
  have g1 : w2.cell? ⟨b1, 0, none⟩ = some (.pointer (some ⟨t, 0, none⟩)) := (hb2.cell (World.block_lt_of_cell? W _ d1)).trans d1
  have g2 : w2.cell? ⟨b2, 0, none⟩ = some (.string (S [])) := (hb2.cell (World.block_lt_of_cell? W _ d2)).trans d2
  unfold goV at hw2
  clear hY hYn hT1 hS1 hV1 k3 k4 hb2 hJX hrely e4
  refine callsIn_of_wp Tryz.func92 rfl trivial ?_ rfl
  simp only [Tryz.ntmps92, List.size_toArray, List.length_cons, List.length_nil, Nat.reduceAdd, Nat.reduceSub, Array.replicate_succ, Array.replicate_zero, List.push_toArray, List.append_toArray, List.nil_append, List.cons_append]
  gi_wp2_with (first
    | ((first | refine ⟨trivial, fun h => (by cases h), ?_⟩ | refine ⟨fun h => (by cases h), ?_⟩ | skip); gi_at_call 67; refine (HFi.out).mono ?_; rintro e w3 ⟨rfl, hb3⟩; have f4 := HE4.out w3 hb3)
    | ((first | refine ⟨trivial, fun h => (by cases h), ?_⟩ | refine ⟨fun h => (by cases h), ?_⟩ | skip); gi_at_call 93; refine (HGo.out w3 hb3).mono ?_; rintro e w4 ⟨rfl, X', hj⟩))
  go_end0
  exact ⟨⟨_, rfl⟩, X', hj⟩
/-- Walk itself: a function value of two boxes -/
def walkV (b1 b2 : Nat) : Value := .func (.func 92) #[] #[.pointer (some ⟨b1, 0, none⟩), .pointer (some ⟨b2, 0, none⟩)]
theorem walk_any (t : Nat) (p : List UInt8) (w : World) :
    Calls Tryz.prog 70 #[.pointer (some ⟨t, 0, none⟩), .string (S p)] w fun e w' => e = .returned (walkV w.heap.size (w.heap.size + 1)) ∧ Below w.heap.size w w' ∧ w'.heap.size = w.heap.size + 2 ∧
      w'.cell? ⟨w.heap.size, 0, none⟩ = some (.pointer (some ⟨t, 0, none⟩)) ∧ w'.cell? ⟨w.heap.size + 1, 0, none⟩ = some (.string (S p)) := by
  go_enter Tryz.func70, Tryz.ntmps70
  go_wp2
  go_ret
  refine ⟨rfl, ((Below.refl _ _).alloc (Nat.le_refl _) _).alloc (by simp) _, by simp, ?_, ?_⟩
  · rw [cell_of_row _ _ _ _ _ _ ((Below.heap_alloc (w.alloc _) _ w.heap.size (by simp)).trans (Go.heap_alloc_new w _))]; rfl
  · have := Go.heap_alloc_new (w.alloc (Obj.cells #[.pointer (some ⟨t, 0, none⟩)] 71)) (Obj.cells #[.string (S p)] 9)
    rw [World.size_alloc] at this
    rw [cell_of_row _ _ _ _ _ _ this]; rfl
end Go.Proofs.YtafokdidpbainaaGreatDoor
namespace Go.Proofs.YtafokdidpbainaaGreatDoor
open Go Go.RowKit Go.Shelf
attribute [local go_sem] Oper.semAt_some

theorem Below.putObj' {B : Nat} {w W : World} (h : Below B w W) {k : Nat} (hk : B ≤ k) (o : Obj) : Below B w (W.putObj k o) :=
  ⟨h.os, h.tape, h.output, by simpa using h.size, fun i hi => (World.putObj_heap_other (by omega)).trans (h.block i hi)⟩
set_option maxRecDepth 100000 in
set_option maxHeartbeats 4000000 in
theorem len_any {w : World} {B N : Nat} {a m : Pth → Nat} {F : Forest} (hT : TreeAt w B N a m F) (hF : FineF F) (hN : N ≤ 4294967290) (hS : Std w) (t : Nat) (hV : TreeV w t a) (L : List Ent) (hL : WalkL F [] L) (hl : L.length ≤ 2000000000) (x : Nd) (hx : F [] = some x) :
    Calls Tryz.prog 69 #[.pointer (some ⟨t, 0, none⟩)] w fun e w' => e = .returned (.int .i64 L.length) ∧ Below w.heap.size w w' := by
  refine (callsIn_wide (n := 8)).1 ?_
  refine callsIn_of_wp_marks Tryz.func69 rfl trivial ?_ rfl
  simp only [Tryz.ntmps69, List.size_toArray, List.length_cons, List.length_nil, Nat.reduceAdd, Nat.reduceSub, Array.replicate_succ, Array.replicate_zero, List.push_toArray, List.append_toArray, List.nil_append, List.cons_append]
  have HWk : Hid (∀ w, CallsIn Fence.wide (8 - 1) Tryz.prog 70 #[.pointer (some ⟨t, 0, none⟩), .string (S [])] w _) := Lib.hid (fun w => callsIn_wide.2 (walk_any t [] w))
  gi_wp2_with ((first | refine ⟨trivial, fun h => (by cases h), ?_⟩ | refine ⟨trivial, ?_⟩ | refine ⟨fun h => (by cases h), ?_⟩ | skip); gi_at_call 70; refine (HWk.out _).mono ?_; rintro e w1 ⟨rfl, hb1, hs1, d1, d2⟩)
  have hbx : w1.heap[w.heap.size]? = some (Obj.cells #[.int .i64 0] 3) := (hb1.block _ (by simp)).trans (Go.heap_alloc_new w _)
  have hbw : Below w.heap.size w w1 := ((Below.refl _ w).alloc (Nat.le_refl _) _).trans (hb1.mono (by simp))
  simp only [World.size_alloc] at hs1 d1 d2
  have hX0 : TreeX (fun k => k < w1.heap.size ∧ k ≠ w.heap.size) a m F := fun p y hy => by
    obtain ⟨h1, h2⟩ := hT.lt p y hy
    exact ⟨⟨by omega, by omega⟩, fun hk => ⟨by have := h2 hk; omega, by have := h2 hk; omega⟩⟩
  have hXS : StdX (fun k => k < w1.heap.size ∧ k ≠ w.heap.size) := by
    obtain ⟨_, hm⟩ := hS.maxlen
    have := World.block_lt_of_cell? w _ hm
    exact ⟨by simp at this; omega, by simp at this; omega⟩
  have htl : t < w.heap.size := World.block_lt_of_cell? w _ hV
  have hb1w : Below w.heap.size w w1 := hbw
  refine wpIn_rangeFunc_rel (xs := L) (encs := encE) (X0 := fun k => k < w1.heap.size ∧ k ≠ w.heap.size) rfl (by omega) (gf := 92) (lb := #[.pointer (some ⟨w.heap.size + 1, 0, none⟩), .pointer (some ⟨w.heap.size + 1 + 1, 0, none⟩)]) rfl trivial (enters_of Tryz.func92 (by kernel_rfl) rfl)
    (walk1_seq (hT.below hbw) hF hN (hS.below hbw) t (hV.below hbw) _ hX0 hXS ⟨by omega, by omega⟩ (w.heap.size + 1) (w.heap.size + 1 + 1) ⟨by omega, by omega⟩ ⟨by omega, by omega⟩ d1 d2 L hL x hx _) (fun _ => rfl)
    (fun pre X W => (W.cell? ⟨w.heap.size, 0, none⟩ = some (.int .i64 pre.length) ∧ W.frozen? ⟨w.heap.size, 0, none⟩ = false) ∧ ¬ X w.heap.size ∧ (∀ k, X k → k < W.heap.size) ∧ Below w.heap.size w W ∧ pre.length ≤ 2000000000)
    (fun pre X W h => h.2.2.1) ?rely ?put ?start
    (fun e a' _ _ => a' = { tmps := #[.pointer (some ⟨t, 0, none⟩), undef, .pointer (some ⟨w.heap.size, 0, none⟩), .pointer (some ⟨t, 0, none⟩), walkV (w.heap.size + 1) (w.heap.size + 1 + 1), .string (S e.path), e.agg, undef, undef, undef], defers := [] })
    (fun _ _ _ _ _ _ h _ _ => h) ?assign ?body ?done
  case rely =>
    rintro pre X W W' ⟨⟨h1, h1f⟩, h2, h3, h4, h5⟩ hb
    have hlt : w.heap.size < W.heap.size := World.block_lt_of_cell? W _ h1
    refine ⟨⟨(hb.cell (p := ⟨w.heap.size, 0, none⟩) hlt).trans h1, by unfold World.frozen? at h1f ⊢; rw [hb.block w.heap.size hlt]; exact h1f⟩, fun h => h.elim h2 (fun h => by omega), fun k hk => hk.elim (fun h => Nat.lt_of_lt_of_le (h3 k h) hb.size) (fun h => h.2), h4.trans (hb.mono (by omega)), h5⟩
  case put =>
    rintro pre X W k o' ⟨⟨h1, h1f⟩, h2, h3, h4, h5⟩ hk hle
    have hne : w.heap.size ≠ k := fun e => h2 (e ▸ hk)
    exact ⟨⟨cell_stay h1 (World.putObj_heap_other hne), by unfold World.frozen? at h1f ⊢; rw [World.putObj_heap_other hne]; exact h1f⟩, h2, fun q hq => by simpa using h3 q hq, Below.putObj' h4 (by omega) _, h5⟩
  case start => exact ⟨⟨by rw [cell_of_row w1 _ _ _ _ _ hbx]; rfl, Lib.frozen_of_heap hbx 0⟩, fun h => h.2 rfl, fun k h => h.1, hbw, by simp⟩
  case assign =>
    intro l pre y X W K hi hK
    gi_wp2
    exact hK _ _ (StaysX.refl _ _) hi (by simp [encE])
  case body =>
    rintro l pre y rest a' X W hxs ⟨⟨h1, h1f⟩, h2, h3, h4, h5⟩ rfl
    have hlen : pre.length + 1 ≤ 2000000000 := by rw [hxs] at hl; simp at hl; omega
    have hwk : IntKind.i64.wrap ((pre.length : Int) + 1) = (pre.length : Int) + 1 := by rw [IntKind.wrap_i64]; omega
    gi_wp2
    refine ⟨⟨by simp, fun k hk => Below.heap_setCell W _ _ k (fun e => h2 (by have e2 : k = w.heap.size := e; rw [← e2]; exact hk))⟩, ⟨?_, ?_⟩, h2, fun k hk => by simpa using h3 k hk, h4.setCell (p := ⟨w.heap.size, 0, none⟩) (Nat.le_refl _) _, by simp; omega⟩
    · have := World.cell?_setCell_same' W ⟨w.heap.size, 0, none⟩ (.int .i64 ((pre.length : Int) + 1)) (by rw [h1]; rfl)
      simpa using this
    · rw [World.frozen?_setCell]; exact h1f
  case done =>
    rintro D X W hD hXD ⟨⟨h1, h1f⟩, h2, h3, h4, h5⟩ hK
    gi_wp2
    have hK2 := (KeepsOthers.setCell W ⟨w.heap.size, 0, none⟩ (.int .i64 L.length)).same D _ hK rfl
    refine ⟨by simp, .inl ⟨_, _, rfl, run_takeDeferred hK2, ?_⟩⟩
    have hneD : w.heap.size ≠ D := fun e => h2 (e ▸ hXD)
    have hce : ((W.setCell ⟨w.heap.size, 0, none⟩ (.int .i64 L.length)).putObj D (.deferred none)).cell? ⟨w.heap.size, 0, none⟩ = some (.int .i64 L.length) :=
      cell_stay (World.cell?_setCell_same' W ⟨w.heap.size, 0, none⟩ (.int .i64 L.length) (by rw [h1]; rfl)) (World.putObj_heap_other hneD)
    refine ⟨_, (show (results Tryz.f69 _).run Tryz.prog _ = .ok (.int .i64 L.length) _ from ?_), rfl, Below.putObj' (h4.setCell (p := ⟨w.heap.size, 0, none⟩) (Nat.le_refl _) _) (by omega) _⟩
    simp [results, Tryz.f69, go_sem, hce]
end Go.Proofs.YtafokdidpbainaaGreatDoor
