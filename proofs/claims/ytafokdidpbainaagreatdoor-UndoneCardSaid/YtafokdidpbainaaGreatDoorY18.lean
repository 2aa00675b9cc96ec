/-
  The program: all entries of a tree, as a slice of one's own.
  The program: a tree copied.
  The program: changes done on a tree of one's own.
-/
import Derived.Maps.OwnIn
import Derived.Test.YtafokdidpbainaaGreatDoorY02
import Derived.Test.YtafokdidpbainaaGreatDoorY08
import Derived.Test.YtafokdidpbainaaGreatDoorY16
import Derived.Test.YtafokdidpbainaaGreatDoorY17
set_option linter.unusedVariables false
set_option linter.unusedSimpArgs false
namespace Go.Proofs.YtafokdidpbainaaGreatDoor
open Go Go.RowKit Go.Shelf
attribute [local go_sem] Oper.semAt_some

/-- between two rounds: the slice so far, in blocks that are not the iterator's -/
structure ListI (w : World) (pre : List Ent) (X : Nat → Prop) (W : World) (v : Value) : Prop where
  box : W.cell? ⟨w.heap.size, 0, none⟩ = some v
  free : W.frozen? ⟨w.heap.size, 0, none⟩ = false
  own : OwnE W (w.heap.size + 1) v pre
  not : ∀ q, v.ownBlock = some q → ¬ X q
  nbox : ¬ X w.heap.size
  lt : ∀ k, X k → k < W.heap.size
  below : Below w.heap.size w W
theorem ownBlock_lt {W : World} {B : Nat} {v : Value} {l : List Ent} (h : OwnE W B v l) (q : Nat) (hq : v.ownBlock = some q) : q < W.heap.size ∧ B ≤ q := by
  have := h.lt q hq; exact ⟨this.2, this.1⟩
theorem ListI.rely {w : World} {pre : List Ent} {X : Nat → Prop} {W W' : World} {v : Value} (h : ListI w pre X W v) (hb : Below W.heap.size W W') : ListI w pre (freshX X W W') W' v := by
  have hlt : w.heap.size < W.heap.size := World.block_lt_of_cell? W _ h.box
  refine ⟨(hb.cell (p := ⟨w.heap.size, 0, none⟩) hlt).trans h.box, ?_, ownsRow_below h.own hb, fun q hq hx => ?_, fun hx => ?_, fun k hk => ?_, h.below.trans (hb.mono (by omega))⟩
  · have := h.free; unfold World.frozen? at this ⊢; rw [hb.block w.heap.size hlt]; exact this
  · rcases hx with hx | hx
    · exact h.not q hq hx
    · have := (ownBlock_lt h.own q hq).1; omega
  · rcases hx with hx | hx
    · exact h.nbox hx
    · omega
  · rcases hk with hk | hk
    · exact Nat.lt_of_lt_of_le (h.lt k hk) hb.size
    · exact hk.2
theorem ListI.put {w : World} {pre : List Ent} {X : Nat → Prop} {W : World} {v : Value} (h : ListI w pre X W v) (k : Nat) (o : Obj) (hk : X k) (hle : w.heap.size ≤ k) : ListI w pre X (W.putObj k o) v := by
  have hne : w.heap.size ≠ k := fun e => h.nbox (e ▸ hk)
  refine ⟨cell_stay h.box (World.putObj_heap_other hne), ?_, h.own.kept (grownBy_putObj' W k o) (.inr fun e => h.not k e hk), h.not, h.nbox, fun q hq => by simpa using h.lt q hq, Below.putObj' h.below hle _⟩
  have := h.free; unfold World.frozen? at this ⊢; rw [World.putObj_heap_other hne]; exact this
theorem ListI.alloc {w : World} {pre : List Ent} {X : Nat → Prop} {W : World} {v : Value} (h : ListI w pre X W v) (o : Obj) : ListI w pre X (W.alloc o) v := by
  have hr := h.rely ((Below.refl W.heap.size W).alloc (Nat.le_refl _) o)
  exact ⟨hr.box, hr.free, hr.own, h.not, h.nbox, fun k hk => by have := h.lt k hk; simp; omega, hr.below⟩
set_option maxRecDepth 100000 in
set_option maxHeartbeats 4000000 in
theorem list_any {w : World} {B N : Nat} {a m : Pth → Nat} {F : Forest} (hT : TreeAt w B N a m F) (hF : FineF F) (hN : N ≤ 4294967290) (hS : Std w) (t : Nat) (hV : TreeV w t a) (L : List Ent) (hL : WalkL F [] L) (hl : L.length ≤ 2000000000) (x : Nd) (hx : F [] = some x) :
    Calls Tryz.prog 49 #[.pointer (some ⟨t, 0, none⟩)] w fun e w' => ∃ v, e = .returned v ∧ OwnE w' w.heap.size v L ∧ Below w.heap.size w w' := by
  refine (callsIn_wide (n := 8)).1 ?_
  refine callsIn_of_wp_marks Tryz.func49 rfl trivial ?_ rfl
  simp only [Tryz.ntmps49, List.size_toArray, List.length_cons, List.length_nil, Nat.reduceAdd, Nat.reduceSub, Array.replicate_succ, Array.replicate_zero, List.push_toArray, List.append_toArray, List.nil_append, List.cons_append]
  have HWk : Hid (∀ w, CallsIn Fence.wide (8 - 1) Tryz.prog 70 #[.pointer (some ⟨t, 0, none⟩), .string (S [])] w _) := Lib.hid (fun w => callsIn_wide.2 (walk_any t [] w))
  gi_wp2_with ((first | refine ⟨trivial, fun h => (by cases h), ?_⟩ | refine ⟨trivial, ?_⟩ | refine ⟨fun h => (by cases h), ?_⟩ | skip); gi_at_call 70; refine (HWk.out _).mono ?_; rintro e w1 ⟨rfl, hb1, hs1, d1, d2⟩)
  have hbx : w1.heap[w.heap.size]? = some (Obj.cells #[.slice none 0 0] 22) := (hb1.block _ (by simp)).trans (Go.heap_alloc_new w _)
  have hbw : Below w.heap.size w w1 := ((Below.refl _ w).alloc (Nat.le_refl _) _).trans (hb1.mono (by simp))
  simp only [World.size_alloc] at hs1 d1 d2
  have hX0 : TreeX (fun k => k < w1.heap.size ∧ k ≠ w.heap.size) a m F := fun p y hy => by
    obtain ⟨h1, h2⟩ := hT.lt p y hy
    exact ⟨⟨by omega, by omega⟩, fun hk => ⟨by have := h2 hk; omega, by have := h2 hk; omega⟩⟩
  have hXS : StdX (fun k => k < w1.heap.size ∧ k ≠ w.heap.size) := by
    obtain ⟨_, hm⟩ := hS.maxlen
    have := World.block_lt_of_cell? w _ hm
    exact ⟨by simp at this; omega, by simp at this; omega⟩
  have htl : t < w.heap.size := World.block_lt_of_cell? w _ hV
  have hb1w : Below w.heap.size w w1 := hbw
  refine wpIn_rangeFunc_rel (xs := L) (encs := encE) (X0 := fun k => k < w1.heap.size ∧ k ≠ w.heap.size) rfl (by omega) (gf := 92) (lb := #[.pointer (some ⟨w.heap.size + 1, 0, none⟩), .pointer (some ⟨w.heap.size + 1 + 1, 0, none⟩)]) rfl trivial (enters_of Tryz.func92 (by kernel_rfl) rfl)
    (walk1_seq (hT.below hbw) hF hN (hS.below hbw) t (hV.below hbw) _ hX0 hXS ⟨by omega, by omega⟩ (w.heap.size + 1) (w.heap.size + 1 + 1) ⟨by omega, by omega⟩ ⟨by omega, by omega⟩ d1 d2 L hL x hx _) (fun _ => rfl)
    (fun pre X W => ∃ v, ListI w pre X W v)
    (fun pre X W ⟨v, h⟩ => h.lt) (fun pre X W W' ⟨v, h⟩ hb => ⟨v, h.rely hb⟩) (fun pre X W k o' ⟨v, h⟩ hk hle => ⟨v, h.put k o' hk (by omega)⟩) ?start
    (fun e a' X W => ∃ g, a' = { tmps := #[.pointer (some ⟨t, 0, none⟩), undef, .pointer (some ⟨w.heap.size, 0, none⟩), undef, .pointer (some ⟨g, 0, none⟩), .pointer (some ⟨t, 0, none⟩), walkV (w.heap.size + 1) (w.heap.size + 1 + 1), .string (S e.path), e.agg, undef, undef, undef, undef, undef], defers := [] } ∧ Cell4 W g e ∧ ¬ X g)
    ?ax ?assign ?body ?done
  case start => exact ⟨_, ⟨by rw [cell_of_row w1 _ _ _ _ _ hbx]; rfl, Lib.frozen_of_heap hbx 0, World.ownsRow_nil _ _ _ _, fun q hq => (by cases hq), fun h => h.2 rfl, fun k h => h.1, hbw⟩⟩
  case ax =>
    rintro e a' X W k o' ⟨g, ha, ⟨q0, q1, q2, q3⟩, hg⟩ hk _
    have hne : g ≠ k := fun e => hg (e ▸ hk)
    exact ⟨g, ha, ⟨cell_stay q0 (World.putObj_heap_other hne), cell_stay q1 (World.putObj_heap_other hne), cell_stay q2 (World.putObj_heap_other hne), cell_stay q3 (World.putObj_heap_other hne)⟩, hg⟩
  case assign =>
    rintro l pre y X W K ⟨v, hi⟩ hK
    have HJ := Lib.hid hi
    have HKK := Lib.hid hK
    clear hi hK
    obtain ⟨p, kd, md, dt⟩ := y
    simp only [encE, Ent.agg]
    gi_wp2
    refine HKK.out _ _ ⟨by simp, fun k hk => Below.heap_alloc W _ k (HJ.out.lt k hk)⟩ ⟨v, HJ.out.alloc _⟩ ⟨W.heap.size, rfl, Cell4.new W ⟨p, kd, md, dt⟩ 49, fun h => ?_⟩
    have := HJ.out.lt _ h; omega
  case body =>
    rintro l pre y rest a' X W hxs ⟨v, hi⟩ ⟨g, rfl, hc4, hg⟩
    obtain ⟨i0, hi0, hz0, hz1, hz2⟩ := info_parts (show (Tryz.prog.info? 49).map (fun i => (i.zero, i.size, i.bytes)) = some (some entZ, 4, 48) by kernel_rfl)
    have hlen : pre.length + 1 ≤ 2000000000 := by rw [hxs] at hl; simp at hl; omega
    obtain ⟨q0, q1, q2, q3⟩ := hc4
    have hbx := hi.box
    have hfz := hi.free
    have HJ := Lib.hid hi
    have HO := Lib.hid (show OwnE W (w.heap.size + 1) v pre from hi.own)
    have hsz := World.block_lt_of_cell? W _ hbx
    have hsz' : w.heap.size < W.heap.size := hsz
    obtain ⟨av, cv, rfl⟩ := ownsRow_form HO.out
    clear hi
    gi_wp2_with (gi_at_builtin; refine wpListIn_append_own_at _ rfl _ _ 22 rfl (w.heap.size + 1) 49 i0 entZ 4 48 Tryz.underlying22 hi0 hz0 hz1 hz2 rfl (by decide) _ _ _ rfl (HO.out.alloc _) ⟨_, 0, none⟩ 1 1 [.string (S y.path), .int .i64 y.kind, .int .i64 y.mode, .string (S y.data)] rfl rfl (cells4_at _ _ _ _ _ _ _ (by simp)) (by simp [Value.oneCell']) (by unfold maxLen; omega) (by omega) (by simp; omega) ?_; intro v' w5 hown5 hgr5 _ hob; have hb5 : w5.heap[w.heap.size]? = W.heap[w.heap.size]? := (hgr5.block _ (by simp; omega) (fun e => by have := (ownBlock_lt HO.out _ e.symm).2; omega)).trans (Below.heap_alloc W _ _ hsz'); have c5 := cell_stay hbx hb5; have f5 : w5.frozen? ⟨w.heap.size, 0, none⟩ = false := (by unfold World.frozen? at hfz ⊢; rw [hb5]; exact hfz); have HO5 := Lib.hid (own_snoc hown5); have HG5 := Lib.hid hgr5; have HOB := Lib.hid hob; obtain ⟨ao, c', rfl⟩ := ownsRow_form hown5; clear hown5 hgr5 hob)
    have hs5 := HG5.out.size
    simp only [World.size_alloc] at hs5
    have hsame : ∀ k, k < W.heap.size → k ≠ w.heap.size → (Value.slice av pre.length cv).ownBlock ≠ some k → (w5.setCell ⟨w.heap.size, 0, none⟩ (Value.slice ao (pre.length + 1) c')).heap[k]? = W.heap[k]? := fun k hk h1 h2 =>
      (Below.heap_setCell w5 _ _ k h1).trans ((HG5.out.block k (by simp; omega) (fun e => h2 e.symm)).trans (Below.heap_alloc W _ k hk))
    refine ⟨⟨by simp; omega, fun k hk => hsame k (HJ.out.lt k hk) (fun e => HJ.out.nbox (e ▸ hk)) (fun e => HJ.out.not k e hk)⟩, Value.slice ao (pre.length + 1) c', ?_, ?_, ?_, fun q hq hx => ?_, HJ.out.nbox, fun k hk => ?_, ?_⟩
    · exact World.cell?_setCell_same' w5 ⟨w.heap.size, 0, none⟩ _ (by rw [c5]; rfl)
    · rw [World.frozen?_setCell]; exact f5
    · have h := ownsRow_setCell_below HO5.out (a := ⟨w.heap.size, 0, none⟩) (Nat.lt_succ_self _) (Value.slice ao (pre.length + 1) c')
      exact h
    · rcases HOB.out with e | e
      · exact HJ.out.not q (e.symm.trans hq) hx
      · have e2 := e.symm.trans hq
        have := Option.some.inj e2
        have := HJ.out.lt q hx
        simp only [World.size_alloc] at *
        omega
    · have := HJ.out.lt k hk; simp; omega
    · refine ((HJ.out.below.alloc (by have := HJ.out.below.size; omega) _).grown HG5.out (by simp; omega) (fun k hk => ?_)).setCell (p := ⟨w.heap.size, 0, none⟩) (Nat.le_refl _) _
      have := (ownBlock_lt HO.out k hk).2; omega
  case done =>
    rintro D X W hD hXD ⟨v, hi⟩ hK
    obtain ⟨av, cv, hv⟩ := ownsRow_form hi.own
    subst hv
    have hbx := hi.box
    have hfz := hi.free
    have HJ := Lib.hid hi
    clear hi
    gi_wp2
    have hK2 := (KeepsOthers.setCell W ⟨w.heap.size, 0, none⟩ (Value.slice av L.length cv)).same D _ hK rfl
    refine ⟨by simp, .inl ⟨_, _, rfl, run_takeDeferred hK2, ?_⟩⟩
    have hneD : w.heap.size ≠ D := fun e => HJ.out.nbox (e ▸ hXD)
    have hce : ((W.setCell ⟨w.heap.size, 0, none⟩ (Value.slice av L.length cv)).putObj D (.deferred none)).cell? ⟨w.heap.size, 0, none⟩ = some (Value.slice av L.length cv) :=
      cell_stay (World.cell?_setCell_same' W ⟨w.heap.size, 0, none⟩ (Value.slice av L.length cv) (by rw [hbx]; rfl)) (World.putObj_heap_other hneD)
    refine ⟨_, (show (results Tryz.f49 _).run Tryz.prog _ = .ok (Value.slice av L.length cv) _ from ?_), _, rfl, ?_, Below.putObj' (HJ.out.below.setCell (p := ⟨w.heap.size, 0, none⟩) (Nat.le_refl _) _) (by omega) _⟩
    · simp [results, Tryz.f49, go_sem, hce]
    · exact ownsRow_base (ownsRow_putObj (ownsRow_setCell_below HJ.out.own (a := ⟨w.heap.size, 0, none⟩) (Nat.lt_succ_self _) _) _ hK2 rfl) (Nat.le_succ _)
end Go.Proofs.YtafokdidpbainaaGreatDoor
namespace Go.Proofs.YtafokdidpbainaaGreatDoor
open Go Go.RowKit Go.Shelf
attribute [local go_sem] Oper.semAt_some

/-- between two rounds: the copy so far, in blocks that are not the iterator's (box: where the copy's variable lies) -/
structure CopyI (w : World) (bx : Nat) (pre : List Ent) (X : Nat → Prop) (W : World) (t : Nat) (a m : Pth → Nat) : Prop where
  box : W.cell? ⟨bx, 0, none⟩ = some (.pointer (some ⟨t, 0, none⟩))
  tree : TreeAt W w.heap.size pre.length a m (treeOf pre)
  var : TreeV W t a
  off : ∀ p y, treeOf pre p = some y → ¬ X (a p) ∧ (y.kind = 1 → ¬ X (m p))
  nbox : ¬ X bx
  nt : ¬ X t
  lt : ∀ k, X k → k < W.heap.size
  below : Below w.heap.size w W
  std : Std w
theorem CopyI.rely {w : World} {bx : Nat} {pre : List Ent} {X : Nat → Prop} {W W' : World} {t : Nat} {a m : Pth → Nat} (h : CopyI w bx pre X W t a m) (hb : Below W.heap.size W W') : CopyI w bx pre (freshX X W W') W' t a m := by
  have h1 : bx < W.heap.size := World.block_lt_of_cell? W _ h.box
  have h2 : t < W.heap.size := World.block_lt_of_cell? W _ h.var
  have old : ∀ k, k < W.heap.size → ¬ X k → ¬ freshX X W W' k := fun k hk hn hx => hx.elim hn (fun hx => by omega)
  refine ⟨(hb.cell (p := ⟨bx, 0, none⟩) h1).trans h.box, h.tree.below hb, h.var.below hb, fun p y hy => ⟨old _ (h.tree.lt p y hy).1 (h.off p y hy).1, fun hk => old _ ((h.tree.lt p y hy).2 hk) ((h.off p y hy).2 hk)⟩, old _ h1 h.nbox, old _ h2 h.nt, fun k hk => hk.elim (fun hk => Nat.lt_of_lt_of_le (h.lt k hk) hb.size) (fun hk => hk.2), h.below.trans (hb.mono h.below.size), h.std⟩
theorem CopyI.put {w : World} {bx : Nat} {pre : List Ent} {X : Nat → Prop} {W : World} {t : Nat} {a m : Pth → Nat} (h : CopyI w bx pre X W t a m) (k : Nat) (o : Obj) (hk : X k) (hle : w.heap.size ≤ k) : CopyI w bx pre X (W.putObj k o) t a m := by
  have n1 : bx ≠ k := fun e => h.nbox (e ▸ hk)
  have n2 : t ≠ k := fun e => h.nt (e ▸ hk)
  refine ⟨cell_stay h.box (World.putObj_heap_other n1), h.tree.stayX (X := fun q => q ≠ k) (fun p y hy => ⟨fun e => (h.off p y hy).1 (e ▸ hk), fun h1 e => (h.off p y hy).2 h1 (e ▸ hk)⟩) (fun q hq => World.putObj_heap_other hq), cell_stay h.var (World.putObj_heap_other n2), h.off, h.nbox, h.nt, fun q hq => by simpa using h.lt q hq, Below.putObj' h.below hle _, h.std⟩
theorem CopyI.alloc {w : World} {bx : Nat} {pre : List Ent} {X : Nat → Prop} {W : World} {t : Nat} {a m : Pth → Nat} (h : CopyI w bx pre X W t a m) (o : Obj) : CopyI w bx pre X (W.alloc o) t a m := by
  have hr := h.rely ((Below.refl W.heap.size W).alloc (Nat.le_refl _) o)
  exact ⟨hr.box, hr.tree, hr.var, h.off, h.nbox, h.nt, fun k hk => by have := h.lt k hk; simp; omega, hr.below, h.std⟩
theorem putF_from {F : Forest} {p q : Pth} {x z : Nd} (h : putF F p x q = some z) (hne : q ≠ p) : F q = some z := by
  unfold putF at h
  rw [if_neg hne] at h
  split at h
  · split at h
    · exact h
    · cases h
  · exact h
theorem putF_self (F : Forest) (p : Pth) (x : Nd) : putF F p x p = some x := by unfold putF; rw [if_pos rfl]
theorem CopyI.step {w : World} {bx : Nat} {pre : List Ent} {X : Nat → Prop} {W w' : World} {t : Nat} {a m : Pth → Nat} (h : CopyI w bx pre X W t a m) {y : Ent} {e : Ending} (hd : isDirF (treeOf pre) (partsB y.path).dropLast = true)
    (hp : PutFull w.heap.size pre.length a m (treeOf pre) t y W e w') : (∃ b, e = .returned b) ∧ StaysX X W w' ∧ ∃ a' m', CopyI w bx (pre ++ [y]) X w' t a' m' := by
  rcases hp with ⟨h1, _⟩ | ⟨_, rfl, a', m', h3, h4, h5, h6, h7, h8, h9⟩
  · rw [hd] at h1; cases h1
  have hT : treeOf (pre ++ [y]) = putF (treeOf pre) (partsB y.path) (ndOf y) := layF_snoc _ _ _
  refine ⟨⟨_, rfl⟩, ⟨h5.size, fun k hk => h7 k (h.lt k hk) (fun q hq e => ?_)⟩, a', m', ⟨h6 _ _ h.box, by rw [hT, List.length_append]; exact h3, h4, fun q z hz => ⟨fun hx => ?_, fun hk hx => ?_⟩, h.nbox, h.nt, fun k hk => Nat.lt_of_lt_of_le (h.lt k hk) h5.size, h.below.trans h5, h.std⟩⟩
  · obtain ⟨z, hz, hzk⟩ := isDirF_iff.1 hq
    exact (h.off q z hz).2 hzk (e ▸ hk)
  · rw [hT] at hz
    rcases h8 q with ⟨e1, e2⟩ | e1
    · rw [e1] at hx; exact (h.off q z (putF_from hz e2)).1 hx
    · have := h.lt _ hx; omega
  · rw [hT] at hz
    rcases h9 q with ⟨e1, e2⟩ | e1
    · rw [e1] at hx
      by_cases hq : q = partsB y.path
      · subst hq
        rw [putF_self] at hz
        have hz' := Option.some.inj hz
        obtain ⟨z2, hz2, hk2⟩ := isDirF_iff.1 (e2 (by rw [← hz'] at hk; exact hk) rfl)
        exact (h.off _ z2 hz2).2 hk2 hx
      · exact (h.off q z (putF_from hz hq)).2 hk hx
    · have := h.lt _ hx; omega
set_option maxRecDepth 100000 in
set_option maxHeartbeats 4000000 in
theorem copy_any {w : World} {B N : Nat} {a m : Pth → Nat} {F : Forest} (hT : TreeAt w B N a m F) (hF : FineF F) (hN : N ≤ 4294967290) (hS : Std w) (t : Nat) (hV : TreeV w t a) (L : List Ent) (hL : WalkL F [] L) (hl : L.length ≤ 2000000000) (x : Nd) (hx : F [] = some x)
    (hup : ∀ pre y rest, L = pre ++ y :: rest → pathB y.path = true ∧ y.path ≠ [] ∧ isDirF (treeOf pre) (partsB y.path).dropLast = true) :
    Calls Tryz.prog 65 #[.pointer (some ⟨t, 0, none⟩)] w fun e w' => ∃ t' a' m', e = .returned (.pointer (some ⟨t', 0, none⟩)) ∧ TreeAt w' w.heap.size L.length a' m' (treeOf L) ∧ TreeV w' t' a' ∧ Below w.heap.size w w' := by
  refine (callsIn_wide (n := 8)).1 ?_
  refine callsIn_of_wp_marks Tryz.func65 rfl trivial ?_ rfl
  simp only [Tryz.ntmps65, List.size_toArray, List.length_cons, List.length_nil, Nat.reduceAdd, Nat.reduceSub, Array.replicate_succ, Array.replicate_zero, List.push_toArray, List.append_toArray, List.nil_append, List.cons_append]
  have HEm : Hid (∀ w, CallsIn Fence.wide (8 - 1) Tryz.prog 50 #[] w _) := Lib.hid (fun w => callsIn_wide.2 (empty_any w))
  have HWk : Hid (∀ w, CallsIn Fence.wide (8 - 1) Tryz.prog 70 #[.pointer (some ⟨t, 0, none⟩), .string (S [])] w _) := Lib.hid (fun w => callsIn_wide.2 (walk_any t [] w))
  gi_wp2_with (first
    | ((first | refine ⟨trivial, fun h => (by cases h), ?_⟩ | refine ⟨trivial, ?_⟩ | refine ⟨fun h => (by cases h), ?_⟩ | skip); gi_at_call 50; refine (HEm.out _).mono ?_; clear HEm; rintro e w0 ⟨t0, a0, m0, rfl, hT0, hV0, hb0, hnt0⟩)
    | ((first | refine ⟨trivial, fun h => (by cases h), ?_⟩ | refine ⟨trivial, ?_⟩ | refine ⟨fun h => (by cases h), ?_⟩ | skip); gi_at_call 70; refine (HWk.out _).mono ?_; rintro e w1 ⟨rfl, hb1, hs1, d1, d2⟩))
  have hbx : w1.heap[w0.heap.size]? = some (Obj.cells #[.pointer (some ⟨t0, 0, none⟩)] 71) := (hb1.block _ (by simp)).trans (Go.heap_alloc_new w0 _)
  have hb01 : Below w0.heap.size w0 w1 := ((Below.refl _ w0).alloc (Nat.le_refl _) _).trans (hb1.mono (by simp))
  have hbw : Below w.heap.size w w1 := hb0.trans (hb01.mono hb0.size)
  simp only [World.size_alloc] at hs1 d1 d2
  have hsz0 := hb0.size
  have hX0 : TreeX (fun k => k < w.heap.size ∨ (w0.heap.size < k ∧ k < w1.heap.size)) a m F := fun p y hy => ⟨.inl (hT.lt p y hy).1, fun hk => .inl ((hT.lt p y hy).2 hk)⟩
  have hXS : StdX (fun k => k < w.heap.size ∨ (w0.heap.size < k ∧ k < w1.heap.size)) := by
    obtain ⟨_, hm⟩ := hS.maxlen
    exact .inl (World.block_lt_of_cell? w _ hm)
  have htl : t < w.heap.size := World.block_lt_of_cell? w _ hV
  have hv0 : t0 < w0.heap.size := World.block_lt_of_cell? w0 _ hV0
  refine wpIn_rangeFunc_rel (xs := L) (encs := encE) (X0 := fun k => k < w.heap.size ∨ (w0.heap.size < k ∧ k < w1.heap.size)) rfl (by omega) (gf := 92) (lb := #[.pointer (some ⟨w0.heap.size + 1, 0, none⟩), .pointer (some ⟨w0.heap.size + 1 + 1, 0, none⟩)]) rfl trivial (enters_of Tryz.func92 (by kernel_rfl) rfl)
    (walk1_seq (hT.below hbw) hF hN (hS.below hbw) t (hV.below hbw) _ hX0 hXS (.inl htl) (w0.heap.size + 1) (w0.heap.size + 1 + 1) (.inr ⟨by omega, by omega⟩) (.inr ⟨by omega, by omega⟩) d1 d2 L hL x hx _) (fun _ => rfl)
    (fun pre X W => ∃ t' a' m', CopyI w w0.heap.size pre X W t' a' m')
    (fun pre X W ⟨_, _, _, h⟩ => h.lt) (fun pre X W W' ⟨t', a', m', h⟩ hb => ⟨t', a', m', h.rely hb⟩) (fun pre X W k o' ⟨t', a', m', h⟩ hk hle => ⟨t', a', m', h.put k o' hk (by have := hbw.size; omega)⟩) ?start
    (fun e a' X W => ∃ g, a' = { tmps := #[.pointer (some ⟨t, 0, none⟩), undef, .pointer none, .pointer (some ⟨w0.heap.size, 0, none⟩), undef, .pointer (some ⟨g, 0, none⟩), .pointer (some ⟨t0, 0, none⟩), .pointer (some ⟨t, 0, none⟩), walkV (w0.heap.size + 1) (w0.heap.size + 1 + 1), .string (S e.path), e.agg, undef, undef, undef, undef], defers := [] } ∧ Cell4 W g e ∧ ¬ X g)
    ?ax ?assign ?body ?done
  case start =>
    have hT1 := hT0.below hb01
    refine ⟨t0, a0, m0, ⟨by rw [cell_of_row w1 _ _ _ _ _ hbx]; rfl, hT1, hV0.below hb01, fun p y hy => ?_, ?_, ?_, fun k hk => ?_, hbw, hS⟩⟩
    · have h1 := hT0.lt p y hy
      have h2 := hT0.base p y hy
      refine ⟨fun h => ?_, fun hk h => ?_⟩
      · rcases h with h | h <;> omega
      · have := h1.2 hk; have := h2.2 hk; rcases h with h | h <;> omega
    · intro h; rcases h with h | h <;> omega
    · intro h
      have h1 := hnt0
      rcases h with h | h <;> omega
    · rcases hk with h | h <;> omega
  case ax =>
    rintro e a' X W k o' ⟨g, ha, ⟨q0, q1, q2, q3⟩, hg⟩ hk _
    have hne : g ≠ k := fun e => hg (e ▸ hk)
    exact ⟨g, ha, ⟨cell_stay q0 (World.putObj_heap_other hne), cell_stay q1 (World.putObj_heap_other hne), cell_stay q2 (World.putObj_heap_other hne), cell_stay q3 (World.putObj_heap_other hne)⟩, hg⟩
  case assign =>
    rintro l pre y X W K ⟨t', a', m', hi⟩ hK
    have HJ := Lib.hid hi
    have HKK := Lib.hid hK
    clear hi hK
    obtain ⟨p, kd, md, dt⟩ := y
    simp only [encE, Ent.agg]
    gi_wp2
    refine HKK.out _ _ ⟨by simp, fun k hk => Below.heap_alloc W _ k (HJ.out.lt k hk)⟩ ⟨t', a', m', HJ.out.alloc _⟩ ⟨W.heap.size, rfl, Cell4.new W ⟨p, kd, md, dt⟩ 49, fun h => ?_⟩
    have := HJ.out.lt _ h; omega
  case body =>
    rintro l pre y rest a' X W hxs ⟨t', a', m', hi⟩ ⟨g, rfl, hc4, hg⟩
    obtain ⟨hp1, hp2, hp3⟩ := hup pre y rest hxs
    have hlen : pre.length + 1 ≤ 2000000000 := by rw [hxs] at hl; simp at hl; omega
    obtain ⟨q0, q1, q2, q3⟩ := hc4
    have hbx := hi.box
    have HJ := Lib.hid hi
    have HPut : Hid (CallsIn Fence.wide (8 - 1 - 1 - 1) Tryz.prog 54 #[.pointer (some ⟨t', 0, none⟩), y.agg] W _) := Lib.hid (callsIn_wide.2 (put_all hi.tree t' hi.var y hp1 hp2 (by omega) hi.below.size (hS.below hi.below)))
    have HUp := Lib.hid hp3
    clear hi hp1 hp2 hp3
    gi_wp2_with ((first | refine ⟨trivial, fun h => (by cases h), ?_⟩ | refine ⟨trivial, ?_⟩ | refine ⟨fun h => (by cases h), ?_⟩ | skip); gi_at_call 54; refine (CallsIn.inRound l HPut.out).mono ?_; rintro e w5 hpf; obtain ⟨⟨bb, rfl⟩, hst, hnx⟩ := HJ.out.step HUp.out hpf)
    exact ⟨hst, _, hnx⟩
  case done =>
    rintro D X W hD hXD ⟨t', a', m', hi⟩ hK
    have hbx := hi.box
    have HJ := Lib.hid hi
    clear hi
    gi_wp2
    refine ⟨by simp, .inl ⟨_, _, rfl, run_takeDeferred hK, ?_⟩⟩
    have hc := HJ.out.put D (.deferred none) hXD (by have := hbw.size; omega)
    exact ⟨_, results_tmp rfl _ _ _, t', a', m', rfl, hc.tree, hc.var, hc.below⟩
end Go.Proofs.YtafokdidpbainaaGreatDoor
namespace Go.Proofs.YtafokdidpbainaaGreatDoor
open Go.RowKit

theorem clearF_none {F : Forest} (hT : IsTree F) {p : Pth} (h : F p = none) : clearF F p = F := by
  funext q
  unfold clearF
  split
  · rename_i hc
    obtain ⟨⟨r, rfl⟩, _⟩ := hc
    exact (hT.pre p r h).symm
  · rfl
theorem fit_kind {c : Ent} (h : Fit c) : (goodB c = true ∧ (c.kind = 1 ∨ c.kind = 2 ∨ c.kind = 3)) ∨ c.kind = 4 ∨ c.kind = 5 := by
  rcases h.2.1 with hg | hm
  · exact .inl ⟨hg, goodB_kind hg⟩
  · unfold markB at hm
    simp only [Bool.and_eq_true, Bool.or_eq_true, decide_eq_true_eq] at hm
    exact .inr hm.1.1
/-- what Patch answers -/
def PatchOut (al l : List Ent) (W : World) (e : Ending) (w' : World) : Prop :=
  Below W.heap.size W w' ∧
    ((∃ f k : Int, patchL al l = ([], f, k) ∧ f ≠ 0 ∧ e = .returned (.tuple #[.pointer none, .int .i64 f, .int .i64 k])) ∨
     (∃ (t' : Nat) (a' m' : Pth → Nat) (N' : Nat) (G : Forest) (L : List Ent), patchL al l = (L, 0, -1) ∧ Lists L G ∧ L.length ≤ 40 ∧ TreeAt w' W.heap.size N' a' m' G ∧ TreeV w' t' a' ∧ N' ≤ 4000 ∧ e = .returned (.tuple #[.pointer (some ⟨t', 0, none⟩), .int .i64 0, .int .i64 (-1)])))
set_option maxRecDepth 100000 in
set_option maxHeartbeats 16000000 in
theorem patchP_any {w : World} {B N : Nat} {a m : Pth → Nat} {F : Forest} (hT : TreeAt w B N a m F) (hN : N ≤ 4294967290) (hS : Std w) (t : Nat) (hV : TreeV w t a) (al l : List Ent) (hLi : Lists al F) (hal : al.length ≤ 1000) (A : Option Addr) (cap : Nat) (hr : Rd w A (ents l)) (hl : l.length ≤ 1000) (hfit : ∀ c ∈ l, Fit c) :
    Calls Tryz.prog 48 #[.pointer (some ⟨t, 0, none⟩), .slice A l.length cap] w (PatchOut al l w) := by
  have hcopy := copy_any hT hLi.fine hN hS t hV al (hLi.walk hT.tree) (by omega) _ hLi.root (hLi.hup hT.tree)
  rw [(lists_treeOf hLi.each hLi.rise).uniqF hLi] at hcopy
  have HC0 := Lib.hid hcopy
  have HT := Lib.hid hT
  have HV := Lib.hid hV
  have HS := Lib.hid hS
  have HR := Lib.hid hr
  have HFit := Lib.hid hfit
  have HLi := Lib.hid hLi
  clear hcopy hT hV hS hr hfit hLi hN
  go_enter Tryz.func48, Tryz.ntmps48
  go_wp2_with fail
  refine HC0.out.mono ?_
  rintro e w1 ⟨t1, a1, m1, rfl, hT1, hV1, hb1⟩
  have HT1 := Lib.hid hT1
  have HV1 := Lib.hid hV1
  have HB1 := Lib.hid hb1
  clear HC0 hT1 hV1 hb1
  go_wp2
  go_loopw [17] (fun i wr => ∃ (k : Nat) (tl : List Ent) (G : Forest), k ≤ l.length ∧ i = .int .i64 k ∧ tl.length ≤ 1000 ∧ Hid (cutAll al l 0 al = cutAll al (l.drop k) k tl) ∧ Hid (Lists tl G) ∧ Hid (∀ q z, G q = some z → F q = some z) ∧ Hid (TreeAt wr w.heap.size al.length a1 m1 G) ∧ Hid (TreeV wr t1 a1) ∧ Hid (Below w.heap.size w wr)) (fun i _ => l.length - (intOf i).toNat)
  case atStart => exact ⟨0, al, F, Nat.zero_le _, rfl, hal, Lib.hid rfl, HLi, Lib.hid (fun _ _ h => h), HT1, HV1, HB1⟩
  case round =>
    clear HT1 HV1 HB1
    obtain ⟨k, tl, G, hk, rfl, htl, HC, HLt, HSub, HTr, HVr, HB⟩ := hrel
    by_cases hlt : k < l.length
    · obtain ⟨b, o, hBe, hbb, g0, g1, g2, g3⟩ := ents_at HR.out HB.out k hlt
      subst hBe
      obtain ⟨c, hcc⟩ : ∃ c, l[k] = c := ⟨_, rfl⟩
      have HFc := Lib.hid (HFit.out c (hcc ▸ List.getElem_mem hlt))
      have HK := Lib.hid (show l[k]? = some c by rw [List.getElem?_eq_getElem hlt, hcc])
      have hsp := (pathB_ok HFc.out.1).1
      rw [hcc] at g0 g1 g2 g3
      have hkl : (k : Int) < (l.length : Int) := by omega
      clear hcc
      have hb0 : Below wr.heap.size wr (wr.alloc (.cells #[.string (S c.path), .int .i64 c.kind, .int .i64 c.mode, .string (S c.data)] 59)) := (Below.refl _ _).alloc (Nat.le_refl _) _
      have Q2 := Lib.hid (Cell4.new wr c 59)
      have HB2 := Lib.hid (HB.out.trans (hb0.mono HB.out.size))
      have HT2 := Lib.hid (HTr.out.below hb0)
      have HV2 := Lib.hid (HVr.out.below hb0)
      obtain ⟨q0, q1, q2, q3⟩ := Q2.out
      obtain ⟨w2, hw2⟩ : ∃ w2, wr.alloc (.cells #[.string (S c.path), .int .i64 c.kind, .int .i64 c.mode, .string (S c.data)] 59) = w2 := ⟨_, rfl⟩
      rw [hw2] at Q2 HB2 HT2 HV2 q0 q1 q2 q3
      have HKa := Lib.hid (kind_any (HT.out.below HB2.out) t (HV.out.below HB2.out) c.path (by omega) (HS.out.below HB2.out))
      rw [← kindF_same HLi.out c.path] at HKa
      have HCd := Lib.hid (HC.out.trans (cutAll_drop HK.out))
      have hcl := cutL_len tl c
      obtain ⟨z, hz⟩ : ∃ z, kindL al c.path = z := ⟨_, rfl⟩
      rw [hz] at HKa
      have HZk := Lib.hid hz
      clear hz hb0
      go_upto_region 6 with fail
      clear hw2 g0 g1 g2 g3
      by_cases k5 : c.kind = 5
      · have f5 : (c.kind == 5) = true := by rw [k5]; rfl
        have H5 := Lib.hid k5
        clear k5
        by_cases z1 : z = 1
        · have fz : (z != 1) = false := by rw [z1]; rfl
          have HE := Lib.hid (show cutAll al l 0 al = cutAll al (l.drop (k + 1)) (k + 1) (cutL tl c) by rw [HCd.out, if_neg (by rw [missB_5 H5.out, HZk.out, decide_eq_true z1]; decide)])
          have HZ1 := Lib.hid (HZk.out.trans z1)
          clear z1 HCd HC HB HTr HVr
          go_wp2_with fail
          refine HKa.out.mono ?_
          rintro e4 w4 ⟨rfl, hb4⟩
          have HB4 := Lib.hid (HB2.out.trans (hb4.mono HB2.out.size))
          have Q4 := Lib.hid (Q2.out.below hb4)
          have HT4 := Lib.hid (HT2.out.below hb4)
          have HV4 := Lib.hid (HV2.out.below hb4)
          clear q0 q1 q2 q3 hb4 HB2 Q2 HT2 HV2 HKa
          obtain ⟨q0, q1, q2, q3⟩ := Q4.out
          go_wp2_with fail
          refine (find_any HT4.out t1 HV4.out c.path (by omega) (HS.out.below HB4.out)).mono ?_
          rintro e5 w5 ⟨rfl, hb5⟩
          have HB5 := Lib.hid (HB4.out.trans (hb5.mono HB4.out.size))
          have HT5 := Lib.hid (HT4.out.below hb5)
          have HV5 := Lib.hid (HV4.out.below hb5)
          have hcl2 := HLt.out.clear c.path
          rw [← cutL_5 (t := tl) H5.out] at hcl2
          clear q0 q1 q2 q3 hb5 HB4 Q4 HT4 HV4
          cases hG : G (partsB c.path) with
          | none =>
            have HLn := Lib.hid (show Lists (cutL tl c) G by rw [clearF_none HT5.out.tree hG] at hcl2; exact hcl2)
            rw [atV_none hG]
            clear hG hcl2
            go_wp2
            go_roundw
            case rel => exact ⟨k + 1, cutL tl c, G, by omega, by go_num, by omega, HE, HLn, HSub, HT5, HV5, HB5⟩
            case measure => simp [intOf]; omega
          | some x =>
            have hx1 : x.kind = 1 := by
              have h1 := HSub.out _ _ hG
              have h2 := HZ1.out
              rw [kindF_same HLi.out c.path, kindF, h1] at h2; exact h2
            have hdir := isDirF_iff.2 ⟨x, hG, hx1⟩
            have HLn := Lib.hid hcl2
            have HSn := Lib.hid (fun q z (h : clearF G (partsB c.path) q = some z) => HSub.out q z (clearF_sub h).1)
            obtain ⟨_, _, _, _, n4⟩ := HT5.out.cells _ _ hG
            rw [show mapV x (m1 (partsB c.path)) = .map (some (m1 (partsB c.path))) from if_pos hx1] at n4
            obtain ⟨w6, hrun, hm6, hg6⟩ := (HT5.out.dir _ x hG hx1).clear 0
            have HT6 := Lib.hid (HT5.out.clear _ hdir hm6 hg6)
            have HV6 : Hid (TreeV w6 t1 a1) := Lib.hid ((HT5.out.dir _ x hG hx1).cell hg6 _ _ HV5.out)
            have HB6 : Hid (Below w.heap.size w w6) := Lib.hid (HB5.out.grown hg6 (by have := HB5.out.size; omega) (fun k hk2 => by
              have : m1 (partsB c.path) = k := Option.some.inj hk2
              rw [← this]; exact (HT5.out.base _ x hG).2 hx1))
            rw [atV_some hG]
            clear hG hcl2 hx1 hdir hm6 hg6
            go_wp2
            go_roundw
            case rel => exact ⟨k + 1, cutL tl c, clearF G (partsB c.path), by omega, by go_num, by omega, HE, HLn, HSn, HT6, HV6, HB6⟩
            case measure => simp [intOf]; omega
        · have fz : (z != 1) = true := by rw [bne_iff_ne]; exact z1
          have HE := Lib.hid (patchL_cut (i := k) (by rw [HCd.out, if_pos (by rw [missB_5 H5.out, HZk.out, decide_eq_false z1]; rfl)]))
          clear z1 HCd HC HB HTr HVr
          go_wp2_with fail
          refine HKa.out.mono ?_
          rintro e4 w4 ⟨rfl, hb4⟩
          have HB4 := Lib.hid (HB2.out.trans (hb4.mono HB2.out.size))
          clear q0 q1 q2 q3 hb4 HB2 Q2 HT2 HV2 HKa
          go_wp2
          go_ret3
          exact ⟨HB4.out, .inl ⟨8, k, HE.out, by decide, rfl⟩⟩
      · have f5 : (c.kind == 5) = false := by rw [beq_eq_false_iff_ne]; exact k5
        have H5 := Lib.hid k5
        clear k5
        by_cases k4 : c.kind = 4
        · have f4 : (c.kind == 4) = true := by rw [k4]; rfl
          have H4 := Lib.hid k4
          have HNe : Hid (c.path ≠ []) := Lib.hid fun e => H5.out (HFc.out.2.2 e)
          clear k4
          by_cases z0 : z = 0
          · have fz : (z == 0) = true := by rw [z0]; rfl
            have HE := Lib.hid (patchL_cut (i := k) (by rw [HCd.out, if_pos (by rw [missB_4 H4.out, HZk.out, decide_eq_true z0])]))
            clear z0 HCd HC HB HTr HVr
            go_wp2_with fail
            refine HKa.out.mono ?_
            rintro e4 w4 ⟨rfl, hb4⟩
            have HB4 := Lib.hid (HB2.out.trans (hb4.mono HB2.out.size))
            clear q0 q1 q2 q3 hb4 HB2 Q2 HT2 HV2 HKa
            go_wp2
            go_ret3
            exact ⟨HB4.out, .inl ⟨8, k, HE.out, by decide, rfl⟩⟩
          · have fz : (z == 0) = false := by rw [beq_eq_false_iff_ne]; exact z0
            have HE := Lib.hid (show cutAll al l 0 al = cutAll al (l.drop (k + 1)) (k + 1) (cutL tl c) by rw [HCd.out, if_neg (by rw [missB_4 H4.out, HZk.out, decide_eq_false z0]; decide)])
            have HLn := Lib.hid (show Lists (cutL tl c) (cutF G (partsB c.path)) by rw [cutL_4 H4.out]; exact HLt.out.cut c.path HNe.out)
            have HSn := Lib.hid (fun q z (h : cutF G (partsB c.path) q = some z) => HSub.out q z (cutF_sub h).1)
            clear z0 HCd HC HTr HVr
            go_wp2_with fail
            refine HKa.out.mono ?_
            rintro e4 w4 ⟨rfl, hb4⟩
            have HB4 := Lib.hid (HB2.out.trans (hb4.mono HB2.out.size))
            have Q4 := Lib.hid (Q2.out.below hb4)
            have HT4 := Lib.hid (HT2.out.below hb4)
            have HV4 := Lib.hid (HV2.out.below hb4)
            clear q0 q1 q2 q3 hb4 HB2 Q2 HT2 HV2 HKa
            obtain ⟨q0, q1, q2, q3⟩ := Q4.out
            go_wp2_with fail
            refine (remove_any HT4.out t1 HV4.out c.path HFc.out.1 HNe.out HB4.out.size (HS.out.below HB4.out)).mono ?_
            rintro e5 w5 ⟨⟨bb, rfl⟩, hT5, hV5, hb5, _⟩
            have HB5 := Lib.hid (HB4.out.trans hb5)
            have HT5 := Lib.hid hT5
            have HV5 := Lib.hid hV5
            clear q0 q1 q2 q3 hb5 HB4 Q4 HT4 HV4 hT5 hV5 HB
            go_wp2
            go_roundw
            case rel => exact ⟨k + 1, cutL tl c, cutF G (partsB c.path), by omega, by go_num, by omega, HE, HLn, HSn, HT5, HV5, HB5⟩
            case measure => simp [intOf]; omega
        · have f4 : (c.kind == 4) = false := by rw [beq_eq_false_iff_ne]; exact k4
          have HE := Lib.hid (show cutAll al l 0 al = cutAll al (l.drop (k + 1)) (k + 1) tl by rw [HCd.out, if_neg (by rw [missB_no k4 H5.out]; decide), cutL_no k4 H5.out])
          clear k4 HCd HC HB HTr HVr
          go_wp2
          go_roundw
          case rel => exact ⟨k + 1, tl, G, by omega, by go_num, by omega, HE, HLt, HSub, HT2, HV2, HB2⟩
          case measure => simp [intOf]; omega
    · obtain rfl : k = l.length := by omega
      have HC1 := Lib.hid (show cutAll al l 0 al = .ok tl by rw [HC.out, List.drop_length]; rfl)
      clear HC HSub
      obtain ⟨t0, ht0⟩ : ∃ t0, t0 = tl := ⟨_, rfl⟩
      have HT0 := Lib.hid ht0
      rw [← ht0] at HC1
      clear ht0
      go_wp2
      go_loopw [57] (fun i wr => ∃ (k : Nat) (tl : List Ent) (G : Forest) (a1 m1 : Pth → Nat), k ≤ l.length ∧ i = .int .i64 k ∧ tl.length ≤ 1000 + k ∧ Hid (putAll l 0 t0 = putAll (l.drop k) k tl) ∧ Hid (Lists tl G) ∧ Hid (TreeAt wr w.heap.size (al.length + k) a1 m1 G) ∧ Hid (TreeV wr t1 a1) ∧ Hid (Below w.heap.size w wr)) (fun i _ => l.length - (intOf i).toNat)
      case atStart => exact ⟨0, tl, G, a1, m1, Nat.zero_le _, rfl, by omega, Lib.hid (by rw [HT0.out]; rfl), HLt, HTr, HVr, HB⟩
      case round =>
        clear HB HTr HVr HLt HT0
        obtain ⟨k, tl, G, a1, m1, hk, rfl, htl, HC, HLt, HTr, HVr, HB⟩ := hrel
        by_cases hlt : k < l.length
        · obtain ⟨b, o, hBe, hbb, g0, g1, g2, g3⟩ := ents_at HR.out HB.out k hlt
          subst hBe
          obtain ⟨c, hcc⟩ : ∃ c, l[k] = c := ⟨_, rfl⟩
          have HFc := Lib.hid (HFit.out c (hcc ▸ List.getElem_mem hlt))
          have HK := Lib.hid (show l[k]? = some c by rw [List.getElem?_eq_getElem hlt, hcc])
          have hsp := (pathB_ok HFc.out.1).1
          rw [hcc] at g0 g1 g2 g3
          have hkl : (k : Int) < (l.length : Int) := by omega
          clear hcc
          have hb0 : Below wr.heap.size wr (wr.alloc (.cells #[.string (S c.path), .int .i64 c.kind, .int .i64 c.mode, .string (S c.data)] 59)) := (Below.refl _ _).alloc (Nat.le_refl _) _
          have Q2 := Lib.hid (Cell4.new wr c 59)
          have HB2 := Lib.hid (HB.out.trans (hb0.mono HB.out.size))
          have HT2 := Lib.hid (HTr.out.below hb0)
          have HV2 := Lib.hid (HVr.out.below hb0)
          obtain ⟨q0, q1, q2, q3⟩ := Q2.out
          obtain ⟨w2, hw2⟩ : ∃ w2, wr.alloc (.cells #[.string (S c.path), .int .i64 c.kind, .int .i64 c.mode, .string (S c.data)] 59) = w2 := ⟨_, rfl⟩
          rw [hw2] at Q2 HB2 HT2 HV2 q0 q1 q2 q3
          have HCd := Lib.hid (HC.out.trans (putAll_drop HK.out))
          have hpl := putL_len tl c
          clear hb0
          go_upto_region 20 with fail
          clear hw2 g0 g1 g2 g3
          by_cases k4 : c.kind = 4 ∨ c.kind = 5
          · have f4 : decide (c.kind < 4) = false := by rw [decide_eq_false_iff_not]; omega
            have f4' : ¬ c.kind < 4 := by omega
            have HE := Lib.hid (show putAll l 0 t0 = putAll (l.drop (k + 1)) (k + 1) tl by rw [HCd.out, if_pos k4])
            have HT3 := Lib.hid (HT2.out.mono (Nat.le_succ _))
            clear k4 HCd HC HB HTr HVr
            go_wp2
            go_roundw
            case rel => exact ⟨k + 1, tl, G, a1, m1, by omega, by go_num, by omega, HE, HLt, HT3, HV2, HB2⟩
            case measure => simp [intOf]; omega
          · obtain ⟨hg, hk3⟩ : goodB c = true ∧ (c.kind = 1 ∨ c.kind = 2 ∨ c.kind = 3) := by
              rcases fit_kind HFc.out with h | h
              · exact h
              · exact absurd h k4
            have f4 : decide (c.kind < 4) = true := by rw [decide_eq_true_eq]; omega
            have f4' : c.kind < 4 := by omega
            have HNe : Hid (c.path ≠ []) := Lib.hid fun e => k4 (.inr (HFc.out.2.2 e))
            have hkd := kind_same HLt.out (upB c.path).1 (Classical.em _)
            rw [upB_parts HFc.out.1] at hkd
            have HKd := Lib.hid hkd
            have HLn := Lib.hid (HLt.out.put c HFc.out.1 HNe.out hg)
            have HCe := Lib.hid (HCd.out.trans (if_neg k4))
            have HP := Lib.hid (put_any HT2.out t1 HV2.out c HFc.out.1 HNe.out (by omega) HB2.out.size (HS.out.below HB2.out))
            clear k4 hg hk3 hkd HCd HC HB HTr HVr
            unfold Ent.agg at HP
            go_wp2_with fail
            refine HP.out.mono ?_
            rintro e4 w4 (⟨hd, rfl, hb4, _⟩ | ⟨hd, rfl, a4, m4, hT4, hV4, hb4, _⟩)
            · have HB4 := Lib.hid (HB2.out.trans (hb4.mono HB2.out.size))
              have HE := Lib.hid (patchL_put (i := k) HC1.out (by rw [HCe.out, if_neg (by rw [← decide_eq_true_eq (p := kindL tl (upB c.path).1 = 1), HKd.out, hd]; decide)]))
              clear hd hb4 HP
              go_wp2
              go_ret3
              exact ⟨HB4.out, .inl ⟨9, k, HE.out, by decide, rfl⟩⟩
            · have HB4 := Lib.hid (HB2.out.trans hb4)
              have HE := Lib.hid (show putAll l 0 t0 = putAll (l.drop (k + 1)) (k + 1) (putL tl c) by rw [HCe.out, if_pos (by rw [← decide_eq_true_eq (p := kindL tl (upB c.path).1 = 1), HKd.out, hd])])
              have HT4 := Lib.hid hT4
              have HV4 := Lib.hid hV4
              clear hd hb4 HP hT4 hV4
              go_wp2
              go_roundw
              case rel => exact ⟨k + 1, putL tl c, _, a4, m4, by omega, by go_num, by omega, HE, HLn, HT4, HV4, HB4⟩
              case measure => simp [intOf]; omega
        · obtain rfl : k = l.length := by omega
          have HC2 := Lib.hid (show putAll l 0 t0 = .ok tl by rw [HC.out, List.drop_length]; rfl)
          clear HC
          have HLen := Lib.hid (len_any HTr.out HLt.out.fine (by omega) (HS.out.below HB.out) t1 HVr.out tl (HLt.out.walk HTr.out.tree) (by omega) _ HLt.out.root)
          go_wp2_with fail
          refine HLen.out.mono ?_
          rintro e4 w4 ⟨rfl, hb4⟩
          have HB4 := Lib.hid (HB.out.trans (hb4.mono HB.out.size))
          have HT4 := Lib.hid (HTr.out.below hb4)
          have HV4 := Lib.hid (HVr.out.below hb4)
          clear hb4 HLen HB HTr HVr
          by_cases h40 : 40 < tl.length
          · have HE := Lib.hid (patchL_many HC1.out HC2.out h40)
            have f40 : (40 : Int) < (tl.length : Int) := by omega
            clear h40
            go_wp2
            go_ret3
            exact ⟨HB4.out, .inl ⟨10, -1, HE.out, by decide, rfl⟩⟩
          · have HE := Lib.hid (patchL_ok HC1.out HC2.out h40)
            have f40 : ¬ (40 : Int) < (tl.length : Int) := by omega
            have h40' : tl.length ≤ 40 := by omega
            clear h40
            go_wp2
            go_ret3
            exact ⟨HB4.out, .inr ⟨t1, a1, m1, al.length + l.length, G, tl, HE.out, HLt.out, h40', HT4.out, HV4.out, by omega, rfl⟩⟩
end Go.Proofs.YtafokdidpbainaaGreatDoor
