import Derived.Maps.OwnIn
import Derived.Test.YtikdblkfjchjbaaGreatDoorY11
import Derived.Test.YtikdblkfjchjbaaGreatDoorY13
set_option linter.unusedVariables false
set_option linter.unusedSimpArgs false
set_option maxHeartbeats 16000000
set_option maxRecDepth 100000
namespace Go.Proofs.YtikdblkfjchjbaaGreatDoor
open Go Go.RowKit Go.Shelf
attribute [local go_sem] Oper.semAt_some
structure ListI (w : World) (pre : List Ent) (X : Nat → Prop) (W : World) (v : Value) : Prop where
 box : W.cell? ⟨w.heap.size, 0, none⟩ = some v
 free : W.frozen? ⟨w.heap.size, 0, none⟩ = false
 own : OwnE W (w.heap.size + 1) v pre
 not : ∀ q, v.ownBlock = some q → ¬ X q
 nbox : ¬ X w.heap.size
 lt : ∀ k, X k → k < W.heap.size
 below : Below w.heap.size w W
theorem qh3 {W : World} {B : Nat} {v : Value} {l : List Ent} (h : OwnE W B v l) (q : Nat) (hq : v.ownBlock = some q) : q < W.heap.size ∧ B ≤ q := by
 have := h.lt q hq; exact ⟨this.2, this.1⟩
theorem ListI.rely {w : World} {pre : List Ent} {X : Nat → Prop} {W W' : World} {v : Value} (h : ListI w pre X W v) (hb : Below W.heap.size W W') : ListI w pre (qde X W W') W' v := by
 have hlt : w.heap.size < W.heap.size := q40 W _ h.box;refine ⟨(hb.cell (p := ⟨w.heap.size, 0, none⟩) hlt).trans h.box, ?_, qac h.own hb, fun q hq hx => ?_, fun hx => ?_, fun k hk => ?_, h.below.trans (hb.mono (by omega))⟩
 ·have := h.free; unfold World.frozen? at this ⊢; rw [hb.block w.heap.size hlt]; exact this
 ·rcases hx with hx | hx
  ·exact h.not q hq hx
  ·have := (qh3 h.own q hq).1; omega
 ·rcases hx with hx | hx
  ·exact h.nbox hx
  ·omega
 ·rcases hk with hk | hk
  ·exact Nat.lt_of_lt_of_le (h.lt k hk) hb.size
  ·exact hk.2
theorem ListI.put {w : World} {pre : List Ent} {X : Nat → Prop} {W : World} {v : Value} (h : ListI w pre X W v) (k : Nat) (o : Obj) (hk : X k) (hle : w.heap.size ≤ k) : ListI w pre X (W.putObj k o) v := by
 have hne : w.heap.size ≠ k := fun e => h.nbox (e ▸ hk)
 refine ⟨qap h.box (World.putObj_heap_other hne), ?_, h.own.kept (grownBy_putObj' W k o) (.inr fun e => h.not k e hk), h.not, h.nbox, fun q hq => by simpa using h.lt q hq, Below.putObj' h.below hle _⟩;have := h.free; unfold World.frozen? at this ⊢; rw [World.putObj_heap_other hne]; exact this
theorem ListI.alloc {w : World} {pre : List Ent} {X : Nat → Prop} {W : World} {v : Value} (h : ListI w pre X W v) (o : Obj) : ListI w pre X (W.alloc o) v := by
 have hr := h.rely ((Below.refl W.heap.size W).alloc (Nat.le_refl _) o);exact ⟨hr.box, hr.free, hr.own, h.not, h.nbox, fun k hk => by have := h.lt k hk; simp; omega, hr.below⟩
theorem qs6 {w : World} {B N : Nat} {a m : Pth → Nat} {F : qaf} (hT : TreeAt w B N a m F) (hF : FineF F) (hN : N ≤ 4294967290) (hS : Std w) (t : Nat) (hV : TreeV w t a) (L : List Ent) (hL : WalkL F [] L) (hl : L.length ≤ 2000000000) (x : Nd) (hx : F [] = some x) :
 Calls Tryz.prog 40 #[.pointer (some ⟨t, 0, none⟩)] w fun e w' => ∃ v, e = .returned v ∧ OwnE w' w.heap.size v L ∧ Below w.heap.size w w' := by
 refine (callsIn_wide (n := 8)).1 ?_;refine callsIn_of_wp_marks Tryz.func40 rfl trivial ?_ rfl;simp only [Tryz.ntmps40, List.size_toArray, List.length_cons, List.length_nil, Nat.reduceAdd, Nat.reduceSub, Array.replicate_succ, Array.replicate_zero, List.push_toArray, List.append_toArray, List.nil_append, List.cons_append];have HWk : Hid (∀ w, CallsIn Fence.wide (8 - 1) Tryz.prog 73 #[.pointer (some ⟨t, 0, none⟩), .string (S [])] w _) := q4z (fun w => callsIn_wide.2 (qka t [] w));gi_wp2_with ((first | refine ⟨trivial, fun h => (by cases h), ?_⟩ | refine ⟨trivial, ?_⟩ | refine ⟨fun h => (by cases h), ?_⟩ | skip); gi_at_call 73; refine (HWk.out _).mono ?_; rintro e w1 ⟨rfl, hb1, hs1, d1, d2⟩)
 have hbx : w1.heap[w.heap.size]? = some (Obj.cells #[.slice none 0 0] 30) := (hb1.block _ (by simp)).trans (Go.heap_alloc_new w _);have hbw : Below w.heap.size w w1 := ((Below.refl _ w).alloc (Nat.le_refl _) _).trans (hb1.mono (by simp));simp only [World.size_alloc] at hs1 d1 d2;have hX0 : qsm (fun k => k < w1.heap.size ∧ k ≠ w.heap.size) a m F := fun p y hy => by
  obtain ⟨h1, h2⟩ := hT.lt p y hy;exact ⟨⟨by omega, by omega⟩, fun hk => ⟨by have := h2 hk; omega, by have := h2 hk; omega⟩⟩
 have hXS : StdX (fun k => k < w1.heap.size ∧ k ≠ w.heap.size) := by
  obtain ⟨_, hm⟩ := hS.maxlen;have := q40 w _ hm;exact ⟨by simp at this; omega, by simp at this; omega⟩
 have htl : t < w.heap.size := q40 w _ hV;have hb1w : Below w.heap.size w w1 := hbw;refine qce (xs := L) (encs := encE) (X0 := fun k => k < w1.heap.size ∧ k ≠ w.heap.size) rfl (by omega) (gf := 111) (lb := #[.pointer (some ⟨w.heap.size + 1, 0, none⟩), .pointer (some ⟨w.heap.size + 1 + 1, 0, none⟩)]) rfl trivial (enters_of Tryz.func111 (by kernel_rfl) rfl)
  (qkq (hT.below hbw) hF hN (hS.below hbw) t (hV.below hbw) _ hX0 hXS ⟨by omega, by omega⟩ (w.heap.size + 1) (w.heap.size + 1 + 1) ⟨by omega, by omega⟩ ⟨by omega, by omega⟩ d1 d2 L hL x hx _) (fun _ => rfl)
  (fun pre X W => ∃ v, ListI w pre X W v)
  (fun pre X W ⟨v, h⟩ => h.lt) (fun pre X W W' ⟨v, h⟩ hb => ⟨v, h.rely hb⟩) (fun pre X W k o' ⟨v, h⟩ hk hle => ⟨v, h.put k o' hk (by omega)⟩) ?start
  (fun e a' X W => ∃ g, a' = { tmps := #[.pointer (some ⟨t, 0, none⟩), undef, .pointer (some ⟨w.heap.size, 0, none⟩), undef, .pointer (some ⟨g, 0, none⟩), .pointer (some ⟨t, 0, none⟩), qzn (w.heap.size + 1) (w.heap.size + 1 + 1), .string (S e.path), e.agg, undef, undef, undef, undef, undef], defers := [] } ∧ Cell4 W g e ∧ ¬ X g)
  ?ax ?assign ?body ?done
 case start => exact ⟨_, ⟨by rw [cell_of_row w1 _ _ _ _ _ hbx]; rfl, Lib.frozen_of_heap hbx 0, World.ownsRow_nil _ _ _ _, fun q hq => (by cases hq), fun h => h.2 rfl, fun k h => h.1, hbw⟩⟩
 case ax =>
  rintro e a' X W k o' ⟨g, ha, ⟨q0, q1, q2, q3⟩, hg⟩ hk _;have hne : g ≠ k := fun e => hg (e ▸ hk)
  exact ⟨g, ha, ⟨qap q0 (World.putObj_heap_other hne), qap q1 (World.putObj_heap_other hne), qap q2 (World.putObj_heap_other hne), qap q3 (World.putObj_heap_other hne)⟩, hg⟩
 case assign =>
  rintro l pre y X W K ⟨v, hi⟩ hK;have HJ := q4z hi;have HKK := q4z hK;clear hi hK;obtain ⟨p, kd, md, dt⟩ := y;simp only [encE, Ent.agg];gi_wp2
  refine HKK.out _ _ ⟨by simp, fun k hk => Below.heap_alloc W _ k (HJ.out.lt k hk)⟩ ⟨v, HJ.out.alloc _⟩ ⟨W.heap.size, rfl, Cell4.new W ⟨p, kd, md, dt⟩ 47, fun h => ?_⟩;have := HJ.out.lt _ h; omega
 case body =>
  rintro l pre y rest a' X W hxs ⟨v, hi⟩ ⟨g, rfl, hc4, hg⟩;obtain ⟨i0, hi0, hz0, hz1, hz2⟩ := info_parts (show (Tryz.prog.info? 47).map (fun i => (i.zero, i.size, i.bytes)) = some (some entZ, 4, 48) by kernel_rfl);have hlen : pre.length + 1 ≤ 2000000000 := by rw [hxs] at hl; simp at hl; omega
  obtain ⟨q0, q1, q2, q3⟩ := hc4;have hbx := hi.box;have hfz := hi.free;have HJ := q4z hi;have HO := q4z (show OwnE W (w.heap.size + 1) v pre from hi.own);have hsz := q40 W _ hbx;have hsz' : w.heap.size < W.heap.size := hsz;obtain ⟨av, cv, rfl⟩ := qad HO.out;clear hi
  gi_wp2_with (gi_at_builtin; refine wpListIn_append_own_at _ rfl _ _ 30 rfl (w.heap.size + 1) 47 i0 entZ 4 48 Tryz.underlying30 hi0 hz0 hz1 hz2 rfl (by decide) _ _ _ rfl (HO.out.alloc _) ⟨_, 0, none⟩ 1 1 [.string (S y.path), .int .i64 y.kind, .int .i64 y.mode, .string (S y.data)] rfl rfl (qg9 _ _ _ _ _ _ _ (by simp)) (by simp [Value.oneCell']) (by unfold maxLen; omega) (by omega) (by simp; omega) ?_; intro v' w5 hown5 hgr5 _ hob; have hb5 : w5.heap[w.heap.size]? = W.heap[w.heap.size]? := (hgr5.block _ (by simp; omega) (fun e => by have := (qh3 HO.out _ e.symm).2; omega)).trans (Below.heap_alloc W _ _ hsz'); have c5 := qap hbx hb5; have f5 : w5.frozen? ⟨w.heap.size, 0, none⟩ = false := (by unfold World.frozen? at hfz ⊢; rw [hb5]; exact hfz); have HO5 := q4z (q0e hown5); have HG5 := q4z hgr5; have HOB := q4z hob; obtain ⟨ao, c', rfl⟩ := qad hown5; clear hown5 hgr5 hob)
  have hs5 := HG5.out.size;simp only [World.size_alloc] at hs5;have hsame : ∀ k, k < W.heap.size → k ≠ w.heap.size → (Value.slice av pre.length cv).ownBlock ≠ some k → (w5.setCell ⟨w.heap.size, 0, none⟩ (Value.slice ao (pre.length + 1) c')).heap[k]? = W.heap[k]? := fun k hk h1 h2 =>
   (Below.heap_setCell w5 _ _ k h1).trans ((HG5.out.block k (by simp; omega) (fun e => h2 e.symm)).trans (Below.heap_alloc W _ k hk))
  refine ⟨⟨by simp; omega, fun k hk => hsame k (HJ.out.lt k hk) (fun e => HJ.out.nbox (e ▸ hk)) (fun e => HJ.out.not k e hk)⟩, Value.slice ao (pre.length + 1) c', ?_, ?_, ?_, fun q hq hx => ?_, HJ.out.nbox, fun k hk => ?_, ?_⟩
  ·exact World.cell?_setCell_same' w5 ⟨w.heap.size, 0, none⟩ _ (by rw [c5]; rfl)
  ·rw [World.frozen?_setCell]; exact f5
  ·have h := ownsRow_setCell_below HO5.out (a := ⟨w.heap.size, 0, none⟩) (Nat.lt_succ_self _) (Value.slice ao (pre.length + 1) c')
   exact h
  ·rcases HOB.out with e | e
   ·exact HJ.out.not q (e.symm.trans hq) hx
   ·have e2 := e.symm.trans hq
    have := Option.some.inj e2;have := HJ.out.lt q hx;simp only [World.size_alloc] at *;omega
  ·have := HJ.out.lt k hk; simp; omega
  ·refine ((HJ.out.below.alloc (by have := HJ.out.below.size; omega) _).grown HG5.out (by simp; omega) (fun k hk => ?_)).setCell (p := ⟨w.heap.size, 0, none⟩) (Nat.le_refl _) _
   have := (qh3 HO.out k hk).2; omega
 case done =>
  rintro D X W hD hXD ⟨v, hi⟩ hK;obtain ⟨av, cv, hv⟩ := qad hi.own;subst hv;have hbx := hi.box;have hfz := hi.free;have HJ := q4z hi;clear hi;gi_wp2
  have hK2 := (KeepsOthers.setCell W ⟨w.heap.size, 0, none⟩ (Value.slice av L.length cv)).same D _ hK rfl;refine ⟨by simp, .inl ⟨_, _, rfl, run_takeDeferred hK2, ?_⟩⟩;have hneD : w.heap.size ≠ D := fun e => HJ.out.nbox (e ▸ hXD)
  have hce : ((W.setCell ⟨w.heap.size, 0, none⟩ (Value.slice av L.length cv)).putObj D (.deferred none)).cell? ⟨w.heap.size, 0, none⟩ = some (Value.slice av L.length cv) :=
   qap (World.cell?_setCell_same' W ⟨w.heap.size, 0, none⟩ (Value.slice av L.length cv) (by rw [hbx]; rfl)) (World.putObj_heap_other hneD)
  refine ⟨_, (show (results Tryz.f40 _).run Tryz.prog _ = .ok (Value.slice av L.length cv) _ from ?_), _, rfl, ?_, Below.putObj' (HJ.out.below.setCell (p := ⟨w.heap.size, 0, none⟩) (Nat.le_refl _) _) (by omega) _⟩
  ·simp [results, Tryz.f40, go_sem, hce]
  ·exact qaq (ownsRow_putObj (ownsRow_setCell_below HJ.out.own (a := ⟨w.heap.size, 0, none⟩) (Nat.lt_succ_self _) _) _ hK2 rfl) (Nat.le_succ _)
attribute [local go_sem] Oper.semAt_some
structure CopyI (w : World) (bx : Nat) (pre : List Ent) (X : Nat → Prop) (W : World) (t : Nat) (a m : Pth → Nat) : Prop where
 box : W.cell? ⟨bx, 0, none⟩ = some (.pointer (some ⟨t, 0, none⟩))
 tree : TreeAt W w.heap.size pre.length a m (qa0 pre)
 var : TreeV W t a
 off : ∀ p y, qa0 pre p = some y → ¬ X (a p) ∧ (y.kind = 1 → ¬ X (m p))
 nbox : ¬ X bx
 nt : ¬ X t
 lt : ∀ k, X k → k < W.heap.size
 below : Below w.heap.size w W
 std : Std w
theorem CopyI.rely {w : World} {bx : Nat} {pre : List Ent} {X : Nat → Prop} {W W' : World} {t : Nat} {a m : Pth → Nat} (h : CopyI w bx pre X W t a m) (hb : Below W.heap.size W W') : CopyI w bx pre (qde X W W') W' t a m := by
 have h1 : bx < W.heap.size := q40 W _ h.box;have h2 : t < W.heap.size := q40 W _ h.var;have old : ∀ k, k < W.heap.size → ¬ X k → ¬ qde X W W' k := fun k hk hn hx => hx.elim hn (fun hx => by omega)
 refine ⟨(hb.cell (p := ⟨bx, 0, none⟩) h1).trans h.box, h.tree.below hb, h.var.below hb, fun p y hy => ⟨old _ (h.tree.lt p y hy).1 (h.off p y hy).1, fun hk => old _ ((h.tree.lt p y hy).2 hk) ((h.off p y hy).2 hk)⟩, old _ h1 h.nbox, old _ h2 h.nt, fun k hk => hk.elim (fun hk => Nat.lt_of_lt_of_le (h.lt k hk) hb.size) (fun hk => hk.2), h.below.trans (hb.mono h.below.size), h.std⟩
theorem CopyI.put {w : World} {bx : Nat} {pre : List Ent} {X : Nat → Prop} {W : World} {t : Nat} {a m : Pth → Nat} (h : CopyI w bx pre X W t a m) (k : Nat) (o : Obj) (hk : X k) (hle : w.heap.size ≤ k) : CopyI w bx pre X (W.putObj k o) t a m := by
 have n1 : bx ≠ k := fun e => h.nbox (e ▸ hk)
 have n2 : t ≠ k := fun e => h.nt (e ▸ hk)
 refine ⟨qap h.box (World.putObj_heap_other n1), h.tree.stayX (X := fun q => q ≠ k) (fun p y hy => ⟨fun e => (h.off p y hy).1 (e ▸ hk), fun h1 e => (h.off p y hy).2 h1 (e ▸ hk)⟩) (fun q hq => World.putObj_heap_other hq), qap h.var (World.putObj_heap_other n2), h.off, h.nbox, h.nt, fun q hq => by simpa using h.lt q hq, Below.putObj' h.below hle _, h.std⟩
theorem CopyI.alloc {w : World} {bx : Nat} {pre : List Ent} {X : Nat → Prop} {W : World} {t : Nat} {a m : Pth → Nat} (h : CopyI w bx pre X W t a m) (o : Obj) : CopyI w bx pre X (W.alloc o) t a m := by
 have hr := h.rely ((Below.refl W.heap.size W).alloc (Nat.le_refl _) o);exact ⟨hr.box, hr.tree, hr.var, h.off, h.nbox, h.nt, fun k hk => by have := h.lt k hk; simp; omega, hr.below, h.std⟩
theorem qo8 {F : qaf} {p q : Pth} {x z : Nd} (h : putF F p x q = some z) (hne : q ≠ p) : F q = some z := by
 unfold putF at h;rw [if_neg hne] at h;split at h
 ·split at h
  ·exact h
  ·cases h
 ·exact h
theorem qxf (F : qaf) (p : Pth) (x : Nd) : putF F p x p = some x := by unfold putF; rw [if_pos rfl]
theorem CopyI.step {w : World} {bx : Nat} {pre : List Ent} {X : Nat → Prop} {W w' : World} {t : Nat} {a m : Pth → Nat} (h : CopyI w bx pre X W t a m) {y : Ent} {e : Ending} (hd : qak (qa0 pre) (qaa y.path).dropLast = true)
 (hp : PutFull w.heap.size pre.length a m (qa0 pre) t y W e w') : (∃ b, e = .returned b) ∧ StaysX X W w' ∧ ∃ a' m', CopyI w bx (pre ++ [y]) X w' t a' m' := by
 rcases hp with ⟨h1, _⟩ | ⟨_, rfl, a', m', h3, h4, h5, h6, h7, h8, h9⟩
 ·rw [hd] at h1; cases h1
 have hT : qa0 (pre ++ [y]) = putF (qa0 pre) (qaa y.path) (ndOf y) := qlj _ _ _;refine ⟨⟨_, rfl⟩, ⟨h5.size, fun k hk => h7 k (h.lt k hk) (fun q hq e => ?_)⟩, a', m', ⟨h6 _ _ h.box, by rw [hT, List.length_append]; exact h3, h4, fun q z hz => ⟨fun hx => ?_, fun hk hx => ?_⟩, h.nbox, h.nt, fun k hk => Nat.lt_of_lt_of_le (h.lt k hk) h5.size, h.below.trans h5, h.std⟩⟩
 ·obtain ⟨z, hz, hzk⟩ := qai.1 hq
  exact (h.off q z hz).2 hzk (e ▸ hk)
 ·rw [hT] at hz
  rcases h8 q with ⟨e1, e2⟩ | e1
  ·rw [e1] at hx; exact (h.off q z (qo8 hz e2)).1 hx
  ·have := h.lt _ hx; omega
 ·rw [hT] at hz
  rcases h9 q with ⟨e1, e2⟩ | e1
  ·rw [e1] at hx
   by_cases hq : q = qaa y.path
   ·subst hq
    rw [qxf] at hz;have hz' := Option.some.inj hz;obtain ⟨z2, hz2, hk2⟩ := qai.1 (e2 (by rw [← hz'] at hk; exact hk) rfl);exact (h.off _ z2 hz2).2 hk2 hx
   ·exact (h.off q z (qo8 hz hq)).2 hk hx
  ·have := h.lt _ hx; omega
theorem q1l {w : World} {B N : Nat} {a m : Pth → Nat} {F : qaf} (hT : TreeAt w B N a m F) (hF : FineF F) (hN : N ≤ 4294967290) (hS : Std w) (t : Nat) (hV : TreeV w t a) (L : List Ent) (hL : WalkL F [] L) (hl : L.length ≤ 2000000000) (x : Nd) (hx : F [] = some x)
 (hup : ∀ pre y rest, L = pre ++ y :: rest → qa3 y.path = true ∧ y.path ≠ [] ∧ qak (qa0 pre) (qaa y.path).dropLast = true) :
 Calls Tryz.prog 68 #[.pointer (some ⟨t, 0, none⟩)] w fun e w' => ∃ t' a' m', e = .returned (.pointer (some ⟨t', 0, none⟩)) ∧ TreeAt w' w.heap.size L.length a' m' (qa0 L) ∧ TreeV w' t' a' ∧ Below w.heap.size w w' := by
 refine (callsIn_wide (n := 8)).1 ?_;refine callsIn_of_wp_marks Tryz.func68 rfl trivial ?_ rfl;simp only [Tryz.ntmps68, List.size_toArray, List.length_cons, List.length_nil, Nat.reduceAdd, Nat.reduceSub, Array.replicate_succ, Array.replicate_zero, List.push_toArray, List.append_toArray, List.nil_append, List.cons_append];have HEm : Hid (∀ w, CallsIn Fence.wide (8 - 1) Tryz.prog 61 #[] w _) := q4z (fun w => callsIn_wide.2 (qlv w));have HWk : Hid (∀ w, CallsIn Fence.wide (8 - 1) Tryz.prog 73 #[.pointer (some ⟨t, 0, none⟩), .string (S [])] w _) := q4z (fun w => callsIn_wide.2 (qka t [] w));gi_wp2_with (first
  | ((first | refine ⟨trivial, fun h => (by cases h), ?_⟩ | refine ⟨trivial, ?_⟩ | refine ⟨fun h => (by cases h), ?_⟩ | skip); gi_at_call 61; refine (HEm.out _).mono ?_; clear HEm; rintro e w0 ⟨t0, a0, m0, rfl, hT0, hV0, hb0, hnt0⟩)
  | ((first | refine ⟨trivial, fun h => (by cases h), ?_⟩ | refine ⟨trivial, ?_⟩ | refine ⟨fun h => (by cases h), ?_⟩ | skip); gi_at_call 73; refine (HWk.out _).mono ?_; rintro e w1 ⟨rfl, hb1, hs1, d1, d2⟩))
 have hbx : w1.heap[w0.heap.size]? = some (Obj.cells #[.pointer (some ⟨t0, 0, none⟩)] 86) := (hb1.block _ (by simp)).trans (Go.heap_alloc_new w0 _);have hb01 : Below w0.heap.size w0 w1 := ((Below.refl _ w0).alloc (Nat.le_refl _) _).trans (hb1.mono (by simp));have hbw : Below w.heap.size w w1 := hb0.trans (hb01.mono hb0.size);simp only [World.size_alloc] at hs1 d1 d2;have hsz0 := hb0.size;have hX0 : qsm (fun k => k < w.heap.size ∨ (w0.heap.size < k ∧ k < w1.heap.size)) a m F := fun p y hy => ⟨.inl (hT.lt p y hy).1, fun hk => .inl ((hT.lt p y hy).2 hk)⟩
 have hXS : StdX (fun k => k < w.heap.size ∨ (w0.heap.size < k ∧ k < w1.heap.size)) := by
  obtain ⟨_, hm⟩ := hS.maxlen;exact .inl (q40 w _ hm)
 have htl : t < w.heap.size := q40 w _ hV;have hv0 : t0 < w0.heap.size := q40 w0 _ hV0;refine qce (xs := L) (encs := encE) (X0 := fun k => k < w.heap.size ∨ (w0.heap.size < k ∧ k < w1.heap.size)) rfl (by omega) (gf := 111) (lb := #[.pointer (some ⟨w0.heap.size + 1, 0, none⟩), .pointer (some ⟨w0.heap.size + 1 + 1, 0, none⟩)]) rfl trivial (enters_of Tryz.func111 (by kernel_rfl) rfl)
  (qkq (hT.below hbw) hF hN (hS.below hbw) t (hV.below hbw) _ hX0 hXS (.inl htl) (w0.heap.size + 1) (w0.heap.size + 1 + 1) (.inr ⟨by omega, by omega⟩) (.inr ⟨by omega, by omega⟩) d1 d2 L hL x hx _) (fun _ => rfl)
  (fun pre X W => ∃ t' a' m', CopyI w w0.heap.size pre X W t' a' m')
  (fun pre X W ⟨_, _, _, h⟩ => h.lt) (fun pre X W W' ⟨t', a', m', h⟩ hb => ⟨t', a', m', h.rely hb⟩) (fun pre X W k o' ⟨t', a', m', h⟩ hk hle => ⟨t', a', m', h.put k o' hk (by have := hbw.size; omega)⟩) ?start
  (fun e a' X W => ∃ g, a' = { tmps := #[.pointer (some ⟨t, 0, none⟩), undef, .pointer none, .pointer (some ⟨w0.heap.size, 0, none⟩), undef, .pointer (some ⟨g, 0, none⟩), .pointer (some ⟨t0, 0, none⟩), .pointer (some ⟨t, 0, none⟩), qzn (w0.heap.size + 1) (w0.heap.size + 1 + 1), .string (S e.path), e.agg, undef, undef, undef, undef], defers := [] } ∧ Cell4 W g e ∧ ¬ X g)
  ?ax ?assign ?body ?done
 case start =>
  have hT1 := hT0.below hb01;refine ⟨t0, a0, m0, ⟨by rw [cell_of_row w1 _ _ _ _ _ hbx]; rfl, hT1, hV0.below hb01, fun p y hy => ?_, ?_, ?_, fun k hk => ?_, hbw, hS⟩⟩
  ·have h1 := hT0.lt p y hy
   have h2 := hT0.base p y hy;refine ⟨fun h => ?_, fun hk h => ?_⟩
   ·rcases h with h | h <;> omega
   ·have := h1.2 hk; have := h2.2 hk; rcases h with h | h <;> omega
  ·intro h; rcases h with h | h <;> omega
  ·intro h
   have h1 := hnt0;rcases h with h | h <;> omega
  ·rcases hk with h | h <;> omega
 case ax =>
  rintro e a' X W k o' ⟨g, ha, ⟨q0, q1, q2, q3⟩, hg⟩ hk _;have hne : g ≠ k := fun e => hg (e ▸ hk)
  exact ⟨g, ha, ⟨qap q0 (World.putObj_heap_other hne), qap q1 (World.putObj_heap_other hne), qap q2 (World.putObj_heap_other hne), qap q3 (World.putObj_heap_other hne)⟩, hg⟩
 case assign =>
  rintro l pre y X W K ⟨t', a', m', hi⟩ hK;have HJ := q4z hi;have HKK := q4z hK;clear hi hK;obtain ⟨p, kd, md, dt⟩ := y;simp only [encE, Ent.agg];gi_wp2
  refine HKK.out _ _ ⟨by simp, fun k hk => Below.heap_alloc W _ k (HJ.out.lt k hk)⟩ ⟨t', a', m', HJ.out.alloc _⟩ ⟨W.heap.size, rfl, Cell4.new W ⟨p, kd, md, dt⟩ 47, fun h => ?_⟩;have := HJ.out.lt _ h; omega
 case body =>
  rintro l pre y rest a' X W hxs ⟨t', a', m', hi⟩ ⟨g, rfl, hc4, hg⟩;obtain ⟨hp1, hp2, hp3⟩ := hup pre y rest hxs;have hlen : pre.length + 1 ≤ 2000000000 := by rw [hxs] at hl; simp at hl; omega
  obtain ⟨q0, q1, q2, q3⟩ := hc4;have hbx := hi.box;have HJ := q4z hi;have HPut : Hid (CallsIn Fence.wide (8 - 1 - 1 - 1) Tryz.prog 65 #[.pointer (some ⟨t', 0, none⟩), y.agg] W _) := q4z (callsIn_wide.2 (qrd hi.tree t' hi.var y hp1 hp2 (by omega) hi.below.size (hS.below hi.below)));have HUp := q4z hp3;clear hi hp1 hp2 hp3;gi_wp2_with ((first | refine ⟨trivial, fun h => (by cases h), ?_⟩ | refine ⟨trivial, ?_⟩ | refine ⟨fun h => (by cases h), ?_⟩ | skip); gi_at_call 65; refine (CallsIn.inRound l HPut.out).mono ?_; rintro e w5 hpf; obtain ⟨⟨bb, rfl⟩, hst, hnx⟩ := HJ.out.step HUp.out hpf)
  exact ⟨hst, _, hnx⟩
 case done =>
  rintro D X W hD hXD ⟨t', a', m', hi⟩ hK;have hbx := hi.box;have HJ := q4z hi;clear hi;gi_wp2
  refine ⟨by simp, .inl ⟨_, _, rfl, run_takeDeferred hK, ?_⟩⟩;have hc := HJ.out.put D (.deferred none) hXD (by have := hbw.size; omega);exact ⟨_, results_tmp rfl _ _ _, t', a', m', rfl, hc.tree, hc.var, hc.below⟩
open Go.RowKit
theorem qsj {F : qaf} (hT : IsTree F) {p : Pth} (h : F p = none) : qdg F p = F := by
 funext q
 unfold qdg;split
 ·rename_i hc
  obtain ⟨⟨r, rfl⟩, _⟩ := hc;exact (hT.pre p r h).symm
 ·rfl
theorem q04 {c : Ent} (h : Fit c) : (qbm c = true ∧ (c.kind = 1 ∨ c.kind = 2 ∨ c.kind = 3)) ∨ c.kind = 4 ∨ c.kind = 5 := by
 rcases h.2.1 with hg | hm
 ·exact .inl ⟨hg, qhp hg⟩
 ·unfold qmf at hm
  simp only [Bool.and_eq_true, Bool.or_eq_true, decide_eq_true_eq] at hm;exact .inr hm.1.1
def q1w (al l : List Ent) (W : World) (e : Ending) (w' : World) : Prop :=
 Below W.heap.size W w' ∧
  ((∃ f k : Int, qee al l = ([], f, k) ∧ f ≠ 0 ∧ e = .returned (.tuple #[.pointer none, .int .i64 f, .int .i64 k])) ∨
   (∃ (t' : Nat) (a' m' : Pth → Nat) (N' : Nat) (G : qaf) (L : List Ent), qee al l = (L, 0, -1) ∧ Lists L G ∧ L.length ≤ 40 ∧ TreeAt w' W.heap.size N' a' m' G ∧ TreeV w' t' a' ∧ N' ≤ 4000 ∧ e = .returned (.tuple #[.pointer (some ⟨t', 0, none⟩), .int .i64 0, .int .i64 (-1)])))
theorem qut {w : World} {B N : Nat} {a m : Pth → Nat} {F : qaf} (hT : TreeAt w B N a m F) (hN : N ≤ 4294967290) (hS : Std w) (t : Nat) (hV : TreeV w t a) (al l : List Ent) (hLi : Lists al F) (hal : al.length ≤ 1000) (A : Option Addr) (cap : Nat) (hr : Rd w A (ents l)) (hl : l.length ≤ 1000) (hfit : ∀ c ∈ l, Fit c) :
 Calls Tryz.prog 39 #[.pointer (some ⟨t, 0, none⟩), .slice A l.length cap] w (q1w al l w) := by
 have hcopy := q1l hT hLi.fine hN hS t hV al (hLi.walk hT.tree) (by omega) _ hLi.root (hLi.hup hT.tree);rw [(qg0 hLi.each hLi.rise).uniqF hLi] at hcopy;have HC0 := q4z hcopy;have HT := q4z hT;have HV := q4z hV;have HS := q4z hS;have HR := q4z hr;have HFit := q4z hfit;have HLi := q4z hLi;clear hcopy hT hV hS hr hfit hLi hN;go_enter Tryz.func39, Tryz.ntmps39;go_wp2_with fail;refine HC0.out.mono ?_;rintro e w1 ⟨t1, a1, m1, rfl, hT1, hV1, hb1⟩;have HT1 := q4z hT1;have HV1 := q4z hV1;have HB1 := q4z hb1;clear HC0 hT1 hV1 hb1;go_wp2
 go_loopw [17] (fun i wr => ∃ (k : Nat) (tl : List Ent) (G : qaf), k ≤ l.length ∧ i = .int .i64 k ∧ tl.length ≤ 1000 ∧ Hid (qdf al l 0 al = qdf al (l.drop k) k tl) ∧ Hid (Lists tl G) ∧ Hid (∀ q z, G q = some z → F q = some z) ∧ Hid (TreeAt wr w.heap.size al.length a1 m1 G) ∧ Hid (TreeV wr t1 a1) ∧ Hid (Below w.heap.size w wr)) (fun i _ => l.length - (intOf i).toNat)
 case atStart => exact ⟨0, al, F, Nat.zero_le _, rfl, hal, q4z rfl, HLi, q4z (fun _ _ h => h), HT1, HV1, HB1⟩
 case round =>
  clear HT1 HV1 HB1;obtain ⟨k, tl, G, hk, rfl, htl, HC, HLt, HSub, HTr, HVr, HB⟩ := hrel;by_cases hlt : k < l.length
  ·obtain ⟨b, o, hBe, hbb, g0, g1, g2, g3⟩ := qib HR.out HB.out k hlt
   subst hBe;obtain ⟨c, hcc⟩ : ∃ c, l[k] = c := ⟨_, rfl⟩;have HFc := q4z (HFit.out c (hcc ▸ List.getElem_mem hlt));have HK := q4z (show l[k]? = some c by rw [List.getElem?_eq_getElem hlt, hcc]);have hsp := (qa9 HFc.out.1).1;rw [hcc] at g0 g1 g2 g3;have hkl : (k : Int) < (l.length : Int) := by omega
   clear hcc;have hb0 : Below wr.heap.size wr (wr.alloc (.cells #[.string (S c.path), .int .i64 c.kind, .int .i64 c.mode, .string (S c.data)] 50)) := (Below.refl _ _).alloc (Nat.le_refl _) _;have Q2 := q4z (Cell4.new wr c 50);have HB2 := q4z (HB.out.trans (hb0.mono HB.out.size));have HT2 := q4z (HTr.out.below hb0);have HV2 := q4z (HVr.out.below hb0);obtain ⟨q0, q1, q2, q3⟩ := Q2.out;obtain ⟨w2, hw2⟩ : ∃ w2, wr.alloc (.cells #[.string (S c.path), .int .i64 c.kind, .int .i64 c.mode, .string (S c.data)] 50) = w2 := ⟨_, rfl⟩;rw [hw2] at Q2 HB2 HT2 HV2 q0 q1 q2 q3;have HKa := q4z (kind_any (HT.out.below HB2.out) t (HV.out.below HB2.out) c.path (by omega) (HS.out.below HB2.out))
   rw [← qeq HLi.out c.path] at HKa;have HCd := q4z (HC.out.trans (qsb HK.out));have hcl := q1j tl c;obtain ⟨z, hz⟩ : ∃ z, qbc al c.path = z := ⟨_, rfl⟩;rw [hz] at HKa;have HZk := q4z hz;clear hz hb0;go_upto_region 6 with fail;clear hw2 g0 g1 g2 g3;by_cases k5 : c.kind = 5
   ·have f5 : (c.kind == 5) = true := by rw [k5]; rfl
    have H5 := q4z k5;clear k5;by_cases z1 : z = 1
    ·have fz : (z != 1) = false := by rw [z1]; rfl
     have HE := q4z (show qdf al l 0 al = qdf al (l.drop (k + 1)) (k + 1) (cutL tl c) by rw [HCd.out, if_neg (by rw [qx3 H5.out, HZk.out, decide_eq_true z1]; decide)]);have HZ1 := q4z (HZk.out.trans z1);clear z1 HCd HC HB HTr HVr;go_wp2_with fail;refine HKa.out.mono ?_;rintro e4 w4 ⟨rfl, hb4⟩;have HB4 := q4z (HB2.out.trans (hb4.mono HB2.out.size));have Q4 := q4z (Q2.out.below hb4);have HT4 := q4z (HT2.out.below hb4);have HV4 := q4z (HV2.out.below hb4);clear q0 q1 q2 q3 hb4 HB2 Q2 HT2 HV2 HKa;obtain ⟨q0, q1, q2, q3⟩ := Q4.out;go_wp2_with fail;refine (qfb HT4.out t1 HV4.out c.path (by omega) (HS.out.below HB4.out)).mono ?_;rintro e5 w5 ⟨rfl, hb5⟩
     have HB5 := q4z (HB4.out.trans (hb5.mono HB4.out.size));have HT5 := q4z (HT4.out.below hb5);have HV5 := q4z (HV4.out.below hb5);have hcl2 := HLt.out.clear c.path;rw [← q4c (t := tl) H5.out] at hcl2;clear q0 q1 q2 q3 hb5 HB4 Q4 HT4 HV4;cases hG : G (qaa c.path) with
     | none =>
      have HLn := q4z (show Lists (cutL tl c) G by rw [qsj HT5.out.tree hG] at hcl2; exact hcl2);rw [qhu hG];clear hG hcl2;go_wp2;go_roundw
      case rel => exact ⟨k + 1, cutL tl c, G, by omega, by go_num, by omega, HE, HLn, HSub, HT5, HV5, HB5⟩
      case measure => simp [intOf]; omega
     | some x =>
      have hx1 : x.kind = 1 := by
       have h1 := HSub.out _ _ hG;have h2 := HZ1.out;rw [qeq HLi.out c.path, qmg, h1] at h2; exact h2
      have hdir := qai.2 ⟨x, hG, hx1⟩;have HLn := q4z hcl2;have HSn := q4z (fun q z (h : qdg G (qaa c.path) q = some z) => HSub.out q z (qht h).1);obtain ⟨_, _, _, _, n4⟩ := HT5.out.cells _ _ hG;rw [show mapV x (m1 (qaa c.path)) = .map (some (m1 (qaa c.path))) from if_pos hx1] at n4;obtain ⟨w6, hrun, hm6, hg6⟩ := (HT5.out.dir _ x hG hx1).clear 0;have HT6 := q4z (HT5.out.clear _ hdir hm6 hg6);have HV6 : Hid (TreeV w6 t1 a1) := q4z ((HT5.out.dir _ x hG hx1).cell hg6 _ _ HV5.out);have HB6 : Hid (Below w.heap.size w w6) := q4z (HB5.out.grown hg6 (by have := HB5.out.size; omega) (fun k hk2 => by
       have : m1 (qaa c.path) = k := Option.some.inj hk2;rw [← this]; exact (HT5.out.base _ x hG).2 hx1))
      rw [qel hG];clear hG hcl2 hx1 hdir hm6 hg6;go_wp2;go_roundw
      case rel => exact ⟨k + 1, cutL tl c, qdg G (qaa c.path), by omega, by go_num, by omega, HE, HLn, HSn, HT6, HV6, HB6⟩
      case measure => simp [intOf]; omega
    ·have fz : (z != 1) = true := by rw [bne_iff_ne]; exact z1
     have HE := q4z (qm0 (i := k) (by rw [HCd.out, if_pos (by rw [qx3 H5.out, HZk.out, decide_eq_false z1]; rfl)]));clear z1 HCd HC HB HTr HVr;go_wp2_with fail;refine HKa.out.mono ?_;rintro e4 w4 ⟨rfl, hb4⟩;have HB4 := q4z (HB2.out.trans (hb4.mono HB2.out.size));clear q0 q1 q2 q3 hb4 HB2 Q2 HT2 HV2 HKa;go_wp2;go_ret3;exact ⟨HB4.out, .inl ⟨8, k, HE.out, by decide, rfl⟩⟩
   ·have f5 : (c.kind == 5) = false := by rw [beq_eq_false_iff_ne]; exact k5
    have H5 := q4z k5;clear k5;by_cases k4 : c.kind = 4
    ·have f4 : (c.kind == 4) = true := by rw [k4]; rfl
     have H4 := q4z k4;have HNe : Hid (c.path ≠ []) := q4z fun e => H5.out (HFc.out.2.2 e)
     clear k4;by_cases z0 : z = 0
     ·have fz : (z == 0) = true := by rw [z0]; rfl
      have HE := q4z (qm0 (i := k) (by rw [HCd.out, if_pos (by rw [qx4 H4.out, HZk.out, decide_eq_true z0])]));clear z0 HCd HC HB HTr HVr;go_wp2_with fail;refine HKa.out.mono ?_;rintro e4 w4 ⟨rfl, hb4⟩;have HB4 := q4z (HB2.out.trans (hb4.mono HB2.out.size));clear q0 q1 q2 q3 hb4 HB2 Q2 HT2 HV2 HKa;go_wp2;go_ret3;exact ⟨HB4.out, .inl ⟨8, k, HE.out, by decide, rfl⟩⟩
     ·have fz : (z == 0) = false := by rw [beq_eq_false_iff_ne]; exact z0
      have HE := q4z (show qdf al l 0 al = qdf al (l.drop (k + 1)) (k + 1) (cutL tl c) by rw [HCd.out, if_neg (by rw [qx4 H4.out, HZk.out, decide_eq_false z0]; decide)]);have HLn := q4z (show Lists (cutL tl c) (cutF G (qaa c.path)) by rw [q4d H4.out]; exact HLt.out.cut c.path HNe.out);have HSn := q4z (fun q z (h : cutF G (qaa c.path) q = some z) => HSub.out q z (qkk h).1);clear z0 HCd HC HTr HVr;go_wp2_with fail;refine HKa.out.mono ?_;rintro e4 w4 ⟨rfl, hb4⟩;have HB4 := q4z (HB2.out.trans (hb4.mono HB2.out.size));have Q4 := q4z (Q2.out.below hb4);have HT4 := q4z (HT2.out.below hb4);have HV4 := q4z (HV2.out.below hb4);clear q0 q1 q2 q3 hb4 HB2 Q2 HT2 HV2 HKa;obtain ⟨q0, q1, q2, q3⟩ := Q4.out
      go_wp2_with fail;refine (que HT4.out t1 HV4.out c.path HFc.out.1 HNe.out HB4.out.size (HS.out.below HB4.out)).mono ?_;rintro e5 w5 ⟨⟨bb, rfl⟩, hT5, hV5, hb5, _⟩;have HB5 := q4z (HB4.out.trans hb5);have HT5 := q4z hT5;have HV5 := q4z hV5;clear q0 q1 q2 q3 hb5 HB4 Q4 HT4 HV4 hT5 hV5 HB;go_wp2;go_roundw
      case rel => exact ⟨k + 1, cutL tl c, cutF G (qaa c.path), by omega, by go_num, by omega, HE, HLn, HSn, HT5, HV5, HB5⟩
      case measure => simp [intOf]; omega
    ·have f4 : (c.kind == 4) = false := by rw [beq_eq_false_iff_ne]; exact k4
     have HE := q4z (show qdf al l 0 al = qdf al (l.drop (k + 1)) (k + 1) tl by rw [HCd.out, if_neg (by rw [q0k k4 H5.out]; decide), q3d k4 H5.out]);clear k4 HCd HC HB HTr HVr;go_wp2;go_roundw
     case rel => exact ⟨k + 1, tl, G, by omega, by go_num, by omega, HE, HLt, HSub, HT2, HV2, HB2⟩
     case measure => simp [intOf]; omega
  ·obtain rfl : k = l.length := by omega
   have HC1 := q4z (show qdf al l 0 al = .ok tl by rw [HC.out, List.drop_length]; rfl);clear HC HSub;obtain ⟨t0, ht0⟩ : ∃ t0, t0 = tl := ⟨_, rfl⟩;have HT0 := q4z ht0;rw [← ht0] at HC1;clear ht0;go_wp2;go_loopw [57] (fun i wr => ∃ (k : Nat) (tl : List Ent) (G : qaf) (a1 m1 : Pth → Nat), k ≤ l.length ∧ i = .int .i64 k ∧ tl.length ≤ 1000 + k ∧ Hid (qd3 l 0 t0 = qd3 (l.drop k) k tl) ∧ Hid (Lists tl G) ∧ Hid (TreeAt wr w.heap.size (al.length + k) a1 m1 G) ∧ Hid (TreeV wr t1 a1) ∧ Hid (Below w.heap.size w wr)) (fun i _ => l.length - (intOf i).toNat)
   case atStart => exact ⟨0, tl, G, a1, m1, Nat.zero_le _, rfl, by omega, q4z (by rw [HT0.out]; rfl), HLt, HTr, HVr, HB⟩
   case round =>
    clear HB HTr HVr HLt HT0;obtain ⟨k, tl, G, a1, m1, hk, rfl, htl, HC, HLt, HTr, HVr, HB⟩ := hrel;by_cases hlt : k < l.length
    ·obtain ⟨b, o, hBe, hbb, g0, g1, g2, g3⟩ := qib HR.out HB.out k hlt
     subst hBe;obtain ⟨c, hcc⟩ : ∃ c, l[k] = c := ⟨_, rfl⟩;have HFc := q4z (HFit.out c (hcc ▸ List.getElem_mem hlt));have HK := q4z (show l[k]? = some c by rw [List.getElem?_eq_getElem hlt, hcc]);have hsp := (qa9 HFc.out.1).1;rw [hcc] at g0 g1 g2 g3;have hkl : (k : Int) < (l.length : Int) := by omega
     clear hcc;have hb0 : Below wr.heap.size wr (wr.alloc (.cells #[.string (S c.path), .int .i64 c.kind, .int .i64 c.mode, .string (S c.data)] 50)) := (Below.refl _ _).alloc (Nat.le_refl _) _;have Q2 := q4z (Cell4.new wr c 50);have HB2 := q4z (HB.out.trans (hb0.mono HB.out.size));have HT2 := q4z (HTr.out.below hb0);have HV2 := q4z (HVr.out.below hb0);obtain ⟨q0, q1, q2, q3⟩ := Q2.out;obtain ⟨w2, hw2⟩ : ∃ w2, wr.alloc (.cells #[.string (S c.path), .int .i64 c.kind, .int .i64 c.mode, .string (S c.data)] 50) = w2 := ⟨_, rfl⟩;rw [hw2] at Q2 HB2 HT2 HV2 q0 q1 q2 q3;have HCd := q4z (HC.out.trans (qrf HK.out));have hpl := qs1 tl c;clear hb0;go_upto_region 20 with fail;clear hw2 g0 g1 g2 g3
     by_cases k4 : c.kind = 4 ∨ c.kind = 5
     ·have f4 : decide (c.kind < 4) = false := by rw [decide_eq_false_iff_not]; omega
      have f4' : ¬ c.kind < 4 := by omega
      have HE := q4z (show qd3 l 0 t0 = qd3 (l.drop (k + 1)) (k + 1) tl by rw [HCd.out, if_pos k4]);have HT3 := q4z (HT2.out.mono (Nat.le_succ _));clear k4 HCd HC HB HTr HVr;go_wp2;go_roundw
      case rel => exact ⟨k + 1, tl, G, a1, m1, by omega, by go_num, by omega, HE, HLt, HT3, HV2, HB2⟩
      case measure => simp [intOf]; omega
     ·obtain ⟨hg, hk3⟩ : qbm c = true ∧ (c.kind = 1 ∨ c.kind = 2 ∨ c.kind = 3) := by
       rcases q04 HFc.out with h | h
       ·exact h
       ·exact absurd h k4
      have f4 : decide (c.kind < 4) = true := by rw [decide_eq_true_eq]; omega
      have f4' : c.kind < 4 := by omega
      have HNe : Hid (c.path ≠ []) := q4z fun e => k4 (.inr (HFc.out.2.2 e))
      have hkd := qe1 HLt.out (upB c.path).1 (Classical.em _);rw [qdz HFc.out.1] at hkd;have HKd := q4z hkd;have HLn := q4z (HLt.out.put c HFc.out.1 HNe.out hg);have HCe := q4z (HCd.out.trans (if_neg k4));have HP := q4z (qrc HT2.out t1 HV2.out c HFc.out.1 HNe.out (by omega) HB2.out.size (HS.out.below HB2.out));clear k4 hg hk3 hkd HCd HC HB HTr HVr;unfold Ent.agg at HP;go_wp2_with fail;refine HP.out.mono ?_;rintro e4 w4 (⟨hd, rfl, hb4, _⟩ | ⟨hd, rfl, a4, m4, hT4, hV4, hb4, _⟩)
      ·have HB4 := q4z (HB2.out.trans (hb4.mono HB2.out.size))
       have HE := q4z (quu (i := k) HC1.out (by rw [HCe.out, if_neg (by rw [← decide_eq_true_eq (p := qbc tl (upB c.path).1 = 1), HKd.out, hd]; decide)]));clear hd hb4 HP;go_wp2;go_ret3;exact ⟨HB4.out, .inl ⟨9, k, HE.out, by decide, rfl⟩⟩
      ·have HB4 := q4z (HB2.out.trans hb4)
       have HE := q4z (show qd3 l 0 t0 = qd3 (l.drop (k + 1)) (k + 1) (putL tl c) by rw [HCe.out, if_pos (by rw [← decide_eq_true_eq (p := qbc tl (upB c.path).1 = 1), HKd.out, hd])]);have HT4 := q4z hT4;have HV4 := q4z hV4;clear hd hb4 HP hT4 hV4;go_wp2;go_roundw
       case rel => exact ⟨k + 1, putL tl c, _, a4, m4, by omega, by go_num, by omega, HE, HLn, HT4, HV4, HB4⟩
       case measure => simp [intOf]; omega
    ·obtain rfl : k = l.length := by omega
     have HC2 := q4z (show qd3 l 0 t0 = .ok tl by rw [HC.out, List.drop_length]; rfl);clear HC;have HLen := q4z (qyc HTr.out HLt.out.fine (by omega) (HS.out.below HB.out) t1 HVr.out tl (HLt.out.walk HTr.out.tree) (by omega) _ HLt.out.root);go_wp2_with fail;refine HLen.out.mono ?_;rintro e4 w4 ⟨rfl, hb4⟩;have HB4 := q4z (HB.out.trans (hb4.mono HB.out.size));have HT4 := q4z (HTr.out.below hb4);have HV4 := q4z (HVr.out.below hb4);clear hb4 HLen HB HTr HVr;by_cases h40 : 40 < tl.length
     ·have HE := q4z (qri HC1.out HC2.out h40)
      have f40 : (40 : Int) < (tl.length : Int) := by omega
      clear h40;go_wp2;go_ret3;exact ⟨HB4.out, .inl ⟨10, -1, HE.out, by decide, rfl⟩⟩
     ·have HE := q4z (qxi HC1.out HC2.out h40)
      have f40 : ¬ (40 : Int) < (tl.length : Int) := by omega
      have h40' : tl.length ≤ 40 := by omega
      clear h40;go_wp2;go_ret3;exact ⟨HB4.out, .inr ⟨t1, a1, m1, al.length + l.length, G, tl, HE.out, HLt.out, h40', HT4.out, HV4.out, by omega, rfl⟩⟩
end Go.Proofs.YtikdblkfjchjbaaGreatDoor
