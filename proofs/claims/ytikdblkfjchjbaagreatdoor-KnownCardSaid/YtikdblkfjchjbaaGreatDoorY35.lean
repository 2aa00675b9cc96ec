import Derived.Test.YtikdblkfjchjbaaGreatDoorY15
import Derived.Test.YtikdblkfjchjbaaGreatDoorY34
set_option linter.unusedVariables false
set_option linter.unusedSimpArgs false
set_option maxHeartbeats 16000000
set_option maxRecDepth 100000
namespace Go.Proofs.YtikdblkfjchjbaaGreatDoor
open Go.RowKit
def qv9 (o : Obj) : Prop := o = .map #[] 0
theorem qq6 (w : World) : Calls Tryz.prog 56 #[] w fun e w' => ∃ t g mb, e = .returned (.pointer (some ⟨g, 0, none⟩)) ∧ StM w w' 0 [] t g mb qv9 (fun k => k < w.heap.size ∨ k = mb) [] := by
 have hmm := @run_makeMap Tryz.prog;go_enter Tryz.func56, Tryz.ntmps56;go_wp2_with fail;refine (qlv _).mono ?_;rintro e w1 ⟨t, a, m, rfl, hT, hV, hb1, hr⟩;have HT := q4z hT;have HV := q4z hV;have HB := q4z hb1;have hsz := hb1.size;clear hT hV hb1;go_wp2;go_ret;have htl : t < w1.heap.size := q40 _ _ HV.out;have hb2 : Below w1.heap.size w1 (w1.alloc (.map #[] 0)) := (Below.refl _ _).alloc (Nat.le_refl _) _;have hb3 : Below w1.heap.size w1 ((w1.alloc (.map #[] 0)).alloc (.cells #[.pointer (some ⟨t, 0, none⟩), .map (some w1.heap.size), .string (S [])] qsu)) := hb2.alloc (by simp) _
 have hm : ((w1.alloc (.map #[] 0)).alloc (.cells #[.pointer (some ⟨t, 0, none⟩), .map (some w1.heap.size), .string (S [])] qsu)).heap[w1.heap.size]? = some (.map #[] 0) := (Below.heap_alloc (w1.alloc _) _ w1.heap.size (by simp)).trans (Go.heap_alloc_new w1 _);have hg := Go.heap_alloc_new (w1.alloc (.map #[] 0)) (.cells #[.pointer (some ⟨t, 0, none⟩), .map (some w1.heap.size), .string (S [])] qsu);rw [World.size_alloc] at hg;have hLn : qa0 ([] : List Ent) = qgc := rfl
 refine ⟨t, w1.heap.size + 1, w1.heap.size, rfl, ⟨HB.out.trans (hb3.mono HB.out.size), Lists.nil, Nat.le_refl _, ⟨0, a, m, Nat.le_refl _, HT.out.below hb3, HV.out.below hb3, fun p hp hd => ?_, fun p x hx hd => ?_⟩, hg, ⟨_, hm, rfl⟩, ?_, by simp, .inr rfl, fun k hk => ?_, by omega⟩⟩
 ·obtain ⟨x, hx, hk⟩ := qai.1 hp
  have h1 := (HT.out.base p x hx).2 hk;have h2 := (HT.out.lt p x hx).2 hk;omega
 ·have h1 := (HT.out.base p x hx).1
  have h2 := (HT.out.lt p x hx).1;omega
 ·exact ⟨by omega, by omega, hr⟩
 ·simp only [World.size_alloc]
  omega
theorem qby {w : World} {g : Nat} {a b c : Value} {T : TypeId} (h : w.heap[g]? = some (.cells #[a, b, c] T (0, 0))) : w.cell? ⟨g, 0, none⟩ = some a ∧ w.cell? ⟨g, 1, none⟩ = some b ∧ w.cell? ⟨g, 2, none⟩ = some c ∧ w.frozen? ⟨g, 0, none⟩ = false ∧ w.frozen? ⟨g, 1, none⟩ = false ∧ w.frozen? ⟨g, 2, none⟩ = false := by
 refine ⟨?_, ?_, ?_, frozen_of_row _ _ _ _ _ h, frozen_of_row _ _ _ _ _ h, frozen_of_row _ _ _ _ _ h⟩ <;> rw [cell_of_row _ _ _ _ _ _ h] <;> rfl
theorem qx9 {w0 w : World} {n : Nat} {l : List Ent} {t g mb : Nat} {E : Obj → Prop} {D : Nat → Prop} {wk : List UInt8} (h : StM w0 w n l t g mb E D wk) (hS : Std w) (hn : n ≤ 1000000000) :
 Calls Tryz.prog 40 #[.pointer (some ⟨t, 0, none⟩)] w fun e w' => ∃ v, e = .returned v ∧ OwnE w' w.heap.size v l ∧ Below w.heap.size w w' := by
 obtain ⟨N, a, m, h1, h2, h3, _⟩ := h.tree;exact qs6 h2 h.lst.fine (by omega) hS t h3 l (h.lst.walk h2.tree) (by have := h.len; omega) _ h.lst.root
theorem qym {w0 w : World} {n : Nat} {l : List Ent} {t g mb : Nat} {D : Nat → Prop} {wk : List UInt8} (h : StM w0 w n l t g mb qv9 D wk) (hS : Std w0) (hn : n ≤ 1000000000) :
 Calls Tryz.prog 60 #[.pointer (some ⟨g, 0, none⟩)] w fun e w' => ∃ v, e = .returned (.agg #[.slice none 0 0, .string (S (47 :: wk)), v]) ∧ OwnE w' w.heap.size v l ∧ Below w.heap.size w w' := by
 have hb1 : Below w.heap.size w (w.alloc (.cells #[.slice none 0 0, .string (S []), .slice none 0 0] 32)) := (Below.refl _ _).alloc (Nat.le_refl _) _;have k2 := Go.heap_alloc_new w (.cells #[.slice none 0 0, .string (S []), .slice none 0 0] 32);have HM := q4z (h.after hb1);have HS := q4z hS;have hwl := h.way;have hsz := hb1.size;have hszk := (q41 k2).1;have HB1 := q4z hb1;clear h hS hb1;go_enter Tryz.func60, Tryz.ntmps60;go_upto_region 1 with fail;generalize w.alloc (.cells #[.slice none 0 0, .string (S []), .slice none 0 0] 32) = w1 at HM HB1 hsz hszk k2 ⊢;obtain ⟨c0, c1, c2⟩ := HM.out.cells
 have HL := q4z (fun (wx : World) (hb : Below w1.heap.size w1 wx) => qx9 (HM.out.after hb) (HS.out.below (HM.out.after hb).below) hn);go_cut [3] (fun v wx => ∃ (gi : Nat) (tv : Value), v = .pointer (some ⟨gi, 0, none⟩) ∧ w1.heap.size ≤ gi ∧ wx.heap[gi]? = some (.cells #[.slice none 0 0, .string (S (47 :: wk)), tv] 32 (0, 0)) ∧ Hid (OwnE wx w1.heap.size tv l) ∧ Hid (Below w1.heap.size w1 wx))
 case first =>
  have t0 : Below w1.heap.size w1 w1.drew := qbn (Below.refl _ _);have t1 : ∀ o, Below w1.heap.size w1 (w1.alloc o).drew := fun o => qbn ((Below.refl _ _).alloc (Nat.le_refl _) o)
  have hgl := q40 _ _ c0;have ne1 : g ≠ w1.heap.size := by simp only at hgl; omega
  have ne2 : w1.heap.size ≠ g := Ne.symm ne1;have n1 : ¬ 9223372036854775807 < 1 + wk.length := by omega
  have n2 : ¬ 9223372036854775807 < wk.length + 1 := by omega
  go_region_held3 (fun w' => w'.cell? ⟨g, 0, none⟩ = some (.pointer (some ⟨t, 0, none⟩)) ∧ w'.cell? ⟨g, 2, none⟩ = some (.string (S wk))) (go_keep) (first | (go_at_call 40; refine (HL.out _ (by first | exact t0 | exact t1 _)).mono ?_; rintro e6 w6 ⟨tv, rfl, hown, hb6⟩; obtain ⟨av, ac, rfl⟩ := qad hown; have HO6 := q4z hown; have hbw : Below w1.heap.size w1 w6 := (by first | exact t0.trans (hb6.mono t0.size) | exact (t1 _).trans (hb6.mono (t1 _).size)); have k60 := (hbw.cell (p := ⟨g, 0, none⟩) (q40 _ _ c0)).trans c0; have k62 := (hbw.cell (p := ⟨g, 2, none⟩) (q40 _ _ c2)).trans c2; have HB6 := q4z hbw; (first | (have hk6 : w6.heap[w1.heap.size]? = some (.cells #[.slice none 0 0, .string (S []), .slice none 0 0] 32 (0, 0)) := (hb6.block _ (by simp)).trans (show (w1.alloc (.cells #[.slice none 0 0, .string (S []), .slice none 0 0] 32)).heap[w1.heap.size]? = _ from Go.heap_alloc_new w1 _); obtain ⟨d0, d1, d2, d3, d4, d5⟩ := qby hk6; have hl6 := (q41 hk6).1) | skip); have hz6 := hb6.size; clear hown hb6 hbw))
  all_goals
   go_wp2;go_meet
   first
    | (exact ⟨w6.heap.size, _, rfl, HB6.out.size, Go.heap_alloc_new w6 _, q4z (qaq (HO6.out.alloc _) (by simp)), q4z (HB6.out.alloc HB6.out.size _)⟩)
    | (exact ⟨w1.heap.size, _, rfl, Nat.le_refl _, heap_setCell_same _ w1.heap.size 2 _ _ _ (heap_setCell_same _ w1.heap.size 1 _ _ _ (heap_setCell_same w6 w1.heap.size 0 _ _ _ hk6)),
        q4z (qaq (ownsRow_setCell_below (ownsRow_setCell_below (ownsRow_setCell_below HO6.out (a := ⟨w1.heap.size, 0, none⟩) (by simp) _) (a := ⟨w1.heap.size, 1, none⟩) (by simp) _) (a := ⟨w1.heap.size, 2, none⟩) (by simp) _) (by simp)),
        q4z (((HB6.out.setCell (Nat.le_refl _) _).setCell (Nat.le_refl _) _).setCell (Nat.le_refl _) _)⟩)
 case rest =>
  obtain ⟨gi, tv, rfl, hgi, hki, HO, HB⟩ := hcut;obtain ⟨tva, tvc, htv⟩ := qad HO.out;subst htv;have HM2 := q4z (HM.out.after HB.out);obtain ⟨c0, c1, c2⟩ := HM2.out.cells;have k2' := (HB.out.block _ (q41 k2).1).trans k2;clear HM k2;obtain ⟨o, ho, hoe⟩ := HM2.out.env;obtain rfl : o = .map #[] 0 := hoe;obtain ⟨Dm, hown, hIs, hD⟩ := (show MapIs wc mb 0 (fun _ => none) from (by
   obtain ⟨Dm, ⟨es, cl, e1, e2⟩, h3⟩ := MapIs.made wc;rw [Go.heap_alloc_new wc] at e1;exact ⟨Dm, ⟨es, cl, ho.trans (by simpa using e1), e2⟩, h3⟩))
  have hsz2 : w.heap.size < w1.heap.size := hszk;have hgiw : w.heap.size ≠ gi := by omega
  have HOw := q4z hown;have HDm := q4z hD;have HKi := q4z hki;have HK2 := q4z k2';clear hown hD hIs ho hki k2';go_wp2_with (at_range; refine wpList_range_own _ rfl _ 145 rfl tStr 205 strK Tryz.underlying145 qji _ 0 Dm rfl HOw.out ?_; intro w3 hrg hg3 hs3)
  try go_frame
  have HB3 := q4z ((Below.refl wc.heap.size wc).grown hg3 (Nat.le_refl _) (fun k hk => by cases hk));have HRg := q4z hrg;clear hrg hg3 hs3;go_loopw [5] (fun _ wr => wr = w3) (fun _ _ => 0)
  case atStart => exact rfl
  case round =>
   obtain rfl := hrel;have hki3 := (HB3.out.block _ (q41 HKi.out).1).trans HKi.out;have hk23 := (HB3.out.block _ (q41 HK2.out).1).trans HK2.out;have HO3 := q4z (qac HO.out HB3.out);have HBt := q4z (HB.out.trans (HB3.out.mono HB.out.size));go_wp2_with (at_next; refine wpList_next_ranges _ rfl _ rfl tStr strK qji (fun s : List UInt8 => Value.string (S s)) qme (fun key kl hkey => by obtain ⟨x, h1, _⟩ := Maps.keyOf_str Tryz.underlying9 hkey; exact ⟨x, h1⟩) (fun v y hv => by obtain ⟨o, h1, _⟩ := qjh hv; exact ⟨o, h1⟩) mb wc.heap.size 0 Dm (Maps.has Dm) (Maps.size Dm) rfl HRg.out ?_ ?_)
   ·intro _ _
    have hrl := HB3.out.size;obtain ⟨i0, i1, i2, _, _, _⟩ := qby hki3;have HSo := q4z (qov none 0 [] 0 wr (World.ownsRow_nil _ _ _ _) (by simp));go_wp2_with fail;refine HSo.out.mono ?_;rintro e w5 ⟨rfl, _, hg5⟩;have hb5 : Below wr.heap.size wr w5 := (Below.refl _ _).grown hg5 (Nat.le_refl _) (fun k hk => by cases hk);have hki5 := (hb5.block _ (q41 hki3).1).trans hki3;have hk25 := (hb5.block _ (q41 hk23).1).trans hk23;obtain ⟨x0, x1, x2, _, _, _⟩ := qby hki5;obtain ⟨j0, j1, j2, f0, f1, f2⟩ := qby hk25;have HO5 := q4z (qac HO3.out hb5);have HB5 := q4z (HB1.out.trans ((HBt.out.trans (hb5.mono (by have := HB.out.size; omega))).mono hsz));have HK5 := q4z hk25
    clear i0 i1 i2 hki3 hk23 hb5 hg5 hki5 hk25 HO3 HBt HB3 c0 c1 c2;generalize hg0 : w.heap.size = g0 at j0 j1 j2 f0 f1 f2 HK5 ⊢;go_wp2;have h0 := heap_setCell_same w5 g0 0 _ _ (.slice none 0 0) HK5.out;have h1 := heap_setCell_same _ g0 1 _ _ (.string (S (47 :: wk))) h0;have h2 := heap_setCell_same _ g0 2 _ _ (.slice tva l.length tvc) h1;obtain ⟨v0, v1, v2, _, _, _⟩ := qby h2;have hbe := ((HB5.out.setCell (p := ⟨g0, 0, none⟩) (by show w.heap.size ≤ g0; omega) (.slice none 0 0)).setCell (p := ⟨g0, 1, none⟩) (by show w.heap.size ≤ g0; omega) (.string (S (47 :: wk)))).setCell (p := ⟨g0, 2, none⟩) (by show w.heap.size ≤ g0; omega) (.slice tva l.length tvc)
    have hoe := ownsRow_setCell_below (ownsRow_setCell_below (ownsRow_setCell_below HO5.out (a := ⟨g0, 0, none⟩) (by show g0 < w1.heap.size; omega) (.slice none 0 0)) (a := ⟨g0, 1, none⟩) (by show g0 < w1.heap.size; omega) (.string (S (47 :: wk)))) (a := ⟨g0, 2, none⟩) (by show g0 < w1.heap.size; omega) (.slice tva l.length tvc);refine bodyPost_ret (by simp [results, Tryz.results60, go_sem, v0, v1, v2, Result.andThen]; try rfl) rfl ?_;exact ⟨_, rfl, qaq hoe (by omega), hbe⟩
   ·intro x c' kl y yb w' cnt' hkey hlk hv hat hrg' hlt hgr hsz' hen
    obtain ⟨x', hx1, rfl, hxl⟩ := Maps.keyOf_str Tryz.underlying9 hkey;rw [(HDm.out x').2] at hlk;cases hlk
open Go Go.RowKit Go.Shelf
attribute [local go_sem] Oper.semAt_some
theorem StM.low {w0 w : World} {n : Nat} {l : List Ent} {t g mb : Nat} {E : Obj → Prop} {D : Nat → Prop} {wk : List UInt8} (h : StM w0 w n l t g mb E D wk) : StM w0 w n l t g mb E (fun k => D k ∨ k < w0.heap.size) wk := by
 obtain ⟨N, a, m, h1, h2, h3, h4, h5⟩ := h.tree;refine ⟨h.below, h.lst, h.len, ⟨N, a, m, h1, h2, h3, fun p hp hd => ?_, fun p x hx hd => ?_⟩, h.blk, h.env, h.own, h.way, .inl h.dmb, fun k hk => ?_, h.mg⟩
 ·rcases hd with hd | hd
  ·exact h4 p hp hd
  ·obtain ⟨x, hx, hk⟩ := qai.1 hp
   have := (h2.base p x hx).2 hk; omega
 ·rcases hd with hd | hd
  ·exact h5 p x hx hd
  ·have := (h2.base p x hx).1; omega
 ·rcases hk with hk | hk
  ·exact h.dlt k hk
  ·exact Nat.lt_of_lt_of_le hk h.below.size
structure CopI (w0 w : World) (nn t g mb bx bt : Nat) (E : Obj → Prop) (D : Nat → Prop) (wk tp : List UInt8) (l1 pre : List Ent) (X : Nat → Prop) (W : World) (l' : List Ent) : Prop where
 all : qcy l1 tp pre = .ok l'
 st : StM w0 W (nn + pre.length) l' t g mb E (fun k => D k ∨ X k) wk
 cb : W.cell? ⟨bx, 0, none⟩ = some (.pointer (some ⟨g, 0, none⟩))
 ct : W.cell? ⟨bt, 0, none⟩ = some (.string (S tp))
 keep : KeepC w W
 lt : ∀ k, X k → k < W.heap.size
 dm : D mb
 stay : StayD D w W
variable {w0 w : World} {nn t g mb bx bt : Nat} {E : Obj → Prop} {D : Nat → Prop} {wk tp : List UInt8} {l1 pre : List Ent} {X : Nat → Prop} {W W' : World} {l' : List Ent}
theorem CopI.rely (h : CopI w0 w nn t g mb bx bt E D wk tp l1 pre X W l') (hb : Below W.heap.size W W') : CopI w0 w nn t g mb bx bt E D wk tp l1 pre (qde X W W') W' l' := by
 refine ⟨h.all, h.st.guard hb (fun k hk => ?_) (.inl h.dm), (hb.cell (q40 _ _ h.cb)).trans h.cb, (hb.cell (q40 _ _ h.ct)).trans h.ct, h.keep.trans (KeepC.below hb), fun k hk => ?_, h.dm, h.stay.trans ⟨hb.size, fun k hk => hb.block k (h.st.dlt k (.inl hk))⟩⟩
 ·rcases hk with hk | hk | hk
  ·exact .inl (.inl hk)
  ·exact .inl (.inr hk)
  ·exact .inr hk
 ·rcases hk with hk | hk
  ·exact Nat.lt_of_lt_of_le (h.lt k hk) hb.size
  ·exact hk.2
theorem CopI.put (h : CopI w0 w nn t g mb bx bt E D wk tp l1 pre X W l') (k : Nat) (o : Obj) (hk : X k) (M : Nat) (hM : M ≤ k) (h1 : g < M) (h2 : t < M) (h3 : mb < M) (h4 : bx < M) (h5 : bt < M) (h6 : w0.heap.size ≤ M) (h7 : w.heap.size ≤ M) (h8 : ∀ i, D i → i < M) : CopI w0 w nn t g mb bx bt E D wk tp l1 pre X (W.putObj k o) l' := by
 refine ⟨h.all, h.st.poke k (.inr hk) (by omega) (by omega) (by omega) (Below.putObj' h.st.below (by omega) _) (by simp) (fun i hi _ => World.putObj_heap_other hi), qap h.cb (World.putObj_heap_other (by omega)), qap h.ct (World.putObj_heap_other (by omega)), fun p v hv => ?_, fun i hi => by simpa using h.lt i hi, h.dm, h.stay.trans ⟨by simp, fun i hi => World.putObj_heap_other (by have := h8 i hi; omega)⟩⟩;have hp := q40 _ _ hv;exact (World.cell?_of_block (World.putObj_heap_other (by omega))).trans (h.keep p v hv)
theorem CopI.alloc (h : CopI w0 w nn t g mb bx bt E D wk tp l1 pre X W l') (o : Obj) : CopI w0 w nn t g mb bx bt E D wk tp l1 pre X (W.alloc o) l' := by
 have hb : Below W.heap.size W (W.alloc o) := (Below.refl _ _).alloc (Nat.le_refl _) _;exact ⟨h.all, h.st.after hb, (hb.cell (q40 _ _ h.cb)).trans h.cb, (hb.cell (q40 _ _ h.ct)).trans h.ct, h.keep.trans (KeepC.below hb), fun k hk => Nat.lt_of_lt_of_le (h.lt k hk) hb.size, h.dm, h.stay.trans ⟨hb.size, fun k hk => hb.block k (h.st.dlt k (.inl hk))⟩⟩
theorem qsc (l : List Ent) (tp : List UInt8) : ∀ (pre : List Ent) (x : Ent) (rest : List Ent) (l2 : List Ent), qcy l tp (pre ++ x :: rest) = .ok l2 → ∃ a b, qcy l tp pre = .ok a ∧ layE a ⟨inB tp x.path, x.kind, x.mode, x.data⟩ = .ok b ∧ qcy l tp (pre ++ [x]) = .ok b := by
 intro pre;induction pre generalizing l with
 | nil =>
  intro x rest l2 h;rw [List.nil_append, qcy] at h;rw [List.nil_append, qcy];split at h
  ·rename_i l3 h3; exact ⟨l, l3, rfl, h3, by simp only [qcy, h3]⟩
  ·cases h
 | cons y pre ih =>
  intro x rest l2 h;rw [List.cons_append, qcy] at h;split at h
  ·rename_i l3 h3
   obtain ⟨a, b, e1, e2, e3⟩ := ih l3 x rest l2 h;refine ⟨a, b, ?_, e2, ?_⟩
   ·rw [qcy, h3]; exact e1
   ·rw [List.cons_append, qcy, h3]; exact e3
  ·cases h
def CopF (g bx bt gE : Nat) (e : Ent) (a' : Act) : Prop := ∃ u1 u2 u3 u5 u6 u7 u8 u9 u13 u14 u15 u16 u17 u18 u19 u20 u21 u22 u23 u24 u25 u26 u27 u28 u29 u30 u31 u32 u33 u34 u35 u36 u37 u38 u39 u40 u41 u42 u43 u44 u45 u46 u47 u48 u49 u50 u51 u52 u53 u54 u55 u56 u57 u58 u59 u60 u61 u62 u63 u64 u65 u66 u67 u68 u69 u70 u71 u72 u73 u74 u75 u76 u77 u78 u79 u80 u81 u82 u83 u84 u85 u86 u87 u88 u89, a' = { tmps := #[.pointer (some ⟨g, 0, none⟩), u1, u2, u3, .pointer (some ⟨bx, 0, none⟩), u5, u6, u7, u8, u9, .pointer (some ⟨bt, 0, none⟩), .string (S e.path), .pointer (some ⟨gE, 0, none⟩), u13, u14, u15, u16, u17, u18, u19, u20, u21, u22, u23, u24, u25, u26, u27, u28, u29, u30, u31, u32, u33, u34, u35, u36, u37, u38, u39, u40, u41, u42, u43, u44, u45, u46, u47, u48, u49, u50, u51, u52, u53, u54, u55, u56, u57, u58, u59, u60, u61, u62, u63, u64, u65, u66, u67, u68, u69, u70, u71, u72, u73, u74, u75, u76, u77, u78, u79, u80, u81, u82, u83, u84, u85, u86, u87, u88, u89], defers := [] }
theorem qvy {w0 w : World} {n : Nat} {l : List Ent} {t g mb : Nat} {E : Obj → Prop} {D : Nat → Prop} {wk : List UInt8} (h : StM w0 w n l t g mb E D wk) (hS : Std w0) (hn : n < 2000000000) (c : List Ent) (tc : Nat) (hC : CtxT w0 c tc) (hc : c.length ≤ 1000)
 (src dst : List UInt8) (hs : src.length ≤ 200) (hd : dst.length ≤ 200) (p tp : List UInt8) (l1 l2 : List Ent) (h1 : wayL [] src = .ok p) (h2 : wayL wk dst = .ok tp) (h3 : qbc c p = 1) (h4 : qgg l tp = .ok l1) (h5 : qcy l1 tp (subL c p) = .ok l2) :
 Calls Tryz.prog 94 #[.pointer (some ⟨g, 0, none⟩), .pointer (some ⟨tc, 0, none⟩), .string (S src), .string (S dst)] w fun e w' => e = .returned (.tuple #[]) ∧ StM w0 w' (n + 12 + (subL c p).length) l2 t g mb E D wk ∧ KeepC w w' ∧ StayD D w w' := by
 refine (callsIn_wide (n := 8)).1 ?_;have HM := q4z h;have HS := q4z hS;have HC := q4z hC;have hpp := qfv h1;have hpl := (qa9 hpp).1;have htl := (qa9 (qfv h2)).1;have hro : qgt [] src = .tuple #[.string (S p), .bool true] := by
  rcases qgj [] src with ⟨q, e1, e2, _⟩ | ⟨q, e1, _⟩
  ·rw [e1] at h1; cases h1; exact e2
  ·rw [e1] at h1; cases h1
 have HR : Hid (∀ wx, Below w.heap.size w wx → CallsIn Fence.wide (8 - 1) Tryz.prog 130 #[.string (S []), .string (S src)] wx fun e w' => e = .returned (.tuple #[.string (S p), .bool true]) ∧ Below wx.heap.size wx w') :=
  q4z fun wx hb => callsIn_wide.2 (by rw [← hro]; exact qe8 [] src wx (hS.below (h.after hb).below) (by simp; omega))
 have HNd : Hid (∀ (k : Int) (wx : World), CallsIn Fence.wide (8 - 1) Tryz.prog 93 #[.bool true, .int .i64 k] wx fun e w' => e = .returned (.tuple #[]) ∧ wx = w') := q4z fun k wx => callsIn_wide.2 (qbf k wx)
 have HPa : Hid (∀ wx, Below w.heap.size w wx → CallsIn Fence.wide (8 - 1) Tryz.prog 96 #[.pointer (some ⟨g, 0, none⟩), .string (S dst)] wx fun e w' => e = .returned (.string (S tp)) ∧ Below wx.heap.size wx w') :=
  q4z fun wx hb => callsIn_wide.2 (by
   have := qhi (h.after hb) (hS.below (h.after hb).below) dst (by omega);rw [h2] at this;exact this)
 have HKi : Hid (∀ wx, Below w.heap.size w wx → CallsIn Fence.wide (8 - 1) Tryz.prog 69 #[.pointer (some ⟨tc, 0, none⟩), .string (S p)] wx fun e w' => e = .returned (.int .i64 1) ∧ Below wx.heap.size wx w') :=
  q4z fun wx hb => callsIn_wide.2 (by
   have := (hC.below (h.after hb).below).kind_any (hS.below (h.after hb).below) p (by omega);rw [h3] at this;exact this)
 have HMa : Hid (∀ wx, Below w.heap.size w wx → CallsIn Fence.wide (8 - 1) Tryz.prog 97 #[.pointer (some ⟨g, 0, none⟩), .string (S tp)] wx fun e w' => e = .returned (.tuple #[]) ∧ StM w0 w' (n + 12) l1 t g mb E D wk ∧ KeepC wx w' ∧ StayD D wx w') :=
  q4z fun wx hb => callsIn_wide.2 (by
   have := qir (h.after hb) hS tp (by omega) (by omega);rw [h4] at this;exact this)
 have HWk : Hid (∀ w, CallsIn Fence.wide (8 - 1) Tryz.prog 73 #[.pointer (some ⟨tc, 0, none⟩), .string (S p)] w _) := q4z (fun w => callsIn_wide.2 (qka tc p w));have HY := q4z (fun (l' : List Ent) (wx : World) (m : Nat) (D' : Nat → Prop) (hm : StM w0 wx m l' t g mb E D' wk) (x : Ent) (hp : x.path.length ≤ 5000) (hne : x.path ≠ []) (hg : qbm x = true) (hml : m < 3000000000) => qyd hm hS x hp hne hg hml);have H5 := q4z h5;have HPp := q4z hpp;have H3 := q4z h3;clear h hS hC h1 h2 h3 h4 h5 hro hpp;refine callsIn_of_wp_marks Tryz.func94 rfl trivial ?_ rfl
 simp only [Tryz.ntmps94, List.size_toArray, List.length_cons, List.length_nil, Nat.reduceAdd, Nat.reduceSub, Array.replicate_succ, Array.replicate_zero, List.push_toArray, List.append_toArray, List.nil_append, List.cons_append];gi_upto_region 1 with fail
 have hb1 : Below w.heap.size w (w.alloc (.cells #[.pointer (some ⟨g, 0, none⟩)] 143)) := (Below.refl _ _).alloc (Nat.le_refl _) _;have cb : (w.alloc (.cells #[.pointer (some ⟨g, 0, none⟩)] 143)).cell? ⟨w.heap.size, 0, none⟩ = some (.pointer (some ⟨g, 0, none⟩)) := by
  rw [cell_of_row _ _ _ _ _ _ (Go.heap_alloc_new w _)]; rfl
 have HB1 := q4z hb1;clear hb1;generalize w.alloc (.cells #[.pointer (some ⟨g, 0, none⟩)] 143) = w1 at HB1 cb ⊢;generalize hbx : w.heap.size = bx at cb ⊢;gi_wp2_with ((first | refine ⟨trivial, fun h => (by cases h), ?_⟩ | refine ⟨trivial, ?_⟩ | refine ⟨fun h => (by cases h), ?_⟩ | skip); gi_at_call 130; refine (HR.out _ HB1.out).mono ?_; rintro _ w2 ⟨rfl, hb2⟩)
 have HB2 := q4z (HB1.out.trans (hb2.mono HB1.out.size));have cb2 := (hb2.cell (p := ⟨bx, 0, none⟩) (q40 _ _ cb)).trans cb;clear hb2 HB1 cb;gi_wp2_with ((first | refine ⟨trivial, fun h => (by cases h), ?_⟩ | refine ⟨trivial, ?_⟩ | refine ⟨fun h => (by cases h), ?_⟩ | skip); gi_at_call 93; refine (HNd.out 1 _).mono ?_; rintro _ w3 ⟨rfl, rfl⟩)
 gi_wp2_with ((first | refine ⟨trivial, fun h => (by cases h), ?_⟩ | refine ⟨trivial, ?_⟩ | refine ⟨fun h => (by cases h), ?_⟩ | skip); gi_at_call 96; refine (HPa.out _ HB2.out).mono ?_; rintro _ w4 ⟨rfl, hb4⟩)
 have hb5 : Below w4.heap.size w4 (w4.alloc (.cells #[.string (S tp)] 9)) := (Below.refl _ _).alloc (Nat.le_refl _) _;have k10 := Go.heap_alloc_new w4 (.cells #[.string (S tp)] 9);have HB5 := q4z (HB2.out.trans (hb4.mono HB2.out.size) |>.trans (hb5.mono (by have := HB2.out.size; have := hb4.size; omega)));have cb4 := (hb4.cell (p := ⟨bx, 0, none⟩) (q40 _ _ cb2)).trans cb2;have cb5 := (hb5.cell (p := ⟨bx, 0, none⟩) (q40 w4 _ cb4)).trans cb4;have ct5 : (w4.alloc (.cells #[.string (S tp)] 9)).cell? ⟨w4.heap.size, 0, none⟩ = some (.string (S tp)) := by rw [cell_of_row _ _ _ _ _ _ k10]; rfl
 have hbt : w.heap.size ≤ w4.heap.size := by have := HB2.out.size; have := hb4.size; omega
 generalize w4.alloc (.cells #[.string (S tp)] 9) = w5 at HB5 cb5 ct5 ⊢;generalize w4.heap.size = bt at hbt ct5 ⊢;clear hb5 hb4 HB2 cb4 cb2 k10;refine ⟨trivial, (HKi.out _ HB5.out).mono ?_⟩;rintro _ w6 ⟨rfl, hb6⟩;have HB6 := q4z (HB5.out.trans (hb6.mono HB5.out.size));have cb6 := (hb6.cell (p := ⟨bx, 0, none⟩) (q40 _ _ cb5)).trans cb5;have ct6 := (hb6.cell (p := ⟨bt, 0, none⟩) (q40 _ _ ct5)).trans ct5;clear hb6 HB5 cb5 ct5;gi_wp2_with fail
 refine ⟨trivial, (HNd.out 8 _).mono ?_⟩;rintro _ w7 ⟨rfl, rfl⟩;gi_wp2_with fail
 refine ⟨trivial, (HKi.out _ HB6.out).mono ?_⟩;rintro _ w8 ⟨rfl, hb8⟩;have HB8 := q4z (HB6.out.trans (hb8.mono HB6.out.size));have cb8 := (hb8.cell (p := ⟨bx, 0, none⟩) (q40 _ _ cb6)).trans cb6;have ct8 := (hb8.cell (p := ⟨bt, 0, none⟩) (q40 _ _ ct6)).trans ct6;clear hb8 HB6 cb6 ct6;gi_wp2_with fail
 refine ⟨trivial, (HMa.out _ HB8.out).mono ?_⟩;rintro _ w9 ⟨rfl, hm9, hk9, hd9⟩;have HM9 := q4z hm9;have HK9 := q4z ((KeepC.below HB8.out).trans hk9);have HD9 := q4z ((HM.out.stay HB8.out).trans hd9);have cb9 := hk9 _ _ cb8;have ct9 := hk9 _ _ ct8;clear hm9 hk9 hd9 HB8 cb8 ct8;gi_wp2_with fail
 refine ⟨trivial, (HWk.out _).mono ?_⟩;rintro _ w10 ⟨rfl, hb10, hs10, d1, d2⟩;have HB10 := q4z hb10;have cb10 := (hb10.cell (p := ⟨bx, 0, none⟩) (q40 _ _ cb9)).trans cb9;have ct10 := (hb10.cell (p := ⟨bt, 0, none⟩) (q40 _ _ ct9)).trans ct9;have HM10 := q4z (HM9.out.after hb10);have HK10 := q4z (HK9.out.trans (KeepC.below hb10));have HD10 := q4z (HD9.out.trans (HM9.out.stay hb10));obtain ⟨hLc, B, N, a, m, hN, hT, hV⟩ := HC.out;obtain ⟨x, hx, hxk⟩ : ∃ x, qa0 c (qaa p) = some x ∧ x.kind = 1 := qai.1 (by rw [← qe1 hLc p (Classical.em _), H3.out]; rfl);obtain ⟨hWl, hFi⟩ := qzw hLc hT.tree HPp.out hx hxk;have hBw := HM10.out.below;have hTl := hT.lt;have htc : tc < w0.heap.size := q40 _ _ hV
 have hSx : StdX (fun k => k < w0.heap.size ∨ k = w9.heap.size ∨ k = w9.heap.size + 1) := by
  obtain ⟨_, hm⟩ := HS.out.maxlen;exact .inl (q40 w0 _ hm)
 have hseq := fun n => qwg (p := p) (by omega) (hT.below hBw) hFi hN (HS.out.below hBw) tc (hV.below hBw) (fun k => k < w0.heap.size ∨ k = w9.heap.size ∨ k = w9.heap.size + 1) (fun q y hy => ⟨.inl (hTl q y hy).1, fun hk => .inl ((hTl q y hy).2 hk)⟩) hSx (.inl htc)
  w9.heap.size (w9.heap.size + 1) (.inr (.inl rfl)) (.inr (.inr rfl)) d1 d2 (subL c p) hWl x hx hxk n
 have HSeq := q4z hseq;clear hb10 hT hV hWl hFi hSx hTl hseq hx hxk hLc cb9 ct9;gi_wp2
 have hsz10 : w9.heap.size + 2 = w10.heap.size := hs10.symm;have hg10 : g < w10.heap.size := (q41 HM10.out.blk).1;have ht10 : t < w10.heap.size := by obtain ⟨_, _, _, _, _, h3, _⟩ := HM10.out.tree; exact q40 _ _ h3
 have hm10 : mb < w10.heap.size := HM10.out.dlt _ HM10.out.dmb;have hbx10 : bx < w10.heap.size := q40 _ _ cb10;have hbt10 : bt < w10.heap.size := q40 _ _ ct10;have hw010 : w0.heap.size ≤ w10.heap.size := HM10.out.below.size;have hww10 : w.heap.size ≤ w10.heap.size := by have := HB10.out.size; omega
 have HSt0 : Hid (StM w0 w10 (n + 12) l1 t g mb E (fun k => D k ∨ (k < w0.heap.size ∨ k = w9.heap.size ∨ k = w9.heap.size + 1)) wk) := q4z ((HM9.out.low).guard HB10.out (fun k hk => by
  rcases hk with hk | hk | hk | hk
  ·exact .inl (.inl hk)
  ·exact .inl (.inr hk)
  ·exact .inr (by omega)
  ·exact .inr (by omega)) (.inl HM9.out.dmb))
 have hDm := HM9.out.dmb;have hD10 : ∀ i, D i → i < w10.heap.size := HM10.out.dlt;refine qce (xs := subL c p) (encs := encE) (X0 := fun k => k < w0.heap.size ∨ k = w9.heap.size ∨ k = w9.heap.size + 1) rfl (by omega) (gf := 111) (lb := #[.pointer (some ⟨w9.heap.size, 0, none⟩), .pointer (some ⟨w9.heap.size + 1, 0, none⟩)]) rfl trivial (enters_of Tryz.func111 (by kernel_rfl) rfl)
  (HSeq.out _) (fun _ => rfl)
  (fun pre X W => ∃ l', CopI w0 w (n + 12) t g mb bx bt E D wk tp l1 pre X W l')
  (fun pre X W ⟨v, h⟩ => h.lt) (fun pre X W W' ⟨v, h⟩ hb => ⟨v, h.rely hb⟩) (fun pre X W k o' ⟨v, h⟩ hk hle => ⟨v, h.put k o' hk w10.heap.size hle hg10 ht10 hm10 hbx10 hbt10 hw010 hww10 hD10⟩) ?start
  (fun e a' X W => ∃ gE, CopF g bx bt gE e a' ∧ W.heap[gE]? = some (.cells #[.string (S e.path), .int .i64 e.kind, .int .i64 e.mode, .string (S e.data)] 47 (0, 0)) ∧ ¬ X gE ∧ ¬ D gE ∧ (g ≠ gE ∧ t ≠ gE ∧ mb ≠ gE ∧ bx ≠ gE ∧ bt ≠ gE) ∧ w0.heap.size ≤ gE ∧ w.heap.size ≤ gE)
  ?ax ?assign ?body ?done
 case start => exact ⟨l1, rfl, HSt0.out, cb10, ct10, HK10.out, fun k hk => by omega, hDm, HD10.out⟩
 case ax =>
  rintro e a' X W k o' ⟨gE, ha, hq, hg, hge⟩ hk _;have hne : gE ≠ k := fun e => hg (e ▸ hk)
  exact ⟨gE, ha, (World.putObj_heap_other hne).trans hq, hg, hge⟩
 case assign =>
  rintro l pre y X W K ⟨v, hi⟩ hK;have HJ := q4z hi;have HKK := q4z hK;clear hi hK;obtain ⟨yp, kd, md, dt⟩ := y;simp only [encE, Ent.agg];gi_wp2
  have z1 := (q41 HJ.out.st.blk).1;have z2 : t < W.heap.size := by obtain ⟨_, _, _, _, _, h3, _⟩ := HJ.out.st.tree; exact q40 _ _ h3
  have z3 := HJ.out.st.dlt _ (.inl HJ.out.dm);have z4 : bx < W.heap.size := q40 _ _ HJ.out.cb;have z5 : bt < W.heap.size := q40 _ _ HJ.out.ct;refine HKK.out _ _ ⟨by simp, fun k hk => Below.heap_alloc W _ k (HJ.out.lt k hk)⟩ ⟨v, HJ.out.alloc _⟩ ⟨W.heap.size, ?_, Go.heap_alloc_new W _, fun hk => ?_, fun hk => ?_, ⟨by omega, by omega, by omega, by omega, by omega⟩, HJ.out.st.below.size, by omega⟩
  ·exact ⟨_, _, _, _, _, _, _, _, _, _, _, _, _, _, _, _, _, _, _, _, _, _, _, _, _, _, _, _, _, _, _, _, _, _, _, _, _, _, _, _, _, _, _, _, _, _, _, _, _, _, _, _, _, _, _, _, _, _, _, _, _, _, _, _, _, _, _, _, _, _, _, _, _, _, _, _, _, _, _, _, _, _, _, _, _, rfl⟩
  ·have := HJ.out.lt _ hk; omega
  ·have := HJ.out.st.dlt _ (.inl hk); omega
 case body =>
  rintro lp pre y rest a' X W hxs ⟨v, hi⟩ ⟨gE, ha, hE, hXg, hDg, ⟨n1, n2, n3, n4, n5⟩, hge, hgw⟩;obtain ⟨u1, u2, u3, u5, u6, u7, u8, u9, u13, u14, u15, u16, u17, u18, u19, u20, u21, u22, u23, u24, u25, u26, u27, u28, u29, u30, u31, u32, u33, u34, u35, u36, u37, u38, u39, u40, u41, u42, u43, u44, u45, u46, u47, u48, u49, u50, u51, u52, u53, u54, u55, u56, u57, u58, u59, u60, u61, u62, u63, u64, u65, u66, u67, u68, u69, u70, u71, u72, u73, u74, u75, u76, u77, u78, u79, u80, u81, u82, u83, u84, u85, u86, u87, u88, u89, rfl⟩ := ha;have h5x := H5.out;rw [hxs] at h5x;obtain ⟨la, lb, e1, e2, e3⟩ := qsc _ _ _ _ _ _ h5x;have hla : v = la := by have := hi.all; rw [e1] at this; cases this; rfl
  subst hla;obtain ⟨hyp, hyn, hyg⟩ := q2l HC.out.1 HPp.out (y := y) (by rw [hxs]; simp);have hypl := (qa9 hyp).1;have hxl : pre.length + 1 ≤ 1000 := by have := qwp c p; have := congrArg List.length hxs; simp only [List.length_append, List.length_cons] at this; omega
  have HJ := q4z hi;have cb := hi.cb;have ct := hi.ct;have HE := q4z hE;have q0 : W.cell? ⟨gE, 0, none⟩ = some (.string (S y.path)) := by rw [cell_of_row _ _ _ _ _ _ hE]; rfl
  have q9 : W.frozen? ⟨gE, 0, none⟩ = false := frozen_of_row _ _ _ _ _ hE;obtain ⟨q, hq⟩ : ∃ q, inB tp y.path = q := ⟨_, rfl⟩;have hqn : q ≠ [] := hq ▸ q36 tp hyn;have hql : q.length ≤ 5000 := by have := q0x tp y.path; rw [hq] at this; omega
  have HJn : Hid (Calls Tryz.prog 109 #[.string (S tp), .string (S y.path)] W fun e w' => e = .returned (.string (S q)) ∧ W = w') := q4z (by rw [← hq]; exact qe2 tp y.path W (by omega));have HL2 := q4z (show layE v ⟨q, y.kind, y.mode, y.data⟩ = .ok lb by rw [← hq]; exact e2);have HG := q4z (show qbm ⟨q, y.kind, y.mode, y.data⟩ = true by unfold qbm at hyg ⊢; exact hyg);have HA := q4z e3;have HXG := q4z hXg;have HDG := q4z hDg;clear hi hE hyp hyg e1 e2 e3 h5x hxs hq hyn hXg hDg;gi_wp2_with fail
  refine ⟨trivial, (CallsIn.inRound lp (callsIn_wide.2 HJn.out)).mono ?_⟩;rintro _ w11 ⟨rfl, rfl⟩;gi_upto_region 11 with fail
  have hk1 := heap_setCell_same W gE 0 _ _ (.string (S q)) HE.out;have hot : ∀ i, i ≠ gE → (W.setCell ⟨gE, 0, none⟩ (.string (S q))).heap[i]? = W.heap[i]? := fun i hi => heap_setCell_other W ⟨gE, 0, none⟩ i _ hi
  have hsz1 : (W.setCell ⟨gE, 0, none⟩ (.string (S q))).heap.size = W.heap.size := by simp
  have hb1 : Below w0.heap.size w0 (W.setCell ⟨gE, 0, none⟩ (.string (S q))) := HJ.out.st.below.setCell (by show w0.heap.size ≤ gE; omega) _;have hM1 := HJ.out.st.pokeC gE HE.out (by decide) n1 n2 n3 hb1 (by rw [hsz1]; exact Nat.le_refl _) (fun i hi _ => hot i hi);have HM1 := q4z hM1;have cb1 : (W.setCell ⟨gE, 0, none⟩ (.string (S q))).cell? ⟨bx, 0, none⟩ = some (.pointer (some ⟨g, 0, none⟩)) := qap cb (hot bx n4);have ct1 : (W.setCell ⟨gE, 0, none⟩ (.string (S q))).cell? ⟨bt, 0, none⟩ = some (.string (S tp)) := qap ct (hot bt n5);have HSt1 : Hid (∀ k, X k → (W.setCell ⟨gE, 0, none⟩ (.string (S q))).heap[k]? = W.heap[k]?) := q4z fun k hk => hot k (fun e => HXG.out (e ▸ hk))
  have HK1 : Hid (KeepC w (W.setCell ⟨gE, 0, none⟩ (.string (S q)))) := q4z fun pa v hv => by
   have hp := q40 _ _ hv;exact (World.cell?_of_block (hot pa.block (by omega))).trans (HJ.out.keep pa v hv)
  have hlt1 : ∀ k, X k → k < (W.setCell ⟨gE, 0, none⟩ (.string (S q))).heap.size := fun k hk => by rw [hsz1]; exact HJ.out.lt k hk
  have HLt1 := q4z hlt1;have hsw : W.heap.size ≤ (W.setCell ⟨gE, 0, none⟩ (.string (S q))).heap.size := by rw [hsz1]; exact Nat.le_refl _
  have HDm := q4z HJ.out.dm;have HDs1 : Hid (StayD D w (W.setCell ⟨gE, 0, none⟩ (.string (S q)))) := q4z (HJ.out.stay.trans ⟨hsw, fun k hk => hot k (fun e => HDG.out (e ▸ hk))⟩);generalize W.setCell ⟨gE, 0, none⟩ (.string (S q)) = W1 at hk1 HM1 cb1 ct1 HSt1 HK1 HLt1 hsw HDs1 ⊢;have r0 : W1.cell? ⟨gE, 0, none⟩ = some (.string (S q)) := by rw [cell_of_row _ _ _ _ _ _ hk1]; rfl
  have r1 : W1.cell? ⟨gE, 1, none⟩ = some (.int .i64 y.kind) := by rw [cell_of_row _ _ _ _ _ _ hk1]; rfl
  have r2 : W1.cell? ⟨gE, 2, none⟩ = some (.int .i64 y.mode) := by rw [cell_of_row _ _ _ _ _ _ hk1]; rfl
  have r3 : W1.cell? ⟨gE, 3, none⟩ = some (.string (S y.data)) := by rw [cell_of_row _ _ _ _ _ _ hk1]; rfl
  clear hk1 hot hsz1 hb1 hM1 hlt1 cb ct q0 q9 HJn HE;gi_wp2_with fail
  refine ⟨trivial, (CallsIn.inRound lp (callsIn_wide.2 (HY.out v W1 _ _ HM1.out ⟨q, y.kind, y.mode, y.data⟩ hql hqn HG.out (by omega)))).mono ?_⟩;intro e w12 ho;rw [HL2.out] at ho;obtain ⟨rfl, hm12, hk12, hd12⟩ := ho;have HM12 := q4z hm12;have HK12 := q4z hk12;have HD12 := q4z hd12;clear hm12 hk12 hd12 HY r0 r1 r2 r3;gi_wp2
  have hs12 := HD12.out.1;refine ⟨⟨by omega, fun k hk => (HD12.out.2 k (.inr hk)).trans (HSt1.out k hk)⟩, lb, HA.out, ?_, HK12.out _ _ cb1, HK12.out _ _ ct1, HK1.out.trans HK12.out, fun k hk => Nat.lt_of_lt_of_le (HLt1.out k hk) hs12, HDm.out, HDs1.out.trans ⟨hs12, fun k hk => HD12.out.2 k (.inl hk)⟩⟩;rw [List.length_append, List.length_singleton, ← Nat.add_assoc];exact HM12.out
 case done =>
  rintro Dd X W hD hXD ⟨v, hi⟩ hK;have HJ := q4z hi;clear hi;have hv2 : v = l2 := by have h5' := H5.out; rw [HJ.out.all] at h5'; cases h5'; rfl
  subst hv2;have HP := q4z (HJ.out.put Dd (.deferred none) hXD w10.heap.size hD hg10 ht10 hm10 hbx10 hbt10 hw010 hww10 hD10);gi_wp2
  refine ⟨by simp, .inl ⟨_, _, rfl, run_takeDeferred hK, ?_⟩⟩;refine ⟨_, (show (results Tryz.f94 _).run Tryz.prog _ = .ok (.tuple #[]) _ from ?_), rfl, HP.out.st.guard (Below.refl _ _) (fun k hk => .inl (.inl hk)) hDm, HP.out.keep, HP.out.stay⟩;simp [results, Tryz.f94, go_sem]
theorem q1e {w0 w : World} {n : Nat} {l : List Ent} {t g mb : Nat} {E : Obj → Prop} {D : Nat → Prop} {wk : List UInt8} (h : StM w0 w n l t g mb E D wk) (hS : Std w0) (hn : n < 1000000000) (W : List (List UInt8)) (hWn : W.length ≤ 4) (hW : ∀ x ∈ W, x.length ≤ 180) (A : Option Addr) (cap : Nat) (hA : Rd w A (strs W)) (ws : Value) (sg xa : Int) (x y : List UInt8) (hWx : W = [x, y]) (c : List Ent) (tc : Nat) (hC : CtxT w0 c tc) (hc1 : c.length ≤ 1000) (p tp : List UInt8) (l1 l2 : List Ent) (h1 : wayL [] x = .ok p) (h2 : wayL wk y = .ok tp) (h3 : qbc c p = 1) (h4 : qgg l tp = .ok l1) (h5 : qcy l1 tp (subL c p) = .ok l2) :
 Calls Tryz.prog 59 #[.pointer (some ⟨g, 0, none⟩), .agg #[.int .i64 1, ws, .int .i64 sg, .int .i64 xa], .slice A W.length cap, .pointer (some ⟨tc, 0, none⟩)] w fun e w' => DoOut w0 w (n + 2000) t g mb E D (qn4 c l wk x y) e w' := by
 have hmf : ∀ (fn : Fn) (first cap : Array Value) (w : World), (Instr.makeFunc fn first cap).run Tryz.prog w = .ok (.func fn first cap) w := fun _ _ _ _ => rfl
 obtain ⟨R, hR⟩ : ∃ R, qn4 c l wk x y = R := ⟨_, rfl⟩;rw [hR];have HR := q4z hR;have HM0 := q4z h;have HS := q4z hS;have HA := q4z hA;have HWl := q4z hW;have HWx := q4z hWx;have HC := q4z hC;have H1 := q4z h1;have H2 := q4z h2;have H3 := q4z h3;have H4 := q4z h4;have H5 := q4z h5;clear h hS hA hW hR hWx hC h1 h2 h3 h4 h5;go_enter_defers Tryz.func59, Tryz.ntmps59;go_wp2;have hb2 : Below w.heap.size w ((w.alloc (.cells #[.int .i64 1, ws, .int .i64 sg, .int .i64 xa] 123)).alloc (.cells #[.int .i64 0] 27)) := ((Below.refl _ _).alloc (Nat.le_refl _) _).alloc (by simp) _
 have hd2 : DoorS (fun k => D k ∧ k ≠ g) w ((w.alloc (.cells #[.int .i64 1, ws, .int .i64 sg, .int .i64 xa] 123)).alloc (.cells #[.int .i64 0] 27)) (w.heap.size + 1) := ⟨by
  have := Go.heap_alloc_new (w.alloc (.cells #[.int .i64 1, ws, .int .i64 sg, .int .i64 xa] 123)) (.cells #[.int .i64 0] 27);rwa [World.size_alloc] at this, by omega, ⟨hb2.size, fun k hk => hb2.block k (HM0.out.dlt k hk.1)⟩, fun k hk => HM0.out.dlt k hk.1⟩
 have ck : ((w.alloc (.cells #[.int .i64 1, ws, .int .i64 sg, .int .i64 xa] 123)).alloc (.cells #[.int .i64 0] 27)).cell? ⟨w.heap.size, 0, none⟩ = some (.int .i64 1) := by
  rw [cell_of_row _ _ _ _ _ _ ((Below.heap_alloc (w.alloc (.cells #[.int .i64 1, ws, .int .i64 sg, .int .i64 xa] 123)) _ w.heap.size (by simp)).trans (Go.heap_alloc_new w _))]; rfl
 generalize ((w.alloc (.cells #[.int .i64 1, ws, .int .i64 sg, .int .i64 xa] 123)).alloc (.cells #[.int .i64 0] 27)) = w2 at hb2 hd2 ck ⊢;have hbs : w0.heap.size ≤ w.heap.size + 1 := by have := HM0.out.below.size; omega
 have hgb : g ≠ w.heap.size + 1 := by have := (q41 HM0.out.blk).1; omega
 have htb : t ≠ w.heap.size + 1 := by obtain ⟨_, _, _, _, _, h3, _⟩ := HM0.out.tree; have := q40 _ _ h3; simp only at this; omega
 have hmb : mb ≠ w.heap.size + 1 := by have := HM0.out.dlt _ HM0.out.dmb; omega
 have hDm := HM0.out.dmb;generalize hbe : w.heap.size + 1 = be at hd2 hbs hgb htb hmb ⊢;generalize hbb : w.heap.size = bb at ck ⊢;have HD := q4z hd2;have hbe2 := (q41 hd2.cell).1;have HM := q4z (HM0.out.guard (D' := fun k => D k ∨ k = be) hb2 (fun k hk => hk.elim .inl fun e => .inr (by omega)) (.inl hDm));have HA2 := q4z (HA.out.below hb2);clear hb2 hd2 HM0 HA hbe2;go_loopw [20] (fun vi wr => ∃ q : Nat, q ≤ W.length ∧ vi = .int .i64 q ∧ wr = w2) (fun vi _ => W.length - (intOf vi).toNat)
 case atStart => exact ⟨0, Nat.zero_le _, rfl, rfl⟩
 case round =>
  obtain ⟨q, hq, rfl, rfl⟩ := hrel;by_cases hlt : q < W.length
  ·obtain ⟨b, o, hbA, hbb2, hc⟩ := HA2.out.at q (by rw [qb2]; exact hlt)
   subst hbA;have c0 := hc q _ (qcg hlt);have hl1 := HWl.out _ (List.getElem_mem hlt);obtain ⟨x, hx⟩ : ∃ x, W[q] = x := ⟨_, rfl⟩;rw [hx] at c0 hl1;have hl2 : ((x.length : Int) ≤ 180) := by omega
   have hql : (q : Int) < (W.length : Int) := by omega
   clear hc hx;go_wp2_with fail;refine (qbf 10 _).mono ?_;rintro _ w3 ⟨rfl, rfl⟩;go_wp2;go_roundw
   case rel => exact ⟨q + 1, by omega, by go_num, trivial⟩
   case measure => simp [intOf]; omega
  ·obtain rfl : q = W.length := by omega
   have hx180 : x.length ≤ 180 := HWl.out x (by rw [HWx.out]; simp);have hy180 : y.length ≤ 180 := HWl.out y (by rw [HWx.out]; simp);clear hlt hq HWl;obtain rfl := HWx.out;obtain ⟨b, o, hbA, _, hc⟩ := HA2.out.at 0 (by simp [strs]);subst hbA;have c0 : wr.cell? ⟨b, o, none⟩ = some (.string (S x)) := by simpa using hc 0 _ rfl
   have c1 : wr.cell? ⟨b, o + 1, none⟩ = some (.string (S y)) := by simpa using hc 1 _ rfl
   clear hc;have HCp := qvy HM.out.drew HS.out (by omega) c tc HC.out hc1 x y (by omega) (by omega) p tp l1 l2 H1.out H2.out H3.out H4.out H5.out;have hsl := qwp c p;have HE := q4z (show R = lenE l2 wk by rw [← HR.out]; unfold qn4 qdu; rw [H1.out]; simp only; rw [H2.out]; simp only; rw [if_neg (by rw [H3.out]; decide), if_pos H3.out]; unfold qn5; rw [H4.out]; simp only; rw [H5.out]);go_upto_region 9 with fail;go_still_tail 8, (by kernel_rfl)
   have HCq := q4z HCp;clear HCp;go_wp2_with fail;refine HCq.out.mono ?_;rintro e w4 ⟨rfl, hm4, hk4, hd4⟩;have HM4 := q4z hm4;have HD4 := q4z ((HD.out.drew).stayed hd4 (.inr rfl));clear hm4 hk4 hd4 c0 c1 HCq;obtain ⟨y0, _, _⟩ := HM4.out.cells;have HLe := q4z (HE.out);go_wp2_with fail;refine (qkf HM4.out (HS.out.below HM4.out.below) (by omega)).mono ?_;rintro _ wl ⟨rfl, hbl⟩;have HMl := q4z (HM4.out.after hbl);have HDl := q4z (HD4.out.after hbl);clear hbl HM4 HD4 y0;obtain ⟨lz, hlz⟩ : ∃ lz, (l2).length = lz := ⟨_, rfl⟩;rw [hlz];have HLz := q4z hlz;clear hlz;by_cases h40 : lz ≤ 40
   ·have f40 : ((lz : Int) ≤ 40) := by omega
    have HE := q4z (HLe.out.trans (show lenE (l2) wk = .ok (l2, wk) by unfold lenE; rw [HLz.out]; exact if_pos h40));go_wp2_with fail;refine (qbf 10 _).mono ?_;rintro _ wn ⟨rfl, rfl⟩;obtain ⟨d1, d2⟩ := HDl.out.facts;go_wp2;refine leaves_cons (f := 92) (args := #[.pointer (some ⟨be, 0, none⟩)]) (by simp) (by simp [go_sem]) ?_;refine (qih be _).mono ?_;rintro e u' w'' ⟨rfl, rfl, rfl⟩;obtain ⟨r1, r2⟩ := HMl.out.finish HDl.out hgb htb hmb hbs hDm;simp [Leaves, settle, results, Tryz.results59, go_sem, r1]
    exact DoOut.ok HE.out r2 (by omega)
   ·have f40 : decide ((lz : Int) ≤ 40) = false := decide_eq_false (by omega)
    have HE := q4z (HLe.out.trans (show lenE (l2) wk = .error 10 by unfold lenE; rw [HLz.out]; exact if_neg h40));go_wp2_with fail;refine (qcl 10 _).mono ?_;rintro _ wn ⟨rfl, rfl⟩;obtain ⟨d1, d2⟩ := HDl.out.facts;refine leaves_cons (f := 92) (args := #[.pointer (some ⟨be, 0, none⟩)]) (by simp) (by simp [go_sem]) ?_;refine (qbq be 10 [] _ _ d1 d2).mono ?_;rintro e u' w'' ⟨rfl, rfl, rfl⟩;obtain ⟨r1, r2⟩ := HDl.out.caught 10 w0 HMl.out.below hbs;simp [Leaves, settle, results, Tryz.results59, go_sem, r1]
    exact DoOut.err (HE.out) r2
end Go.Proofs.YtikdblkfjchjbaaGreatDoor
