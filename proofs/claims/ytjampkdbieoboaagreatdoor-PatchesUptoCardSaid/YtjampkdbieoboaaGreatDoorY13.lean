/-
  The document's answer: changes done on a tree.
  The document's answer: changes done on a tree, walked.
-/
import Derived.Laws.AppendOwnNone
import Derived.Test.YtjampkdbieoboaaGreatDoorY12
set_option linter.unusedVariables false
set_option linter.unusedSimpArgs false
namespace Go.Proofs.YtjampkdbieoboaaGreatDoor
open Go.RowKit

theorem wpList_append_rd {P : Program} {w : World} {ops : Array Oper} {rest : List Oper} {o : Oper} {a : Act} {Q : Exit → Act → World → Prop} (hgd : o.guard = none) (s x : Operand) (t : TypeId)
    (ho : o.op = .call { callee := .builtin .append, args := #[s, x], argTypes := #[t, t] })
    (base : Nat) (e : TypeId) (i : TypeInfo) (z : Value) (size bytes : Nat) (ht : P.underlying t = some (.slice e)) (hi : P.info? e = some i) (hz : i.zero = some z)
    (hsize : i.size = size) (hby : i.bytes = bytes) (hzs : z.cells.size = size) (hsz : 0 < size)
    (v : Value) (n : Nat) (xs : List Value) (hs : a.eval s = v) (hown : w.ownsRow base e size v n xs)
    (A : Option Addr) (m cap : Nat) (ys : List Value) (hx : a.eval x = .slice A m cap) (hA : A = none → m = 0 ∧ cap = 0) (hr : Rd w A ys) (hyl : ys.length = m * size) (h1 : ∀ u ∈ ys, u.oneCell' = true)
    (h63 : n + m ≤ maxLen) (hbytes : (n + m) * bytes ≤ 140737488355328) (hbase : base ≤ w.heap.size)
    (h : ∀ v' w', w'.ownsRow base e size v' (n + m) (xs ++ ys) → w.grownBy w' v.ownBlock → wpList P ops Q rest (a.put o.dst v') w') : wpList P ops Q (o :: rest) a w := by
  cases A with
  | none =>
    obtain ⟨rfl, rfl⟩ := hA rfl
    have hy : ys = [] := List.eq_nil_of_length_eq_zero (by simpa using hyl)
    subst hy
    refine wpList_append_own_none hgd s x t ho base e i size ht hi v n xs hs hown hx ?_
    exact h v w (by simpa using hown) ⟨rfl, rfl, rfl, Nat.le_refl _, fun _ _ _ => rfl⟩
  | some ad =>
    refine wpList_append_own w hgd s x t ho base e i z size bytes ht hi hz hsize hby hzs hsz v n xs hs hown ad m cap ys hx hyl ?_ h1 h63 hbytes hbase (fun v' w' h2 h3 _ => h v' w' h2 h3)
    intro j u hu
    rcases hr with rfl | ⟨b, o, hb, hc⟩
    · simp at hu
    · cases hb
      have hj := hc j u hu
      by_cases h0 : j = 0
      · subst h0; simpa [Addr.add] using hj
      · simpa [Addr.add, h0] using hj
theorem ents_one_cell (l : List Ent) : ∀ u ∈ ents l, u.oneCell' = true := by
  induction l with
  | nil => simp [ents]
  | cons x r ih =>
    intro u hu
    rw [ents, List.mem_append] at hu
    rcases hu with hu | hu
    · simp [Ent.cells] at hu; rcases hu with rfl | rfl | rfl | rfl <;> rfl
    · exact ih u hu
/-- does what is to be cleared or to go not stand there? -/
def missB (a : List Ent) (c : Ent) : Bool := (decide (c.kind = 5) && !decide (kindL a c.path = 1)) || (decide (c.kind = 4) && decide (kindL a c.path = 0))
def cutL (t : List Ent) (c : Ent) : List Ent := if c.kind = 5 then withoutL t c.path false else if c.kind = 4 then withoutL t c.path true else t
def cutAll (a : List Ent) : List Ent → Nat → List Ent → Except Nat (List Ent)
  | [], _, t => .ok t
  | c :: r, i, t => if missB a c = true then .error i else cutAll a r (i + 1) (cutL t c)
def putAll : List Ent → Nat → List Ent → Except Nat (List Ent)
  | [], _, t => .ok t
  | c :: r, i, t => if c.kind = 4 ∨ c.kind = 5 then putAll r (i + 1) t else if kindL t (upB c.path).1 = 1 then putAll r (i + 1) (putL t c) else .error i
/-- what a patch answers: entries, error, place -/
def patchL (a l : List Ent) : List Ent × Int × Int := match cutAll a l 0 a with
  | .error i => ([], 8, i)
  | .ok t => match putAll l 0 t with
    | .error i => ([], 9, i)
    | .ok t => if 40 < t.length then ([], 10, -1) else (t, 0, -1)
theorem cutAll_drop {a l t : List Ent} {k : Nat} {c : Ent} (h : l[k]? = some c) : cutAll a (l.drop k) k t = if missB a c = true then .error k else cutAll a (l.drop (k + 1)) (k + 1) (cutL t c) := by
  obtain ⟨hk, rfl⟩ := List.getElem?_eq_some_iff.1 h
  rw [List.drop_eq_getElem_cons hk, cutAll]
theorem putAll_drop {l t : List Ent} {k : Nat} {c : Ent} (h : l[k]? = some c) : putAll (l.drop k) k t = if c.kind = 4 ∨ c.kind = 5 then putAll (l.drop (k + 1)) (k + 1) t else if kindL t (upB c.path).1 = 1 then putAll (l.drop (k + 1)) (k + 1) (putL t c) else .error k := by
  obtain ⟨hk, rfl⟩ := List.getElem?_eq_some_iff.1 h
  rw [List.drop_eq_getElem_cons hk, putAll]
theorem cutL_sub {t : List Ent} {c x : Ent} (h : x ∈ cutL t c) : x ∈ t := by
  unfold cutL withoutL at h
  split at h
  · exact (List.mem_filter.1 h).1
  · split at h
    · exact (List.mem_filter.1 h).1
    · exact h
theorem cutL_len (t : List Ent) (c : Ent) : (cutL t c).length ≤ t.length := by
  unfold cutL withoutL
  split
  · exact List.length_filter_le _ _
  · split
    · exact List.length_filter_le _ _
    · exact Nat.le_refl _
theorem putStep_count (e : Ent) (both : Bool) (s : List Ent × Bool) (x : Ent) : (putStep e both s x).1.length + (if (putStep e both s x).2 then 0 else 1) ≤ s.1.length + (if s.2 then 0 else 1) + 1 := by
  obtain ⟨o, d⟩ := s
  unfold putStep
  by_cases h1 : orderL (partsB e.path) (partsB x.path) < 0 ∧ d = false
  · obtain ⟨h1, rfl⟩ := h1
    simp only [h1, true_and, if_true]
    split <;> simp
  · simp only [if_neg h1]
    split
    · simp
    · simp; omega
theorem putL_len (t : List Ent) (e : Ent) : (putL t e).length ≤ t.length + 1 := by
  have : ∀ (l : List Ent) (s : List Ent × Bool), (l.foldl (putStep e (bothB t e)) s).1.length + (if (l.foldl (putStep e (bothB t e)) s).2 then 0 else 1) ≤ s.1.length + (if s.2 then 0 else 1) + l.length := by
    intro l
    induction l with
    | nil => intro s; exact Nat.le_refl _
    | cons x r ih => intro s; rw [List.foldl_cons]; have := ih (putStep e (bothB t e) s x); have := putStep_count e (bothB t e) s x; simp only [List.length_cons]; omega
  have h := this t ([], false)
  unfold putL putGo putEnd
  generalize t.foldl (putStep e (bothB t e)) ([], false) = r at h ⊢
  cases hr : r.2 <;> simp [hr] at h ⊢ <;> omega
theorem putStep_sub {e : Ent} {both : Bool} {s : List Ent × Bool} {x y : Ent} (h : y ∈ (putStep e both s x).1) : y ∈ s.1 ∨ y = e ∨ y = x := by
  obtain ⟨o, d⟩ := s
  unfold putStep at h
  by_cases h1 : orderL (partsB e.path) (partsB x.path) < 0 ∧ d = false
  · simp only [if_pos h1] at h
    split at h <;> simp at h <;> rcases h with h | h <;> simp_all
  · simp only [if_neg h1] at h
    split at h <;> simp at h <;> simp_all
    rcases h with h | h <;> simp_all
theorem putL_sub {t : List Ent} {e y : Ent} (h : y ∈ putL t e) : y ∈ t ∨ y = e := by
  have : ∀ (l : List Ent) (s : List Ent × Bool), y ∈ (l.foldl (putStep e (bothB t e)) s).1 → y ∈ s.1 ∨ y = e ∨ y ∈ l := by
    intro l
    induction l with
    | nil => intro s hs; exact .inl hs
    | cons x r ih =>
      intro s hs
      rw [List.foldl_cons] at hs
      rcases ih _ hs with h | h | h
      · rcases putStep_sub h with h | h | h
        · exact .inl h
        · exact .inr (.inl h)
        · exact .inr (.inr (by simp [h]))
      · exact .inr (.inl h)
      · exact .inr (.inr (by simp [h]))
  unfold putL putGo putEnd at h
  have k := this t ([], false)
  split at h
  · rcases k h with h | h | h
    · simp at h
    · exact .inr h
    · exact .inl h
  · rcases List.mem_append.1 h with h | h
    · rcases k h with h | h | h
      · simp at h
      · exact .inr h
      · exact .inl h
    · exact .inr (by simpa using h)
end Go.Proofs.YtjampkdbieoboaaGreatDoor
namespace Go.Proofs.YtjampkdbieoboaaGreatDoor
open Go.RowKit

theorem missB_5 {a : List Ent} {c : Ent} (h : c.kind = 5) : missB a c = !decide (kindL a c.path = 1) := by
  unfold missB; rw [h]; simp
theorem missB_4 {a : List Ent} {c : Ent} (h : c.kind = 4) : missB a c = decide (kindL a c.path = 0) := by
  unfold missB; rw [h]; simp
theorem missB_no {a : List Ent} {c : Ent} (h : c.kind ≠ 4) (h5 : c.kind ≠ 5) : missB a c = false := by
  unfold missB; rw [decide_eq_false h, decide_eq_false h5]; rfl
theorem cutL_5 {t : List Ent} {c : Ent} (h : c.kind = 5) : cutL t c = withoutL t c.path false := if_pos h
theorem cutL_4 {t : List Ent} {c : Ent} (h : c.kind = 4) : cutL t c = withoutL t c.path true := by unfold cutL; rw [if_neg (by rw [h]; decide), if_pos h]
theorem cutL_no {t : List Ent} {c : Ent} (h : c.kind ≠ 4) (h5 : c.kind ≠ 5) : cutL t c = t := by unfold cutL; rw [if_neg h5, if_neg h]
theorem patchL_cut {a l : List Ent} {i : Nat} (h : cutAll a l 0 a = .error i) : patchL a l = ([], 8, (i : Int)) := by unfold patchL; rw [h]
theorem patchL_put {a l t : List Ent} {i : Nat} (h : cutAll a l 0 a = .ok t) (h2 : putAll l 0 t = .error i) : patchL a l = ([], 9, (i : Int)) := by unfold patchL; rw [h]; simp only [h2]
theorem patchL_many {a l t t2 : List Ent} (h : cutAll a l 0 a = .ok t) (h2 : putAll l 0 t = .ok t2) (h3 : 40 < t2.length) : patchL a l = ([], 10, -1) := by unfold patchL; rw [h]; simp only [h2, if_pos h3]
theorem patchL_ok {a l t t2 : List Ent} (h : cutAll a l 0 a = .ok t) (h2 : putAll l 0 t = .ok t2) (h3 : ¬ 40 < t2.length) : patchL a l = (t2, 0, -1) := by unfold patchL; rw [h]; simp only [h2, if_neg h3]
set_option maxRecDepth 100000 in
set_option maxHeartbeats 16000000 in
theorem patchR_any (a l : List Ent) (A B : Option Addr) (capA capB : Nat) (w : World) (ha : Rd w A (ents a)) (hbl : Rd w B (ents l)) (hA : A = none → a.length = 0 ∧ capA = 0) (hla : a.length ≤ 1000) (hll : l.length ≤ 1000)
    (hsa : ∀ e ∈ a, e.path.length ≤ 1000) (hsl : ∀ e ∈ l, e.path.length ≤ 1000 ∧ (e.kind = 4 ∨ e.kind = 5 ∨ e.path ≠ [])) :
    Calls Tryz.prog 8 #[.slice A a.length capA, .slice B l.length capB] w fun r w' => ∃ v, r = .returned (.tuple #[v, .int .i64 (patchL a l).2.1, .int .i64 (patchL a l).2.2]) ∧ OwnE w' w.heap.size v (patchL a l).1 ∧ Below w.heap.size w w' := by
  obtain ⟨i0, hi0, hz0, hz1, hz2⟩ := info_parts (show (Tryz.prog.info? 40).map (fun i => (i.zero, i.size, i.bytes)) = some (some entZ, 4, 48) by kernel_rfl)
  go_enter Tryz.func8, Tryz.ntmps8
  replace ha := Lib.hid ha
  replace hbl := Lib.hid hbl
  replace hA := Lib.hid hA
  replace hsa := Lib.hid hsa
  replace hsl := Lib.hid hsl
  go_wp2_with (at_builtin; refine wpList_append_rd rfl _ _ 22 rfl w.heap.size 40 i0 entZ 4 48 Tryz.underlying22 hi0 hz0 hz1 hz2 rfl (by decide) (.slice none 0 0) 0 [] rfl (World.ownsRow_nil _ _ _ _) A a.length capA (ents a) rfl hA.out ha.out (ents_len a) (ents_one_cell a) (by unfold maxLen; omega) (by omega) (Nat.le_refl _) ?_; intro v' w1 hown1 hgr1; have HO1 := Lib.hid (show OwnE w1 w.heap.size v' a by simpa using hown1); have HB1 := Lib.hid ((Below.refl w.heap.size w).grown hgr1 (Nat.le_refl _) (fun q hq => ((World.ownsRow_nil w w.heap.size 40 4).lt q hq).1)); clear hown1 hgr1)
  go_loopw [8, 7] (fun i vt wr => ∃ (k : Nat) (t : List Ent), k ≤ l.length ∧ i = .int .i64 k ∧ t.length ≤ 1000 ∧ Hid (cutAll a l 0 a = cutAll a (l.drop k) k t) ∧ Hid (OwnE wr w.heap.size vt t) ∧ Hid (Below w.heap.size w wr) ∧ Hid (∀ e ∈ t, e.path.length ≤ 1000)) (fun i _ _ => l.length - (intOf i).toNat)
  case atStart => exact ⟨0, a, Nat.zero_le _, rfl, hla, Lib.hid rfl, HO1, HB1, hsa⟩
  case round =>
    clear HO1 HB1
    obtain ⟨k, t, hk, rfl, htl, HC, HO, HB, HP⟩ := hrel
    obtain ⟨At, capt, rfl, hc1, hc2, hrd⟩ := Rd.of_own HO.out
    by_cases hlt : k < l.length
    · skip
      obtain ⟨b, o, hBe, hbb, g0, g1, g2, g3⟩ := ents_at hbl.out HB.out k hlt
      subst hBe
      obtain ⟨c, hcc⟩ : ∃ c, l[k] = c := ⟨_, rfl⟩
      obtain ⟨hsp, hsn⟩ := hsl.out c (hcc ▸ List.getElem_mem hlt)
      have HSn := Lib.hid hsn
      have HK := Lib.hid (show l[k]? = some c by rw [List.getElem?_eq_getElem hlt, hcc])
      rw [hcc] at g0 g1 g2 g3
      have hkl : (k : Int) < (l.length : Int) := by omega
      clear hcc hsn
      have hb0 : Below wr.heap.size wr (wr.alloc (.cells #[.string (S c.path), .int .i64 c.kind, .int .i64 c.mode, .string (S c.data)] 29)) := (Below.refl _ _).alloc (Nat.le_refl _) _
      have Q2 := Lib.hid (Cell4.new wr c 29)
      have HB2 := Lib.hid (HB.out.trans (hb0.mono HB.out.size))
      have HO2 := Lib.hid (ownsRow_below HO.out hb0)
      have HR2 := Lib.hid (hrd.below hb0)
      obtain ⟨q0, q1, q2, q3⟩ := Q2.out
      obtain ⟨w2, hw2⟩ : ∃ w2, wr.alloc (.cells #[.string (S c.path), .int .i64 c.kind, .int .i64 c.mode, .string (S c.data)] 29) = w2 := ⟨_, rfl⟩
      rw [hw2] at Q2 HB2 HO2 HR2 q0 q1 q2 q3
      have HKa := Lib.hid (kindR_any a c.path A capA w2 (ha.out.below HB2.out) (by omega) (fun e he => by have := hsa.out e he; omega) (by omega))
      have HCd := Lib.hid (HC.out.trans (cutAll_drop HK.out))
      have HCs := Lib.hid (fun e he => HP.out e (cutL_sub (t := t) (c := c) he))
      have hcl := cutL_len t c
      obtain ⟨z, hz⟩ : ∃ z, kindL a c.path = z := ⟨_, rfl⟩
      rw [hz] at HKa
      have HZk := Lib.hid hz
      clear hz hb0 hrd
      go_upto_region 6 with fail
      clear hw2
      clear g0 g1 g2 g3
      by_cases k5 : c.kind = 5
      · have f5 : (c.kind == 5) = true := by rw [k5]; rfl
        have f4 : (c.kind == 4) = false := by rw [k5]; rfl
        have H5 := Lib.hid k5
        clear k5
        by_cases z1 : z = 1
        · have fz : (z != 1) = false := by rw [z1]; rfl
          have HE := Lib.hid (show cutAll a l 0 a = cutAll a (l.drop (k + 1)) (k + 1) (cutL t c) by rw [HCd.out, if_neg (by rw [missB_5 H5.out, HZk.out, decide_eq_true z1]; decide)])
          clear z1 HCd HC HO HB
          go_upto_region 10 with (first | (go_at_call 16; refine (HKa.out).mono ?_; rintro e4 w4 ⟨rfl, rfl⟩) | (go_at_call 18; refine (without_any t c.path false At capt w2 HR2.out (by omega) (fun e he => by have := HP.out e he; omega) (by omega)).mono ?_; rintro e1 w3 ⟨v3, rfl, hO3, hB3⟩; have HO3 := Lib.hid (show OwnE w3 w.heap.size v3 (cutL t c) by rw [cutL_5 H5.out]; exact ownsRow_base hO3 HB2.out.size); have HB3 := Lib.hid (HB2.out.trans (hB3.mono HB2.out.size)); have Q3 := Lib.hid (Q2.out.below hB3); clear q0 q1 q2 q3 hO3 hB3; obtain ⟨q0, q1, q2, q3⟩ := Q3.out))
          go_wp2
          go_roundw
          case rel => exact ⟨k + 1, cutL t c, by omega, by go_num, by omega, HE, HO3, HB3, HCs⟩
          case measure => simp [intOf]; omega
        · have fz : (z != 1) = true := by rw [bne_iff_ne]; exact z1
          have HE := Lib.hid (patchL_cut (i := k) (by rw [HCd.out, if_pos (by rw [missB_5 H5.out, HZk.out, decide_eq_false z1]; rfl)]))
          clear z1 HCd HC HO HB
          go_wp2_with (go_at_call 16; refine (HKa.out).mono ?_; rintro e4 w4 ⟨rfl, rfl⟩)
          go_ret3
          exact ⟨.slice none 0 0, by rw [HE.out]; rfl, by rw [HE.out]; exact World.ownsRow_nil _ _ _ _, HB2.out⟩
      · have f5 : (c.kind == 5) = false := by rw [beq_eq_false_iff_ne]; exact k5
        have H5 := Lib.hid k5
        clear k5
        by_cases k4 : c.kind = 4
        · have f4 : (c.kind == 4) = true := by rw [k4]; rfl
          have H4 := Lib.hid k4
          clear k4
          by_cases z0 : z = 0
          · have fz : (z == 0) = true := by rw [z0]; rfl
            have HE := Lib.hid (patchL_cut (i := k) (by rw [HCd.out, if_pos (by rw [missB_4 H4.out, HZk.out, decide_eq_true z0])]))
            clear z0 HCd HC HO HB
            go_wp2_with (go_at_call 16; refine (HKa.out).mono ?_; rintro e4 w4 ⟨rfl, rfl⟩)
            go_ret3
            exact ⟨.slice none 0 0, by rw [HE.out]; rfl, by rw [HE.out]; exact World.ownsRow_nil _ _ _ _, HB2.out⟩
          · have fz : (z == 0) = false := by rw [beq_eq_false_iff_ne]; exact z0
            have HE := Lib.hid (show cutAll a l 0 a = cutAll a (l.drop (k + 1)) (k + 1) (cutL t c) by rw [HCd.out, if_neg (by rw [missB_4 H4.out, HZk.out, decide_eq_false z0]; decide)])
            clear z0 HCd HC HO HB
            go_wp2_with (first | (go_at_call 16; refine (HKa.out).mono ?_; rintro e4 w4 ⟨rfl, rfl⟩) | (go_at_call 18; refine (without_any t c.path true At capt w2 HR2.out (by omega) (fun e he => by have := HP.out e he; omega) (by omega)).mono ?_; rintro e1 w3 ⟨v3, rfl, hO3, hB3⟩; have HO3 := Lib.hid (show OwnE w3 w.heap.size v3 (cutL t c) by rw [cutL_4 H4.out]; exact ownsRow_base hO3 HB2.out.size); have HB3 := Lib.hid (HB2.out.trans (hB3.mono HB2.out.size)); have Q3 := Lib.hid (Q2.out.below hB3); clear q0 q1 q2 q3 hO3 hB3; obtain ⟨q0, q1, q2, q3⟩ := Q3.out))
            go_roundw
            case rel => exact ⟨k + 1, cutL t c, by omega, by go_num, by omega, HE, HO3, HB3, HCs⟩
            case measure => simp [intOf]; omega
        · have f4 : (c.kind == 4) = false := by rw [beq_eq_false_iff_ne]; exact k4
          have HE := Lib.hid (show cutAll a l 0 a = cutAll a (l.drop (k + 1)) (k + 1) t by rw [HCd.out, if_neg (by rw [missB_no k4 H5.out]; decide), cutL_no k4 H5.out])
          clear k4 HCd HC HO HB
          go_wp2
          go_roundw
          case rel => exact ⟨k + 1, t, by omega, by go_num, by omega, HE, HO2, HB2, HP⟩
          case measure => simp [intOf]; omega
    · obtain rfl : k = l.length := by omega
      have HC1 := Lib.hid (show cutAll a l 0 a = .ok t by rw [HC.out, List.drop_length]; rfl)
      clear HC
      obtain ⟨t0, ht0⟩ : ∃ t0, t0 = t := ⟨_, rfl⟩
      have HT0 := Lib.hid ht0
      rw [← ht0] at HC1
      clear ht0 hrd
      go_wp2
      go_loopw [10, 7] (fun i vt wr => ∃ (k : Nat) (t : List Ent), k ≤ l.length ∧ i = .int .i64 k ∧ t.length ≤ 1000 + k ∧ Hid (putAll l 0 t0 = putAll (l.drop k) k t) ∧ Hid (OwnE wr w.heap.size vt t) ∧ Hid (Below w.heap.size w wr) ∧ Hid (∀ e ∈ t, e.path.length ≤ 1000)) (fun i _ _ => l.length - (intOf i).toNat)
      case atStart => exact ⟨0, t, Nat.zero_le _, rfl, by omega, Lib.hid (by rw [HT0.out]; rfl), HO, HB, HP⟩
      case round =>
        clear HO HB HP HT0
        obtain ⟨k, t, hk, rfl, htl, HC, HO, HB, HP⟩ := hrel
        obtain ⟨At, capt, rfl, hc1, hc2, hrd⟩ := Rd.of_own HO.out
        by_cases hlt : k < l.length
        · skip
          obtain ⟨b, o, hBe, hbb, g0, g1, g2, g3⟩ := ents_at hbl.out HB.out k hlt
          subst hBe
          obtain ⟨c, hcc⟩ : ∃ c, l[k] = c := ⟨_, rfl⟩
          obtain ⟨hsp, hsn⟩ := hsl.out c (hcc ▸ List.getElem_mem hlt)
          have HSn := Lib.hid hsn
          have HK := Lib.hid (show l[k]? = some c by rw [List.getElem?_eq_getElem hlt, hcc])
          rw [hcc] at g0 g1 g2 g3
          have hkl : (k : Int) < (l.length : Int) := by omega
          clear hcc hsn
          have hb0 : Below wr.heap.size wr (wr.alloc (.cells #[.string (S c.path), .int .i64 c.kind, .int .i64 c.mode, .string (S c.data)] 29)) := (Below.refl _ _).alloc (Nat.le_refl _) _
          have Q2 := Lib.hid (Cell4.new wr c 29)
          have HB2 := Lib.hid (HB.out.trans (hb0.mono HB.out.size))
          have HO2 := Lib.hid (ownsRow_below HO.out hb0)
          have HR2 := Lib.hid (hrd.below hb0)
          obtain ⟨q0, q1, q2, q3⟩ := Q2.out
          obtain ⟨w2, hw2⟩ : ∃ w2, wr.alloc (.cells #[.string (S c.path), .int .i64 c.kind, .int .i64 c.mode, .string (S c.data)] 29) = w2 := ⟨_, rfl⟩
          rw [hw2] at Q2 HB2 HO2 HR2 q0 q1 q2 q3
          have HCd := Lib.hid (HC.out.trans (putAll_drop HK.out))
          clear hb0 hrd
          go_upto_region 16 with fail
          clear hw2
          clear g0 g1 g2 g3
          by_cases k4 : c.kind = 4
          · have f4 : (c.kind == 4) = true := by rw [k4]; rfl
            have HE := Lib.hid (show putAll l 0 t0 = putAll (l.drop (k + 1)) (k + 1) t by rw [HCd.out, if_pos (.inl k4)])
            clear k4 HCd HC HO HB
            go_wp2
            go_roundw
            case rel => exact ⟨k + 1, t, by omega, by go_num, by omega, HE, HO2, HB2, HP⟩
            case measure => simp [intOf]; omega
          have f4 : (c.kind == 4) = false := by rw [beq_eq_false_iff_ne]; exact k4
          by_cases k5 : c.kind = 5
          · have f5 : (c.kind == 5) = true := by rw [k5]; rfl
            have HE := Lib.hid (show putAll l 0 t0 = putAll (l.drop (k + 1)) (k + 1) t by rw [HCd.out, if_pos (.inr k5)])
            clear k4 k5 HCd HC HO HB
            go_wp2
            go_roundw
            case rel => exact ⟨k + 1, t, by omega, by go_num, by omega, HE, HO2, HB2, HP⟩
            case measure => simp [intOf]; omega
          have f5 : (c.kind == 5) = false := by rw [beq_eq_false_iff_ne]; exact k5
          have HU0 := Lib.hid (show 0 < (partsB c.path).length from List.length_pos_iff.2 (partsB_ne ((HSn.out.resolve_left k4).resolve_left k5)))
          have hu1 := (upB_len c.path).1
          have HK45 := Lib.hid (show ¬ (c.kind = 4 ∨ c.kind = 5) from fun h => h.elim k4 k5)
          have HCe := Lib.hid (HCd.out.trans (if_neg HK45.out))
          have HPs := Lib.hid (show ∀ e ∈ putL t c, e.path.length ≤ 1000 from fun e he => (putL_sub he).elim (HP.out e) (fun h => h ▸ hsp))
          have hpl := putL_len t c
          clear k4 k5 HCd HK45
          go_upto_region 18 with (go_at_call 15; refine (upR_any c.path _ (by omega) HU0.out).mono ?_; rintro e3 w3 ⟨rfl, hb3⟩; have HB3 := Lib.hid (HB2.out.trans (hb3.mono HB2.out.size)); have HO3 := Lib.hid (ownsRow_below HO2.out hb3); have HR3 := Lib.hid (HR2.out.below hb3); have Q3 := Lib.hid (Q2.out.below hb3); clear hb3 q0 q1 q2 q3; obtain ⟨q0, q1, q2, q3⟩ := Q3.out)
          have HKd := Lib.hid (kindR_any t (upB c.path).1 At capt w3 HR3.out (by omega) (fun e he => by have := HP.out e he; omega) (by omega))
          obtain ⟨z, hz⟩ : ∃ z, kindL t (upB c.path).1 = z := ⟨_, rfl⟩
          rw [hz] at HKd
          have HZk := Lib.hid hz
          clear hz HO2 HR2 HB2 Q2 HC HO HB
          by_cases z1 : z = 1
          · have fz : (z != 1) = false := by rw [z1]; rfl
            have HE := Lib.hid (show putAll l 0 t0 = putAll (l.drop (k + 1)) (k + 1) (putL t c) by rw [HCe.out, if_pos (by rw [HZk.out]; exact z1)])
            clear z1 HCe
            go_wp2_with (first
              | (go_at_call 16; refine (HKd.out).mono ?_; rintro e4 w4 ⟨rfl, rfl⟩)
              | (go_at_call 19; refine (putR_any t c At capt _ HR3.out (by omega) (fun e he => by have := HP.out e he; omega) (by omega)).mono ?_; rintro e5 w5 ⟨v5, rfl, hO5, hB5⟩; have HO5 := Lib.hid (show OwnE w5 w.heap.size v5 (putL t c) from ownsRow_base hO5 HB3.out.size); have HB5 := Lib.hid (HB3.out.trans (hB5.mono HB3.out.size)); clear hO5 hB5 q0 q1 q2 q3))
            go_roundw
            case rel => exact ⟨k + 1, putL t c, by omega, by go_num, by omega, HE, HO5, HB5, HPs⟩
            case measure => simp [intOf]; omega
          · have fz : (z != 1) = true := by rw [bne_iff_ne]; exact z1
            have HE := Lib.hid (patchL_put (i := k) HC1.out (by rw [HCe.out, if_neg (by rw [HZk.out]; exact z1)]))
            clear z1 HCe
            go_wp2_with (go_at_call 16; refine (HKd.out).mono ?_; rintro e4 w4 ⟨rfl, rfl⟩)
            go_ret3
            exact ⟨.slice none 0 0, by rw [HE.out]; rfl, by rw [HE.out]; exact World.ownsRow_nil _ _ _ _, HB3.out⟩
        · obtain rfl : k = l.length := by omega
          have HC2 := Lib.hid (show putAll l 0 t0 = .ok t by rw [HC.out, List.drop_length]; rfl)
          clear HC
          by_cases h40 : 40 < t.length
          · have HE := Lib.hid (patchL_many HC1.out HC2.out h40)
            have h40' : (40 : Int) < (t.length : Int) := by omega
            go_wp2
            go_ret3
            exact ⟨.slice none 0 0, by rw [HE.out]; rfl, by rw [HE.out]; exact World.ownsRow_nil _ _ _ _, HB.out⟩
          · have HE := Lib.hid (patchL_ok HC1.out HC2.out h40)
            have h40' : ¬ ((40 : Int) < (t.length : Int)) := by omega
            go_wp2
            go_ret3
            exact ⟨_, by rw [HE.out]; rfl, by rw [HE.out]; exact HO.out, HB.out⟩
end Go.Proofs.YtjampkdbieoboaaGreatDoor
