/-
  Rows of memory: a row appended whole to a row of one's own; what a change of memory leaves, by the type of a block.
  Rows of words and of texts in memory; what a change of memory leaves, by the type of a block.
  The document's answer: names of stages, bounds of instructions, small looks.
  The document's answer: modes, plain words, variables that are not set.
  The document's answer: variables that are not set.
  Stages in memory (the document's): steps, variables, stages, row by row; what is kept when the last stage grows.
-/
import Derived.Laws.AppendOwnNone
import Derived.Test.YtflggoddfjmljaaGreatDoorY01
set_option linter.unusedVariables false
set_option linter.unusedSimpArgs false
namespace Go.Proofs.YtflggoddfjmljaaGreatDoor
open Go.RowKit

theorem wpList_append_row {P : Program} {w : World} {ops : Array Oper} {rest : List Oper} {o : Oper} {a : Act} {Q : Exit → Act → World → Prop} (hgd : o.guard = none) (s x : Operand) (t : TypeId)
    (ho : o.op = .call { callee := .builtin .append, args := #[s, x], argTypes := #[t, t] })
    (base : Nat) (e : TypeId) (i : TypeInfo) (z : Value) (size bytes : Nat) (ht : P.underlying t = some (.slice e)) (hi : P.info? e = some i) (hz : i.zero = some z)
    (hsize : i.size = size) (hby : i.bytes = bytes) (hzs : z.cells.size = size) (hsz : 0 < size)
    (v : Value) (n : Nat) (xs : List Value) (hs : a.eval s = v) (hown : w.ownsRow base e size v n xs)
    (v2 : Value) (m b2 : Nat) (ys : List Value) (hx : a.eval x = v2) (hown2 : w.ownsRow b2 e size v2 m ys) (h1 : ∀ u ∈ ys, u.oneCell' = true)
    (h63 : n + m ≤ maxLen) (hbytes : (n + m) * bytes ≤ 140737488355328) (hbase : base ≤ w.heap.size)
    (h : ∀ v' w', w'.ownsRow base e size v' (n + m) (xs ++ ys) → w.grownBy w' v.ownBlock → wpList P ops Q rest (a.put o.dst v') w') : wpList P ops Q (o :: rest) a w := by
  rcases hown2.2 with ⟨rfl, rfl⟩ | ⟨g, cap, cur, rfl, r⟩
  · have hy : ys = [] := List.eq_nil_of_length_eq_zero (by simpa using hown2.1)
    subst hy
    refine wpList_append_own_none hgd s x t ho base e i size ht hi v n xs hs hown hx ?_
    exact h v w (by simpa using hown) ⟨rfl, rfl, rfl, Nat.le_refl _, fun _ _ _ => rfl⟩
  · exact wpList_append_own w hgd s x t ho base e i z size bytes ht hi hz hsize hby hzs hsz v n xs hs hown ⟨g, 0, none⟩ m cap ys hx hown2.1 (hown2.cells (g := g) rfl) h1 h63 hbytes hbase (fun v' w' h2 h3 _ => h v' w' h2 h3)
theorem atms_one_cell (l : List Atm) : ∀ u ∈ atms l, u.oneCell' = true := by
  induction l with
  | nil => simp [atms]
  | cons x r ih =>
    intro u hu
    rw [atms, List.mem_append] at hu
    rcases hu with hu | hu
    · cases x <;> simp [Atm.cells] at hu <;> rcases hu with rfl | rfl | rfl <;> rfl
    · exact ih u hu
theorem ownsRow_form {w : World} {base : Nat} {e : TypeId} {size : Nat} {v : Value} {n : Nat} {xs : List Value} (h : w.ownsRow base e size v n xs) : ∃ ao c, v = .slice ao n c := by
  rcases h.2 with ⟨h1, h2⟩ | ⟨g, cap, cur, hv, _⟩
  · subst h2; exact ⟨none, 0, h1⟩
  · exact ⟨_, _, hv⟩
theorem Blk2.alloc {w : World} {g : Nat} {a b : Value} (h : Blk2 w g a b) (o : Obj) : Blk2 (w.alloc o) g a b := h.below ((Below.refl w.heap.size w).alloc (Nat.le_refl _) o) h.lt
theorem Blk2.drew {w : World} {g : Nat} {a b : Value} (h : Blk2 w g a b) : Blk2 w.drew g a b := h
theorem Blk2.after {w w' : World} {g : Nat} {a b : Value} (h : Blk2 w g a b) (hb : Below w.heap.size w w') : Blk2 w' g a b := h.below hb h.lt
theorem own_ne {w : World} {base : Nat} {e : TypeId} {size : Nat} {v : Value} {n : Nat} {xs : List Value} (h : w.ownsRow base e size v n xs) {g : Nat} (hg : g < base) : some g ≠ v.ownBlock := by
  rcases h.2 with ⟨rfl, _⟩ | ⟨g', cap, cur, rfl, hb, _⟩
  · simp [Value.ownBlock]
  · simp only [Value.ownBlock, ne_eq, Option.some.injEq]; omega
theorem own_le {w : World} {base : Nat} {e : TypeId} {size : Nat} {v : Value} {n : Nat} {xs : List Value} (h : w.ownsRow base e size v n xs) : ∀ k, v.ownBlock = some k → base ≤ k := by
  rcases h.2 with ⟨rfl, _⟩ | ⟨g', cap, cur, rfl, hb, _⟩
  · simp [Value.ownBlock]
  · intro k hk; simp only [Value.ownBlock, Option.some.injEq] at hk; omega
end Go.Proofs.YtflggoddfjmljaaGreatDoor
namespace Go.Proofs.YtflggoddfjmljaaGreatDoor
open Go.RowKit

/-- the blocks of a type stay -/
def KeepT (T : TypeId) (w w' : World) : Prop := ∀ (g : Nat) (cur : Array Value), w.heap[g]? = some (Obj.cells cur T (0, 0)) → w'.heap[g]? = some (Obj.cells cur T (0, 0))
theorem KeepT.refl (T : TypeId) (w : World) : KeepT T w w := fun _ _ h => h
theorem KeepT.trans {T : TypeId} {a b c : World} (h : KeepT T a b) (k : KeepT T b c) : KeepT T a c := fun g cur e => k g cur (h g cur e)
theorem KeepT.below {T : TypeId} {w w' : World} (h : Below w.heap.size w w') : KeepT T w w' := fun g cur e => (h.block g (Array.getElem?_eq_some_iff.1 e).1).trans e
theorem KeepT.drew {T : TypeId} {w w' : World} (h : KeepT T w w') : KeepT T w w'.drew := h
theorem KeepT.grown {T e : TypeId} {w w' : World} {base size n : Nat} {v : Value} {xs : List Value} (hg : w.grownBy w' v.ownBlock) (ho : w.ownsRow base e size v n xs) (hne : e ≠ T) : KeepT T w w' := by
  intro g cur h
  refine (hg.block g (Array.getElem?_eq_some_iff.1 h).1 ?_).trans h
  rcases ho.2 with ⟨rfl, _⟩ | ⟨g', cap, cur', rfl, hb, hh, _⟩
  · simp [Value.ownBlock]
  · intro heq
    simp only [Value.ownBlock, Option.some.injEq] at heq
    subst heq
    rw [h] at hh
    simp only [Option.some.injEq, Obj.cells.injEq] at hh
    exact hne hh.2.1.symm
theorem KeepT.setCell {T e : TypeId} {w : World} {g : Nat} {c : Array Value} {fz : Nat × Nat} (hb : w.heap[g]? = some (.cells c e fz)) (hne : e ≠ T) (o : Nat) (u : Value) : KeepT T w (w.setCell ⟨g, o, none⟩ u) := by
  intro g' cur h
  have : g' ≠ g := by
    rintro rfl
    rw [h] at hb
    simp only [Option.some.injEq, Obj.cells.injEq] at hb
    exact hne hb.2.1.symm
  rw [heap_setCell_other w ⟨g, o, none⟩ g' u this]; exact h
theorem ownsRow_keep {T : TypeId} {w w' : World} {base size n : Nat} {v : Value} {xs : List Value} (h : w.ownsRow base T size v n xs) (hk : KeepT T w w') : w'.ownsRow base T size v n xs := by
  obtain ⟨h1, h2⟩ := h
  refine ⟨h1, ?_⟩
  rcases h2 with h2 | ⟨g, cap, cur, hv, hg, hh, r⟩
  · exact .inl h2
  · exact .inr ⟨g, cap, cur, hv, hg, hk g cur hh, r⟩

/-- words, cell by cell -/
def WordCells (w : World) : List WordG → List Value → Prop
  | [], cs => cs = []
  | x :: r, cs => ∃ a rest, cs = a :: .int .i64 x.at_ :: rest ∧ w.ownsRow 0 75 3 a x.l.length (atms x.l) ∧ WordCells w r rest
theorem WordCells.len {w : World} : ∀ {ws : List WordG} {cs : List Value}, WordCells w ws cs → cs.length = ws.length * 2
  | [], cs, h => by simp [WordCells] at h; simp [h]
  | x :: r, cs, h => by
    obtain ⟨a, rest, rfl, _, hr⟩ := h
    have := hr.len
    simp [this]; omega
theorem WordCells.app {w : World} {y : WordG} {b : Value} (hb : w.ownsRow 0 75 3 b y.l.length (atms y.l)) : ∀ {ws : List WordG} {cs : List Value}, WordCells w ws cs → WordCells w (ws ++ [y]) (cs ++ [b, .int .i64 y.at_])
  | [], cs, h => by simp [WordCells] at h; subst h; exact ⟨b, [], rfl, hb, rfl⟩
  | x :: r, cs, h => by
    obtain ⟨a, rest, rfl, ha, hr⟩ := h
    exact ⟨a, rest ++ [b, .int .i64 y.at_], rfl, ha, hr.app hb⟩
theorem WordCells.keep {w w' : World} (hk : KeepT 75 w w') : ∀ {ws : List WordG} {cs : List Value}, WordCells w ws cs → WordCells w' ws cs
  | [], cs, h => h
  | x :: r, cs, h => by
    obtain ⟨a, rest, rfl, ha, hr⟩ := h
    exact ⟨a, rest, rfl, ownsRow_keep ha hk, hr.keep hk⟩
theorem WordCells.one {w : World} : ∀ {ws : List WordG} {cs : List Value}, WordCells w ws cs → ∀ u ∈ cs, u.oneCell' = true
  | [], cs, h => by simp [WordCells] at h; simp [h]
  | x :: r, cs, h => by
    obtain ⟨a, rest, rfl, ha, hr⟩ := h
    intro u hu
    rcases List.mem_cons.1 hu with rfl | hu
    · obtain ⟨ao, c, rfl⟩ := ownsRow_form ha; rfl
    · rcases List.mem_cons.1 hu with rfl | hu
      · rfl
      · exact hr.one u hu
theorem WordCells.get {w : World} : ∀ {ws : List WordG} {cs : List Value}, WordCells w ws cs → ∀ k (h : k < ws.length), ∃ ao c, cs[k * 2]? = some (.slice ao ws[k].l.length c) ∧ cs[k * 2 + 1]? = some (.int .i64 ws[k].at_) ∧ w.ownsRow 0 75 3 (.slice ao ws[k].l.length c) ws[k].l.length (atms ws[k].l)
  | x :: r, cs, h, 0, _ => by
    obtain ⟨a, rest, rfl, ha, hr⟩ := h
    obtain ⟨ao, c, rfl⟩ := ownsRow_form ha
    exact ⟨ao, c, rfl, rfl, ha⟩
  | x :: r, cs, h, k + 1, hk => by
    obtain ⟨a, rest, rfl, ha, hr⟩ := h
    obtain ⟨ao, c, h1, h2, h3⟩ := hr.get k (by simpa using hk)
    refine ⟨ao, c, ?_, ?_, h3⟩
    · rw [show (k + 1) * 2 = k * 2 + 1 + 1 by omega]; simpa using h1
    · rw [show (k + 1) * 2 + 1 = k * 2 + 1 + 1 + 1 by omega]; simpa using h2
theorem WordCells.drop {w : World} : ∀ {ws : List WordG} {cs : List Value}, WordCells w ws cs → ∀ k, WordCells w (ws.drop k) (cs.drop (k * 2))
  | ws, cs, h, 0 => by simpa using h
  | [], cs, h, k + 1 => by simp [WordCells] at h; subst h; simp [WordCells]
  | x :: r, cs, h, k + 1 => by
    obtain ⟨a, rest, rfl, ha, hr⟩ := h
    rw [show (k + 1) * 2 = k * 2 + 1 + 1 by omega]
    simpa using hr.drop k
/-- a block of a type -/
def BlkT (w : World) (g : Nat) (t : TypeId) : Prop := ∃ cs : Array Value, w.heap[g]? = some (Obj.cells cs t (0, 0))
theorem BlkT.new (w : World) (cs : Array Value) (t : TypeId) : BlkT (w.alloc (.cells cs t)) w.heap.size t := ⟨cs, heap_alloc_new w _⟩
theorem BlkT.after {w w' : World} {g : Nat} {t : TypeId} (h : BlkT w g t) (hb : Below w.heap.size w w') : BlkT w' g t := by
  obtain ⟨cs, h⟩ := h
  exact ⟨cs, (hb.block g (Array.getElem?_eq_some_iff.1 h).1).trans h⟩
theorem BlkT.grown {w w' : World} {g : Nat} {t : TypeId} {row : Option Nat} (h : BlkT w g t) (hg : w.grownBy w' row) (hne : some g ≠ row) : BlkT w' g t := by
  obtain ⟨cs, h⟩ := h
  exact ⟨cs, (hg.block g (Array.getElem?_eq_some_iff.1 h).1 hne).trans h⟩
theorem BlkT.set {w : World} {g : Nat} {t : TypeId} (h : BlkT w g t) (o : Nat) (u : Value) : BlkT (w.setCell ⟨g, o, none⟩ u) g t := by
  obtain ⟨cs, h⟩ := h
  exact ⟨_, heap_setCell_same w g o cs t u h⟩
theorem KeepT.two {T e : TypeId} {w : World} {g : Nat} (hb : BlkT w g e) (hne : e ≠ T) (u1 u2 : Value) : KeepT T w ((w.setCell ⟨g, 0, none⟩ u1).setCell ⟨g, 1, none⟩ u2) := by
  obtain ⟨cs, h⟩ := hb
  have h2 := heap_setCell_same w g 0 cs e u1 h
  exact (KeepT.setCell h hne 0 u1).trans (KeepT.setCell h2 hne 1 u2)
theorem cells2_at (w : World) (a b : Value) (t : TypeId) (B : Nat) (hB : w.heap.size = B) : ∀ j u, [a, b][j]? = some u → (w.alloc (.cells #[a, b] t)).cell? ((⟨B, 0, none⟩ : Addr).add j) = some u := by
  subst hB
  intro j u h
  match j, h with
  | 0, h => simp at h; subst h; simp [Addr.add]
  | 1, h => simp at h; subst h; simp [Addr.add]
end Go.Proofs.YtflggoddfjmljaaGreatDoor
namespace Go.Proofs.YtflggoddfjmljaaGreatDoor
open Go.RowKit

set_option maxHeartbeats 400000 in
theorem begins_any (s t : List UInt8) (w : World) :
    Calls Tryz.prog 46 #[.string (S s), .string (S t)] w fun e w' => e = .returned (.bool (t.isPrefixOf s)) ∧ w = w' := by
  go_enter Tryz.func46, Tryz.ntmps46
  go_wp2
  · go_ret
    refine ⟨ret_bool ?_, rfl⟩
    rw [Bool.eq_iff_iff, List.isPrefixOf_iff_prefix, List.prefix_iff_eq_take, beq_iff_eq]
    exact eq_comm
  · go_ret
    refine ⟨ret_bool ?_, rfl⟩
    have hlt : ¬ t.length ≤ s.length := by assumption
    rw [Bool.eq_iff_iff, List.isPrefixOf_iff_prefix]
    simp
    intro h; exact hlt h.length_le

theorem okS_at {s : List UInt8} {k : Nat} (h : k < s.length) : okS s k = (smallC s[k] || (digitC s[k] && decide (k ≠ 0))) := by simp [okS, h]
theorem stageB_all {s : List UInt8} (h : ∀ j, j < s.length → okS s j = true) : stageB s = (!s.isEmpty && decide (s.length ≤ 10)) := by
  unfold stageB
  rw [show (List.range s.length).all (okS s) = true from by rw [List.all_eq_true]; intro j hj; exact h j (by simpa using hj)]
  simp
theorem stageB_not {s : List UInt8} {k : Nat} (hk : k < s.length) (h : okS s k = false) : stageB s = false := by
  unfold stageB
  rw [show (List.range s.length).all (okS s) = false from by rw [List.all_eq_false]; exact ⟨k, by simpa using hk, by simp [h]⟩]
  simp

set_option maxHeartbeats 1000000 in
theorem stageNameR_any (s : List UInt8) (w : World) (hs : s.length ≤ 1000000) :
    Calls Tryz.prog 24 #[.string (S s)] w fun e w' => e = .returned (.bool (stageB s)) ∧ w = w' := by
  go_enter Tryz.func24, Tryz.ntmps24
  go_wp2
  go_loop [3, 4, 5] (fun i _ _ => ∃ k : Nat, k ≤ s.length ∧ i = .int .i64 k ∧ Hid (∀ j, j < k → okS s j = true)) (fun i _ _ => s.length - (intOf i).toNat)
  case atStart => exact ⟨0, by omega, rfl, by intro j hj; omega⟩
  case round =>
    obtain ⟨k, hk, rfl, hall⟩ := hrel
    by_cases hlt : k < s.length
    · have hL := smallC_iff s[k]
      have hT := digitC_iff s[k]
      have ho := okS_at hlt
      cases hok : okS s k
      · have HA := Lib.hid (stageB_not hlt hok)
        rw [hok] at ho
        have hn : ¬ (97 ≤ (s[k].toNat : Int) ∧ (s[k].toNat : Int) ≤ 122) ∧ (¬ (48 ≤ (s[k].toNat : Int) ∧ (s[k].toNat : Int) ≤ 57) ∨ k = 0) := by
          have h1 := ho.symm
          rw [Bool.or_eq_false_iff, Bool.and_eq_false_iff] at h1
          refine ⟨fun h => (by rw [hL.2 h] at h1; cases h1.1), ?_⟩
          rcases h1.2 with h2 | h2
          · exact .inl fun h => by rw [hT.2 h] at h2; cases h2
          · exact .inr (by simpa using h2)
        obtain ⟨n1, n2⟩ := hn
        clear hok ho hL hT hall
        go_wp2
        all_goals first
          | (go_ret; exact ⟨ret_bool (by rw [HA.out]), rfl⟩)
          | (exfalso; simp only [Bool.not_eq_true', Bool.not_eq_false', bne_iff_ne, bne_eq_false_iff_eq, beq_iff_eq, beq_eq_false_iff_ne, decide_eq_true_eq, decide_eq_false_iff_not, ne_eq] at *; omega)
      · have HA := Lib.hid (show ∀ j, j < k + 1 → okS s j = true by
          intro j hj
          rcases Nat.lt_or_ge j k with h | h
          · exact hall.out j h
          · obtain rfl : j = k := by omega
            exact hok)
        rw [hok] at ho
        have hn : (97 ≤ (s[k].toNat : Int) ∧ (s[k].toNat : Int) ≤ 122) ∨ (0 < k ∧ (48 ≤ (s[k].toNat : Int) ∧ (s[k].toNat : Int) ≤ 57)) := by
          have h1 := ho.symm
          rw [Bool.or_eq_true, Bool.and_eq_true] at h1
          rcases h1 with h1 | ⟨h1, h2⟩
          · exact .inl (hL.1 h1)
          · exact .inr ⟨by simp at h2; omega, hT.1 h1⟩
        clear hok ho hL hT hall
        go_wp2
        all_goals first
          | (go_round; (case rel => exact ⟨k + 1, by omega, by go_num, HA⟩); (case measure => simp [intOf]; omega))
          | (exfalso; simp only [Bool.not_eq_true', Bool.not_eq_false', bne_iff_ne, bne_eq_false_iff_eq, beq_iff_eq, beq_eq_false_iff_ne, decide_eq_true_eq, decide_eq_false_iff_not, ne_eq] at *; omega)
    · obtain rfl : k = s.length := by omega
      have HA := Lib.hid (stageB_all hall.out)
      clear hall
      cases he : s.isEmpty
      all_goals
        replace HA := Lib.hid (HA.out.trans (by rw [he]))
        go_wp2
        go_ret
        exact ⟨ret_bool (by rw [HA.out]; simp; try omega), rfl⟩

/-- what 'bounds' answers -/
def boundsV (op : List UInt8) : Value := match boundsB op with
  | some (a, b) => .tuple #[.int .i64 a, .int .i64 b, .bool true]
  | none => .tuple #[.int .i64 0, .int .i64 0, .bool false]
set_option maxHeartbeats 2000000 in
theorem boundsR_any (op : List UInt8) (w : World) :
    Calls Tryz.prog 12 #[.string (S op)] w fun e w' => e = .returned (boundsV op) ∧ w = w' := by
  have word : ∀ x : List UInt8, op ≠ x → (op == x) = false := fun x h => by simpa using h
  by_cases h1 : op = wFROM
  · subst h1; go_enter Tryz.func12, Tryz.ntmps12; go_wp2; go_returns; exact ⟨rfl, rfl⟩
  by_cases h2 : op = wCOPY
  · subst h2; go_enter Tryz.func12, Tryz.ntmps12; go_wp2; go_returns; exact ⟨rfl, rfl⟩
  by_cases h3 : op = wADD
  · subst h3; go_enter Tryz.func12, Tryz.ntmps12; go_wp2; go_returns; exact ⟨rfl, rfl⟩
  by_cases h4 : op = wLINK
  · subst h4; go_enter Tryz.func12, Tryz.ntmps12; go_wp2; go_returns; exact ⟨rfl, rfl⟩
  by_cases h5 : op = wENV
  · subst h5; go_enter Tryz.func12, Tryz.ntmps12; go_wp2; go_returns; exact ⟨rfl, rfl⟩
  by_cases h6 : op = wRM
  · subst h6; go_enter Tryz.func12, Tryz.ntmps12; go_wp2; go_returns; exact ⟨rfl, rfl⟩
  by_cases h7 : op = wWORKDIR
  · subst h7; go_enter Tryz.func12, Tryz.ntmps12; go_wp2; go_returns; exact ⟨rfl, rfl⟩
  by_cases h8 : op = wMKDIR
  · subst h8; go_enter Tryz.func12, Tryz.ntmps12; go_wp2; go_returns; exact ⟨rfl, rfl⟩
  have HB := Lib.hid (show boundsV op = .tuple #[.int .i64 0, .int .i64 0, .bool false] by simp [boundsV, boundsB, h1, h2, h3, h4, h5, h6, h7, h8])
  have c1 : (op == [70, 82, 79, 77]) = false := word _ h1
  have c2 : (op == [67, 79, 80, 89]) = false := word _ h2
  have c3 : (op == [65, 68, 68]) = false := word _ h3
  have c4 : (op == [76, 73, 78, 75]) = false := word _ h4
  have c5 : (op == [69, 78, 86]) = false := word _ h5
  have c6 : (op == [82, 77]) = false := word _ h6
  have c7 : (op == [87, 79, 82, 75, 68, 73, 82]) = false := word _ h7
  have c8 : (op == [77, 75, 68, 73, 82]) = false := word _ h8
  clear h1 h2 h3 h4 h5 h6 h7 h8 word
  go_enter Tryz.func12, Tryz.ntmps12
  go_wp2
  go_returns
  exact ⟨by rw [HB.out]; rfl, rfl⟩

theorem calledB_at {l : List StageG} {x : List UInt8} {k : Nat} (hk : k < l.length) (h : l[k].name = x) (hb : ∀ j (hj : j < l.length), j < k → l[j].name ≠ x) : calledB l x = k := by
  unfold calledB
  have : l.findIdx? (fun y => y.name == x) = some k := by
    rw [List.findIdx?_eq_some_iff_getElem]
    refine ⟨hk, by simpa using h, fun j hj => by simpa using hb j (by omega) hj⟩
  rw [this]
theorem calledB_none {l : List StageG} {x : List UInt8} (hb : ∀ j (hj : j < l.length), l[j].name ≠ x) : calledB l x = -1 := by
  unfold calledB
  have : l.findIdx? (fun y => y.name == x) = none := by
    rw [List.findIdx?_eq_none_iff]
    intro y hy
    obtain ⟨j, hj, rfl⟩ := List.getElem_of_mem hy
    simpa using hb j hj
  rw [this]
set_option maxHeartbeats 1000000 in
theorem calledR_any (l : List StageG) (x : List UInt8) (A : Option Addr) (c : Nat) (cs : List Value) (w : World) (hl : l.length ≤ 1000000) (hrd : Rd w A cs) (hcs : cs.length = l.length * 4)
    (hn : ∀ k (h : k < l.length), cs[k * 4]? = some (.string (S l[k].name))) :
    Calls Tryz.prog 25 #[.slice A l.length c, .string (S x)] w fun e w' => e = .returned (.int .i64 (calledB l x)) ∧ w = w' := by
  go_enter Tryz.func25, Tryz.ntmps25
  go_wp2
  go_loop [5] (fun i => ∃ k : Nat, k ≤ l.length ∧ i = .int .i64 k ∧ Hid (∀ j (hj : j < l.length), j < k → l[j].name ≠ x)) (fun i => l.length - (intOf i).toNat)
  case atStart => exact ⟨0, by omega, rfl, by intro j hj h; omega⟩
  case round =>
    obtain ⟨k, hk, rfl, hall⟩ := hrel
    by_cases hlt : k < l.length
    · obtain ⟨b, o, rfl, hb, hc⟩ := hrd.at (k * 4) (by omega)
      have h1 := hc (k * 4) _ (hn k hlt)
      by_cases he : l[k].name = x
      · have HA := Lib.hid (calledB_at hlt he hall.out)
        have he' : (l[k].name == x) = true := by simpa using he
        clear hall he
        go_wp2
        go_ret
        exact ⟨ret_int (by rw [HA.out]), rfl⟩
      · have he' : (l[k].name == x) = false := by simpa using he
        have HA := Lib.hid (show ∀ j (hj : j < l.length), j < k + 1 → l[j].name ≠ x by
          intro j hj h
          rcases Nat.lt_or_ge j k with h1 | h1
          · exact hall.out j hj h1
          · obtain rfl : j = k := by omega
            exact he)
        clear hall he
        go_wp2
        go_round
        case rel => exact ⟨k + 1, by omega, by go_num, HA⟩
        case measure => simp [intOf]; omega
    · have HA := Lib.hid (calledB_none (fun j hj => hall.out j hj (by omega)))
      clear hall
      go_wp2
      go_ret
      exact ⟨ret_int (by rw [HA.out]), rfl⟩

set_option maxHeartbeats 1000000 in
theorem hasR_any (l : List (List UInt8)) (x : List UInt8) (A : Option Addr) (c : Nat) (w : World) (hl : l.length ≤ 1000000) (hrd : Rd w A (strs l)) :
    Calls Tryz.prog 49 #[.slice A l.length c, .string (S x)] w fun e w' => e = .returned (.bool (decide (x ∈ l))) ∧ w = w' := by
  go_enter Tryz.func49, Tryz.ntmps49
  go_wp2
  go_loop [5] (fun i => ∃ k : Nat, k ≤ l.length ∧ i = .int .i64 k ∧ Hid (∀ j (hj : j < l.length), j < k → l[j] ≠ x)) (fun i => l.length - (intOf i).toNat)
  case atStart => exact ⟨0, by omega, rfl, by intro j hj h; omega⟩
  case round =>
    obtain ⟨k, hk, rfl, hall⟩ := hrel
    by_cases hlt : k < l.length
    · obtain ⟨b, o, rfl, hb, hc⟩ := hrd.at k (by rw [strs_len]; exact hlt)
      have h1 := hc k _ (strs_get hlt)
      by_cases he : l[k] = x
      · have HA := Lib.hid (show decide (x ∈ l) = true by rw [decide_eq_true_eq, ← he]; exact List.getElem_mem hlt)
        have he' : (l[k] == x) = true := by simpa using he
        clear hall he
        go_wp2
        go_ret
        exact ⟨ret_bool (by rw [HA.out]), rfl⟩
      · have he' : (l[k] == x) = false := by simpa using he
        have HA := Lib.hid (show ∀ j (hj : j < l.length), j < k + 1 → l[j] ≠ x by
          intro j hj h
          rcases Nat.lt_or_ge j k with h1 | h1
          · exact hall.out j hj h1
          · obtain rfl : j = k := by omega
            exact he)
        clear hall he
        go_wp2
        go_round
        case rel => exact ⟨k + 1, by omega, by go_num, HA⟩
        case measure => simp [intOf]; omega
    · have HA := Lib.hid (show decide (x ∈ l) = false by
        rw [decide_eq_false_iff_not]
        intro h
        obtain ⟨j, hj, e⟩ := List.getElem_of_mem h
        exact hall.out j hj (by omega) e)
      clear hall
      go_wp2
      go_ret
      exact ⟨ret_bool (by rw [HA.out]), rfl⟩
end Go.Proofs.YtflggoddfjmljaaGreatDoor
namespace Go.Proofs.YtflggoddfjmljaaGreatDoor
open Go.RowKit

theorem octC_iff (c : UInt8) : octC c = true ↔ 48 ≤ (c.toNat : Int) ∧ (c.toNat : Int) ≤ 55 := by
  simp only [octC, Bool.and_eq_true, decide_eq_true_eq, UInt8.le_iff_toNat_le]; simp; omega
def octsB (s : List UInt8) : Bool := s.all octC
set_option maxRecDepth 100000 in
set_option maxHeartbeats 1000000 in
theorem numberR_any (s : List UInt8) (w : World) (hs : s.length = 3) :
    Calls Tryz.prog 47 #[.string (S s)] w fun e w' => (∃ m : Int, e = .returned (.int .i64 m) ∧ (0 ≤ m ↔ octsB s = true)) ∧ w = w' := by
  go_enter Tryz.func47, Tryz.ntmps47
  go_wp2
  go_loop [3, 4] (fun n i => ∃ (k : Nat) (m : Nat), k ≤ s.length ∧ i = .int .i64 k ∧ n = .int .i64 m ∧ m + 1 ≤ 8 ^ k ∧ Hid ((s.take k).all octC = true)) (fun n i => s.length - (intOf i).toNat)
  case atStart => exact ⟨0, 0, by omega, rfl, rfl, by simp, by simp [Hid]⟩
  case round =>
    obtain ⟨k, m, hk, rfl, rfl, hm, hall⟩ := hrel
    have hm8 : m < 512 := by
      have : 8 ^ k ≤ 8 ^ 3 := Nat.pow_le_pow_right (by omega) (by omega)
      omega
    by_cases hlt : k < s.length
    · have hL := octC_iff s[k]
      have hb := u8_lt s[k]
      cases hok : octC s[k]
      · have HA := Lib.hid (show octsB s = false by
          unfold octsB
          rw [List.all_eq_false]; exact ⟨s[k], List.getElem_mem hlt, by simp [hok]⟩)
        have hn : ¬ (48 ≤ (s[k].toNat : Int) ∧ (s[k].toNat : Int) ≤ 55) := fun h => by rw [hL.2 h] at hok; cases hok
        clear hok hL hall
        go_wp2
        all_goals first
          | (go_ret; exact ⟨⟨_, rfl, by rw [HA.out]; simp⟩, rfl⟩)
          | (exfalso; simp only [Bool.not_eq_true', Bool.not_eq_false', bne_iff_ne, bne_eq_false_iff_eq, beq_iff_eq, beq_eq_false_iff_ne, decide_eq_true_eq, decide_eq_false_iff_not, ne_eq] at *; omega)
      · have HA := Lib.hid (show (s.take (k + 1)).all octC = true by rw [all_snoc _ _ _ hlt, hall.out, hok]; rfl)
        obtain ⟨n1, n2⟩ := hL.1 hok
        have hp : m * 8 + (s[k].toNat - 48) + 1 ≤ 8 ^ (k + 1) := by rw [Nat.pow_succ]; omega
        clear hok hL hall
        go_wp2
        all_goals first
          | (go_round; (case rel => exact ⟨k + 1, m * 8 + (s[k].toNat - 48), by omega, by go_num, by go_num, hp, HA⟩); (case measure => simp [intOf]; omega))
          | (exfalso; simp only [Bool.not_eq_true', Bool.not_eq_false', bne_iff_ne, bne_eq_false_iff_eq, beq_iff_eq, beq_eq_false_iff_ne, decide_eq_true_eq, decide_eq_false_iff_not, ne_eq] at *; omega)
    · have HA := Lib.hid (show octsB s = true by
        unfold octsB
        have := hall.out
        rwa [List.take_of_length_le (by omega)] at this)
      clear hall
      go_wp2
      go_ret
      exact ⟨⟨_, rfl, by rw [HA.out]; simp⟩, rfl⟩
theorem modeR_any (s : List UInt8) (w : World) (hl : s.length ≤ 1000000) :
    Calls Tryz.prog 27 #[.string (S s)] w fun e w' => (∃ m : Int, e = .returned (.int .i64 m) ∧ (0 ≤ m ↔ modeB s = true)) ∧ w = w' := by
  by_cases hs : s.length = 3
  · have HM := Lib.hid (show modeB s = octsB s by simp [modeB, octsB, hs])
    have hs' : ((s.length : Int) != 3) = false := by rw [hs]; rfl
    have HN := Lib.hid (numberR_any s w hs)
    clear hs
    go_enter Tryz.func27, Tryz.ntmps27
    go_wp2_with (go_at_call 47; refine HN.out.mono ?_; rintro e w' ⟨⟨m, rfl, hm⟩, rfl⟩; have HH := Lib.hid hm; clear hm)
    go_ret
    exact ⟨⟨m, rfl, by rw [HM.out]; exact HH.out⟩, rfl⟩
  · have HM := Lib.hid (show modeB s = false by simp [modeB, hs])
    have hs' : ((s.length : Int) != 3) = true := by rw [bne_iff_ne]; omega
    clear hs
    go_enter Tryz.func27, Tryz.ntmps27
    go_wp2
    go_ret
    exact ⟨⟨-1, rfl, by rw [HM.out]; simp⟩, rfl⟩

theorem atms_get : ∀ (l : List Atm) (k : Nat) (h : k < l.length), (∀ c, l[k] = .ch c → (atms l)[k * 3]? = some (.int .u8 c.toNat) ∧ (atms l)[k * 3 + 1]? = some (.string (S [])) ∧ (atms l)[k * 3 + 2]? = some (.int .i64 0)) ∧
    (∀ x p, l[k] = .var x p → (atms l)[k * 3]? = some (.int .u8 0) ∧ (atms l)[k * 3 + 1]? = some (.string (S x)) ∧ (atms l)[k * 3 + 2]? = some (.int .i64 p))
  | y :: r, 0, _ => by
    refine ⟨?_, ?_⟩
    · rintro c h; simp at h; subst h; exact ⟨rfl, rfl, rfl⟩
    · rintro x p h; simp at h; subst h; exact ⟨rfl, rfl, rfl⟩
  | y :: r, k + 1, h => by
    have := atms_get r k (by simpa using h)
    have e : ∀ j, (atms (y :: r))[(k + 1) * 3 + j]? = (atms r)[k * 3 + j]? := by
      intro j
      rw [atms, List.getElem?_append_right (by cases y <;> simp [Atm.cells] <;> omega)]
      congr 1
      cases y <;> simp [Atm.cells] <;> omega
    have e0 := e 0
    simp only [Nat.add_zero] at e0
    simp only [List.getElem_cons_succ, e, e0]
    exact this
theorem plainA_drop_ch {l : List Atm} {k : Nat} (h : k < l.length) {c : UInt8} (e : l[k] = .ch c) (b : List UInt8) : plainA (l.drop k) b = plainA (l.drop (k + 1)) (b ++ [c]) := by
  rw [List.drop_eq_getElem_cons h, e, plainA]
theorem plainA_drop_var {l : List Atm} {k : Nat} (h : k < l.length) {x : List UInt8} {p : Nat} (e : l[k] = .var x p) (b : List UInt8) : plainA (l.drop k) b = ([], false) := by
  rw [List.drop_eq_getElem_cons h, e, plainA]
/-- bytes, cell by cell -/
def bcs (b : List UInt8) : List Value := b.map fun c => .int .u8 c.toNat

set_option maxRecDepth 100000 in
set_option maxHeartbeats 2000000 in
theorem plainR_any (x : WordG) (ao : Option Addr) (c : Nat) (w : World) (hg : GoodA x.l) (hl : x.l.length ≤ 1000000)
    (hx : w.ownsRow 0 75 3 (.slice ao x.l.length c) x.l.length (atms x.l)) :
    Calls Tryz.prog 11 #[.agg #[.slice ao x.l.length c, .int .i64 x.at_]] w fun e w' => e = .returned (.tuple #[.string (S x.text), .bool x.flat]) ∧ Below w.heap.size w w' := by
  obtain ⟨i0, hi0, hz0, hz1, hz2⟩ := info_parts (show (Tryz.prog.info? 5).map (fun i => (i.zero, i.size, i.bytes)) = some (some (.int .u8 0), 1, 1) by kernel_rfl)
  obtain ⟨l, at_⟩ := x
  simp only at hg hl hx ⊢
  have hrd : Rd w ao (atms l) := by
    obtain ⟨A, cap, e, _, _, h⟩ := Rd.of_own hx
    cases e; exact h
  clear hx
  go_enter Tryz.func11, Tryz.ntmps11
  go_wp2
  have P := Lib.hid (Blk2.new w (.slice ao l.length c) (.int .i64 at_) 46)
  have hbw : Below w.heap.size w (w.alloc (.cells #[.slice ao l.length c, .int .i64 at_] 46)) := (Below.refl _ _).alloc (Nat.le_refl _) _
  have hsz : (w.alloc (.cells #[.slice ao l.length c, .int .i64 at_] 46)).heap.size = w.heap.size + 1 := by simp
  generalize hW : w.alloc (.cells #[.slice ao l.length c, .int .i64 at_] 46) = w1 at *
  clear hW
  go_loopw [4, 5] (fun v i wr => ∃ (b : List UInt8) (bo : Option Addr) (bc : Nat), i = .int .i64 b.length ∧ v = .slice bo b.length bc ∧ b.length ≤ l.length ∧ Hid (plainA l [] = plainA (l.drop b.length) b) ∧
      wr.ownsRow (w.heap.size + 1) 5 1 (.slice bo b.length bc) b.length (bcs b) ∧ Hid (Blk2 wr w.heap.size (.slice ao l.length c) (.int .i64 at_)) ∧ Below w.heap.size w wr ∧ w.heap.size + 1 ≤ wr.heap.size) (fun _ i _ => l.length - (intOf i).toNat)
  case atStart => exact ⟨[], none, 0, by go_num, rfl, by simp, rfl, World.ownsRow_nil _ _ _ _, P, hbw, by omega⟩
  case round =>
    obtain ⟨b, bo, bc, rfl, rfl, hk, HQ, hown, PI, hbel, hszr⟩ := hrel
    clear P
    obtain ⟨c1, c2, c3, c4⟩ := PI.out.facts
    obtain ⟨k, hkk⟩ : ∃ k, k = b.length := ⟨_, rfl⟩
    by_cases hlt : b.length < l.length
    · obtain ⟨bb, o, rfl, hb, hc⟩ := (hrd.below hbel).at (b.length * 3) (by rw [atms_len]; omega)
      obtain ⟨ha1, ha2⟩ := atms_get l b.length hlt
      cases hat : l[b.length] with
      | var y p =>
        obtain ⟨h1, h2, h3⟩ := ha2 y p hat
        have HG := Lib.hid (hg y p (by rw [← hat]; exact List.getElem_mem hlt)).1
        have hne : (y == []) = false := by have := HG.out; cases y <;> simp_all
        have Y := Lib.hid (show plainA l [] = ([], false) by rw [HQ.out]; exact plainA_drop_var hlt hat b)
        have m1 : wr.cell? ⟨bb, o + b.length * 3, none⟩ = some (.int .u8 0) := hc _ _ h1
        have m2 : wr.cell? ⟨bb, o + b.length * 3 + 1, none⟩ = some (.string (S y)) := hc _ _ h2
        clear ha1 ha2 hat h1 h2 h3 hc HQ hkk
        go_wp2
        go_returns
        refine ⟨?_, hbel⟩
        show _ = Ending.returned (.tuple #[.string (S (plainA l []).1), .bool (plainA l []).2])
        rw [Y.out]; rfl
      | ch y =>
        obtain ⟨h1, h2, h3⟩ := ha1 y hat
        have Y := Lib.hid (show plainA l [] = plainA (l.drop (b ++ [y]).length) (b ++ [y]) by rw [HQ.out, List.length_append]; exact plainA_drop_ch hlt hat b)
        have m1 : wr.cell? ⟨bb, o + b.length * 3, none⟩ = some (.int .u8 y.toNat) := hc _ _ h1
        have m2 : wr.cell? ⟨bb, o + b.length * 3 + 1, none⟩ = some (.string (S [])) := hc _ _ h2
        clear ha1 ha2 hat h1 h2 h3 hc HQ hkk
        go_wp2_with (at_builtin; refine wpList_append_own _ rfl _ _ 73 rfl (w.heap.size + 1) 5 i0 (.int .u8 0) 1 1 Tryz.underlying73 hi0 hz0 hz1 hz2 rfl (by decide) _ _ _ rfl (hown.alloc _) ⟨_, 0, none⟩ 1 1 [.int .u8 y.toNat] rfl rfl (cell_one_new _ _ _) (by simp [Value.oneCell']) (by unfold maxLen; omega) (by omega) (by simp; omega) ?_; intro v' w2 hown2 hgr2 _; obtain ⟨ao', c', rfl⟩ := ownsRow_form hown2)
        have PW := Lib.hid ((PI.out.alloc (.cells #[.int .u8 y.toNat] 5)).grown hgr2 (own_ne hown (by omega)))
        have hown3 : w2.ownsRow (w.heap.size + 1) 5 1 (.slice ao' (b ++ [y]).length c') (b ++ [y]).length (bcs (b ++ [y])) := by
          rw [List.length_append]; simpa [bcs] using hown2
        have hbel3 : Below w.heap.size w w2 := (hbel.alloc (by omega) _).grown hgr2 (by simp; omega) (fun z hz => by have := own_le hown z hz; omega)
        have hs3 := hgr2.size
        simp only [World.size_alloc] at hs3
        clear hown2 hgr2 hown
        go_wp2
        go_roundw
        case rel => exact ⟨b ++ [y], ao', c', by simp, by simp, by simp; omega, Y, hown3, PW, hbel3, by omega⟩
        case measure => simp [intOf]; omega
    · have hkl : b.length = l.length := by omega
      have Y := Lib.hid (show plainA l [] = (b, true) by rw [HQ.out, hkl, List.drop_length, plainA])
      have hcv : (convert 73 9 (.slice bo b.length bc)).run Tryz.prog wr = .ok (.string (S b)) wr := by
        rcases hown.2 with ⟨h1, h0⟩ | ⟨g, cap, cur, h1, -⟩
        · simp only [Value.slice.injEq] at h1
          obtain ⟨rfl, _, rfl⟩ := h1
          obtain rfl : b = [] := List.eq_nil_of_length_eq_zero h0
          exact run_convert_bytes_nil wr 73 5 Tryz.underlying73 Tryz.underlying5 0 0 _ Tryz.underlying9
        · simp only [Value.slice.injEq] at h1
          obtain ⟨rfl, _, rfl⟩ := h1
          exact run_convert_bytes_back (P := Tryz.prog) wr 73 9 5 ⟨g, 0, none⟩ bc b Tryz.underlying73 Tryz.underlying5 Tryz.underlying9 (fun j hj => hown.cells (g := g) rfl j _ (by simp [bcs, hj]))
      clear HQ hkk hkl
      go_wp2
      go_returns
      refine ⟨?_, hbel⟩
      show _ = Ending.returned (.tuple #[.string (S (plainA l []).1), .bool (plainA l []).2])
      rw [Y.out]; rfl
end Go.Proofs.YtflggoddfjmljaaGreatDoor
namespace Go.Proofs.YtflggoddfjmljaaGreatDoor
open Go.RowKit

/-- what 'unset' answers -/
def unsetV (vars : List (List UInt8)) (ws : List WordG) : Int := match unsetB vars ws with | some p => (p : Int) | none => -1
theorem unsetB_drop {vars : List (List UInt8)} {ws : List WordG} {i : Nat} (h : i < ws.length) : unsetB vars (ws.drop i) = (match unsetA vars ws[i].l with | some p => some p | none => unsetB vars (ws.drop (i + 1))) := by
  rw [List.drop_eq_getElem_cons h, unsetB]
  cases unsetA vars ws[i].l <;> rfl
theorem unsetA_ch {vars : List (List UInt8)} {l : List Atm} {k : Nat} (h : k < l.length) {c : UInt8} (e : l[k] = .ch c) : unsetA vars (l.drop k) = unsetA vars (l.drop (k + 1)) := by
  rw [List.drop_eq_getElem_cons h, e, unsetA]
theorem unsetA_var {vars : List (List UInt8)} {l : List Atm} {k : Nat} (h : k < l.length) {x : List UInt8} {p : Nat} (e : l[k] = .var x p) : unsetA vars (l.drop k) = if x ∈ vars then unsetA vars (l.drop (k + 1)) else some p := by
  rw [List.drop_eq_getElem_cons h, e, unsetA]
/-- what is still to come: of a word, then of those behind it -/
def restU (vars : List (List UInt8)) (ws : List WordG) (i : Nat) (l : List Atm) : Option Nat := match unsetA vars l with | some p => some p | none => unsetB vars (ws.drop (i + 1))

set_option maxRecDepth 100000 in
set_option maxHeartbeats 4000000 in
theorem unsetR_any (ws : List WordG) (vars : List (List UInt8)) (A B : Option Addr) (c d : Nat) (cs : List Value) (w : World) (hl : ws.length ≤ 1000000) (hv : vars.length ≤ 1000000) (hg : ∀ x ∈ ws, GoodA x.l ∧ x.l.length ≤ 1000000)
    (hrd : Rd w A cs) (hwc : WordCells w ws cs) (hrv : Rd w B (strs vars)) :
    Calls Tryz.prog 29 #[.slice A ws.length c, .slice B vars.length d] w fun e w' => e = .returned (.int .i64 (unsetV vars ws)) ∧ Below w.heap.size w w' := by
  go_enter Tryz.func29, Tryz.ntmps29
  go_wp2
  go_loopw [5] (fun x wr => ∃ i : Nat, x = .int .i64 i ∧ i ≤ ws.length ∧ Hid (unsetB vars ws = unsetB vars (ws.drop i)) ∧ Below w.heap.size w wr) (fun x _ => ws.length - (intOf x).toNat)
  case atStart => exact ⟨0, by go_num, by omega, rfl, Below.refl _ _⟩
  case round =>
    obtain ⟨i, rfl, hi, HQ, hbel⟩ := hrel
    by_cases hlt : i < ws.length
    · obtain ⟨b, o, rfl, hb, hc⟩ := hrd.at (i * 2) (by rw [hwc.len]; omega)
      obtain ⟨ao, ac, h1, h2, h3⟩ := hwc.get i hlt
      have hrA : Rd w ao (atms ws[i].l) := by
        obtain ⟨A, cap, e, _, _, h⟩ := Rd.of_own h3
        cases e; exact h
      obtain ⟨hgi, hli⟩ := hg ws[i] (List.getElem_mem hlt)
      replace hgi := Lib.hid hgi
      have m0 : w.cell? ⟨b, o + i * 2, none⟩ = some (.slice ao ws[i].l.length ac) := hc _ _ h1
      have HQ' := Lib.hid (show unsetB vars ws = restU vars ws i (ws[i].l.drop 0) by rw [HQ.out, unsetB_drop hlt]; rfl)
      have HB := Lib.hid hrd
      clear h1 h2 h3 hc HQ hrd hwc
      obtain ⟨l, hL⟩ : ∃ l, l = ws[i].l := ⟨_, rfl⟩
      rw [← hL] at hrA hgi hli m0 HQ'
      clear hL
      go_wp2
      go_loopw [6] (fun x wx => ∃ k : Nat, x = .int .i64 k ∧ k ≤ l.length ∧ Hid (unsetB vars ws = restU vars ws i (l.drop k)) ∧ Below w.heap.size w wx) (fun x _ => l.length - (intOf x).toNat)
      case atStart => exact ⟨0, by go_num, by omega, HQ', hbel⟩
      case round =>
        obtain ⟨k, rfl, hk, HK, hbex⟩ := hrel
        have m1 : wr.cell? ⟨b, o + i * 2, none⟩ = some (.slice ao l.length ac) := (hbex.cell (p := ⟨b, o + i * 2, none⟩) hb).trans m0
        by_cases hkl : k < l.length
        · obtain ⟨b2, o2, rfl, hb2, hc⟩ := hrA.at (k * 3) (by rw [atms_len]; omega)
          obtain ⟨ha1, ha2⟩ := atms_get l k hkl
          have HH := Lib.hid hrv
          cases hat : l[k] with
          | ch y =>
            obtain ⟨h1, h2, h3⟩ := ha1 y hat
            have n1 : wr.cell? ⟨b2, o2 + k * 3, none⟩ = some (.int .u8 y.toNat) := (hbex.cell (p := ⟨b2, o2 + k * 3, none⟩) hb2).trans (hc _ _ h1)
            have n2 : wr.cell? ⟨b2, o2 + k * 3 + 1, none⟩ = some (.string (S [])) := (hbex.cell (p := ⟨b2, o2 + k * 3 + 1, none⟩) hb2).trans (hc _ _ h2)
            have n3 : wr.cell? ⟨b2, o2 + k * 3 + 2, none⟩ = some (.int .i64 0) := (hbex.cell (p := ⟨b2, o2 + k * 3 + 2, none⟩) hb2).trans (hc _ _ h3)
            have Y := Lib.hid (show unsetB vars ws = restU vars ws i (l.drop (k + 1)) by rw [HK.out]; unfold restU; rw [unsetA_ch hkl hat])
            have hbz := hbex.size
            clear ha1 ha2 hat h1 h2 h3 hc HK m0 hrv
            go_wp2_with (go_at_call 49; refine (hasR_any vars [] B d _ hv (HH.out.below (hbex.alloc (by omega) _))).mono ?_; rintro e9 w9 ⟨rfl, rfl⟩)
            go_roundw
            case rel => exact ⟨k + 1, by go_num, by omega, Y, hbex.alloc (by omega) _⟩
            case measure => simp [intOf]; omega
          | var y p =>
            obtain ⟨h1, h2, h3⟩ := ha2 y p hat
            have n1 : wr.cell? ⟨b2, o2 + k * 3, none⟩ = some (.int .u8 0) := (hbex.cell (p := ⟨b2, o2 + k * 3, none⟩) hb2).trans (hc _ _ h1)
            have n2 : wr.cell? ⟨b2, o2 + k * 3 + 1, none⟩ = some (.string (S y)) := (hbex.cell (p := ⟨b2, o2 + k * 3 + 1, none⟩) hb2).trans (hc _ _ h2)
            have n3 : wr.cell? ⟨b2, o2 + k * 3 + 2, none⟩ = some (.int .i64 p) := (hbex.cell (p := ⟨b2, o2 + k * 3 + 2, none⟩) hb2).trans (hc _ _ h3)
            have hne : (y == []) = false := by
              have := (hgi.out y p (by rw [← hat]; exact List.getElem_mem hkl)).1
              cases y <;> simp_all
            have hbz := hbex.size
            by_cases hm : y ∈ vars
            · have Y := Lib.hid (show unsetB vars ws = restU vars ws i (l.drop (k + 1)) by rw [HK.out]; unfold restU; rw [unsetA_var hkl hat, if_pos hm])
              have HM := Lib.hid (show decide (y ∈ vars) = true by simpa using hm)
              clear ha1 ha2 hat h1 h2 h3 hc HK m0 hrv hm
              go_wp2_with (go_at_call 49; refine (hasR_any vars y B d _ hv (HH.out.below (hbex.alloc (by omega) _))).mono ?_; rintro e9 w9 ⟨rfl, rfl⟩; rw [HM.out])
              go_roundw
              case rel => exact ⟨k + 1, by go_num, by omega, Y, hbex.alloc (by omega) _⟩
              case measure => simp [intOf]; omega
            · have Y := Lib.hid (show unsetV vars ws = p by unfold unsetV; rw [HK.out]; unfold restU; rw [unsetA_var hkl hat, if_neg hm])
              have HM := Lib.hid (show decide (y ∈ vars) = false by simpa using hm)
              clear ha1 ha2 hat h1 h2 h3 hc HK m0 hrv hm
              go_wp2_with (go_at_call 49; refine (hasR_any vars y B d _ hv (HH.out.below (hbex.alloc (by omega) _))).mono ?_; rintro e9 w9 ⟨rfl, rfl⟩; rw [HM.out])
              go_ret
              exact ⟨ret_int (by rw [Y.out]), hbex.alloc (by omega) _⟩
        · have Y := Lib.hid (show unsetB vars ws = unsetB vars (ws.drop (i + 1)) by
            rw [HK.out, List.drop_of_length_le (by omega)]; rfl)
          clear HK m0
          go_wp2
          go_roundw
          case rel => exact ⟨i + 1, by go_num, by omega, Y, hbex⟩
          case measure => simp [intOf]; omega
    · have Y := Lib.hid (show unsetV vars ws = -1 by
        unfold unsetV
        rw [HQ.out, List.drop_of_length_le (by omega), unsetB])
      clear HQ
      go_wp2
      go_ret
      exact ⟨ret_int (by rw [Y.out]), hbel⟩
end Go.Proofs.YtflggoddfjmljaaGreatDoor
namespace Go.Proofs.YtflggoddfjmljaaGreatDoor
open Go.RowKit

abbrev tStage : TypeId := 56
abbrev tStep : TypeId := 58
abbrev tWord : TypeId := 46
abbrev tAtom : TypeId := 75
abbrev tText : TypeId := 9
abbrev tFault : TypeId := 27

/-- a row of a type that is read, from a place in a block on -/
def RdT (T : TypeId) (w : World) (A : Option Addr) (cs : List Value) : Prop :=
  cs = [] ∨ ∃ (b o : Nat) (cur : Array Value), A = some ⟨b, o, none⟩ ∧ w.heap[b]? = some (Obj.cells cur T (0, 0)) ∧ ∀ (i : Nat) (u : Value), cs[i]? = some u → cur[o + i]? = some u
theorem RdT.rd {T : TypeId} {w : World} {A : Option Addr} {cs : List Value} (h : RdT T w A cs) : Rd w A cs := by
  rcases h with rfl | ⟨b, o, cur, rfl, hh, hc⟩
  · exact .inl rfl
  · refine .inr ⟨b, o, rfl, fun i u hu => ?_⟩
    rw [cell_of_row w b (o + i) cur T (0, 0) hh]; exact hc i u hu
theorem RdT.keep {T : TypeId} {w w' : World} {A : Option Addr} {cs : List Value} (h : RdT T w A cs) (hk : KeepT T w w') : RdT T w' A cs := by
  rcases h with rfl | ⟨b, o, cur, rfl, hh, hc⟩
  · exact .inl rfl
  · exact .inr ⟨b, o, cur, rfl, hk b cur hh, hc⟩
theorem RdT.of_own {T : TypeId} {w : World} {base size n c : Nat} {ao : Option Addr} {xs : List Value} (h : w.ownsRow base T size (.slice ao n c) n xs) : RdT T w ao xs := by
  obtain ⟨h1, h2⟩ := h
  rcases h2 with ⟨e, rfl⟩ | ⟨g, cap, cur, e, hg, hh, hn, hm, r1, r2⟩
  · refine .inl ?_
    simpa using h1
  · simp only [Value.slice.injEq] at e
    obtain ⟨rfl, -, rfl⟩ := e
    refine .inr ⟨g, 0, cur, rfl, hh, fun i u hu => ?_⟩
    have hi := (List.getElem?_eq_some_iff.1 hu).1
    rw [← r2, List.getElem?_take] at hu
    rw [Nat.zero_add]
    split at hu
    · simpa using hu
    · cases hu
theorem RdT.drop {T : TypeId} {w : World} {b o : Nat} {cs : List Value} (h : RdT T w (some ⟨b, o, none⟩) cs) (m : Nat) : RdT T w (some ⟨b, o + m, none⟩) (cs.drop m) := by
  rcases h with rfl | ⟨b', o', cur, e, hh, hc⟩
  · exact .inl (by simp)
  · simp only [Option.some.injEq, Addr.mk.injEq] at e
    obtain ⟨rfl, rfl, -⟩ := e
    refine .inr ⟨b, o + m, cur, rfl, hh, fun i u hu => ?_⟩
    rw [List.getElem?_drop] at hu
    rw [Nat.add_assoc]; exact hc _ _ hu

/-- words that are read -/
def WordsR (w : World) (A : Option Addr) (ws : List WordG) : Prop := ∃ cs, RdT tWord w A cs ∧ WordCells w ws cs
theorem WordsR.keep {w w' : World} {A : Option Addr} {ws : List WordG} (h : WordsR w A ws) (h1 : KeepT tWord w w') (h2 : KeepT tAtom w w') : WordsR w' A ws := by
  obtain ⟨cs, a, b⟩ := h
  exact ⟨cs, a.keep h1, b.keep h2⟩
theorem WordsR.drop {w : World} {b o : Nat} {ws : List WordG} (h : WordsR w (some ⟨b, o, none⟩) ws) (k : Nat) : WordsR w (some ⟨b, o + k * 2, none⟩) (ws.drop k) := by
  obtain ⟨cs, h1, h2⟩ := h
  exact ⟨_, h1.drop (k * 2), h2.drop k⟩

/-- steps, cell by cell -/
def StepCells (w : World) : List StepG → List Value → Prop
  | [], cs => cs = []
  | x :: r, cs => ∃ A c rest, cs = .string (S x.op) :: .slice A x.words.length c :: .int .i64 x.stage :: .int .i64 x.at_ :: rest ∧ WordsR w A x.words ∧ StepCells w r rest
theorem StepCells.len {w : World} : ∀ {l : List StepG} {cs : List Value}, StepCells w l cs → cs.length = l.length * 4
  | [], cs, h => by simp [StepCells] at h; simp [h]
  | x :: r, cs, h => by
    obtain ⟨A, c, rest, rfl, _, hr⟩ := h
    have := hr.len
    simp [this]; omega
theorem StepCells.keep {w w' : World} (h1 : KeepT tWord w w') (h2 : KeepT tAtom w w') : ∀ {l : List StepG} {cs : List Value}, StepCells w l cs → StepCells w' l cs
  | [], cs, h => h
  | x :: r, cs, h => by
    obtain ⟨A, c, rest, rfl, ha, hr⟩ := h
    exact ⟨A, c, rest, rfl, ha.keep h1 h2, hr.keep h1 h2⟩
theorem StepCells.app {w : World} {y : StepG} {A : Option Addr} {c : Nat} (hy : WordsR w A y.words) : ∀ {l : List StepG} {cs : List Value}, StepCells w l cs → StepCells w (l ++ [y]) (cs ++ [.string (S y.op), .slice A y.words.length c, .int .i64 y.stage, .int .i64 y.at_])
  | [], cs, h => by simp [StepCells] at h; subst h; exact ⟨A, c, [], rfl, hy, rfl⟩
  | x :: r, cs, h => by
    obtain ⟨A', c', rest, rfl, ha, hr⟩ := h
    exact ⟨A', c', _, rfl, ha, hr.app hy⟩
theorem StepCells.get {w : World} : ∀ {l : List StepG} {cs : List Value}, StepCells w l cs → ∀ k (h : k < l.length), ∃ A c, cs[k * 4]? = some (.string (S l[k].op)) ∧ cs[k * 4 + 1]? = some (.slice A l[k].words.length c) ∧ cs[k * 4 + 2]? = some (.int .i64 l[k].stage) ∧ cs[k * 4 + 3]? = some (.int .i64 l[k].at_) ∧ WordsR w A l[k].words
  | x :: r, cs, h, 0, _ => by
    obtain ⟨A, c, rest, rfl, ha, hr⟩ := h
    exact ⟨A, c, rfl, rfl, rfl, rfl, ha⟩
  | x :: r, cs, h, k + 1, hk => by
    obtain ⟨A, c, rest, rfl, ha, hr⟩ := h
    obtain ⟨A', c', h1, h2, h3, h4, h5⟩ := hr.get k (by simpa using hk)
    refine ⟨A', c', ?_, ?_, ?_, ?_, h5⟩
    · rw [show (k + 1) * 4 = k * 4 + 1 + 1 + 1 + 1 by omega]; simpa using h1
    · rw [show (k + 1) * 4 + 1 = k * 4 + 1 + 1 + 1 + 1 + 1 by omega]; simpa using h2
    · rw [show (k + 1) * 4 + 2 = k * 4 + 2 + 1 + 1 + 1 + 1 by omega]; simpa using h3
    · rw [show (k + 1) * 4 + 3 = k * 4 + 3 + 1 + 1 + 1 + 1 by omega]; simpa using h4

/-- a stage's two rows: their blocks from lo on, before hi -/
structure StageAt (lo hi : Nat) (w : World) (x : StageG) (sv vv : Value) : Prop where
  steps : ∃ scs, w.ownsRow lo tStep 4 sv x.steps.length scs ∧ StepCells w x.steps scs
  vars : w.ownsRow lo tText 1 vv x.vars.length (strs x.vars)
  shi : ∀ g, sv.ownBlock = some g → g < hi
  vhi : ∀ g, vv.ownBlock = some g → g < hi
theorem StageAt.mono {lo hi lo' hi' : Nat} {w : World} {x : StageG} {sv vv : Value} (h : StageAt lo hi w x sv vv) (h1 : lo' ≤ lo) (h2 : hi ≤ hi') : StageAt lo' hi' w x sv vv := by
  obtain ⟨scs, a, b⟩ := h.steps
  exact ⟨⟨scs, ownsRow_base a h1, b⟩, ownsRow_base h.vars h1, fun g e => Nat.lt_of_lt_of_le (h.shi g e) h2, fun g e => Nat.lt_of_lt_of_le (h.vhi g e) h2⟩
/-- what is below hi stays, words and atoms stay: so does the stage -/
theorem StageAt.stays {lo hi : Nat} {w w' : World} {x : StageG} {sv vv : Value} (h : StageAt lo hi w x sv vv) (h1 : KeepT tWord w w') (h2 : KeepT tAtom w w')
    (hs : ∀ g cur, g < hi → w.heap[g]? = some (Obj.cells cur tStep (0, 0)) → w'.heap[g]? = some (Obj.cells cur tStep (0, 0)))
    (hv : ∀ g cur, g < hi → w.heap[g]? = some (Obj.cells cur tText (0, 0)) → w'.heap[g]? = some (Obj.cells cur tText (0, 0))) : StageAt lo hi w' x sv vv := by
  obtain ⟨⟨scs, ⟨a1, a2⟩, b⟩, ⟨v1, v2⟩, c, d⟩ := h
  refine ⟨⟨scs, ⟨a1, ?_⟩, b.keep h1 h2⟩, ⟨v1, ?_⟩, c, d⟩
  · rcases a2 with a2 | ⟨g, cap, cur, rfl, hg, hh, r⟩
    · exact .inl a2
    · exact .inr ⟨g, cap, cur, rfl, hg, hs g cur (c g rfl) hh, r⟩
  · rcases v2 with v2 | ⟨g, cap, cur, rfl, hg, hh, r⟩
    · exact .inl v2
    · exact .inr ⟨g, cap, cur, rfl, hg, hv g cur (d g rfl) hh, r⟩

/-- stages, cell by cell -/
def StageCells (lo hi : Nat) (w : World) : List StageG → List Value → Prop
  | [], cs => cs = []
  | x :: r, cs => ∃ sv vv rest, cs = .string (S x.name) :: .int .i64 x.base :: sv :: vv :: rest ∧ StageAt lo hi w x sv vv ∧ StageCells lo hi w r rest
theorem StageCells.len {lo hi : Nat} {w : World} : ∀ {l : List StageG} {cs : List Value}, StageCells lo hi w l cs → cs.length = l.length * 4
  | [], cs, h => by simp [StageCells] at h; simp [h]
  | x :: r, cs, h => by
    obtain ⟨sv, vv, rest, rfl, _, hr⟩ := h
    have := hr.len
    simp [this]; omega
theorem StageCells.mono {lo hi lo' hi' : Nat} {w : World} (h1 : lo' ≤ lo) (h2 : hi ≤ hi') : ∀ {l : List StageG} {cs : List Value}, StageCells lo hi w l cs → StageCells lo' hi' w l cs
  | [], cs, h => h
  | x :: r, cs, h => by
    obtain ⟨sv, vv, rest, rfl, ha, hr⟩ := h
    exact ⟨sv, vv, rest, rfl, ha.mono h1 h2, hr.mono h1 h2⟩
theorem StageCells.stays {lo hi : Nat} {w w' : World} (h1 : KeepT tWord w w') (h2 : KeepT tAtom w w')
    (hs : ∀ g cur, g < hi → w.heap[g]? = some (Obj.cells cur tStep (0, 0)) → w'.heap[g]? = some (Obj.cells cur tStep (0, 0)))
    (hv : ∀ g cur, g < hi → w.heap[g]? = some (Obj.cells cur tText (0, 0)) → w'.heap[g]? = some (Obj.cells cur tText (0, 0))) : ∀ {l : List StageG} {cs : List Value}, StageCells lo hi w l cs → StageCells lo hi w' l cs
  | [], cs, h => h
  | x :: r, cs, h => by
    obtain ⟨sv, vv, rest, rfl, ha, hr⟩ := h
    exact ⟨sv, vv, rest, rfl, ha.stays h1 h2 hs hv, hr.stays h1 h2 hs hv⟩
theorem StageCells.app {lo hi : Nat} {w : World} : ∀ {l m : List StageG} {cs ds : List Value}, StageCells lo hi w l cs → StageCells lo hi w m ds → StageCells lo hi w (l ++ m) (cs ++ ds)
  | [], m, cs, ds, h, k => by simp [StageCells] at h; subst h; exact k
  | x :: r, m, cs, ds, h, k => by
    obtain ⟨sv, vv, rest, rfl, ha, hr⟩ := h
    exact ⟨sv, vv, rest ++ ds, rfl, ha, hr.app k⟩
theorem StageCells.get {lo hi : Nat} {w : World} : ∀ {l : List StageG} {cs : List Value}, StageCells lo hi w l cs → ∀ k (h : k < l.length), ∃ sv vv, cs[k * 4]? = some (.string (S l[k].name)) ∧ cs[k * 4 + 1]? = some (.int .i64 l[k].base) ∧ cs[k * 4 + 2]? = some sv ∧ cs[k * 4 + 3]? = some vv ∧ StageAt lo hi w l[k] sv vv
  | x :: r, cs, h, 0, _ => by
    obtain ⟨sv, vv, rest, rfl, ha, hr⟩ := h
    exact ⟨sv, vv, rfl, rfl, rfl, rfl, ha⟩
  | x :: r, cs, h, k + 1, hk => by
    obtain ⟨sv, vv, rest, rfl, ha, hr⟩ := h
    obtain ⟨sv', vv', h1, h2, h3, h4, h5⟩ := hr.get k (by simpa using hk)
    refine ⟨sv', vv', ?_, ?_, ?_, ?_, h5⟩
    · rw [show (k + 1) * 4 = k * 4 + 1 + 1 + 1 + 1 by omega]; simpa using h1
    · rw [show (k + 1) * 4 + 1 = k * 4 + 1 + 1 + 1 + 1 + 1 by omega]; simpa using h2
    · rw [show (k + 1) * 4 + 2 = k * 4 + 2 + 1 + 1 + 1 + 1 by omega]; simpa using h3
    · rw [show (k + 1) * 4 + 3 = k * 4 + 3 + 1 + 1 + 1 + 1 by omega]; simpa using h4

/-- the stages: all but the last lie below H, the last from H on -/
structure StagesR (B : Nat) (w : World) (l : List StageG) (ao : Option Addr) (c : Nat) : Prop where
  lies : ∃ (H : Nat) (init last : List StageG) (cs0 cs1 : List Value), l = init ++ last ∧ last.length ≤ 1 ∧ (last = [] → init = []) ∧ H ≤ w.heap.size ∧ B ≤ H ∧
    w.ownsRow B tStage 4 (.slice ao l.length c) l.length (cs0 ++ cs1) ∧ StageCells B H w init cs0 ∧ StageCells H w.heap.size w last cs1
theorem StagesR.nil (B : Nat) (w : World) (h : B ≤ w.heap.size) : StagesR B w [] none 0 :=
  ⟨B, [], [], [], [], rfl, by simp, by simp, h, Nat.le_refl _, World.ownsRow_nil _ _ _ _, rfl, rfl⟩
theorem StagesR.all {B : Nat} {w : World} {l : List StageG} {ao : Option Addr} {c : Nat} (h : StagesR B w l ao c) : ∃ cs, w.ownsRow B tStage 4 (.slice ao l.length c) l.length cs ∧ StageCells B w.heap.size w l cs := by
  obtain ⟨H, init, last, cs0, cs1, rfl, h1, h2, h3, h4, h5, h6, h7⟩ := h.lies
  exact ⟨_, h5, (h6.mono (Nat.le_refl _) h3).app (h7.mono h4 (Nat.le_refl _))⟩
/-- nothing of what there is turns: the stages stay -/
theorem StagesR.after {B : Nat} {w w' : World} {l : List StageG} {ao : Option Addr} {c : Nat} (h : StagesR B w l ao c) (hb : Below w.heap.size w w') : StagesR B w' l ao c := by
  obtain ⟨H, init, last, cs0, cs1, rfl, h1, h2, h3, h4, h5, h6, h7⟩ := h.lies
  have hT : ∀ T, KeepT T w w' := fun T => KeepT.below hb
  refine ⟨H, init, last, cs0, cs1, rfl, h1, h2, Nat.le_trans h3 hb.size, h4, ownsRow_keep h5 (hT _), ?_, ?_⟩
  · exact h6.stays (hT _) (hT _) (fun g cur _ e => hT _ g cur e) (fun g cur _ e => hT _ g cur e)
  · exact (h7.stays (hT _) (hT _) (fun g cur _ e => hT _ g cur e) (fun g cur _ e => hT _ g cur e)).mono (Nat.le_refl _) hb.size
/-- stages' own rows stay: so do the stages -/
theorem StagesR.keep {B : Nat} {w w' : World} {l : List StageG} {ao : Option Addr} {c : Nat} (h : StagesR B w l ao c) (h1 : KeepT tStage w w') (h2 : KeepT tStep w w') (h3 : KeepT tText w w') (h4 : KeepT tWord w w') (h5 : KeepT tAtom w w') (hs : w.heap.size ≤ w'.heap.size) : StagesR B w' l ao c := by
  obtain ⟨H, init, last, cs0, cs1, rfl, e1, e2, e3, e4, e5, e6, e7⟩ := h.lies
  refine ⟨H, init, last, cs0, cs1, rfl, e1, e2, Nat.le_trans e3 hs, e4, ownsRow_keep e5 h1, ?_, ?_⟩
  · exact e6.stays h4 h5 (fun g cur _ e => h2 g cur e) (fun g cur _ e => h3 g cur e)
  · exact (e7.stays h4 h5 (fun g cur _ e => h2 g cur e) (fun g cur _ e => h3 g cur e)).mono (Nat.le_refl _) hs
end Go.Proofs.YtflggoddfjmljaaGreatDoor
