/-
  A row of bytes in a block of the call's own, told by its cells (what []byte(s) lays): what an append makes of it.
-/
import Derived.Deep.OwnRows
import Derived.Lib.LazyBuf
import Derived.BigRegion
import Derived.Deep.AppendLies
import Derived.Deep.Upon
import Derived.Laws.IdiomStrings
import Derived.Test.YtpkabccinhfmbaaGreatDoorY00
set_option linter.unusedVariables false
set_option linter.unusedSimpArgs false
namespace Go.Proofs.YtpkabccinhfmbaaGreatDoor
open Go.RowKit

structure BufB (B : Nat) (w : World) (g c : Nat) (l : List UInt8) : Prop where
  new : B ≤ g
  lt : g < w.heap.size
  le : l.length ≤ c
  max : c ≤ maxLen
  holds : ∀ j, j < l.length → w.cell? ⟨g, j, none⟩ = (u8s l)[j]?
  there : ∀ j, j < c → (w.cell? ⟨g, j, none⟩).isSome = true ∧ w.frozen? ⟨g, j, none⟩ = false
theorem BufB.carry {B : Nat} {w w' : World} {g c : Nat} {l : List UInt8} (h : BufB B w g c l) (hs : w.heap.size ≤ w'.heap.size) (hb : w'.heap[g]? = w.heap[g]?) : BufB B w' g c l :=
  ⟨h.new, Nat.lt_of_lt_of_le h.lt hs, h.le, h.max, fun j hj => (World.cell?_of_block (a := ⟨g, j, none⟩) hb).trans (h.holds j hj), fun j hj => by
    rw [World.cell?_of_block (a := ⟨g, j, none⟩) hb, World.frozen?_of_block (a := ⟨g, j, none⟩) hb]; exact h.there j hj⟩
theorem BufB.below {B : Nat} {w w' : World} {g c : Nat} {l : List UInt8} (h : BufB B w g c l) (hb : Below w.heap.size w w') : BufB B w' g c l := h.carry hb.size (hb.block g h.lt)
theorem below_cells {B g : Nat} (hg : B ≤ g) : ∀ (vs : List Value) (o : Nat) (w : World), Below B w (w.setCells g o vs)
  | [], _, w => Below.refl B w
  | v :: vs, o, w => ((Below.refl B w).setCell (p := ⟨g, o, none⟩) hg v).trans (below_cells hg vs (o + 1) _)
theorem BufB.rd {B : Nat} {w : World} {g c : Nat} {l : List UInt8} (h : BufB B w g c l) : Rd w (some ⟨g, 0, none⟩) (u8s l) := by
  refine .inr ⟨g, 0, rfl, fun i u hu => ?_⟩
  have hi : i < (u8s l).length := (List.getElem?_eq_some_iff.1 hu).1
  rw [u8s_len] at hi
  rw [Nat.zero_add, h.holds i hi]; exact hu
theorem run_append_buf {P : Program} (t tx ty e : TypeId) (i : TypeInfo) (z : Value) (ht : P.underlying t = some (.slice e)) (hi : P.info? e = some i) (hz : i.zero = some z) (hsize : i.size = 1) (hby : i.bytes = 1) (hzs : z.cells.size = 1)
    {B g c : Nat} {l : List UInt8} {w : World} (h : BufB B w g c l) (hBw : B ≤ w.heap.size) (x : Value) (news : List UInt8) (hs : Src P 1 tx x news.length (u8s news) w) (hn : 0 < news.length) (h63 : l.length + news.length ≤ 1000000000000) :
    ∃ g' c' w', (Builtin.append_ #[t, tx] ty #[.slice (some ⟨g, 0, none⟩) l.length c, x]).run P w = .ok (.slice (some ⟨g', 0, none⟩) (l ++ news).length c') w' ∧ BufB B w' g' c' (l ++ news) ∧ Below B w w' := by
  have hll := u8s_len l
  have hnl := u8s_len news
  have hL : u8s (l ++ news) = u8s l ++ u8s news := by simp [u8s]
  have hbig : l.length + news.length ≤ maxLen := by unfold maxLen; omega
  by_cases hfit : l.length + news.length ≤ c
  · have hsome : ∀ j, j < (u8s news).length → (w.cell? ⟨g, 0 + l.length * i.size + j, none⟩).isSome = true := fun j hj => by rw [hsize, Nat.mul_one, Nat.zero_add]; exact (h.there _ (by omega)).1
    have hrun := run_append_room_src (P := P) w t tx ty e i ht hi g 0 l.length c x news.length (u8s news) (hsize.symm ▸ hs) hfit hsome (fun j hj => by rw [hsize, Nat.mul_one, Nat.zero_add]; exact (h.there _ (by omega)).2)
    rw [hsize, Nat.mul_one, Nat.zero_add] at hrun hsome
    have hb := below_cells h.new (u8s news) l.length w
    refine ⟨g, c, _, by rw [List.length_append]; exact hrun, ⟨h.new, Nat.lt_of_lt_of_le h.lt hb.size, by rw [List.length_append]; omega, h.max, fun j hj => ?_, fun j hj => ⟨?_, (World.frozen?_setCells g _ _ _ _).trans (h.there j hj).2⟩⟩, hb⟩
    · rw [List.length_append] at hj
      rw [hL]
      by_cases hjo : j < l.length
      · rw [World.cell?_setCells_out g _ _ _ _ (fun _ _ => Or.inl (by show j < l.length; omega)), List.getElem?_append_left (by omega)]
        exact h.holds j hjo
      · have ht' : j - l.length < (u8s news).length := by omega
        have := World.cell?_setCells_in g (u8s news) l.length w (fun j hj => by exact hsome j hj) (j - l.length) ht'
        rw [show l.length + (j - l.length) = j by omega] at this
        rw [this, List.getElem?_append_right (by omega), hll, List.getElem?_eq_getElem ht']
    · by_cases hin : l.length ≤ j ∧ j < l.length + (u8s news).length
      · have := World.cell?_setCells_in g (u8s news) l.length w (fun j hj => by exact hsome j hj) (j - l.length) (by omega)
        rw [show l.length + (j - l.length) = j by omega] at this
        rw [this]; rfl
      · rw [World.cell?_setCells_out g _ _ _ _ (fun _ _ => by show j < l.length ∨ l.length + (u8s news).length ≤ j; omega)]
        exact (h.there j hj).1
  · have hg : c < l.length + news.length := by omega
    have hold : (Builtin.firstCells i.size l.length (.slice (some ⟨g, 0, none⟩) l.length c)).run P w.drew = .ok (u8s l).toArray w.drew := by
      rw [hsize]
      refine run_firstCells_some w.drew 1 l.length ⟨g, 0, none⟩ l.length c (u8s l) (by omega) (fun j u hu => ?_)
      have hj : j < l.length := by have := (List.getElem?_eq_some_iff.1 hu).1; omega
      rw [Addr.add_lit, Nat.zero_add]
      exact (h.holds j hj).trans hu
    have hrun := run_append_grow_src (P := P) w t tx ty e i z ht hi hz (some ⟨g, 0, none⟩) l.length c (u8s l) hold x news.length (u8s news) (hsize.symm ▸ hs) hg (by omega) (growslice_fits hg (by rw [hby]; omega))
    have hge := grownCap_ge w (l.length + news.length) c e
    have hcm := grownCap_le_maxLen w (l.length + news.length) c e hbig
    have hblk : ∀ k, k < w.heap.size → (w.drew.alloc (.cells ((u8s l ++ u8s news).toArray ++ Builtin.zeroCells z.cells (grownCap w (l.length + news.length) c e - (l.length + news.length))) e)).heap[k]? = w.heap[k]? := fun k hk => Below.heap_alloc w.drew _ k hk
    refine ⟨w.heap.size, _, (w.drew.alloc (.cells ((u8s l ++ u8s news).toArray ++ Builtin.zeroCells z.cells (grownCap w (l.length + news.length) c e - (l.length + news.length))) e)), by rw [List.length_append]; exact hrun, ⟨hBw, ?_, by rw [List.length_append]; omega, hcm, fun j hj => ?_, fun j hj => ⟨?_, ?_⟩⟩, ⟨rfl, rfl, rfl, ?_, fun k hk => hblk k (by omega)⟩⟩
    · show w.heap.size < (w.heap.push _).size
      simp
    · have e1 : (w.drew.alloc (.cells ((u8s l ++ u8s news).toArray ++ Builtin.zeroCells z.cells (grownCap w (l.length + news.length) c e - (l.length + news.length))) e)).cell? ⟨w.heap.size, j, none⟩ = _ := World.cell?_alloc_new w.drew _ _ j
      rw [List.length_append] at hj
      rw [e1, Array.getElem?_append_left (by simp only [List.size_toArray, List.length_append]; omega), List.getElem?_toArray, hL]
    · have e1 : (w.drew.alloc (.cells ((u8s l ++ u8s news).toArray ++ Builtin.zeroCells z.cells (grownCap w (l.length + news.length) c e - (l.length + news.length))) e)).cell? ⟨w.heap.size, j, none⟩ = _ := World.cell?_alloc_new w.drew _ _ j
      rw [e1]
      have hsz : ((u8s l ++ u8s news).toArray ++ Builtin.zeroCells z.cells (grownCap w (l.length + news.length) c e - (l.length + news.length))).size = grownCap w (l.length + news.length) c e := by
        rw [Array.size_append, List.size_toArray, size_zeroCells, hzs, List.length_append, hll, hnl]; omega
      rw [Array.getElem?_eq_getElem (by rw [hsz]; exact hj)]
      rfl
    · exact World.frozen?_alloc_new w.drew _ _ j
    · show w.heap.size ≤ (w.heap.push _).size
      simp
theorem wp_append_buf {P : Program} (w : World) {o : Oper} {a : Act} {K : Act → World → Prop} {Q : Exit → Act → World → Prop} (s x : Operand) (t tx : TypeId)
    (ho : o.op = .call { callee := .builtin .append, args := #[s, x], argTypes := #[t, tx] })
    (e : TypeId) (i : TypeInfo) (z : Value) (ht : P.underlying t = some (.slice e)) (hi : P.info? e = some i) (hz : i.zero = some z) (hsize : i.size = 1) (hby : i.bytes = 1) (hzs : z.cells.size = 1)
    {B g c : Nat} {l : List UInt8} (h : BufB B w g c l) (hBw : B ≤ w.heap.size) (nl : Nat) (hnl : l.length = nl) (hv : a.eval s = .slice (some ⟨g, 0, none⟩) nl c) (xv : Value) (news : List UInt8) (hx : a.eval x = xv) (hs : Src P 1 tx xv news.length (u8s news) w) (hn : 0 < news.length) (h63 : l.length + news.length ≤ 1000000000000)
    (hK : ∀ g' c' w', BufB B w' g' c' (l ++ news) → Below B w w' → K (a.put o.dst (.slice (some ⟨g', 0, none⟩) (l ++ news).length c')) w') : o.wp P a w K Q := by
  subst hnl
  obtain ⟨g', c', w', hrun, h2, h3⟩ := run_append_buf (P := P) t tx o.type e i z ht hi hz hsize hby hzs h hBw xv news hs hn h63
  unfold Oper.wp execOp
  simp only [ho, resolve, invoke, builtin, Sem.run_bind, Sem.run_pure, Result.andThen_ok, List.map_toArray, List.map_cons, List.map_nil, hv, hx, hrun]
  exact hK g' c' w' h2 h3
theorem wpList_append_buf {P : Program} (w : World) {ops : Array Oper} {rest : List Oper} {o : Oper} {a : Act} {Q : Exit → Act → World → Prop} (hgd : o.guard = none) (s x : Operand) (t tx : TypeId)
    (ho : o.op = .call { callee := .builtin .append, args := #[s, x], argTypes := #[t, tx] })
    (e : TypeId) (i : TypeInfo) (z : Value) (ht : P.underlying t = some (.slice e)) (hi : P.info? e = some i) (hz : i.zero = some z) (hsize : i.size = 1) (hby : i.bytes = 1) (hzs : z.cells.size = 1)
    {B g c : Nat} {l : List UInt8} (h : BufB B w g c l) (hBw : B ≤ w.heap.size) (nl : Nat) (hnl : l.length = nl) (hv : a.eval s = .slice (some ⟨g, 0, none⟩) nl c) (xv : Value) (news : List UInt8) (hx : a.eval x = xv) (hs : Src P 1 tx xv news.length (u8s news) w) (hn : 0 < news.length) (h63 : l.length + news.length ≤ 1000000000000)
    (hK : ∀ g' c' w', BufB B w' g' c' (l ++ news) → Below B w w' → wpList P ops Q rest (a.put o.dst (.slice (some ⟨g', 0, none⟩) (l ++ news).length c')) w') : wpList P ops Q (o :: rest) a w :=
  wpList_plain hgd fun _ hK2 => wp_append_buf w s x t tx ho e i z ht hi hz hsize hby hzs h hBw nl hnl hv xv news hx hs hn h63 fun g' c' w' h2 h3 => hK2 _ _ (hK g' c' w' h2 h3)
theorem step_append_buf {P : Program} (w : World) {ops : Array Oper} {o : Oper} {a : Act} {K : Act → World → Prop} {Q : Exit → Act → World → Prop} {E : Prop} (hgd : o.guard = none) (s x : Operand) (t tx : TypeId)
    (ho : o.op = .call { callee := .builtin .append, args := #[s, x], argTypes := #[t, tx] })
    (e : TypeId) (i : TypeInfo) (z : Value) (ht : P.underlying t = some (.slice e)) (hi : P.info? e = some i) (hz : i.zero = some z) (hsize : i.size = 1) (hby : i.bytes = 1) (hzs : z.cells.size = 1)
    {B g c : Nat} {l : List UInt8} (h : BufB B w g c l) (hBw : B ≤ w.heap.size) (nl : Nat) (hnl : l.length = nl) (hv : a.eval s = .slice (some ⟨g, 0, none⟩) nl c) (xv : Value) (news : List UInt8) (hx : a.eval x = xv) (hs : Src P 1 tx xv news.length (u8s news) w) (hn : 0 < news.length) (h63 : l.length + news.length ≤ 1000000000000)
    (hK : ∀ g' c' w', BufB B w' g' c' (l ++ news) → Below B w w' → K (a.put o.dst (.slice (some ⟨g', 0, none⟩) (l ++ news).length c')) w') :
    if Region.wanted o (yielded ops a.tmps) = true then Oper.wp P o a w K Q else E := by
  have hw : Region.wanted o (yielded ops a.tmps) = true := by simp [Region.wanted, hgd]
  rw [if_pos hw]
  exact wp_append_buf w s x t tx ho e i z ht hi hz hsize hby hzs h hBw nl hnl hv xv news hx hs hn h63 hK
/-- what []byte(s) lays -/
theorem buf_of_string {P : Program} (w : World) (src dst e : TypeId) (s : List UInt8) (hs : P.underlying src = some .string) (hd : P.underlying dst = some (.slice e)) (he : P.underlying e = some (.int .u8)) (B : Nat) (hB : B ≤ w.heap.size) (hl : s.length ≤ 1000000000000) :
    ∃ c o, (convert src dst (.string (S s))).run P w = .ok (.slice (some ⟨w.heap.size, 0, none⟩) s.length c) (w.drew.alloc o) ∧ BufB B (w.drew.alloc o) w.heap.size c s := by
  have hsz : (S s).size = s.length := rfl
  have hr := run_bytes_of_string (P := P) w src dst e (S s) hs hd he
  have hge := grownCap_ge w (S s).size 0 e
  have hcm := grownCap_le_maxLen w (S s).size 0 e (by rw [hsz]; unfold maxLen; omega)
  generalize hc : grownCap w (S s).size 0 e = c at hr hge hcm
  have hCs : (bytesRow (S s) c).size = c := by
    unfold bytesRow
    rw [Array.size_append, Array.size_map, Array.size_replicate]
    show s.length + (c - s.length) = c
    omega
  have hCg : ∀ j, j < s.length → (bytesRow (S s) c)[j]? = (u8s s)[j]? := by
    intro j hj
    unfold bytesRow u8s
    rw [Array.getElem?_append_left (by rw [Array.size_map]; exact hj), Array.getElem?_map, List.getElem?_map]
    show Option.map _ (s.toArray)[j]? = _
    rw [List.getElem?_toArray]
  generalize bytesRow (S s) c = C at hr hCs hCg
  have hnew : (w.drew.alloc (.cells C e (C.size, C.size + 1))).heap[w.heap.size]? = some (.cells C e (C.size, C.size + 1)) := heap_alloc_new w.drew _
  refine ⟨c, _, hr, ⟨hB, ?_, by rw [← hsz]; exact hge, hcm, fun j hj => ?_, fun j hj => ⟨?_, ?_⟩⟩⟩
  · show w.heap.size < (w.heap.push _).size
    simp
  · rw [cell_of_row _ _ _ _ _ _ hnew]; exact hCg j hj
  · rw [cell_of_row _ _ _ _ _ _ hnew, Array.getElem?_eq_getElem (by omega)]; rfl
  · unfold World.frozen?
    rw [hnew]
    simp; omega
end Go.Proofs.YtpkabccinhfmbaaGreatDoor
