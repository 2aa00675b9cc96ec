/-
  A row of bytes in a block of the call's own, told by its cells (what []byte(s) lays): what an append makes of it.
  The program: the digest of a text.
  The program: the digest of a text, whole.
-/
import Derived.Deep.AppendLies
import Derived.Deep.Upon
import Derived.Laws.IdiomStrings
import Derived.StillTailTactics
import Derived.Test.YtkdplkhnkimhpaaGreatDoorY08
set_option linter.unusedVariables false
set_option linter.unusedSimpArgs false
namespace Go.Proofs.YtkdplkhnkimhpaaGreatDoor
open Go.RowKit

structure BufB (B : Nat) (w : World) (g c : Nat) (l : List UInt8) : Prop where
  new : B ≤ g
  lt : g < w.heap.size
  le : l.length ≤ c
  max : c ≤ maxLen
  holds : ∀ j, j < l.length → w.cell? ⟨g, j, none⟩ = (u8s l)[j]?
  there : ∀ j, j < c → (w.cell? ⟨g, j, none⟩).isSome = true ∧ w.frozen? ⟨g, j, none⟩ = false
theorem BufB.carry {B : Nat} {w w' : World} {g c : Nat} {l : List UInt8} (h : BufB B w g c l) (hs : w.heap.size ≤ w'.heap.size) (hb : w'.heap[g]? = w.heap[g]?) : BufB B w' g c l :=
  ⟨h.new, Nat.lt_of_lt_of_le h.lt hs, h.le, h.max, fun j hj => (World.cell?_of_block (a := ⟨g, j, none⟩) hb).trans (h.holds j hj), fun j hj => by
    rw [World.cell?_of_block (a := ⟨g, j, none⟩) hb, World.frozen?_of_block (a := ⟨g, j, none⟩) hb]; exact h.there j hj⟩
theorem BufB.below {B : Nat} {w w' : World} {g c : Nat} {l : List UInt8} (h : BufB B w g c l) (hb : Below w.heap.size w w') : BufB B w' g c l := h.carry hb.size (hb.block g h.lt)
theorem below_cells {B g : Nat} (hg : B ≤ g) : ∀ (vs : List Value) (o : Nat) (w : World), Below B w (w.setCells g o vs)
  | [], _, w => Below.refl B w
  | v :: vs, o, w => ((Below.refl B w).setCell (p := ⟨g, o, none⟩) hg v).trans (below_cells hg vs (o + 1) _)
theorem BufB.rd {B : Nat} {w : World} {g c : Nat} {l : List UInt8} (h : BufB B w g c l) : Rd w (some ⟨g, 0, none⟩) (u8s l) := by
  refine .inr ⟨g, 0, rfl, fun i u hu => ?_⟩
  have hi : i < (u8s l).length := (List.getElem?_eq_some_iff.1 hu).1
  rw [u8s_len] at hi
  rw [Nat.zero_add, h.holds i hi]; exact hu
theorem run_append_buf {P : Program} (t tx ty e : TypeId) (i : TypeInfo) (z : Value) (ht : P.underlying t = some (.slice e)) (hi : P.info? e = some i) (hz : i.zero = some z) (hsize : i.size = 1) (hby : i.bytes = 1) (hzs : z.cells.size = 1)
    {B g c : Nat} {l : List UInt8} {w : World} (h : BufB B w g c l) (hBw : B ≤ w.heap.size) (x : Value) (news : List UInt8) (hs : Src P 1 tx x news.length (u8s news) w) (hn : 0 < news.length) (h63 : l.length + news.length ≤ 1000000000000) :
    ∃ g' c' w', (Builtin.append_ #[t, tx] ty #[.slice (some ⟨g, 0, none⟩) l.length c, x]).run P w = .ok (.slice (some ⟨g', 0, none⟩) (l ++ news).length c') w' ∧ BufB B w' g' c' (l ++ news) ∧ Below B w w' := by
  have hll := u8s_len l
  have hnl := u8s_len news
  have hL : u8s (l ++ news) = u8s l ++ u8s news := by simp [u8s]
  have hbig : l.length + news.length ≤ maxLen := by unfold maxLen; omega
  by_cases hfit : l.length + news.length ≤ c
  · have hsome : ∀ j, j < (u8s news).length → (w.cell? ⟨g, 0 + l.length * i.size + j, none⟩).isSome = true := fun j hj => by rw [hsize, Nat.mul_one, Nat.zero_add]; exact (h.there _ (by omega)).1
    have hrun := run_append_room_src (P := P) w t tx ty e i ht hi g 0 l.length c x news.length (u8s news) (hsize.symm ▸ hs) hfit hsome (fun j hj => by rw [hsize, Nat.mul_one, Nat.zero_add]; exact (h.there _ (by omega)).2)
    rw [hsize, Nat.mul_one, Nat.zero_add] at hrun hsome
    have hb := below_cells h.new (u8s news) l.length w
    refine ⟨g, c, _, by rw [List.length_append]; exact hrun, ⟨h.new, Nat.lt_of_lt_of_le h.lt hb.size, by rw [List.length_append]; omega, h.max, fun j hj => ?_, fun j hj => ⟨?_, (World.frozen?_setCells g _ _ _ _).trans (h.there j hj).2⟩⟩, hb⟩
    · rw [List.length_append] at hj
      rw [hL]
      by_cases hjo : j < l.length
      · rw [World.cell?_setCells_out g _ _ _ _ (fun _ _ => Or.inl (by show j < l.length; omega)), List.getElem?_append_left (by omega)]
        exact h.holds j hjo
      · have ht' : j - l.length < (u8s news).length := by omega
        have := World.cell?_setCells_in g (u8s news) l.length w (fun j hj => by exact hsome j hj) (j - l.length) ht'
        rw [show l.length + (j - l.length) = j by omega] at this
        rw [this, List.getElem?_append_right (by omega), hll, List.getElem?_eq_getElem ht']
    · by_cases hin : l.length ≤ j ∧ j < l.length + (u8s news).length
      · have := World.cell?_setCells_in g (u8s news) l.length w (fun j hj => by exact hsome j hj) (j - l.length) (by omega)
        rw [show l.length + (j - l.length) = j by omega] at this
        rw [this]; rfl
      · rw [World.cell?_setCells_out g _ _ _ _ (fun _ _ => by show j < l.length ∨ l.length + (u8s news).length ≤ j; omega)]
        exact (h.there j hj).1
  · have hg : c < l.length + news.length := by omega
    have hold : (Builtin.firstCells i.size l.length (.slice (some ⟨g, 0, none⟩) l.length c)).run P w.drew = .ok (u8s l).toArray w.drew := by
      rw [hsize]
      refine run_firstCells_some w.drew 1 l.length ⟨g, 0, none⟩ l.length c (u8s l) (by omega) (fun j u hu => ?_)
      have hj : j < l.length := by have := (List.getElem?_eq_some_iff.1 hu).1; omega
      rw [Addr.add_lit, Nat.zero_add]
      exact (h.holds j hj).trans hu
    have hrun := run_append_grow_src (P := P) w t tx ty e i z ht hi hz (some ⟨g, 0, none⟩) l.length c (u8s l) hold x news.length (u8s news) (hsize.symm ▸ hs) hg (by omega) (growslice_fits hg (by rw [hby]; omega))
    have hge := grownCap_ge w (l.length + news.length) c e
    have hcm := grownCap_le_maxLen w (l.length + news.length) c e hbig
    have hblk : ∀ k, k < w.heap.size → (w.drew.alloc (.cells ((u8s l ++ u8s news).toArray ++ Builtin.zeroCells z.cells (grownCap w (l.length + news.length) c e - (l.length + news.length))) e)).heap[k]? = w.heap[k]? := fun k hk => Below.heap_alloc w.drew _ k hk
    refine ⟨w.heap.size, _, (w.drew.alloc (.cells ((u8s l ++ u8s news).toArray ++ Builtin.zeroCells z.cells (grownCap w (l.length + news.length) c e - (l.length + news.length))) e)), by rw [List.length_append]; exact hrun, ⟨hBw, ?_, by rw [List.length_append]; omega, hcm, fun j hj => ?_, fun j hj => ⟨?_, ?_⟩⟩, ⟨rfl, rfl, rfl, ?_, fun k hk => hblk k (by omega)⟩⟩
    · show w.heap.size < (w.heap.push _).size
      simp
    · have e1 : (w.drew.alloc (.cells ((u8s l ++ u8s news).toArray ++ Builtin.zeroCells z.cells (grownCap w (l.length + news.length) c e - (l.length + news.length))) e)).cell? ⟨w.heap.size, j, none⟩ = _ := World.cell?_alloc_new w.drew _ _ j
      rw [List.length_append] at hj
      rw [e1, Array.getElem?_append_left (by simp only [List.size_toArray, List.length_append]; omega), List.getElem?_toArray, hL]
    · have e1 : (w.drew.alloc (.cells ((u8s l ++ u8s news).toArray ++ Builtin.zeroCells z.cells (grownCap w (l.length + news.length) c e - (l.length + news.length))) e)).cell? ⟨w.heap.size, j, none⟩ = _ := World.cell?_alloc_new w.drew _ _ j
      rw [e1]
      have hsz : ((u8s l ++ u8s news).toArray ++ Builtin.zeroCells z.cells (grownCap w (l.length + news.length) c e - (l.length + news.length))).size = grownCap w (l.length + news.length) c e := by
        rw [Array.size_append, List.size_toArray, size_zeroCells, hzs, List.length_append, hll, hnl]; omega
      rw [Array.getElem?_eq_getElem (by rw [hsz]; exact hj)]
      rfl
    · exact World.frozen?_alloc_new w.drew _ _ j
    · show w.heap.size ≤ (w.heap.push _).size
      simp
theorem wp_append_buf {P : Program} (w : World) {o : Oper} {a : Act} {K : Act → World → Prop} {Q : Exit → Act → World → Prop} (s x : Operand) (t tx : TypeId)
    (ho : o.op = .call { callee := .builtin .append, args := #[s, x], argTypes := #[t, tx] })
    (e : TypeId) (i : TypeInfo) (z : Value) (ht : P.underlying t = some (.slice e)) (hi : P.info? e = some i) (hz : i.zero = some z) (hsize : i.size = 1) (hby : i.bytes = 1) (hzs : z.cells.size = 1)
    {B g c : Nat} {l : List UInt8} (h : BufB B w g c l) (hBw : B ≤ w.heap.size) (nl : Nat) (hnl : l.length = nl) (hv : a.eval s = .slice (some ⟨g, 0, none⟩) nl c) (xv : Value) (news : List UInt8) (hx : a.eval x = xv) (hs : Src P 1 tx xv news.length (u8s news) w) (hn : 0 < news.length) (h63 : l.length + news.length ≤ 1000000000000)
    (hK : ∀ g' c' w', BufB B w' g' c' (l ++ news) → Below B w w' → K (a.put o.dst (.slice (some ⟨g', 0, none⟩) (l ++ news).length c')) w') : o.wp P a w K Q := by
  subst hnl
  obtain ⟨g', c', w', hrun, h2, h3⟩ := run_append_buf (P := P) t tx o.type e i z ht hi hz hsize hby hzs h hBw xv news hs hn h63
  unfold Oper.wp execOp
  simp only [ho, resolve, invoke, builtin, Sem.run_bind, Sem.run_pure, Result.andThen_ok, List.map_toArray, List.map_cons, List.map_nil, hv, hx, hrun]
  exact hK g' c' w' h2 h3
theorem wpList_append_buf {P : Program} (w : World) {ops : Array Oper} {rest : List Oper} {o : Oper} {a : Act} {Q : Exit → Act → World → Prop} (hgd : o.guard = none) (s x : Operand) (t tx : TypeId)
    (ho : o.op = .call { callee := .builtin .append, args := #[s, x], argTypes := #[t, tx] })
    (e : TypeId) (i : TypeInfo) (z : Value) (ht : P.underlying t = some (.slice e)) (hi : P.info? e = some i) (hz : i.zero = some z) (hsize : i.size = 1) (hby : i.bytes = 1) (hzs : z.cells.size = 1)
    {B g c : Nat} {l : List UInt8} (h : BufB B w g c l) (hBw : B ≤ w.heap.size) (nl : Nat) (hnl : l.length = nl) (hv : a.eval s = .slice (some ⟨g, 0, none⟩) nl c) (xv : Value) (news : List UInt8) (hx : a.eval x = xv) (hs : Src P 1 tx xv news.length (u8s news) w) (hn : 0 < news.length) (h63 : l.length + news.length ≤ 1000000000000)
    (hK : ∀ g' c' w', BufB B w' g' c' (l ++ news) → Below B w w' → wpList P ops Q rest (a.put o.dst (.slice (some ⟨g', 0, none⟩) (l ++ news).length c')) w') : wpList P ops Q (o :: rest) a w :=
  wpList_plain hgd fun _ hK2 => wp_append_buf w s x t tx ho e i z ht hi hz hsize hby hzs h hBw nl hnl hv xv news hx hs hn h63 fun g' c' w' h2 h3 => hK2 _ _ (hK g' c' w' h2 h3)
theorem step_append_buf {P : Program} (w : World) {ops : Array Oper} {o : Oper} {a : Act} {K : Act → World → Prop} {Q : Exit → Act → World → Prop} {E : Prop} (hgd : o.guard = none) (s x : Operand) (t tx : TypeId)
    (ho : o.op = .call { callee := .builtin .append, args := #[s, x], argTypes := #[t, tx] })
    (e : TypeId) (i : TypeInfo) (z : Value) (ht : P.underlying t = some (.slice e)) (hi : P.info? e = some i) (hz : i.zero = some z) (hsize : i.size = 1) (hby : i.bytes = 1) (hzs : z.cells.size = 1)
    {B g c : Nat} {l : List UInt8} (h : BufB B w g c l) (hBw : B ≤ w.heap.size) (nl : Nat) (hnl : l.length = nl) (hv : a.eval s = .slice (some ⟨g, 0, none⟩) nl c) (xv : Value) (news : List UInt8) (hx : a.eval x = xv) (hs : Src P 1 tx xv news.length (u8s news) w) (hn : 0 < news.length) (h63 : l.length + news.length ≤ 1000000000000)
    (hK : ∀ g' c' w', BufB B w' g' c' (l ++ news) → Below B w w' → K (a.put o.dst (.slice (some ⟨g', 0, none⟩) (l ++ news).length c')) w') :
    if Region.wanted o (yielded ops a.tmps) = true then Oper.wp P o a w K Q else E := by
  have hw : Region.wanted o (yielded ops a.tmps) = true := by simp [Region.wanted, hgd]
  rw [if_pos hw]
  exact wp_append_buf w s x t tx ho e i z ht hi hz hsize hby hzs h hBw nl hnl hv xv news hx hs hn h63 hK
/-- what []byte(s) lays -/
theorem buf_of_string {P : Program} (w : World) (src dst e : TypeId) (s : List UInt8) (hs : P.underlying src = some .string) (hd : P.underlying dst = some (.slice e)) (he : P.underlying e = some (.int .u8)) (B : Nat) (hB : B ≤ w.heap.size) (hl : s.length ≤ 1000000000000) :
    ∃ c o, (convert src dst (.string (S s))).run P w = .ok (.slice (some ⟨w.heap.size, 0, none⟩) s.length c) (w.drew.alloc o) ∧ BufB B (w.drew.alloc o) w.heap.size c s := by
  have hsz : (S s).size = s.length := rfl
  have hr := run_bytes_of_string (P := P) w src dst e (S s) hs hd he
  have hge := grownCap_ge w (S s).size 0 e
  have hcm := grownCap_le_maxLen w (S s).size 0 e (by rw [hsz]; unfold maxLen; omega)
  generalize hc : grownCap w (S s).size 0 e = c at hr hge hcm
  have hCs : (bytesRow (S s) c).size = c := by
    unfold bytesRow
    rw [Array.size_append, Array.size_map, Array.size_replicate]
    show s.length + (c - s.length) = c
    omega
  have hCg : ∀ j, j < s.length → (bytesRow (S s) c)[j]? = (u8s s)[j]? := by
    intro j hj
    unfold bytesRow u8s
    rw [Array.getElem?_append_left (by rw [Array.size_map]; exact hj), Array.getElem?_map, List.getElem?_map]
    show Option.map _ (s.toArray)[j]? = _
    rw [List.getElem?_toArray]
  generalize bytesRow (S s) c = C at hr hCs hCg
  have hnew : (w.drew.alloc (.cells C e (C.size, C.size + 1))).heap[w.heap.size]? = some (.cells C e (C.size, C.size + 1)) := heap_alloc_new w.drew _
  refine ⟨c, _, hr, ⟨hB, ?_, by rw [← hsz]; exact hge, hcm, fun j hj => ?_, fun j hj => ⟨?_, ?_⟩⟩⟩
  · show w.heap.size < (w.heap.push _).size
    simp
  · rw [cell_of_row _ _ _ _ _ _ hnew]; exact hCg j hj
  · rw [cell_of_row _ _ _ _ _ _ hnew, Array.getElem?_eq_getElem (by omega)]; rfl
  · unfold World.frozen?
    rw [hnew]
    simp; omega
end Go.Proofs.YtkdplkhnkimhpaaGreatDoor
namespace Go.Proofs.YtkdplkhnkimhpaaGreatDoor
open Go.RowKit

/-- the first state -/
def Starts (w : World) : Prop := ∀ k, k < 8 → w.cell? ⟨1, k, none⟩ = some (U (startW.at k))
theorem Starts.below {w w' : World} (h : Starts w) (hb : Below w.heap.size w w') : Starts w' := fun k hk => (hb.cell (World.block_lt_of_cell? w _ (h k hk))).trans (h k hk)
theorem be_take (b : List UInt8) (i : Nat) (h : i < 16) : be (b.take 64) i = be b i := by
  have key : ∀ j, j < 64 → (b.take 64).getD j 0 = b.getD j 0 := by
    intro j hj
    rw [List.getD_eq_getElem?_getD, List.getD_eq_getElem?_getD, List.getElem?_take, if_pos hj]
  unfold be beN
  rw [key _ (by omega), key _ (by omega), key _ (by omega), key _ (by omega)]
theorem schL_take (b : List UInt8) : ∀ n, schL (b.take 64) n = schL b n
  | 0 => rfl
  | n + 1 => by
    have e : nxtW (b.take 64) (schL b n) n = nxtW b (schL b n) n := by
      unfold nxtW
      by_cases h : n < 16
      · rw [if_pos h, if_pos h, be_take b n h]
      · rw [if_neg h, if_neg h]
    show schL (b.take 64) n ++ [nxtW (b.take 64) (schL (b.take 64) n) n] = schL b n ++ [nxtW b (schL b n) n]
    rw [schL_take b n, e]
theorem rounds_take (K : List W32) (b : List UInt8) (s : St8) : ∀ n, rounds K (b.take 64) s n = rounds K b s n
  | 0 => rfl
  | n + 1 => by rw [rounds, rounds, rounds_take K b s n, schL_take]
theorem block_take (K : List W32) (s : St8) (b : List UInt8) : blockW K s (b.take 64) = blockW K s b := by
  unfold blockW; rw [rounds_take]
/-- the text with i bytes of its length behind it -/
def padI (s : List UInt8) (i : Nat) : List UInt8 := s ++ [128] ++ List.replicate ((119 - s.length % 64) % 64) 0 ++ (List.range i).map fun i => UInt8.ofNat (s.length * 8 / 2 ^ (56 - 8 * i))
theorem padI_succ (s : List UInt8) (i : Nat) : padI s (i + 1) = padI s i ++ [UInt8.ofNat (s.length * 8 / 2 ^ (56 - 8 * i))] := by
  unfold padI
  rw [List.range_succ, List.map_append, ← List.append_assoc]; rfl
theorem padI_len (s : List UInt8) (i : Nat) : (padI s i).length = s.length + 1 + (119 - s.length % 64) % 64 + i := by simp [padI]; omega
theorem padI_8 (s : List UInt8) : padI s 8 = padB s := rfl
theorem pad_whole (s : List UInt8) : (padB s).length % 64 = 0 := by
  rw [← padI_8, padI_len]; omega
def lenV : Value → Nat | .slice _ n _ => n | _ => 0
/-- hexadecimal digits, the first j of a word's -/
def hexJ (x : W32) (j : Nat) : List UInt8 := (List.range j).map fun i => hexB (x.toNat / 2 ^ (28 - 4 * i) % 16)
theorem hexJ_succ (x : W32) (j : Nat) : hexJ x (j + 1) = hexJ x j ++ [hexB (x.toNat / 2 ^ (28 - 4 * j) % 16)] := by
  unfold hexJ; rw [List.range_succ, List.map_append]; rfl
theorem hexJ_len (x : W32) (j : Nat) : (hexJ x j).length = j := by simp [hexJ]
/-- the first i words' -/
def hexI (s : St8) : Nat → List UInt8
  | 0 => []
  | i + 1 => hexI s i ++ hexW (s.at i)
theorem hexI_len (s : St8) : ∀ i, (hexI s i).length = 8 * i
  | 0 => rfl
  | i + 1 => by rw [hexI, List.length_append, hexI_len s i]; simp [hexW]; omega
theorem hexI_8 (s : St8) : hexI s 8 = hex8 s := by simp [hexI, hex8, St8.at]
theorem hexB_at : ∀ q : Nat, q < 16 → [48, 49, 50, 51, 52, 53, 54, 55, 56, 57, 97, 98, 99, 100, 101, (102 : UInt8)][q]? = some (hexB q) := by decide
theorem hexB_arr : ∀ (q : Nat) (h : q < 16), (⟨#[48, 49, 50, 51, 52, 53, 54, 55, 56, 57, 97, 98, 99, 100, 101, 102]⟩ : ByteArray)[q]'h = hexB q := by decide
theorem u32_and15 (x : W32) (k : Nat) : bits .and .u32 ((tn x : Int) / 2 ^ k) 15 = ((x.toNat / 2 ^ k % 16 : Nat) : Int) := by
  have e1 : ((tn x : Int) / 2 ^ k) = (tn (x >>> k) : Int) := u32_shr x k
  have e2 : (15 : Int) = (tn (15 : W32) : Int) := rfl
  rw [e1, e2, tn_and]
  unfold tn
  rw [BitVec.toNat_and, BitVec.toNat_ushiftRight, Nat.shiftRight_eq_div_pow]
  rw [show (15 : W32).toNat = 2 ^ 4 - 1 from rfl, Nat.and_two_pow_sub_one_eq_mod]
theorem idx_hex (q : Nat) (hq : q < 16) (k : IntKind) : ∀ w : World, (Instr.index 9 (.string ⟨#[48, 49, 50, 51, 52, 53, 54, 55, 56, 57, 97, 98, 99, 100, 101, 102]⟩) (.int k (q : Int))).run Tryz.prog w = .ok (.int .u8 ((hexB q).toNat : Int)) w := by
  intro w
  have hb := hexB_arr q hq
  rw [run_index_string (P := Tryz.prog) w 9 _ k (q : Int) (by kernel_rfl), dif_pos ⟨by omega, by show (q : Int) < 16; omega⟩]
  simp only [Int.toNat_natCast, hb]
theorem idx_st (s : St8) (i : Nat) (hi : i < 8) : ∀ w : World, (Instr.index 165 (.agg #[U s.a, U s.b, U s.c, U s.d, U s.e, U s.f, U s.g, U s.h]) (.int .i64 (i : Int))).run Tryz.prog w = .ok (U (s.at i)) w := by
  intro w
  have h : i = 0 ∨ i = 1 ∨ i = 2 ∨ i = 3 ∨ i = 4 ∨ i = 5 ∨ i = 6 ∨ i = 7 := by omega
  have hu : Tryz.prog.underlying 165 = some (.array 8 164) := by kernel_rfl
  rcases h with rfl | rfl | rfl | rfl | rfl | rfl | rfl | rfl <;> simp [Instr.index, run_underlying hu, asIntOf, go_sem, St8.at]
/-- a row of bytes of one's own -/
abbrev OwnY (w : World) (B : Nat) (v : Value) (l : List UInt8) : Prop := w.ownsRow B 5 1 v l.length (u8s l)
theorem own_snocY {w : World} {B : Nat} {v : Value} {l : List UInt8} {x : UInt8} (h : w.ownsRow B 5 1 v (l.length + 1) (u8s l ++ [.int .u8 (x.toNat : Int)])) : OwnY w B v (l ++ [x]) := by
  unfold OwnY
  rw [show u8s (l ++ [x]) = u8s l ++ [.int .u8 (x.toNat : Int)] by simp [u8s], List.length_append, List.length_singleton]
  exact h
theorem own_eqY {w : World} {B : Nat} {v v' : Value} {l l' : List UInt8} (h : OwnY w B v l) (ev : v = v') (e : l = l') : OwnY w B v' l' := by subst ev; subst e; exact h
theorem cell1Y (w : World) (v : Value) (t : TypeId) : ∀ j u, [v][j]? = some u → (w.alloc (.cells #[v] t)).cell? ((⟨w.heap.size, 0, none⟩ : Addr).add j) = some u := by
  intro j u h
  match j, h with
  | 0, h => simp at h; subst h; simp [Addr.add]
end Go.Proofs.YtkdplkhnkimhpaaGreatDoor
namespace Go.Proofs.YtkdplkhnkimhpaaGreatDoor
open Go.RowKit

theorem hexL : ∀ (q : Nat) (h : q < 16), [48, 49, 50, 51, 52, 53, 54, 55, 56, 57, 97, 98, 99, 100, 101, (102 : UInt8)][q]'h = hexB q := by decide
theorem Rd.grown {w w' : World} {A : Option Addr} {cs : List Value} {row : Option Nat} (h : Rd w A cs) (hg : w.grownBy w' row) (hne : ∀ a, A = some a → some a.block ≠ row) : Rd w' A cs := by
  rcases h with h | ⟨b, o, rfl, hc⟩
  · exact .inl h
  · exact .inr ⟨b, o, rfl, fun i u hu => (hg.cell_far ⟨b, o + i, none⟩ (World.block_lt_of_cell? w _ (hc i u hu)) (fun h => hne ⟨b, o, none⟩ rfl h)).trans (hc i u hu)⟩
theorem Rd.drop {w : World} {b o : Nat} {l : List UInt8} (h : Rd w (some ⟨b, o, none⟩) (u8s l)) (k : Nat) : Rd w (some ⟨b, o + k, none⟩) (u8s (l.drop k)) := by
  rcases h with h | ⟨b', o', he, hc⟩
  · refine .inl ?_
    have : l = [] := by simpa [u8s] using h
    subst this; simp [u8s]
  · cases he
    refine .inr ⟨b, o + k, rfl, fun i u hu => ?_⟩
    rw [Nat.add_assoc]
    refine hc _ _ ?_
    rw [show u8s (l.drop k) = (u8s l).drop k by simp [u8s]] at hu
    rw [← hu, List.getElem?_drop]
set_option maxRecDepth 100000 in
set_option maxHeartbeats 4000000 in
theorem shaOf_any (s : List UInt8) (w : World) (hl : s.length ≤ 3000000000) (hk : Keys w) (h0 : Starts w) :
    Calls Tryz.prog 57 #[.string (S s)] w fun e w' => e = .returned (.string (S (shaB s))) ∧ Below w.heap.size w w' := by
  obtain ⟨i0, hi0, hz0, hz1, hz2⟩ := info_parts (show (Tryz.prog.info? 5).map (fun i => (i.zero, i.size, i.bytes)) = some (some (.int .u8 0), 1, 1) by kernel_rfl)
  have HK := Lib.hid hk
  have HS := Lib.hid h0
  clear hk h0
  go_enter Tryz.func57, Tryz.ntmps57
  obtain ⟨c0, ob, hcv, hbf⟩ := buf_of_string (P := Tryz.prog) w 9 124 5 s (by kernel_rfl) (by kernel_rfl) (by kernel_rfl) w.heap.size (Nat.le_refl _) (by omega)
  have HC := Lib.hid hbf
  have HBC := Lib.hid (Below.alloc (below_drew2 (Below.refl w.heap.size w)) (Nat.le_refl _) ob)
  clear hbf
  have HX := Lib.hid (show ∀ j u, (u8s [128])[j]? = some u → (((w.alloc ob).alloc (.cells #[.int .u8 128] 5)).drew).cell? ((⟨w.heap.size + 1, 0, none⟩ : Addr).add j) = some u by
    have e : w.heap.size + 1 = (w.alloc ob).heap.size := by simp
    rw [e]; exact cell1Y (w.alloc ob) (.int .u8 128) 5)
  go_wp2_with (at_builtin; refine wpList_append_buf _ rfl _ _ 124 124 rfl 5 i0 (.int .u8 0) Tryz.underlying124 hi0 hz0 hz1 hz2 rfl (HC.out.below ((Below.refl _ _).alloc (Nat.le_refl _) (.cells #[.int .u8 128] 5))) (by simp; omega) s.length rfl rfl (.slice (some ⟨_, 0, none⟩) 1 1) [128] rfl (Src.ofSlice (e' := 5) _ (by kernel_rfl) ⟨w.heap.size + 1, 0, none⟩ 1 1 _ rfl HX.out (by simp [u8s, Value.oneCell'])) (by decide) (by simp; omega) ?_; intro g1 c1 w1 hb1 hB1; have HB1 := Lib.hid (((HBC.out).alloc (HBC.out).size (.cells #[.int .u8 128] 5)).trans hB1); have HG1 := Lib.hid hb1; clear hb1 hB1)
  have HPL := Lib.hid (padI_len s)
  obtain ⟨K, hK⟩ : ∃ K : Nat, K = (119 - s.length % 64) % 64 := ⟨_, rfl⟩
  have hK63 : K ≤ 63 := by omega
  go_loopw [3] (fun v wr => ∃ k m g c : Nat, k ≤ K ∧ m = s.length + 1 + k ∧ v = .slice (some ⟨g, 0, none⟩) m c ∧ Hid (BufB w.heap.size wr g c (s ++ [128] ++ List.replicate k 0)) ∧ Hid (Below w.heap.size w wr)) (fun v _ => s.length + 100 - lenV v)
  case atStart => exact ⟨0, s.length + 1, g1, c1, by omega, by omega, by simp, Lib.hid (by rw [List.replicate_zero, List.append_nil]; exact HG1.out), HB1⟩
  case round =>
    clear HG1 HB1 HX HC HBC
    obtain ⟨k, m, g, c, hk, hm, rfl, HG, HB⟩ := hrel
    have hlen : (s ++ [128] ++ List.replicate k (0 : UInt8)).length = m := by simp; omega
    have HLn := Lib.hid hlen
    have HMk := Lib.hid hm
    have hm1 : m ≤ s.length + 90 := by omega
    clear hlen
    by_cases h56 : m % 64 = 56
    · have hm56 : ((m : Int) % 64 != 56) = false := by simp; omega
      obtain rfl : k = K := by omega
      have e8 : s ++ [128] ++ List.replicate k (0 : UInt8) = padI s 0 := by unfold padI; rw [hK]; simp
      rw [e8] at HG
      have hmP : m = (padI s 0).length := by rw [padI_len]; omega
      have HM := Lib.hid hmP
      clear e8 hmP HLn
      clear hK hm h56 hk
      go_wp2
      go_loopw [26, 3] (fun i v wr => ∃ n m g c : Nat, n ≤ 8 ∧ m = s.length + 1 + k + n ∧ i = .int .i64 n ∧ v = .slice (some ⟨g, 0, none⟩) m c ∧ Hid (BufB w.heap.size wr g c (padI s n)) ∧ Hid ((padI s n).length = m) ∧ Hid (Below w.heap.size w wr)) (fun i _ _ => 8 - (intOf i).toNat)
      case atStart => exact ⟨0, m, g, c, by omega, by have := HMk.out; omega, rfl, rfl, HG, Lib.hid HM.out.symm, HB⟩
      case round =>
        clear HG HM HB hm56 hm1 HMk
        obtain ⟨n, m, g, c, hn, hm, rfl, rfl, HG, HM, HB⟩ := hrel
        have HMk := Lib.hid hm
        have hm1 : m ≤ s.length + 200 := by omega
        clear hm
        by_cases hlt : n < 8
        · obtain ⟨j, hj⟩ : ∃ j : Nat, j = 8 * n := ⟨_, rfl⟩
          obtain ⟨r, hr⟩ : ∃ r : Nat, r = 56 - j := ⟨_, rfl⟩
          have x1 : IntKind.i64.wrap (8 * (n : Int)) = (j : Int) := by rw [IntKind.wrap_i64] <;> omega
          have x2 : IntKind.i64.wrap (56 - (j : Int)) = (r : Int) := by rw [IntKind.wrap_i64] <;> omega
          have x3 : (0 : Int) ≤ (r : Int) := by omega
          have x4 : (r : Int) ≤ 64 := by omega
          have x5 : ¬ (r : Int) < 0 := by omega
          obtain ⟨y, hy⟩ : ∃ y : UInt8, UInt8.ofNat (s.length * 8 / 2 ^ r) = y := ⟨_, rfl⟩
          have x6 : ((s.length : Int) * 8 / 2 ^ r) % 256 = (y.toNat : Int) := by
            have e : ((s.length : Int) * 8 / 2 ^ r) = ((s.length * 8 / 2 ^ r : Nat) : Int) := by push_cast; rfl
            rw [e, ← hy, UInt8.toNat_ofNat']; omega
          have HP := Lib.hid (show padI s (n + 1) = padI s n ++ [y] by rw [padI_succ, ← hj, ← hr, hy])
          clear hj hr hy
          go_wp2_with (at_builtin; refine wpList_append_buf _ rfl _ _ 124 124 rfl 5 i0 (.int .u8 0) Tryz.underlying124 hi0 hz0 hz1 hz2 rfl (HG.out.below ((Below.refl _ _).alloc (Nat.le_refl _) (.cells #[.int .u8 (y.toNat : Int)] 5))) (by have := HB.out.size; simp; omega) m HM.out rfl (.slice (some ⟨_, 0, none⟩) 1 1) [y] rfl (Src.ofSlice (e' := 5) _ (by kernel_rfl) ⟨_, 0, none⟩ 1 1 _ rfl (cell1Y _ _ _) (by simp [u8s, Value.oneCell'])) (by simp) (by rw [HM.out]; simp; omega) ?_; intro g2 c2 w2 hb2 hB2; have HB2 := Lib.hid ((HB.out).trans (((Below.refl _ _).alloc (HB.out).size (.cells #[.int .u8 (y.toNat : Int)] 5)).trans hB2)); have HG2 := Lib.hid hb2; clear hb2 hB2)
          go_roundw
          case rel => exact ⟨n + 1, m + 1, g2, c2, by omega, by have := HMk.out; omega, by go_num, by simp [HM.out], Lib.hid (by rw [HP.out]; exact HG2.out), Lib.hid (by rw [HP.out, List.length_append, HM.out]; rfl), HB2⟩
          case measure => simp [intOf]; omega
        · obtain rfl : n = 8 := by omega
          rw [padI_8] at HG HM
          have HPm := Lib.hid (show (padB s).length = 64 * ((padB s).length / 64) by have := pad_whole s; omega)
          obtain ⟨F, hF⟩ : ∃ F, blocksW startW (padB s) ((padB s).length / 64) = F := ⟨_, rfl⟩
          have HSha := Lib.hid (show hex8 F = shaB s by rw [← hF]; rfl)
          have HF := Lib.hid hF
          clear hF
          have hc := HG.out.le
          rw [HM.out] at hc
          have HR := Lib.hid HG.out.rd
          have hgl := HG.out.lt
          have hS := HS.out.below HB.out
          have v0 := hS 0 (by decide)
          have v1 := hS 1 (by decide)
          have v2 := hS 2 (by decide)
          have v3 := hS 3 (by decide)
          have v4 := hS 4 (by decide)
          have v5 := hS 5 (by decide)
          have v6 := hS 6 (by decide)
          have v7 := hS 7 (by decide)
          simp only [St8.at] at v0 v1 v2 v3 v4 v5 v6 v7
          clear hS HG HMk
          generalize startW = s0 at v0 v1 v2 v3 v4 v5 v6 v7 HF
          generalize (padB s).length / 64 = rn at HPm HF
          generalize padB s = P at HM HPm HF HR
          have HV := Lib.hid (Blk8.new wr s0)
          have HB3 := Lib.hid (HB.out.alloc HB.out.size (.cells #[U s0.a, U s0.b, U s0.c, U s0.d, U s0.e, U s0.f, U s0.g, U s0.h] 165))
          have HR3 := Lib.hid (HR.out.below ((Below.refl _ _).alloc (Nat.le_refl _) (.cells #[U s0.a, U s0.b, U s0.c, U s0.d, U s0.e, U s0.f, U s0.g, U s0.h] 165)))
          have hbw := HB.out.size
          have hbs : wr.heap.size < (wr.alloc (.cells #[U s0.a, U s0.b, U s0.c, U s0.d, U s0.e, U s0.f, U s0.g, U s0.h] 165)).heap.size := by simp
          go_upto_region 11 with fail
          generalize hw3 : wr.alloc (.cells #[U s0.a, U s0.b, U s0.c, U s0.d, U s0.e, U s0.f, U s0.g, U s0.h] 165) = w3 at HV HB3 HR3 hbs ⊢
          clear hw3 v0 v1 v2 v3 v4 v5 v6 v7 HR HB
          generalize hgE : wr.heap.size = hb at HV hgl hbw hbs ⊢
          clear hgE
          subst HM
          try rw [show (((8 : Nat) : Nat) : Int) = 8 from rfl]
          go_loopw [3] (fun v wx => ∃ (rest : List UInt8) (st : St8) (A : Option Addr) (c r : Nat), v = .slice A rest.length c ∧ rest.length ≤ c ∧ rest.length ≤ s.length + 200 ∧ Hid (rest.length = 64 * r) ∧ Hid (Rd wx A (u8s rest)) ∧ Hid (∀ a, A = some a → a.block < hb) ∧ Hid (Blk8 wx hb st) ∧ Hid (blocksW st rest r = F) ∧ Hid (Below w.heap.size w wx)) (fun v _ => lenV v)
          case atStart => exact ⟨P, s0, some ⟨g, 0, none⟩, c, rn, rfl, hc, hm1, HPm, HR3, Lib.hid (fun a ha => by cases ha; exact hgl), HV, HF, HB3⟩
          case round =>
            clear HV HB3 HR3 HF HPm hm1 hc hgl hbs
            obtain ⟨rest, st, A, c, r, rfl, hc, hm1, HM, HR, HA, HV, HF, HB⟩ := hrel
            by_cases hlt : 0 < rest.length
            · obtain ⟨bb, ob2, rfl, hbb, hcc⟩ := HR.out.at 0 (by rw [u8s_len]; exact hlt)
              clear hcc
              have h64 : 64 ≤ rest.length := by have := HM.out; omega
              have HKw := Lib.hid (HK.out.below HB.out)
              have hlti : (0 : Int) < (rest.length : Int) := by omega
              go_wp2_with fail
              refine (block_any hb st rest _ c _ HV.out HR.out h64 (by omega) HKw.out).mono ?_
              rintro e w5 ⟨rfl, hV5, hG5⟩
              have hbl := HA.out _ rfl
              have HV5 := Lib.hid hV5
              have HB5 := Lib.hid (HB.out.grown hG5 HB.out.size (fun k hk => by cases hk; exact hbw))
              have HR5 := Lib.hid ((HR.out.grown hG5 (fun a ha h => by cases ha; cases h; exact Nat.lt_irrefl _ hbl)).drop 64)
              obtain ⟨r, rfl⟩ : ∃ r', r = r' + 1 := ⟨r - 1, by have := HM.out; omega⟩
              have HF5 := Lib.hid (show blocksW (blockW keysW st rest) (rest.drop 64) r = F by rw [← HF.out, blocksW, block_take])
              have HM5 := Lib.hid (show (rest.drop 64).length = 64 * r by rw [List.length_drop]; have := HM.out; omega)
              have hi1 : (64 : Int) ≤ (rest.length : Int) := by omega
              have hi2 : (rest.length : Int) ≤ (c : Int) := by omega
              clear hV5 hG5 HB HR HV HF HM HKw
              by_cases hc64 : c = 64
              · have hr64 : rest.length = 64 := by omega
                have hd : rest.drop 64 = [] := List.eq_nil_of_length_eq_zero (by rw [List.length_drop]; omega)
                have HD := Lib.hid hd
                rw [hd] at HF5 HM5
                subst hc64
                clear hd
                go_wp2
                go_roundw
                case rel => exact ⟨[], _, _, _, r, by rfl, by simp, by simp, HM5, Lib.hid (.inl rfl), Lib.hid (fun a ha => by cases ha; exact hbl), HV5, HF5, HB5⟩
                case measure => simp [lenV]; omega
              · go_wp2
                go_roundw
                case rel => exact ⟨rest.drop 64, _, _, _, r, by rw [List.length_drop], by rw [List.length_drop]; omega, by rw [List.length_drop]; omega, HM5, HR5, Lib.hid (fun a ha => by cases ha; exact hbl), HV5, HF5, HB5⟩
                case measure => simp [lenV]; omega
            · obtain rfl : r = 0 := by have := HM.out; omega
              obtain rfl : st = F := HF.out
              obtain ⟨v0, v1, v2, v3, v4, v5, v6, v7⟩ := HV.out.cells
              have hl0 : ¬ (0 : Int) < (rest.length : Int) := by omega
              clear HR HA HM HF hbw
              go_wp2
              clear v0 v1 v2 v3 v4 v5 v6 v7 HV
              go_loopw [48, 7] (fun i vo wx => ∃ n : Nat, n ≤ 8 ∧ i = .int .i64 n ∧ Hid (OwnY wx w.heap.size vo (hexI st n)) ∧ Hid (Below w.heap.size w wx)) (fun i _ _ => 8 - (intOf i).toNat)
              case atStart => exact ⟨0, by omega, rfl, Lib.hid (World.ownsRow_nil _ _ _ _), HB⟩
              case round =>
                clear HB
                obtain ⟨n, hn, rfl, HO, HB⟩ := hrel
                by_cases hlt2 : n < 8
                · have hix := idx_st st n hlt2
                  have hi8 : (n : Int) < 8 := by omega
                  have HX := Lib.hid (show hexI st (n + 1) = hexI st n ++ hexW (st.at n) from rfl)
                  have hln := hexI_len st n
                  generalize st.at n = x at hix HX
                  generalize hexI st n = pre at HO HX hln
                  go_wp2
                  have HB0 := HB
                  have HO0 := HO
                  go_loopw [10, 7] (fun d vo wx => ∃ (j : Nat) (q : Int), j ≤ 8 ∧ q = 28 - 4 * (j : Int) ∧ d = .int .i64 q ∧ Hid (OwnY wx w.heap.size vo (pre ++ hexJ x j)) ∧ Hid (Below w.heap.size w wx)) (fun d _ _ => (intOf d + 4).toNat)
                  case atStart => exact ⟨0, 28, by omega, by omega, rfl, Lib.hid (by rw [show hexJ x 0 = [] from rfl, List.append_nil]; exact HO.out), HB⟩
                  case round =>
                    clear HO HB HB0 HO0 hix
                    obtain ⟨j, q, hj, hq, rfl, HO, HB⟩ := hrel
                    have hlj := hexJ_len x j
                    have hL : (pre ++ hexJ x j).length ≤ 100 := by rw [List.length_append]; omega
                    clear hlj
                    by_cases hlt3 : j < 8
                    · obtain ⟨q, rfl⟩ : ∃ q' : Nat, q = (q' : Int) := ⟨q.toNat, by omega⟩
                      have HX2 := Lib.hid (show pre ++ hexJ x (j + 1) = pre ++ hexJ x j ++ [hexB (x.toNat / 2 ^ q % 16)] by rw [hexJ_succ, show 28 - 4 * j = q by omega, List.append_assoc])
                      generalize pre ++ hexJ x j = L at HO hL HX2
                      have x3 : (0 : Int) ≤ (q : Int) := by omega
                      have x4 : (q : Int) ≤ 64 := by omega
                      have x5 : ¬ (q : Int) < 0 := by omega
                      have x6 := u32_and15 x q
                      obtain ⟨r, hr⟩ : ∃ r : Nat, x.toNat / 2 ^ q % 16 = r := ⟨_, rfl⟩
                      rw [hr] at x6 HX2
                      have hq32 : min q 32 = q := by omega
                      have hr16 : r < 16 := by omega
                      have hid := hexL r hr16
                      generalize hexB r = y at hid HX2
                      have HJ := Lib.hid hq
                      clear hr hq
                      obtain ⟨av, cv, rfl⟩ := ownsRow_form HO.out
                      go_wp2_with (at_builtin; refine wpList_append_own _ rfl _ _ 124 rfl w.heap.size 5 i0 (.int .u8 0) 1 1 Tryz.underlying124 hi0 hz0 hz1 hz2 rfl (by decide) _ _ _ rfl (HO.out.alloc _) ⟨_, 0, none⟩ 1 1 [.int .u8 (y.toNat : Int)] rfl rfl (cell1Y _ _ _) (by simp [Value.oneCell']) (by unfold maxLen; omega) (by omega) (by simp; have := HB.out.size; omega) ?_; intro v' w5 hown5 hgr5 _; have HB5 := Lib.hid ((HB.out.alloc HB.out.size _).grown hgr5 (by have := HB.out.size; simp; omega) (fun q hq => ((HO.out.alloc (.cells #[.int .u8 (y.toNat : Int)] 5)).lt q hq).1)); have HO5 := Lib.hid (own_snocY hown5); obtain ⟨ao', c', rfl⟩ := ownsRow_form hown5; clear hown5 hgr5)
                      go_roundw
                      case rel => exact ⟨j + 1, (q : Int) - 4, by omega, by have := HJ.out; push_cast; omega, by go_num, Lib.hid (by rw [HX2.out]; exact HO5.out), HB5⟩
                      case measure => simp [intOf]; omega
                    · obtain rfl : j = 8 := by omega
                      have hqn : ¬ (0 : Int) ≤ q := by omega
                      go_wp2
                      go_roundw
                      case rel => exact ⟨n + 1, by omega, by go_num, Lib.hid (by rw [HX.out]; exact HO.out), HB⟩
                      case measure => simp [intOf]; omega
                · obtain rfl : n = 8 := by omega
                  rw [hexI_8, HSha.out] at HO
                  have hl64 : (shaB s).length = 64 := by rw [← HSha.out, ← hexI_8, hexI_len]
                  generalize hSD : shaB s = D at HO hl64
                  have HSD := Lib.hid hSD
                  clear hSD
                  obtain ⟨gv, cv, rfl, _, _⟩ := HO.out.form (by omega)
                  have hrd := (Rd.of_own HO.out)
                  obtain ⟨A2, c2, hv2, _, _, hrd2⟩ := hrd
                  cases hv2
                  obtain ⟨bo, oo, hAo, _, hco⟩ := hrd2.at 0 (by rw [u8s_len]; omega)
                  cases hAo
                  have hcv2 := run_convert_bytes_back (P := Tryz.prog) wr 124 9 5 ⟨gv, 0, none⟩ cv D (by kernel_rfl) (by kernel_rfl) (by kernel_rfl) (by
                    intro j hj
                    rw [Addr.add_lit]
                    exact hco j _ (u8s_get D j hj))
                  clear hl64
                  go_wp2
                  go_ret
                  exact ⟨ret_str HSD.out.symm, HB.out⟩
    · have hm56 : ((m : Int) % 64 != 56) = true := by simp; omega
      have HE := Lib.hid (show s ++ [128] ++ List.replicate (k + 1) (0 : UInt8) = s ++ [128] ++ List.replicate k 0 ++ [0] by rw [List.replicate_succ', ← List.append_assoc])
      have hk1 : k + 1 ≤ K := by omega
      clear hm h56 hK hk
      generalize s ++ [128] ++ List.replicate k (0 : UInt8) = L at HG HLn HE
      go_wp2_with (at_builtin; refine wpList_append_buf _ rfl _ _ 124 124 rfl 5 i0 (.int .u8 0) Tryz.underlying124 hi0 hz0 hz1 hz2 rfl (HG.out.below ((Below.refl _ _).alloc (Nat.le_refl _) (.cells #[.int .u8 0] 5))) (by have := HB.out.size; simp; omega) m HLn.out rfl (.slice (some ⟨_, 0, none⟩) 1 1) [0] rfl (Src.ofSlice (e' := 5) _ (by kernel_rfl) ⟨_, 0, none⟩ 1 1 _ rfl (cell1Y _ _ _) (by simp [u8s, Value.oneCell'])) (by decide) (by rw [HLn.out]; simp; omega) ?_; intro g2 c2 w2 hb2 hB2; have HB2 := Lib.hid ((HB.out).trans (((Below.refl _ _).alloc (HB.out).size (.cells #[.int .u8 0] 5)).trans hB2)); have HG2 := Lib.hid hb2; clear hb2 hB2)
      go_roundw
      case rel => exact ⟨k + 1, m + 1, g2, c2, hk1, by have := HMk.out; omega, by simp [HLn.out], Lib.hid (by rw [HE.out]; exact HG2.out), HB2⟩
      case measure => simp [lenV, HLn.out]; omega
end Go.Proofs.YtkdplkhnkimhpaaGreatDoor
