/-
  The program: an archive's entry, by kinds.
  The program: an archive's entry: dir.
  The program: an archive's entry: link.
  The program: an archive's entry: file.
  The program: an archive's entry: fileD.
  The program: an archive's entry: gone.
  The program: an archive's entry: clear.
  The program: an archive's entry, of whatever kind; a builder takes bytes.
  The program: an archive.
-/
import Derived.Lib.AppendStr
import Derived.Deep.AppendSrc
import Derived.BigRegion
import Derived.Test.YtpkabccinhfmbaaGreatDoorY02
import Derived.Test.YtpkabccinhfmbaaGreatDoorY20
set_option linter.unusedVariables false
set_option linter.unusedSimpArgs false
namespace Go.Proofs.YtpkabccinhfmbaaGreatDoor
open Go.RowKit

def lenOf : Value → Nat | .slice _ n _ => n | _ => 0
def bytesV (l : List UInt8) : List Value := l.map fun x => Value.int .u8 (x.toNat : Int)
theorem bytesV_len (l : List UInt8) : (bytesV l).length = l.length := by simp [bytesV]
/-- what an entry answers -/
theorem own_at {w : World} {base : Nat} {e : TypeId} {size : Nat} {v : Value} {n m c : Nat} {xs : List Value} {A : Option Addr} (h : w.ownsRow base e size v n xs) (hn : 0 < n) (hv : v = .slice A m c) : ∃ g o, A = some ⟨g, o, none⟩ ∧ base ≤ g := by
  rcases h.2 with ⟨_, h2⟩ | ⟨g, cap, cur, h1, h2, _⟩
  · omega
  · rw [h1] at hv; cases hv; exact ⟨g, 0, rfl, h2⟩
def EntOut (l : List UInt8) (W : World) (e : Ending) (w' : World) : Prop := ∃ A cap, e = .returned (.slice A l.length cap) ∧ Rd w' A (bytesV l) ∧ Below W.heap.size W w' ∧ ∃ g o, A = some ⟨g, o, none⟩ ∧ W.heap.size ≤ g
theorem Hdr.cell {w : World} {g : Nat} {L : List UInt8} (h : Hdr w g L) (i : Nat) (hi : i < 512) : w.cell? ⟨g, i, none⟩ = some (.int .u8 ((L.getD i 0).toNat : Int)) := h.2.cell hi
theorem Hdr.rd {w : World} {g : Nat} {L : List UInt8} (h : Hdr w g L) : Rd w (some ⟨g, 0, none⟩) (bytesV L) := by
  refine .inr ⟨g, 0, rfl, fun i u hu => ?_⟩
  unfold bytesV at hu
  rw [List.getElem?_map] at hu
  cases hl : L[i]? with
  | none => rw [hl] at hu; cases hu
  | some x =>
    rw [hl] at hu
    obtain rfl : Value.int .u8 (x.toNat : Int) = u := Option.some.inj hu
    have hi := (List.getElem?_eq_some_iff.1 hl).1
    rw [h.1] at hi
    rw [Nat.zero_add, h.cell i hi, List.getD_eq_getElem?_getD, hl]; rfl
theorem Hdr.set1 {w : World} {g : Nat} {L : List UInt8} (h : Hdr w g L) (a : Nat) (x : UInt8) (ha : a < 512) : Hdr (w.setCell ⟨g, a, none⟩ (.int .u8 (x.toNat : Int))) g (setB L a [x]) := h.set a [x] (by simp only [List.length_singleton]; omega)
theorem Hdr.new (w : World) (cs : Array Value) (hc : cs = Array.replicate 512 (Value.int .u8 0)) : Hdr (w.alloc (.cells cs 134)) w.heap.size (List.replicate 512 0) := by
  subst hc
  refine ⟨List.length_replicate, ?_⟩
  have := World.rowIs_alloc w (Array.replicate 512 (Value.int .u8 0)) 134 (fun _ => .int .u8 0) (by
      intro i hi; rw [Array.size_replicate] at hi; rw [Array.getElem?_replicate, if_pos hi])
  rw [Array.size_replicate] at this
  refine this.congr fun j hj => ?_
  rw [List.getD_eq_getElem?_getD, List.getElem?_replicate, if_pos hj]; rfl
theorem zeroHdr : Tryz.zeroCells134 = Array.replicate 512 (Value.int .u8 0) := by kernel_rfl

section
variable (w : World) (g : Nat)
theorem whole_any : (Instr.sliceAt 132 (.pointer (some ⟨g, 0, none⟩)) none none none).run Tryz.prog w = .ok (.slice (some ⟨g, 0, none⟩) 512 512) w := by
  have e : Tryz.prog.arrayLen 132 = 512 := by kernel_rfl
  rw [run_sliceAt_array_all (P := Tryz.prog) w 132 ⟨g, 0, none⟩ (by kernel_rfl), e]
  rw [show (sizeOf (Tryz.prog.elem 132)).run Tryz.prog w = .ok 1 w from by kernel_rfl]
  simp only [Result.andThen, slicedAt]
  rw [if_neg (by omega)]
  simp [Addr.add]
theorem index512 (cs : Array Value) (k : Nat) (v : Value) (hk : k < 512) (hv : cs[k]? = some v) :
    (Instr.index 132 (.agg cs) (.int .i64 (k : Int))).run Tryz.prog w = .ok v w := by
  have hn : (0 ≤ (k : Int) ∧ (k : Int) < ((512 : Nat) : Int)) := by omega
  simp [Instr.index, run_underlying Tryz.underlying132, asIntOf, hn, go_sem]
  rw [if_pos hk, hv]; rfl
theorem store_empty : (storeCells ⟨g, 512, none⟩ (List.map (fun b => Value.int IntKind.u8 b.toNat) (S []).data.toList)).run Tryz.prog w = .ok () w := rfl
end

open Go.Lib in
theorem run_append_full {P : Program} (w : World) (base : Nat) (t u ty e : TypeId) (i : TypeInfo) (ht : P.underlying t = some (.slice e)) (hu : P.underlying u = some .string) (hi : P.info? e = some i) (hz : i.zero = some (.int .u8 0))
    (hsize : i.size = 1) (hby : i.bytes = 1) (g n : Nat) (xs : List Value) (hxl : xs.length = n) (holds : ∀ j u, xs[j]? = some u → w.cell? ((⟨g, 0, none⟩ : Addr).add j) = some u) (s : ByteArray) (hs0 : 0 < s.size)
    (hbytes : n + s.size ≤ 4294967290) (hbase : base ≤ w.heap.size) :
    ∃ v' w', (Builtin.append_ #[t, u] ty #[.slice (some ⟨g, 0, none⟩) n n, .string s]).run P w = .ok v' w' ∧ w'.ownsRow base e 1 v' (n + s.size) (xs ++ strCells s) ∧ w.grownBy w' none := by
  have hr := run_append_grow_string (P := P) w t u ty e i (.int .u8 0) ht hu hi hz ⟨g, 0, none⟩ n n xs (by rw [hsize]; simpa using hxl) holds s (by omega) (by omega) (by rw [hby]; exact growslice_fits (by omega) (by omega))
  have hge := grownCap_ge w (n + s.size) n e
  have hcm : grownCap w (n + s.size) n e ≤ maxLen := grownCap_le_maxLen w (n + s.size) n e (by unfold maxLen; omega)
  have hlen : (xs ++ strCells s).length = (n + s.size) * 1 := by rw [List.length_append, hxl, strCells_length, Nat.mul_one]
  refine ⟨_, _, hr, ⟨hlen, .inr ⟨w.heap.size, _, _, rfl, hbase, heap_alloc_new w.drew _, hge, hcm, ?_, ?_⟩⟩, ⟨rfl, rfl, rfl, by simp, fun k hk _ => _root_.Go.heap_alloc_old w.drew _ hk⟩⟩
  · have hz1 : (Value.int IntKind.u8 0).cells.size = 1 := rfl
    simp only [Array.size_append, List.size_toArray, size_zeroCells, hz1, hxl, strCells_length]
    omega
  · simp only [Array.toList_append, List.append_assoc]
    rw [← List.append_assoc, ← hlen]
    exact List.take_left
theorem wpList_append_full {P : Program} {w : World} {ops : Array Oper} {rest : List Oper} {o : Oper} {a : Act} {Q : Exit → Act → World → Prop} (hgd : o.guard = none) (sl x : Operand) (t u : TypeId)
    (ho : o.op = .call { callee := .builtin .append, args := #[sl, x], argTypes := #[t, u] })
    (base : Nat) (e : TypeId) (i : TypeInfo) (ht : P.underlying t = some (.slice e)) (hu : P.underlying u = some .string) (hi : P.info? e = some i) (hz : i.zero = some (.int .u8 0))
    (hsize : i.size = 1) (hby : i.bytes = 1) (g n : Nat) (hs : a.eval sl = .slice (some ⟨g, 0, none⟩) n n) (xs : List Value) (hxl : xs.length = n) (holds : ∀ j u, xs[j]? = some u → w.cell? ((⟨g, 0, none⟩ : Addr).add j) = some u)
    (s : ByteArray) (hx : a.eval x = .string s) (hs0 : 0 < s.size) (hbytes : n + s.size ≤ 4294967290) (hbase : base ≤ w.heap.size)
    (h : ∀ v' w', w'.ownsRow base e 1 v' (n + s.size) (xs ++ Lib.strCells s) → w.grownBy w' none → wpList P ops Q rest (a.put o.dst v') w') : wpList P ops Q (o :: rest) a w := by
  refine wpList_plain hgd fun K hK => ?_
  obtain ⟨v', w', hr, h2, h3⟩ := run_append_full (P := P) w base t u o.type e i ht hu hi hz hsize hby g n xs hxl holds s hs0 hbytes hbase
  unfold Oper.wp execOp
  simp only [ho, resolve, invoke, builtin, Sem.run_bind, Sem.run_pure, Result.andThen_ok, List.map_toArray, List.map_cons, List.map_nil, hs, hx, hr]
  exact hK _ _ (h v' w' h2 h3)
theorem bytesV_app (l m : List UInt8) : bytesV (l ++ m) = bytesV l ++ bytesV m := by simp [bytesV]
theorem strCells_S (l : List UInt8) : Lib.strCells (S l) = bytesV l := rfl
end Go.Proofs.YtpkabccinhfmbaaGreatDoor
namespace Go.Proofs.YtpkabccinhfmbaaGreatDoor
open Go.RowKit

set_option maxRecDepth 100000 in
set_option maxHeartbeats 8000000 in
theorem entryP_dir (p d : List UInt8) (m : Nat) (w : World) (hF : Fit ⟨p, 1, m, d⟩) (hm : m ≤ 511) (hd : d.length ≤ 4096) (hp : p.length ≤ 170) (hS : Std w) (hT : Tz w) :
    Calls Tryz.prog 40 #[.agg #[.string (S p), .int .i64 1, .int .i64 m, .string (S d)]] w (EntOut (entB ⟨p, 1, m, d⟩) w) := by
  obtain ⟨hnam, hE⟩ := elems_name hF
  have hnl := name_len hF
  rw [hnam] at hnl
  have hsl := split_len hE hnl
  rw [← hnam] at hsl
  have hN := hnam
  have HE := Lib.hid hE
  have HS := Lib.hid hS
  have HT := Lib.hid hT
  have hom := octB_len m 3 (by omega)
  have ho0 := octB_len 0 0 (by omega)
  have h1 := (Below.refl w.heap.size w).alloc (Nat.le_refl _) (.cells #[.string (S p), .int .i64 1, .int .i64 m, .string (S d)] 33)
  have C1 := Cell4.new w ⟨p, 1, m, d⟩ 33
  have H0 := Hdr.new (w.alloc (.cells #[.string (S p), .int .i64 1, .int .i64 m, .string (S d)] 33)) _ zeroHdr
  have BW := h1.alloc (by simp) (.cells Tryz.zeroCells134 134)
  have C2 := C1.below ((Below.refl _ _).alloc (Nat.le_refl _) (.cells Tryz.zeroCells134 134))
  rw [show (w.alloc (.cells #[.string (S p), .int .i64 1, .int .i64 m, .string (S d)] 33)).heap.size = w.heap.size + 1 by simp] at H0
  have XE := Lib.hid (head_fields ⟨p, 1, m, d⟩)
  have XS := Lib.hid (sumB_fields ⟨p, 1, m, d⟩)
  have HN := Lib.hid (show p ++ [47] = joinB (elemsB ⟨p, 1, m, d⟩) from hN)
  have HJ := Lib.hid (show p ++ [47] = namB ⟨p, 1, m, d⟩ from rfl)
  clear hN
  clear hE hS hT h1 C1 hnam
  go_enter Tryz.func40, Tryz.ntmps40
  go_wp2_with fail
  generalize hW2 : (w.alloc (.cells #[.string (S p), .int .i64 1, .int .i64 m, .string (S d)] 33)).alloc (.cells Tryz.zeroCells134 134) = w2 at H0 BW C2 ⊢
  clear hW2
  have HLT := Lib.hid H0.lt
  replace H0 := Lib.hid H0
  replace C2 := Lib.hid C2
  replace BW := Lib.hid BW
  have BC := Lib.hid (Below.refl (w.heap.size + 1) w2)
  have hNM := name_any (w.heap.size + 1) _ _ _ HE.out hnl H0.out (HS.out.below BW.out)
  rw [← HN.out] at hNM
  refine hNM.mono ?_
  rintro e w3 ⟨rfl, h3, b3⟩
  rw [HJ.out] at h3
  clear hNM
  have H3 := Lib.hid h3
  have BC3 := Lib.hid (BC.out.trans b3)
  have BW3 := Lib.hid (BW.out.trans (b3.mono (Nat.le_succ _)))
  clear h3 b3 H0 BW BC HE HN HJ HLT
  have c3m : w3.cell? ⟨w.heap.size, 2, none⟩ = some (.int .i64 m) := (BC3.out.cell (p := ⟨w.heap.size, 2, none⟩) (Nat.lt_succ_self _)).trans C2.out.2.2.1
  go_wp2_with fail
  refine (num_any (w.heap.size + 1) _ 100 7 m _ H3.out (HT.out.below BW3.out) (by omega) (by omega) (by omega) (by omega)).mono ?_
  rintro e w4 ⟨rfl, h4, b4⟩
  have H4 := Lib.hid h4
  have BW4 := Lib.hid (BW3.out.trans (b4.mono (Nat.le_succ _)))
  clear h4 b4 H3 BW3 c3m
  go_wp2_with fail
  refine (num_any (w.heap.size + 1) _ 108 7 0 _ H4.out (HT.out.below BW4.out) (by omega) (by omega) (by omega) (by omega)).mono ?_
  rintro e w5 ⟨rfl, h5, b5⟩
  have H5 := Lib.hid h5
  have BW5 := Lib.hid (BW4.out.trans (b5.mono (Nat.le_succ _)))
  clear h5 b5 H4 BW4
  go_wp2_with fail
  refine (num_any (w.heap.size + 1) _ 116 7 0 _ H5.out (HT.out.below BW5.out) (by omega) (by omega) (by omega) (by omega)).mono ?_
  rintro e w6 ⟨rfl, h6, b6⟩
  have H6 := Lib.hid h6
  have BW6 := Lib.hid (BW5.out.trans (b6.mono (Nat.le_succ _)))
  clear h6 b6 H5 BW5
  go_wp2_with fail
  refine (num_any (w.heap.size + 1) _ 124 11 0 _ H6.out (HT.out.below BW6.out) (by omega) (by omega) (by omega) (by omega)).mono ?_
  rintro e w7 ⟨rfl, h7, b7⟩
  have H7 := Lib.hid h7
  have BW7 := Lib.hid (BW6.out.trans (b7.mono (Nat.le_succ _)))
  clear h7 b7 H6 BW6
  go_wp2_with fail
  refine (num_any (w.heap.size + 1) _ 136 11 0 _ H7.out (HT.out.below BW7.out) (by omega) (by omega) (by omega) (by omega)).mono ?_
  rintro e w8 ⟨rfl, h8, b8⟩
  have H8 := Lib.hid h8
  have BW8 := Lib.hid (BW7.out.trans (b8.mono (Nat.le_succ _)))
  clear h8 b8 H7 BW7
  go_wp2_with fail
  refine (text_any (w.heap.size + 1) _ 148 [32, 32, 32, 32, 32, 32, 32, 32] _ H8.out (by first | omega | decide) (by omega)).mono ?_
  rintro e w9 ⟨rfl, hw9⟩
  have h9 := H8.out.set 148 [32, 32, 32, 32, 32, 32, 32, 32] (by first | omega | decide)
  have b9 := below_setCells (Nat.le_refl (w.heap.size + 1)) (List.map (fun x : UInt8 => Value.int .u8 (x.toNat : Int)) [32, 32, 32, 32, 32, 32, 32, 32]) 148 _ (Below.refl _ w8)
  rw [← hw9] at h9 b9
  clear hw9
  have H9 := Lib.hid h9
  have BW9 := Lib.hid (BW8.out.trans (b9.mono (Nat.le_succ _)))
  clear h9 b9 H8 BW8
  have c156 := H9.out.cell 156 (by omega)
  have f156 := H9.out.2.frozen 156
  go_upto_region 24 with fail
  have h10 := H9.out.set1 156 53 (by omega)
  have b10 := (Below.refl (w.heap.size + 1) w9).setCell (p := ⟨w.heap.size + 1, 156, none⟩) (Nat.le_refl _) (.int .u8 ((53 : UInt8).toNat : Int))
  rw [show ((53 : UInt8).toNat : Int) = 53 from rfl] at h10 b10
  clear c156 f156
  generalize hw10 : w9.setCell ⟨w.heap.size + 1, 156, none⟩ (.int .u8 53) = w10 at h10 b10 ⊢
  clear hw10
  have H10 := Lib.hid h10
  have BW10 := Lib.hid (BW9.out.trans (b10.mono (Nat.le_succ _)))
  clear h10 b10 H9 BW9
  go_wp2_with fail
  refine (text_any (w.heap.size + 1) _ 157 [] _ H10.out (by first | omega | decide) (by omega)).mono ?_
  rintro e w11 ⟨rfl, hw11⟩
  have h11 := H10.out.set 157 [] (by first | omega | decide)
  have b11 := below_setCells (Nat.le_refl (w.heap.size + 1)) (List.map (fun x : UInt8 => Value.int .u8 (x.toNat : Int)) []) 157 _ (Below.refl _ w10)
  rw [← hw11] at h11 b11
  clear hw11
  have H11 := Lib.hid h11
  have BW11 := Lib.hid (BW10.out.trans (b11.mono (Nat.le_succ _)))
  clear h11 b11 H10 BW10
  go_wp2_with fail
  refine (text_any (w.heap.size + 1) _ 257 [117, 115, 116, 97, 114, 0, 48, 48] _ H11.out (by first | omega | decide) (by omega)).mono ?_
  rintro e w12 ⟨rfl, hw12⟩
  have h12 := H11.out.set 257 [117, 115, 116, 97, 114, 0, 48, 48] (by first | omega | decide)
  have b12 := below_setCells (Nat.le_refl (w.heap.size + 1)) (List.map (fun x : UInt8 => Value.int .u8 (x.toNat : Int)) [117, 115, 116, 97, 114, 0, 48, 48]) 257 _ (Below.refl _ w11)
  rw [← hw12] at h12 b12
  clear hw12
  have H12 := Lib.hid h12
  have BW12 := Lib.hid (BW11.out.trans (b12.mono (Nat.le_succ _)))
  clear h12 b12 H11 BW11
  go_wp2_with fail
  refine (num_any (w.heap.size + 1) _ 329 7 0 _ H12.out (HT.out.below BW12.out) (by omega) (by omega) (by omega) (by omega)).mono ?_
  rintro e w13 ⟨rfl, h13, b13⟩
  have H13 := Lib.hid h13
  have BW13 := Lib.hid (BW12.out.trans (b13.mono (Nat.le_succ _)))
  clear h13 b13 H12 BW12
  go_wp2_with fail
  refine (num_any (w.heap.size + 1) _ 337 7 0 _ H13.out (HT.out.below BW13.out) (by omega) (by omega) (by omega) (by omega)).mono ?_
  rintro e w14 ⟨rfl, h14, b14⟩
  have H14 := Lib.hid h14
  have BW14 := Lib.hid (BW13.out.trans (b14.mono (Nat.le_succ _)))
  clear h14 b14 H13 BW13
  have HL : Hdr w14 (w.heap.size + 1) (stepB (splB (namB ⟨p, 1, m, d⟩)).2 (splB (namB ⟨p, 1, m, d⟩)).1 m 0 53 []) := H14.out
  rw [stepB_fields _ _ _ _ _ _ hsl.2 hsl.1 (by omega) (by omega) (by first | omega | decide)] at HL
  have HL2 := Lib.hid HL
  have XS2 := Lib.hid (show sumB (fieldsB (splB (namB ⟨p, 1, m, d⟩)).2 (splB (namB ⟨p, 1, m, d⟩)).1 m 0 53 [] (List.replicate 8 32)).flatten = totB ⟨p, 1, m, d⟩ from XS.out)
  have XT := Lib.hid (fun hv => stepB_sum (splB (namB ⟨p, 1, m, d⟩)).2 (splB (namB ⟨p, 1, m, d⟩)).1 m 0 53 [] (totB ⟨p, 1, m, d⟩) hsl.2 (by omega) (by omega) hv)
  have XE2 := Lib.hid (show (fieldsB (splB (namB ⟨p, 1, m, d⟩)).2 (splB (namB ⟨p, 1, m, d⟩)).1 m 0 53 [] (digB (totB ⟨p, 1, m, d⟩) 6 ++ [32])).flatten = headB ⟨p, 1, m, d⟩ ++ digB (totB ⟨p, 1, m, d⟩) 6 ++ [32] ++ tailB ⟨p, 1, m, d⟩ from XE.out)
  clear H14 XS XE HL hsl
  generalize (fieldsB (splB (namB ⟨p, 1, m, d⟩)).2 (splB (namB ⟨p, 1, m, d⟩)).1 m 0 53 [] (List.replicate 8 32)).flatten = F at HL2 XS2 XT
  obtain ⟨hFl, cs, hcs, hsz, hget⟩ := HL2.out
  have hsum := sumB_le F
  rw [hFl] at hsum
  have Hcs := Lib.hid hcs
  have Hget := Lib.hid hget
  have Hsz := Lib.hid hsz
  have HFl := Lib.hid hFl
  clear hcs hget hsz hFl
  go_wp2_with (refine wpList_load_row rfl _ _ rfl (w.heap.size + 1) rfl _ cs (0, 0) _ Hcs.out Tryz.underlying132 rfl (by rw [Hsz.out]; kernel_rfl) ?_)
  go_loop [10, 84] (fun s i => ∃ k : Nat, k ≤ 512 ∧ i = .int .i64 k ∧ s = .int .i64 (sumB (F.take k) : Nat)) (fun _ i => 512 - (intOf i).toNat)
  case atStart => exact ⟨0, Nat.zero_le _, rfl, by simp [sumB]⟩
  case round =>
    obtain ⟨k, hk, rfl, rfl⟩ := hrel
    by_cases hlt : k < 512
    · have hFk : k < F.length := by rw [HFl.out]; exact hlt
      have hs1 := Lib.hid (sumB_take F k hFk)
      have hs2 := sumB_le (F.take k)
      have hs3 : (F.take k).length ≤ 512 := by rw [List.length_take]; omega
      have hck := Hget.out k hlt
      rw [List.getD_eq_getElem?_getD, List.getElem?_eq_getElem hFk, Option.getD_some] at hck
      have hs4 := F[k].toNat_lt
      have hix := index512 w14 cs k _ hlt hck
      clear hck
      go_wp2
      go_round
      case rel => exact ⟨k + 1, by omega, by go_num, int_eq (by have := hs1.out; omega)⟩
      case measure => simp [intOf]; omega
    · obtain rfl : k = 512 := by omega
      have ht512 : F.take 512 = F := List.take_of_length_le (by rw [HFl.out]; omega)
      rw [ht512, XS2.out]
      rw [XS2.out] at hsum
      clear ht512 hk hlt
      have hot := octB_len (totB ⟨p, 1, m, d⟩) 5 (by omega)
      have XT2 := Lib.hid (XT.out hot)
      generalize hTOT : totB ⟨p, 1, m, d⟩ = tot at *
      have H0 := Lib.hid HL2.out
      go_wp2_with fail
      refine (num_any (w.heap.size + 1) _ 148 6 tot _ H0.out (HT.out.below BW14.out) (by omega) (by omega) (by omega) (by omega)).mono ?_
      rintro e v1 ⟨rfl, h1, b1⟩
      have HV := Lib.hid h1
      have BV := Lib.hid (BW14.out.trans (b1.mono (Nat.le_succ _)))
      clear h1 b1 H0
      have c154 := HV.out.cell 154 (by omega)
      have f154 := HV.out.2.frozen 154
      go_upto_region 36 with fail
      have h2 := HV.out.set1 154 0 (by omega)
      have b2 := BV.out.setCell (p := ⟨w.heap.size + 1, 154, none⟩) (Nat.le_succ _) (.int .u8 ((0 : UInt8).toNat : Int))
      rw [XT2.out, XE2.out] at h2
      rw [show ((0 : UInt8).toNat : Int) = 0 from rfl] at h2 b2
      clear c154 f154 HV BV
      generalize hv2 : v1.setCell ⟨w.heap.size + 1, 154, none⟩ (.int .u8 0) = v2 at h2 b2 ⊢
      have HV := Lib.hid h2
      have BV := Lib.hid b2
      clear hv2 h2 b2 XT2 XE2 XT XS2 BW14 HL2 Hcs Hget Hsz HFl
      have hwh := whole_any v2 (w.heap.size + 1)
      have hst := store_empty v2 (w.heap.size + 1)
      have XEE := Lib.hid (show entB ⟨p, 1, m, d⟩ = headB ⟨p, 1, m, d⟩ ++ digB tot 6 ++ [32] ++ tailB ⟨p, 1, m, d⟩ by
        unfold entB; rw [hTOT]; simp [dataB, filB])
      have hlen := HV.out.1
      go_wp2
      go_loop [13] (fun v => v = .slice (some ⟨w.heap.size + 1, 0, none⟩) 512 512) (fun _ => 0)
      case atStart => rfl
      case round =>
        subst hrel
        go_wp2
        go_ret
        exact ⟨some ⟨w.heap.size + 1, 0, none⟩, 512, by rw [XEE.out, hlen]; rfl, by rw [XEE.out]; exact HV.out.rd, BV.out, _, _, rfl, by omega⟩
end Go.Proofs.YtpkabccinhfmbaaGreatDoor
namespace Go.Proofs.YtpkabccinhfmbaaGreatDoor
open Go.RowKit

set_option maxRecDepth 100000 in
set_option maxHeartbeats 8000000 in
theorem entryP_link (p d : List UInt8) (m : Nat) (w : World) (hF : Fit ⟨p, 3, m, d⟩) (hm : m ≤ 511) (hd : d.length ≤ 4096) (hp : p.length ≤ 170) (hdl : d.length ≤ 100) (hS : Std w) (hT : Tz w) :
    Calls Tryz.prog 40 #[.agg #[.string (S p), .int .i64 3, .int .i64 m, .string (S d)]] w (EntOut (entB ⟨p, 3, m, d⟩) w) := by
  obtain ⟨hnam, hE⟩ := elems_name hF
  have hnl := name_len hF
  rw [hnam] at hnl
  have hsl := split_len hE hnl
  rw [← hnam] at hsl
  have hN := hnam
  have HE := Lib.hid hE
  have HS := Lib.hid hS
  have HT := Lib.hid hT
  have hom := octB_len m 3 (by omega)
  have ho0 := octB_len 0 0 (by omega)
  have h1 := (Below.refl w.heap.size w).alloc (Nat.le_refl _) (.cells #[.string (S p), .int .i64 3, .int .i64 m, .string (S d)] 33)
  have C1 := Cell4.new w ⟨p, 3, m, d⟩ 33
  have H0 := Hdr.new (w.alloc (.cells #[.string (S p), .int .i64 3, .int .i64 m, .string (S d)] 33)) _ zeroHdr
  have BW := h1.alloc (by simp) (.cells Tryz.zeroCells134 134)
  have C2 := C1.below ((Below.refl _ _).alloc (Nat.le_refl _) (.cells Tryz.zeroCells134 134))
  rw [show (w.alloc (.cells #[.string (S p), .int .i64 3, .int .i64 m, .string (S d)] 33)).heap.size = w.heap.size + 1 by simp] at H0
  have XE := Lib.hid (head_fields ⟨p, 3, m, d⟩)
  have XS := Lib.hid (sumB_fields ⟨p, 3, m, d⟩)
  have HN := Lib.hid (show p = joinB (elemsB ⟨p, 3, m, d⟩) from hN)
  have HJ := Lib.hid (show p = namB ⟨p, 3, m, d⟩ from rfl)
  clear hN
  clear hE hS hT h1 C1 hnam
  go_enter Tryz.func40, Tryz.ntmps40
  go_wp2_with fail
  generalize hW2 : (w.alloc (.cells #[.string (S p), .int .i64 3, .int .i64 m, .string (S d)] 33)).alloc (.cells Tryz.zeroCells134 134) = w2 at H0 BW C2 ⊢
  clear hW2
  have HLT := Lib.hid H0.lt
  replace H0 := Lib.hid H0
  replace C2 := Lib.hid C2
  replace BW := Lib.hid BW
  have BC := Lib.hid (Below.refl (w.heap.size + 1) w2)
  have c23 := C2.out.2.2.2
  go_quiet (fail)
  clear c23
  generalize hwq : World.drewN w2 _ = wq
  have hbq : Below w2.heap.size w2 wq := by rw [← hwq]; exact below_drewN (Below.refl _ _) _
  clear hwq
  replace H0 := Lib.hid (H0.out.below hbq)
  replace BW := Lib.hid (BW.out.trans (hbq.mono BW.out.size))
  replace BC := Lib.hid (hbq.mono (Nat.le_of_lt HLT.out))
  clear hbq
  go_wp2_with fail
  have hNM := name_any (w.heap.size + 1) _ _ _ HE.out hnl H0.out (HS.out.below BW.out)
  rw [← HN.out] at hNM
  refine hNM.mono ?_
  rintro e w3 ⟨rfl, h3, b3⟩
  rw [HJ.out] at h3
  clear hNM
  have H3 := Lib.hid h3
  have BC3 := Lib.hid (BC.out.trans b3)
  have BW3 := Lib.hid (BW.out.trans (b3.mono (Nat.le_succ _)))
  clear h3 b3 H0 BW BC HE HN HJ HLT
  have c3m : w3.cell? ⟨w.heap.size, 2, none⟩ = some (.int .i64 m) := (BC3.out.cell (p := ⟨w.heap.size, 2, none⟩) (Nat.lt_succ_self _)).trans C2.out.2.2.1
  go_wp2_with fail
  refine (num_any (w.heap.size + 1) _ 100 7 m _ H3.out (HT.out.below BW3.out) (by omega) (by omega) (by omega) (by omega)).mono ?_
  rintro e w4 ⟨rfl, h4, b4⟩
  have H4 := Lib.hid h4
  have BW4 := Lib.hid (BW3.out.trans (b4.mono (Nat.le_succ _)))
  clear h4 b4 H3 BW3 c3m
  go_wp2_with fail
  refine (num_any (w.heap.size + 1) _ 108 7 0 _ H4.out (HT.out.below BW4.out) (by omega) (by omega) (by omega) (by omega)).mono ?_
  rintro e w5 ⟨rfl, h5, b5⟩
  have H5 := Lib.hid h5
  have BW5 := Lib.hid (BW4.out.trans (b5.mono (Nat.le_succ _)))
  clear h5 b5 H4 BW4
  go_wp2_with fail
  refine (num_any (w.heap.size + 1) _ 116 7 0 _ H5.out (HT.out.below BW5.out) (by omega) (by omega) (by omega) (by omega)).mono ?_
  rintro e w6 ⟨rfl, h6, b6⟩
  have H6 := Lib.hid h6
  have BW6 := Lib.hid (BW5.out.trans (b6.mono (Nat.le_succ _)))
  clear h6 b6 H5 BW5
  go_wp2_with fail
  refine (num_any (w.heap.size + 1) _ 124 11 0 _ H6.out (HT.out.below BW6.out) (by omega) (by omega) (by omega) (by omega)).mono ?_
  rintro e w7 ⟨rfl, h7, b7⟩
  have H7 := Lib.hid h7
  have BW7 := Lib.hid (BW6.out.trans (b7.mono (Nat.le_succ _)))
  clear h7 b7 H6 BW6
  go_wp2_with fail
  refine (num_any (w.heap.size + 1) _ 136 11 0 _ H7.out (HT.out.below BW7.out) (by omega) (by omega) (by omega) (by omega)).mono ?_
  rintro e w8 ⟨rfl, h8, b8⟩
  have H8 := Lib.hid h8
  have BW8 := Lib.hid (BW7.out.trans (b8.mono (Nat.le_succ _)))
  clear h8 b8 H7 BW7
  go_wp2_with fail
  refine (text_any (w.heap.size + 1) _ 148 [32, 32, 32, 32, 32, 32, 32, 32] _ H8.out (by first | omega | decide) (by omega)).mono ?_
  rintro e w9 ⟨rfl, hw9⟩
  have h9 := H8.out.set 148 [32, 32, 32, 32, 32, 32, 32, 32] (by first | omega | decide)
  have b9 := below_setCells (Nat.le_refl (w.heap.size + 1)) (List.map (fun x : UInt8 => Value.int .u8 (x.toNat : Int)) [32, 32, 32, 32, 32, 32, 32, 32]) 148 _ (Below.refl _ w8)
  rw [← hw9] at h9 b9
  clear hw9
  have H9 := Lib.hid h9
  have BW9 := Lib.hid (BW8.out.trans (b9.mono (Nat.le_succ _)))
  clear h9 b9 H8 BW8
  have c156 := H9.out.cell 156 (by omega)
  have f156 := H9.out.2.frozen 156
  go_upto_region 24 with fail
  have h10 := H9.out.set1 156 50 (by omega)
  have b10 := (Below.refl (w.heap.size + 1) w9).setCell (p := ⟨w.heap.size + 1, 156, none⟩) (Nat.le_refl _) (.int .u8 ((50 : UInt8).toNat : Int))
  rw [show ((50 : UInt8).toNat : Int) = 50 from rfl] at h10 b10
  clear c156 f156
  generalize hw10 : w9.setCell ⟨w.heap.size + 1, 156, none⟩ (.int .u8 50) = w10 at h10 b10 ⊢
  clear hw10
  have H10 := Lib.hid h10
  have BW10 := Lib.hid (BW9.out.trans (b10.mono (Nat.le_succ _)))
  clear h10 b10 H9 BW9
  go_wp2_with fail
  refine (text_any (w.heap.size + 1) _ 157 d _ H10.out (by first | omega | decide) (by omega)).mono ?_
  rintro e w11 ⟨rfl, hw11⟩
  have h11 := H10.out.set 157 d (by first | omega | decide)
  have b11 := below_setCells (Nat.le_refl (w.heap.size + 1)) (List.map (fun x : UInt8 => Value.int .u8 (x.toNat : Int)) d) 157 _ (Below.refl _ w10)
  rw [← hw11] at h11 b11
  clear hw11
  have H11 := Lib.hid h11
  have BW11 := Lib.hid (BW10.out.trans (b11.mono (Nat.le_succ _)))
  clear h11 b11 H10 BW10
  go_wp2_with fail
  refine (text_any (w.heap.size + 1) _ 257 [117, 115, 116, 97, 114, 0, 48, 48] _ H11.out (by first | omega | decide) (by omega)).mono ?_
  rintro e w12 ⟨rfl, hw12⟩
  have h12 := H11.out.set 257 [117, 115, 116, 97, 114, 0, 48, 48] (by first | omega | decide)
  have b12 := below_setCells (Nat.le_refl (w.heap.size + 1)) (List.map (fun x : UInt8 => Value.int .u8 (x.toNat : Int)) [117, 115, 116, 97, 114, 0, 48, 48]) 257 _ (Below.refl _ w11)
  rw [← hw12] at h12 b12
  clear hw12
  have H12 := Lib.hid h12
  have BW12 := Lib.hid (BW11.out.trans (b12.mono (Nat.le_succ _)))
  clear h12 b12 H11 BW11
  go_wp2_with fail
  refine (num_any (w.heap.size + 1) _ 329 7 0 _ H12.out (HT.out.below BW12.out) (by omega) (by omega) (by omega) (by omega)).mono ?_
  rintro e w13 ⟨rfl, h13, b13⟩
  have H13 := Lib.hid h13
  have BW13 := Lib.hid (BW12.out.trans (b13.mono (Nat.le_succ _)))
  clear h13 b13 H12 BW12
  go_wp2_with fail
  refine (num_any (w.heap.size + 1) _ 337 7 0 _ H13.out (HT.out.below BW13.out) (by omega) (by omega) (by omega) (by omega)).mono ?_
  rintro e w14 ⟨rfl, h14, b14⟩
  have H14 := Lib.hid h14
  have BW14 := Lib.hid (BW13.out.trans (b14.mono (Nat.le_succ _)))
  clear h14 b14 H13 BW13
  have HL : Hdr w14 (w.heap.size + 1) (stepB (splB (namB ⟨p, 3, m, d⟩)).2 (splB (namB ⟨p, 3, m, d⟩)).1 m 0 50 d) := H14.out
  rw [stepB_fields _ _ _ _ _ _ hsl.2 hsl.1 (by omega) (by omega) (by first | omega | decide)] at HL
  have HL2 := Lib.hid HL
  have XS2 := Lib.hid (show sumB (fieldsB (splB (namB ⟨p, 3, m, d⟩)).2 (splB (namB ⟨p, 3, m, d⟩)).1 m 0 50 d (List.replicate 8 32)).flatten = totB ⟨p, 3, m, d⟩ from XS.out)
  have XT := Lib.hid (fun hv => stepB_sum (splB (namB ⟨p, 3, m, d⟩)).2 (splB (namB ⟨p, 3, m, d⟩)).1 m 0 50 d (totB ⟨p, 3, m, d⟩) hsl.2 (by omega) (by omega) hv)
  have XE2 := Lib.hid (show (fieldsB (splB (namB ⟨p, 3, m, d⟩)).2 (splB (namB ⟨p, 3, m, d⟩)).1 m 0 50 d (digB (totB ⟨p, 3, m, d⟩) 6 ++ [32])).flatten = headB ⟨p, 3, m, d⟩ ++ digB (totB ⟨p, 3, m, d⟩) 6 ++ [32] ++ tailB ⟨p, 3, m, d⟩ from XE.out)
  clear H14 XS XE HL hsl
  generalize (fieldsB (splB (namB ⟨p, 3, m, d⟩)).2 (splB (namB ⟨p, 3, m, d⟩)).1 m 0 50 d (List.replicate 8 32)).flatten = F at HL2 XS2 XT
  obtain ⟨hFl, cs, hcs, hsz, hget⟩ := HL2.out
  have hsum := sumB_le F
  rw [hFl] at hsum
  have Hcs := Lib.hid hcs
  have Hget := Lib.hid hget
  have Hsz := Lib.hid hsz
  have HFl := Lib.hid hFl
  clear hcs hget hsz hFl
  go_wp2_with (refine wpList_load_row rfl _ _ rfl (w.heap.size + 1) rfl _ cs (0, 0) _ Hcs.out Tryz.underlying132 rfl (by rw [Hsz.out]; kernel_rfl) ?_)
  go_loop [10, 84] (fun s i => ∃ k : Nat, k ≤ 512 ∧ i = .int .i64 k ∧ s = .int .i64 (sumB (F.take k) : Nat)) (fun _ i => 512 - (intOf i).toNat)
  case atStart => exact ⟨0, Nat.zero_le _, rfl, by simp [sumB]⟩
  case round =>
    obtain ⟨k, hk, rfl, rfl⟩ := hrel
    by_cases hlt : k < 512
    · have hFk : k < F.length := by rw [HFl.out]; exact hlt
      have hs1 := Lib.hid (sumB_take F k hFk)
      have hs2 := sumB_le (F.take k)
      have hs3 : (F.take k).length ≤ 512 := by rw [List.length_take]; omega
      have hck := Hget.out k hlt
      rw [List.getD_eq_getElem?_getD, List.getElem?_eq_getElem hFk, Option.getD_some] at hck
      have hs4 := F[k].toNat_lt
      have hix := index512 w14 cs k _ hlt hck
      clear hck
      go_wp2
      go_round
      case rel => exact ⟨k + 1, by omega, by go_num, int_eq (by have := hs1.out; omega)⟩
      case measure => simp [intOf]; omega
    · obtain rfl : k = 512 := by omega
      have ht512 : F.take 512 = F := List.take_of_length_le (by rw [HFl.out]; omega)
      rw [ht512, XS2.out]
      rw [XS2.out] at hsum
      clear ht512 hk hlt
      have hot := octB_len (totB ⟨p, 3, m, d⟩) 5 (by omega)
      have XT2 := Lib.hid (XT.out hot)
      generalize hTOT : totB ⟨p, 3, m, d⟩ = tot at *
      have H0 := Lib.hid HL2.out
      go_wp2_with fail
      refine (num_any (w.heap.size + 1) _ 148 6 tot _ H0.out (HT.out.below BW14.out) (by omega) (by omega) (by omega) (by omega)).mono ?_
      rintro e v1 ⟨rfl, h1, b1⟩
      have HV := Lib.hid h1
      have BV := Lib.hid (BW14.out.trans (b1.mono (Nat.le_succ _)))
      clear h1 b1 H0
      have c154 := HV.out.cell 154 (by omega)
      have f154 := HV.out.2.frozen 154
      go_upto_region 36 with fail
      have h2 := HV.out.set1 154 0 (by omega)
      have b2 := BV.out.setCell (p := ⟨w.heap.size + 1, 154, none⟩) (Nat.le_succ _) (.int .u8 ((0 : UInt8).toNat : Int))
      rw [XT2.out, XE2.out] at h2
      rw [show ((0 : UInt8).toNat : Int) = 0 from rfl] at h2 b2
      clear c154 f154 HV BV
      generalize hv2 : v1.setCell ⟨w.heap.size + 1, 154, none⟩ (.int .u8 0) = v2 at h2 b2 ⊢
      have HV := Lib.hid h2
      have BV := Lib.hid b2
      clear hv2 h2 b2 XT2 XE2 XT XS2 BW14 HL2 Hcs Hget Hsz HFl
      have hwh := whole_any v2 (w.heap.size + 1)
      have hst := store_empty v2 (w.heap.size + 1)
      have XEE := Lib.hid (show entB ⟨p, 3, m, d⟩ = headB ⟨p, 3, m, d⟩ ++ digB tot 6 ++ [32] ++ tailB ⟨p, 3, m, d⟩ by
        unfold entB; rw [hTOT]; simp [dataB, filB])
      have hlen := HV.out.1
      go_wp2
      go_loop [13] (fun v => v = .slice (some ⟨w.heap.size + 1, 0, none⟩) 512 512) (fun _ => 0)
      case atStart => rfl
      case round =>
        subst hrel
        go_wp2
        go_ret
        exact ⟨some ⟨w.heap.size + 1, 0, none⟩, 512, by rw [XEE.out, hlen]; rfl, by rw [XEE.out]; exact HV.out.rd, BV.out, _, _, rfl, by omega⟩
end Go.Proofs.YtpkabccinhfmbaaGreatDoor
namespace Go.Proofs.YtpkabccinhfmbaaGreatDoor
open Go.RowKit

set_option maxRecDepth 100000 in
set_option maxHeartbeats 8000000 in
theorem entryP_file (p : List UInt8) (m : Nat) (w : World) (hF : Fit ⟨p, 2, m, []⟩) (hm : m ≤ 511) (hp : p.length ≤ 170) (hS : Std w) (hT : Tz w) :
    Calls Tryz.prog 40 #[.agg #[.string (S p), .int .i64 2, .int .i64 m, .string (S [])]] w (EntOut (entB ⟨p, 2, m, []⟩) w) := by
  obtain ⟨hnam, hE⟩ := elems_name hF
  have hnl := name_len hF
  rw [hnam] at hnl
  have hsl := split_len hE hnl
  rw [← hnam] at hsl
  have hN := hnam
  have HE := Lib.hid hE
  have HS := Lib.hid hS
  have HT := Lib.hid hT
  have hom := octB_len m 3 (by omega)
  have ho0 := octB_len 0 0 (by omega)
  have h1 := (Below.refl w.heap.size w).alloc (Nat.le_refl _) (.cells #[.string (S p), .int .i64 2, .int .i64 m, .string (S [])] 33)
  have C1 := Cell4.new w ⟨p, 2, m, []⟩ 33
  have H0 := Hdr.new (w.alloc (.cells #[.string (S p), .int .i64 2, .int .i64 m, .string (S [])] 33)) _ zeroHdr
  have BW := h1.alloc (by simp) (.cells Tryz.zeroCells134 134)
  have C2 := C1.below ((Below.refl _ _).alloc (Nat.le_refl _) (.cells Tryz.zeroCells134 134))
  rw [show (w.alloc (.cells #[.string (S p), .int .i64 2, .int .i64 m, .string (S [])] 33)).heap.size = w.heap.size + 1 by simp] at H0
  have XE := Lib.hid (head_fields ⟨p, 2, m, []⟩)
  have XS := Lib.hid (sumB_fields ⟨p, 2, m, []⟩)
  have HN := Lib.hid (show p = joinB (elemsB ⟨p, 2, m, []⟩) from hN)
  have HJ := Lib.hid (show p = namB ⟨p, 2, m, []⟩ from rfl)
  clear hN
  clear hE hS hT h1 C1 hnam
  go_enter Tryz.func40, Tryz.ntmps40
  go_wp2_with fail
  generalize hW2 : (w.alloc (.cells #[.string (S p), .int .i64 2, .int .i64 m, .string (S [])] 33)).alloc (.cells Tryz.zeroCells134 134) = w2 at H0 BW C2 ⊢
  clear hW2
  have HLT := Lib.hid H0.lt
  replace H0 := Lib.hid H0
  replace C2 := Lib.hid C2
  replace BW := Lib.hid BW
  have BC := Lib.hid (Below.refl (w.heap.size + 1) w2)
  have hNM := name_any (w.heap.size + 1) _ _ _ HE.out hnl H0.out (HS.out.below BW.out)
  rw [← HN.out] at hNM
  refine hNM.mono ?_
  rintro e w3 ⟨rfl, h3, b3⟩
  rw [HJ.out] at h3
  clear hNM
  have H3 := Lib.hid h3
  have BC3 := Lib.hid (BC.out.trans b3)
  have BW3 := Lib.hid (BW.out.trans (b3.mono (Nat.le_succ _)))
  clear h3 b3 H0 BW BC HE HN HJ HLT
  have c3m : w3.cell? ⟨w.heap.size, 2, none⟩ = some (.int .i64 m) := (BC3.out.cell (p := ⟨w.heap.size, 2, none⟩) (Nat.lt_succ_self _)).trans C2.out.2.2.1
  go_wp2_with fail
  refine (num_any (w.heap.size + 1) _ 100 7 m _ H3.out (HT.out.below BW3.out) (by omega) (by omega) (by omega) (by omega)).mono ?_
  rintro e w4 ⟨rfl, h4, b4⟩
  have H4 := Lib.hid h4
  have BW4 := Lib.hid (BW3.out.trans (b4.mono (Nat.le_succ _)))
  clear h4 b4 H3 BW3 c3m
  go_wp2_with fail
  refine (num_any (w.heap.size + 1) _ 108 7 0 _ H4.out (HT.out.below BW4.out) (by omega) (by omega) (by omega) (by omega)).mono ?_
  rintro e w5 ⟨rfl, h5, b5⟩
  have H5 := Lib.hid h5
  have BW5 := Lib.hid (BW4.out.trans (b5.mono (Nat.le_succ _)))
  clear h5 b5 H4 BW4
  go_wp2_with fail
  refine (num_any (w.heap.size + 1) _ 116 7 0 _ H5.out (HT.out.below BW5.out) (by omega) (by omega) (by omega) (by omega)).mono ?_
  rintro e w6 ⟨rfl, h6, b6⟩
  have H6 := Lib.hid h6
  have BW6 := Lib.hid (BW5.out.trans (b6.mono (Nat.le_succ _)))
  clear h6 b6 H5 BW5
  go_wp2_with fail
  refine (num_any (w.heap.size + 1) _ 124 11 0 _ H6.out (HT.out.below BW6.out) (by omega) (by omega) (by omega) (by omega)).mono ?_
  rintro e w7 ⟨rfl, h7, b7⟩
  have H7 := Lib.hid h7
  have BW7 := Lib.hid (BW6.out.trans (b7.mono (Nat.le_succ _)))
  clear h7 b7 H6 BW6
  go_wp2_with fail
  refine (num_any (w.heap.size + 1) _ 136 11 0 _ H7.out (HT.out.below BW7.out) (by omega) (by omega) (by omega) (by omega)).mono ?_
  rintro e w8 ⟨rfl, h8, b8⟩
  have H8 := Lib.hid h8
  have BW8 := Lib.hid (BW7.out.trans (b8.mono (Nat.le_succ _)))
  clear h8 b8 H7 BW7
  go_wp2_with fail
  refine (text_any (w.heap.size + 1) _ 148 [32, 32, 32, 32, 32, 32, 32, 32] _ H8.out (by first | omega | decide) (by omega)).mono ?_
  rintro e w9 ⟨rfl, hw9⟩
  have h9 := H8.out.set 148 [32, 32, 32, 32, 32, 32, 32, 32] (by first | omega | decide)
  have b9 := below_setCells (Nat.le_refl (w.heap.size + 1)) (List.map (fun x : UInt8 => Value.int .u8 (x.toNat : Int)) [32, 32, 32, 32, 32, 32, 32, 32]) 148 _ (Below.refl _ w8)
  rw [← hw9] at h9 b9
  clear hw9
  have H9 := Lib.hid h9
  have BW9 := Lib.hid (BW8.out.trans (b9.mono (Nat.le_succ _)))
  clear h9 b9 H8 BW8
  have c156 := H9.out.cell 156 (by omega)
  have f156 := H9.out.2.frozen 156
  go_upto_region 24 with fail
  have h10 := H9.out.set1 156 48 (by omega)
  have b10 := (Below.refl (w.heap.size + 1) w9).setCell (p := ⟨w.heap.size + 1, 156, none⟩) (Nat.le_refl _) (.int .u8 ((48 : UInt8).toNat : Int))
  rw [show ((48 : UInt8).toNat : Int) = 48 from rfl] at h10 b10
  clear c156 f156
  generalize hw10 : w9.setCell ⟨w.heap.size + 1, 156, none⟩ (.int .u8 48) = w10 at h10 b10 ⊢
  clear hw10
  have H10 := Lib.hid h10
  have BW10 := Lib.hid (BW9.out.trans (b10.mono (Nat.le_succ _)))
  clear h10 b10 H9 BW9
  go_wp2_with fail
  refine (text_any (w.heap.size + 1) _ 157 [] _ H10.out (by first | omega | decide) (by omega)).mono ?_
  rintro e w11 ⟨rfl, hw11⟩
  have h11 := H10.out.set 157 [] (by first | omega | decide)
  have b11 := below_setCells (Nat.le_refl (w.heap.size + 1)) (List.map (fun x : UInt8 => Value.int .u8 (x.toNat : Int)) []) 157 _ (Below.refl _ w10)
  rw [← hw11] at h11 b11
  clear hw11
  have H11 := Lib.hid h11
  have BW11 := Lib.hid (BW10.out.trans (b11.mono (Nat.le_succ _)))
  clear h11 b11 H10 BW10
  go_wp2_with fail
  refine (text_any (w.heap.size + 1) _ 257 [117, 115, 116, 97, 114, 0, 48, 48] _ H11.out (by first | omega | decide) (by omega)).mono ?_
  rintro e w12 ⟨rfl, hw12⟩
  have h12 := H11.out.set 257 [117, 115, 116, 97, 114, 0, 48, 48] (by first | omega | decide)
  have b12 := below_setCells (Nat.le_refl (w.heap.size + 1)) (List.map (fun x : UInt8 => Value.int .u8 (x.toNat : Int)) [117, 115, 116, 97, 114, 0, 48, 48]) 257 _ (Below.refl _ w11)
  rw [← hw12] at h12 b12
  clear hw12
  have H12 := Lib.hid h12
  have BW12 := Lib.hid (BW11.out.trans (b12.mono (Nat.le_succ _)))
  clear h12 b12 H11 BW11
  go_wp2_with fail
  refine (num_any (w.heap.size + 1) _ 329 7 0 _ H12.out (HT.out.below BW12.out) (by omega) (by omega) (by omega) (by omega)).mono ?_
  rintro e w13 ⟨rfl, h13, b13⟩
  have H13 := Lib.hid h13
  have BW13 := Lib.hid (BW12.out.trans (b13.mono (Nat.le_succ _)))
  clear h13 b13 H12 BW12
  go_wp2_with fail
  refine (num_any (w.heap.size + 1) _ 337 7 0 _ H13.out (HT.out.below BW13.out) (by omega) (by omega) (by omega) (by omega)).mono ?_
  rintro e w14 ⟨rfl, h14, b14⟩
  have H14 := Lib.hid h14
  have BW14 := Lib.hid (BW13.out.trans (b14.mono (Nat.le_succ _)))
  clear h14 b14 H13 BW13
  have HL : Hdr w14 (w.heap.size + 1) (stepB (splB (namB ⟨p, 2, m, []⟩)).2 (splB (namB ⟨p, 2, m, []⟩)).1 m 0 48 []) := H14.out
  rw [stepB_fields _ _ _ _ _ _ hsl.2 hsl.1 (by omega) (by omega) (by first | omega | decide)] at HL
  have HL2 := Lib.hid HL
  have XS2 := Lib.hid (show sumB (fieldsB (splB (namB ⟨p, 2, m, []⟩)).2 (splB (namB ⟨p, 2, m, []⟩)).1 m 0 48 [] (List.replicate 8 32)).flatten = totB ⟨p, 2, m, []⟩ from XS.out)
  have XT := Lib.hid (fun hv => stepB_sum (splB (namB ⟨p, 2, m, []⟩)).2 (splB (namB ⟨p, 2, m, []⟩)).1 m 0 48 [] (totB ⟨p, 2, m, []⟩) hsl.2 (by omega) (by omega) hv)
  have XE2 := Lib.hid (show (fieldsB (splB (namB ⟨p, 2, m, []⟩)).2 (splB (namB ⟨p, 2, m, []⟩)).1 m 0 48 [] (digB (totB ⟨p, 2, m, []⟩) 6 ++ [32])).flatten = headB ⟨p, 2, m, []⟩ ++ digB (totB ⟨p, 2, m, []⟩) 6 ++ [32] ++ tailB ⟨p, 2, m, []⟩ from XE.out)
  clear H14 XS XE HL hsl
  generalize (fieldsB (splB (namB ⟨p, 2, m, []⟩)).2 (splB (namB ⟨p, 2, m, []⟩)).1 m 0 48 [] (List.replicate 8 32)).flatten = F at HL2 XS2 XT
  obtain ⟨hFl, cs, hcs, hsz, hget⟩ := HL2.out
  have hsum := sumB_le F
  rw [hFl] at hsum
  have Hcs := Lib.hid hcs
  have Hget := Lib.hid hget
  have Hsz := Lib.hid hsz
  have HFl := Lib.hid hFl
  clear hcs hget hsz hFl
  go_wp2_with (refine wpList_load_row rfl _ _ rfl (w.heap.size + 1) rfl _ cs (0, 0) _ Hcs.out Tryz.underlying132 rfl (by rw [Hsz.out]; kernel_rfl) ?_)
  go_loop [10, 84] (fun s i => ∃ k : Nat, k ≤ 512 ∧ i = .int .i64 k ∧ s = .int .i64 (sumB (F.take k) : Nat)) (fun _ i => 512 - (intOf i).toNat)
  case atStart => exact ⟨0, Nat.zero_le _, rfl, by simp [sumB]⟩
  case round =>
    obtain ⟨k, hk, rfl, rfl⟩ := hrel
    by_cases hlt : k < 512
    · have hFk : k < F.length := by rw [HFl.out]; exact hlt
      have hs1 := Lib.hid (sumB_take F k hFk)
      have hs2 := sumB_le (F.take k)
      have hs3 : (F.take k).length ≤ 512 := by rw [List.length_take]; omega
      have hck := Hget.out k hlt
      rw [List.getD_eq_getElem?_getD, List.getElem?_eq_getElem hFk, Option.getD_some] at hck
      have hs4 := F[k].toNat_lt
      have hix := index512 w14 cs k _ hlt hck
      clear hck
      go_wp2
      go_round
      case rel => exact ⟨k + 1, by omega, by go_num, int_eq (by have := hs1.out; omega)⟩
      case measure => simp [intOf]; omega
    · obtain rfl : k = 512 := by omega
      have ht512 : F.take 512 = F := List.take_of_length_le (by rw [HFl.out]; omega)
      rw [ht512, XS2.out]
      rw [XS2.out] at hsum
      clear ht512 hk hlt
      have hot := octB_len (totB ⟨p, 2, m, []⟩) 5 (by omega)
      have XT2 := Lib.hid (XT.out hot)
      generalize hTOT : totB ⟨p, 2, m, []⟩ = tot at *
      have H0 := Lib.hid HL2.out
      go_wp2_with fail
      refine (num_any (w.heap.size + 1) _ 148 6 tot _ H0.out (HT.out.below BW14.out) (by omega) (by omega) (by omega) (by omega)).mono ?_
      rintro e v1 ⟨rfl, h1, b1⟩
      have HV := Lib.hid h1
      have BV := Lib.hid (BW14.out.trans (b1.mono (Nat.le_succ _)))
      clear h1 b1 H0
      have c154 := HV.out.cell 154 (by omega)
      have f154 := HV.out.2.frozen 154
      go_upto_region 36 with fail
      have h2 := HV.out.set1 154 0 (by omega)
      have b2 := BV.out.setCell (p := ⟨w.heap.size + 1, 154, none⟩) (Nat.le_succ _) (.int .u8 ((0 : UInt8).toNat : Int))
      rw [XT2.out, XE2.out] at h2
      rw [show ((0 : UInt8).toNat : Int) = 0 from rfl] at h2 b2
      clear c154 f154 HV BV
      generalize hv2 : v1.setCell ⟨w.heap.size + 1, 154, none⟩ (.int .u8 0) = v2 at h2 b2 ⊢
      have HV := Lib.hid h2
      have BV := Lib.hid b2
      clear hv2 h2 b2 XT2 XE2 XT XS2 BW14 HL2 Hcs Hget Hsz HFl
      have hwh := whole_any v2 (w.heap.size + 1)
      have hst := store_empty v2 (w.heap.size + 1)
      have XEE := Lib.hid (show entB ⟨p, 2, m, []⟩ = headB ⟨p, 2, m, []⟩ ++ digB tot 6 ++ [32] ++ tailB ⟨p, 2, m, []⟩ by
        unfold entB; rw [hTOT]; simp [dataB, filB])
      have hlen := HV.out.1
      go_wp2
      go_loop [13] (fun v => v = .slice (some ⟨w.heap.size + 1, 0, none⟩) 512 512) (fun _ => 0)
      case atStart => rfl
      case round =>
        subst hrel
        go_wp2
        go_ret
        exact ⟨some ⟨w.heap.size + 1, 0, none⟩, 512, by rw [XEE.out, hlen]; rfl, by rw [XEE.out]; exact HV.out.rd, BV.out, _, _, rfl, by omega⟩
end Go.Proofs.YtpkabccinhfmbaaGreatDoor
namespace Go.Proofs.YtpkabccinhfmbaaGreatDoor
open Go.RowKit

set_option maxRecDepth 100000 in
set_option maxHeartbeats 8000000 in
theorem entryP_fileD (p d : List UInt8) (m : Nat) (w : World) (hF : Fit ⟨p, 2, m, d⟩) (hm : m ≤ 511) (hd : d.length ≤ 4096) (hp : p.length ≤ 170) (hd0 : d ≠ []) (hS : Std w) (hT : Tz w) :
    Calls Tryz.prog 40 #[.agg #[.string (S p), .int .i64 2, .int .i64 m, .string (S d)]] w (EntOut (entB ⟨p, 2, m, d⟩) w) := by
  obtain ⟨hnam, hE⟩ := elems_name hF
  have hnl := name_len hF
  rw [hnam] at hnl
  have hsl := split_len hE hnl
  rw [← hnam] at hsl
  have hN := hnam
  have HE := Lib.hid hE
  have HS := Lib.hid hS
  have HT := Lib.hid hT
  have hom := octB_len m 3 (by omega)
  have ho0 := octB_len 0 0 (by omega)
  have h1 := (Below.refl w.heap.size w).alloc (Nat.le_refl _) (.cells #[.string (S p), .int .i64 2, .int .i64 m, .string (S d)] 33)
  have C1 := Cell4.new w ⟨p, 2, m, d⟩ 33
  have H0 := Hdr.new (w.alloc (.cells #[.string (S p), .int .i64 2, .int .i64 m, .string (S d)] 33)) _ zeroHdr
  have BW := h1.alloc (by simp) (.cells Tryz.zeroCells134 134)
  have C2 := C1.below ((Below.refl _ _).alloc (Nat.le_refl _) (.cells Tryz.zeroCells134 134))
  rw [show (w.alloc (.cells #[.string (S p), .int .i64 2, .int .i64 m, .string (S d)] 33)).heap.size = w.heap.size + 1 by simp] at H0
  have XE := Lib.hid (head_fields ⟨p, 2, m, d⟩)
  have XS := Lib.hid (sumB_fields ⟨p, 2, m, d⟩)
  have HN := Lib.hid (show p = joinB (elemsB ⟨p, 2, m, d⟩) from hN)
  have HJ := Lib.hid (show p = namB ⟨p, 2, m, d⟩ from rfl)
  clear hN
  clear hE hS hT h1 C1 hnam
  go_enter Tryz.func40, Tryz.ntmps40
  go_wp2_with fail
  generalize hW2 : (w.alloc (.cells #[.string (S p), .int .i64 2, .int .i64 m, .string (S d)] 33)).alloc (.cells Tryz.zeroCells134 134) = w2 at H0 BW C2 ⊢
  clear hW2
  have HLT := Lib.hid H0.lt
  replace H0 := Lib.hid H0
  replace C2 := Lib.hid C2
  replace BW := Lib.hid BW
  have BC := Lib.hid (Below.refl (w.heap.size + 1) w2)
  have hNM := name_any (w.heap.size + 1) _ _ _ HE.out hnl H0.out (HS.out.below BW.out)
  rw [← HN.out] at hNM
  refine hNM.mono ?_
  rintro e w3 ⟨rfl, h3, b3⟩
  rw [HJ.out] at h3
  clear hNM
  have H3 := Lib.hid h3
  have BC3 := Lib.hid (BC.out.trans b3)
  have BW3 := Lib.hid (BW.out.trans (b3.mono (Nat.le_succ _)))
  have hos := octB_len d.length 4 (by omega)
  clear h3 b3 H0 BW BC HE HN HJ HLT
  have c3m : w3.cell? ⟨w.heap.size, 2, none⟩ = some (.int .i64 m) := (BC3.out.cell (p := ⟨w.heap.size, 2, none⟩) (Nat.lt_succ_self _)).trans C2.out.2.2.1
  go_wp2_with fail
  refine (num_any (w.heap.size + 1) _ 100 7 m _ H3.out (HT.out.below BW3.out) (by omega) (by omega) (by omega) (by omega)).mono ?_
  rintro e w4 ⟨rfl, h4, b4⟩
  have H4 := Lib.hid h4
  have BW4 := Lib.hid (BW3.out.trans (b4.mono (Nat.le_succ _)))
  clear h4 b4 H3 BW3 c3m
  go_wp2_with fail
  refine (num_any (w.heap.size + 1) _ 108 7 0 _ H4.out (HT.out.below BW4.out) (by omega) (by omega) (by omega) (by omega)).mono ?_
  rintro e w5 ⟨rfl, h5, b5⟩
  have H5 := Lib.hid h5
  have BW5 := Lib.hid (BW4.out.trans (b5.mono (Nat.le_succ _)))
  clear h5 b5 H4 BW4
  go_wp2_with fail
  refine (num_any (w.heap.size + 1) _ 116 7 0 _ H5.out (HT.out.below BW5.out) (by omega) (by omega) (by omega) (by omega)).mono ?_
  rintro e w6 ⟨rfl, h6, b6⟩
  have H6 := Lib.hid h6
  have BW6 := Lib.hid (BW5.out.trans (b6.mono (Nat.le_succ _)))
  clear h6 b6 H5 BW5
  go_wp2_with fail
  refine (num_any (w.heap.size + 1) _ 124 11 d.length _ H6.out (HT.out.below BW6.out) (by omega) (by omega) (by omega) (by omega)).mono ?_
  rintro e w7 ⟨rfl, h7, b7⟩
  have H7 := Lib.hid h7
  have BW7 := Lib.hid (BW6.out.trans (b7.mono (Nat.le_succ _)))
  clear h7 b7 H6 BW6
  go_wp2_with fail
  refine (num_any (w.heap.size + 1) _ 136 11 0 _ H7.out (HT.out.below BW7.out) (by omega) (by omega) (by omega) (by omega)).mono ?_
  rintro e w8 ⟨rfl, h8, b8⟩
  have H8 := Lib.hid h8
  have BW8 := Lib.hid (BW7.out.trans (b8.mono (Nat.le_succ _)))
  clear h8 b8 H7 BW7
  go_wp2_with fail
  refine (text_any (w.heap.size + 1) _ 148 [32, 32, 32, 32, 32, 32, 32, 32] _ H8.out (by first | omega | decide) (by omega)).mono ?_
  rintro e w9 ⟨rfl, hw9⟩
  have h9 := H8.out.set 148 [32, 32, 32, 32, 32, 32, 32, 32] (by first | omega | decide)
  have b9 := below_setCells (Nat.le_refl (w.heap.size + 1)) (List.map (fun x : UInt8 => Value.int .u8 (x.toNat : Int)) [32, 32, 32, 32, 32, 32, 32, 32]) 148 _ (Below.refl _ w8)
  rw [← hw9] at h9 b9
  clear hw9
  have H9 := Lib.hid h9
  have BW9 := Lib.hid (BW8.out.trans (b9.mono (Nat.le_succ _)))
  clear h9 b9 H8 BW8
  have c156 := H9.out.cell 156 (by omega)
  have f156 := H9.out.2.frozen 156
  go_upto_region 24 with fail
  have h10 := H9.out.set1 156 48 (by omega)
  have b10 := (Below.refl (w.heap.size + 1) w9).setCell (p := ⟨w.heap.size + 1, 156, none⟩) (Nat.le_refl _) (.int .u8 ((48 : UInt8).toNat : Int))
  rw [show ((48 : UInt8).toNat : Int) = 48 from rfl] at h10 b10
  clear c156 f156
  generalize hw10 : w9.setCell ⟨w.heap.size + 1, 156, none⟩ (.int .u8 48) = w10 at h10 b10 ⊢
  clear hw10
  have H10 := Lib.hid h10
  have BW10 := Lib.hid (BW9.out.trans (b10.mono (Nat.le_succ _)))
  clear h10 b10 H9 BW9
  go_wp2_with fail
  refine (text_any (w.heap.size + 1) _ 157 [] _ H10.out (by first | omega | decide) (by omega)).mono ?_
  rintro e w11 ⟨rfl, hw11⟩
  have h11 := H10.out.set 157 [] (by first | omega | decide)
  have b11 := below_setCells (Nat.le_refl (w.heap.size + 1)) (List.map (fun x : UInt8 => Value.int .u8 (x.toNat : Int)) []) 157 _ (Below.refl _ w10)
  rw [← hw11] at h11 b11
  clear hw11
  have H11 := Lib.hid h11
  have BW11 := Lib.hid (BW10.out.trans (b11.mono (Nat.le_succ _)))
  clear h11 b11 H10 BW10
  go_wp2_with fail
  refine (text_any (w.heap.size + 1) _ 257 [117, 115, 116, 97, 114, 0, 48, 48] _ H11.out (by first | omega | decide) (by omega)).mono ?_
  rintro e w12 ⟨rfl, hw12⟩
  have h12 := H11.out.set 257 [117, 115, 116, 97, 114, 0, 48, 48] (by first | omega | decide)
  have b12 := below_setCells (Nat.le_refl (w.heap.size + 1)) (List.map (fun x : UInt8 => Value.int .u8 (x.toNat : Int)) [117, 115, 116, 97, 114, 0, 48, 48]) 257 _ (Below.refl _ w11)
  rw [← hw12] at h12 b12
  clear hw12
  have H12 := Lib.hid h12
  have BW12 := Lib.hid (BW11.out.trans (b12.mono (Nat.le_succ _)))
  clear h12 b12 H11 BW11
  go_wp2_with fail
  refine (num_any (w.heap.size + 1) _ 329 7 0 _ H12.out (HT.out.below BW12.out) (by omega) (by omega) (by omega) (by omega)).mono ?_
  rintro e w13 ⟨rfl, h13, b13⟩
  have H13 := Lib.hid h13
  have BW13 := Lib.hid (BW12.out.trans (b13.mono (Nat.le_succ _)))
  clear h13 b13 H12 BW12
  go_wp2_with fail
  refine (num_any (w.heap.size + 1) _ 337 7 0 _ H13.out (HT.out.below BW13.out) (by omega) (by omega) (by omega) (by omega)).mono ?_
  rintro e w14 ⟨rfl, h14, b14⟩
  have H14 := Lib.hid h14
  have BW14 := Lib.hid (BW13.out.trans (b14.mono (Nat.le_succ _)))
  clear h14 b14 H13 BW13
  have HL : Hdr w14 (w.heap.size + 1) (stepB (splB (namB ⟨p, 2, m, d⟩)).2 (splB (namB ⟨p, 2, m, d⟩)).1 m d.length 48 []) := H14.out
  rw [stepB_fields _ _ _ _ _ _ hsl.2 hsl.1 (by omega) (by omega) (by first | omega | decide)] at HL
  have HL2 := Lib.hid HL
  have XS2 := Lib.hid (show sumB (fieldsB (splB (namB ⟨p, 2, m, d⟩)).2 (splB (namB ⟨p, 2, m, d⟩)).1 m d.length 48 [] (List.replicate 8 32)).flatten = totB ⟨p, 2, m, d⟩ from XS.out)
  have XT := Lib.hid (fun hv => stepB_sum (splB (namB ⟨p, 2, m, d⟩)).2 (splB (namB ⟨p, 2, m, d⟩)).1 m d.length 48 [] (totB ⟨p, 2, m, d⟩) hsl.2 (by omega) (by omega) hv)
  have XE2 := Lib.hid (show (fieldsB (splB (namB ⟨p, 2, m, d⟩)).2 (splB (namB ⟨p, 2, m, d⟩)).1 m d.length 48 [] (digB (totB ⟨p, 2, m, d⟩) 6 ++ [32])).flatten = headB ⟨p, 2, m, d⟩ ++ digB (totB ⟨p, 2, m, d⟩) 6 ++ [32] ++ tailB ⟨p, 2, m, d⟩ from XE.out)
  clear H14 XS XE HL hsl
  generalize (fieldsB (splB (namB ⟨p, 2, m, d⟩)).2 (splB (namB ⟨p, 2, m, d⟩)).1 m d.length 48 [] (List.replicate 8 32)).flatten = F at HL2 XS2 XT
  obtain ⟨hFl, cs, hcs, hsz, hget⟩ := HL2.out
  have hsum := sumB_le F
  rw [hFl] at hsum
  have Hcs := Lib.hid hcs
  have Hget := Lib.hid hget
  have Hsz := Lib.hid hsz
  have HFl := Lib.hid hFl
  clear hcs hget hsz hFl
  go_wp2_with (refine wpList_load_row rfl _ _ rfl (w.heap.size + 1) rfl _ cs (0, 0) _ Hcs.out Tryz.underlying132 rfl (by rw [Hsz.out]; kernel_rfl) ?_)
  go_loop [10, 84] (fun s i => ∃ k : Nat, k ≤ 512 ∧ i = .int .i64 k ∧ s = .int .i64 (sumB (F.take k) : Nat)) (fun _ i => 512 - (intOf i).toNat)
  case atStart => exact ⟨0, Nat.zero_le _, rfl, by simp [sumB]⟩
  case round =>
    obtain ⟨k, hk, rfl, rfl⟩ := hrel
    by_cases hlt : k < 512
    · have hFk : k < F.length := by rw [HFl.out]; exact hlt
      have hs1 := Lib.hid (sumB_take F k hFk)
      have hs2 := sumB_le (F.take k)
      have hs3 : (F.take k).length ≤ 512 := by rw [List.length_take]; omega
      have hck := Hget.out k hlt
      rw [List.getD_eq_getElem?_getD, List.getElem?_eq_getElem hFk, Option.getD_some] at hck
      have hs4 := F[k].toNat_lt
      have hix := index512 w14 cs k _ hlt hck
      clear hck
      go_wp2
      go_round
      case rel => exact ⟨k + 1, by omega, by go_num, int_eq (by have := hs1.out; omega)⟩
      case measure => simp [intOf]; omega
    · obtain rfl : k = 512 := by omega
      have ht512 : F.take 512 = F := List.take_of_length_le (by rw [HFl.out]; omega)
      rw [ht512, XS2.out]
      rw [XS2.out] at hsum
      clear ht512 hk hlt
      have hot := octB_len (totB ⟨p, 2, m, d⟩) 5 (by omega)
      have XT2 := Lib.hid (XT.out hot)
      generalize hTOT : totB ⟨p, 2, m, d⟩ = tot at *
      have H0 := Lib.hid HL2.out
      go_wp2_with fail
      refine (num_any (w.heap.size + 1) _ 148 6 tot _ H0.out (HT.out.below BW14.out) (by omega) (by omega) (by omega) (by omega)).mono ?_
      rintro e v1 ⟨rfl, h1, b1⟩
      have HV := Lib.hid h1
      have BV := Lib.hid (BW14.out.trans (b1.mono (Nat.le_succ _)))
      clear h1 b1 H0
      have c154 := HV.out.cell 154 (by omega)
      have f154 := HV.out.2.frozen 154
      go_upto_region 36 with fail
      have h2 := HV.out.set1 154 0 (by omega)
      have b2 := BV.out.setCell (p := ⟨w.heap.size + 1, 154, none⟩) (Nat.le_succ _) (.int .u8 ((0 : UInt8).toNat : Int))
      rw [XT2.out, XE2.out] at h2
      rw [show ((0 : UInt8).toNat : Int) = 0 from rfl] at h2 b2
      clear c154 f154 HV BV
      generalize hv2 : v1.setCell ⟨w.heap.size + 1, 154, none⟩ (.int .u8 0) = v2 at h2 b2 ⊢
      have HV := Lib.hid h2
      have BV := Lib.hid b2
      clear hv2 h2 b2 XT2 XE2 XT XS2 BW14 HL2 Hcs Hget Hsz HFl
      have hwh := whole_any v2 (w.heap.size + 1)
      have hlen := Lib.hid HV.out.1
      have XEE := Lib.hid (show entB ⟨p, 2, m, d⟩ = headB ⟨p, 2, m, d⟩ ++ digB tot 6 ++ [32] ++ tailB ⟨p, 2, m, d⟩ ++ d ++ List.replicate ((512 - d.length % 512) % 512) 0 by
        unfold entB; rw [hTOT]; simp [dataB, filB])
      generalize hHB : headB ⟨p, 2, m, d⟩ ++ digB tot 6 ++ [32] ++ tailB ⟨p, 2, m, d⟩ = HB at *
      have hrd := Lib.hid HV.out.rd
      have hb0 : w.heap.size ≤ v2.heap.size := BV.out.size
      obtain ⟨i0, hi, hz0, hz1, hz2⟩ := info_parts (show (Tryz.prog.info? tByte).map (fun i => (i.zero, i.size, i.bytes)) = some (some (.int .u8 0), 1, 1) by kernel_rfl)
      have hds : 0 < d.length := List.length_pos_iff.2 hd0
      have hcl := Lib.hid (show ∀ j u, (bytesV HB)[j]? = some u → v2.cell? ((⟨w.heap.size + 1, 0, none⟩ : Addr).add j) = some u by
        intro j u hu
        rcases hrd.out with h | ⟨b, o, e, h⟩
        · rw [h] at hu; simp at hu
        · have e2 := Option.some.inj e
          obtain ⟨rfl, rfl⟩ : w.heap.size + 1 = b ∧ 0 = o := by injection e2 with a b; exact ⟨a, b⟩
          have := h j u hu
          rw [show (⟨w.heap.size + 1, 0, none⟩ : Addr).add j = ⟨w.heap.size + 1, 0 + j, none⟩ from by simp [Addr.add]; try (intro h; exact h.symm)]
          exact this)
      clear hHB HV hrd
      go_wp2_with (at_builtin; refine wpList_append_full rfl _ _ 95 9 rfl w.heap.size tByte i0 Tryz.underlying95 Tryz.underlying9 hi hz0 hz1 hz2 (w.heap.size + 1) 512 rfl (bytesV HB) (by rw [bytesV_len]; exact hlen.out) hcl.out (S d) rfl (by rw [S_size]; exact hds) (by rw [S_size]; omega) hb0 ?_; intro v' w'' hown hgr)
      have HG := Lib.hid hgr
      have hlt1 : w.heap.size + 1 < v2.heap.size := World.block_lt_of_cell? v2 _ (hcl.out 0 _ (List.getElem?_eq_getElem (show 0 < (bytesV HB).length by rw [bytesV_len, hlen.out]; omega)))
      have hB3 := Lib.hid (BV.out.grown HG.out hb0 (fun k hk => by cases hk))
      rw [strCells_S, ← bytesV_app, S_size] at hown
      have HO := Lib.hid hown
      clear hown hgr HG hcl BV hwh
      generalize hpad : (512 - d.length % 512) % 512 = pad at XEE
      have hpad0 := Lib.hid hpad
      clear hpad
      go_loopw [13] (fun v wr => ∃ q n : Nat, q ≤ pad ∧ Hid (n = 512 + d.length + q) ∧ lenOf v = n ∧ Hid (wr.ownsRow w.heap.size tByte 1 v n (bytesV (HB ++ d ++ List.replicate q 0))) ∧ Hid (Below w.heap.size w wr)) (fun v _ => 512 + d.length + pad - lenOf v)
      case atStart =>
        refine ⟨0, 512 + d.length, Nat.zero_le _, by rw [Hid]; rfl, ?_, ?_, hB3.out⟩
        · obtain ⟨ao, c, rfl⟩ := ownsRow_form HO.out; rfl
        · rw [List.replicate_zero, List.append_nil]; exact HO.out
      case round =>
        obtain ⟨q, n, hq, hn, hlv, hown, hB⟩ := hrel
        obtain ⟨ao, c, rfl⟩ := ownsRow_form hown.out
        have hnb : n ≤ 6000 := by have := hn.out; have := hpad0.out; omega
        have hbl := Lib.hid (show (bytesV (HB ++ d ++ List.replicate q 0)).length = n by
          rw [bytesV_len]; simp only [List.length_append, List.length_replicate, hlen.out]; exact hn.out.symm)
        have hbw := hB.out.size
        clear hlv
        by_cases hlt : q < pad
        · obtain ⟨r, hmod, hr0⟩ : ∃ r : Int, (n : Int) % 512 = r ∧ (r != 0) = true := ⟨_, rfl, by have := hn.out; have := hpad0.out; simp only [bne_iff_ne, ne_eq]; omega⟩
          have HLq := Lib.hid hlt
          clear hlt hq
          go_wp2_with (at_builtin; refine wpList_append_own _ rfl _ _ 95 rfl w.heap.size tByte i0 (.int .u8 0) 1 1 Tryz.underlying95 hi hz0 hz1 hz2 rfl (by decide) _ _ _ rfl (hown.out.alloc _) ⟨wr.heap.size, 0, none⟩ 1 1 [.int .u8 0] rfl rfl (cell_one_new _ _ _) (by simp [Value.oneCell']) (by unfold maxLen; omega) (by omega) (by simp; omega) ?_; intro v' w2 hown2 hgr2 _; have HO2 := Lib.hid hown2; have HG2 := Lib.hid hgr2; clear hown2 hgr2)
          go_round
          case rel =>
            refine ⟨q + 1, n + 1, HLq.out, by rw [Hid]; have := hn.out; omega, ?_, ?_, ?_⟩
            · obtain ⟨ao, c, rfl⟩ := ownsRow_form HO2.out; rfl
            · have h := HO2.out
              have e : bytesV (HB ++ d ++ List.replicate q 0) ++ [Value.int .u8 0] = bytesV (HB ++ d ++ List.replicate (q + 1) 0) := by
                rw [List.replicate_succ', ← List.append_assoc, bytesV_app _ [0]]; rfl
              rw [e] at h; exact h
            · exact (hB.out.alloc hbw _).grown HG2.out (by simp; omega) (own_le hown.out)
          case measure =>
            obtain ⟨ao2, c2, rfl⟩ := ownsRow_form HO2.out
            have := hn.out
            have := HLq.out
            simp [lenOf]; omega
        · obtain rfl : q = pad := by omega
          have hmod : (n : Int) % 512 = 0 := by have := hn.out; have := hpad0.out; omega
          go_wp2
          go_ret
          obtain ⟨A2, cap2, hv2, _, _, hrd2⟩ := Rd.of_own hown.out
          have hle : (HB ++ d ++ List.replicate q 0).length = n := by rw [← bytesV_len]; exact hbl.out
          refine ⟨A2, cap2, ?_, ?_, hB.out, own_at hown.out (by have := hn.out; omega) hv2⟩
          · rw [XEE.out, hle, ← hv2]; rfl
          · rw [XEE.out]; exact hrd2
end Go.Proofs.YtpkabccinhfmbaaGreatDoor
namespace Go.Proofs.YtpkabccinhfmbaaGreatDoor
open Go.RowKit

set_option maxRecDepth 100000 in
set_option maxHeartbeats 8000000 in
theorem entryP_gone (p d : List UInt8) (m : Nat) (w : World) (hF : Fit ⟨p, 4, m, d⟩) (hm : m ≤ 511) (hd : d.length ≤ 4096) (hp : p.length ≤ 170) (hpn : p ≠ []) (hS : Std w) (hT : Tz w) :
    Calls Tryz.prog 40 #[.agg #[.string (S p), .int .i64 4, .int .i64 m, .string (S d)]] w (EntOut (entB ⟨p, 4, m, d⟩) w) := by
  obtain ⟨hnam, hE⟩ := elems_name hF
  have hnl := name_len hF
  rw [hnam] at hnl
  have hsl := split_len hE hnl
  rw [← hnam] at hsl
  have hN := hnam
  have HE := Lib.hid hE
  have HS := Lib.hid hS
  have HT := Lib.hid hT
  have hom := octB_len m 3 (by omega)
  have ho0 := octB_len 0 0 (by omega)
  have h1 := (Below.refl w.heap.size w).alloc (Nat.le_refl _) (.cells #[.string (S p), .int .i64 4, .int .i64 m, .string (S d)] 33)
  have C1 := Cell4.new w ⟨p, 4, m, d⟩ 33
  have H0 := Hdr.new (w.alloc (.cells #[.string (S p), .int .i64 4, .int .i64 m, .string (S d)] 33)) _ zeroHdr
  have BW := h1.alloc (by simp) (.cells Tryz.zeroCells134 134)
  have C2 := C1.below ((Below.refl _ _).alloc (Nat.le_refl _) (.cells Tryz.zeroCells134 134))
  rw [show (w.alloc (.cells #[.string (S p), .int .i64 4, .int .i64 m, .string (S d)] 33)).heap.size = w.heap.size + 1 by simp] at H0
  have XE := Lib.hid (head_fields ⟨p, 4, m, d⟩)
  have XS := Lib.hid (sumB_fields ⟨p, 4, m, d⟩)
  obtain ⟨hul1, hul2⟩ := upB_len p
  have HN := Lib.hid (show inB (upB p).1 (46 :: 119 :: 104 :: 46 :: (upB p).2) = joinB (elemsB ⟨p, 4, m, d⟩) from hN)
  have HJ := Lib.hid (show inB (upB p).1 (46 :: 119 :: 104 :: 46 :: (upB p).2) = namB ⟨p, 4, m, d⟩ from rfl)
  clear hN
  clear hE hS hT h1 C1 hnam
  go_enter Tryz.func40, Tryz.ntmps40
  go_wp2_with fail
  generalize hW2 : (w.alloc (.cells #[.string (S p), .int .i64 4, .int .i64 m, .string (S d)] 33)).alloc (.cells Tryz.zeroCells134 134) = w2 at H0 BW C2 ⊢
  clear hW2
  have HLT := Lib.hid H0.lt
  replace H0 := Lib.hid H0
  replace C2 := Lib.hid C2
  replace BW := Lib.hid BW
  have BC := Lib.hid (Below.refl (w.heap.size + 1) w2)
  refine (parentP_any p hpn (by omega) _).mono ?_
  rintro e wq ⟨rfl, hbq⟩
  replace H0 := Lib.hid (H0.out.below hbq)
  replace BW := Lib.hid (BW.out.trans (hbq.mono BW.out.size))
  replace BC := Lib.hid (hbq.mono (Nat.le_of_lt HLT.out))
  clear hbq
  generalize hq1 : (upB p).1 = q1 at HN HJ hul1 ⊢
  generalize hq2 : (upB p).2 = q2 at HN HJ hul2 ⊢
  clear hq1 hq2
  replace hul1 : q1.length ≤ 200 := by omega
  replace hul2 : q2.length ≤ 200 := by omega
  go_wp2_with fail
  refine (joinP_any q1 (46 :: 119 :: 104 :: 46 :: q2) _ (by simp only [List.length_cons]; omega)).mono ?_
  rintro e wr ⟨rfl, rfl⟩
  go_wp2_with fail
  have hNM := name_any (w.heap.size + 1) _ _ _ HE.out hnl H0.out (HS.out.below BW.out)
  rw [← HN.out] at hNM
  refine hNM.mono ?_
  rintro e w3 ⟨rfl, h3, b3⟩
  rw [HJ.out] at h3
  clear hNM
  have H3 := Lib.hid h3
  have BC3 := Lib.hid (BC.out.trans b3)
  have BW3 := Lib.hid (BW.out.trans (b3.mono (Nat.le_succ _)))
  clear h3 b3 H0 BW BC HE HN HJ HLT
  have c3m : w3.cell? ⟨w.heap.size, 2, none⟩ = some (.int .i64 m) := (BC3.out.cell (p := ⟨w.heap.size, 2, none⟩) (Nat.lt_succ_self _)).trans C2.out.2.2.1
  go_wp2_with fail
  refine (num_any (w.heap.size + 1) _ 100 7 m _ H3.out (HT.out.below BW3.out) (by omega) (by omega) (by omega) (by omega)).mono ?_
  rintro e w4 ⟨rfl, h4, b4⟩
  have H4 := Lib.hid h4
  have BW4 := Lib.hid (BW3.out.trans (b4.mono (Nat.le_succ _)))
  clear h4 b4 H3 BW3 c3m
  go_wp2_with fail
  refine (num_any (w.heap.size + 1) _ 108 7 0 _ H4.out (HT.out.below BW4.out) (by omega) (by omega) (by omega) (by omega)).mono ?_
  rintro e w5 ⟨rfl, h5, b5⟩
  have H5 := Lib.hid h5
  have BW5 := Lib.hid (BW4.out.trans (b5.mono (Nat.le_succ _)))
  clear h5 b5 H4 BW4
  go_wp2_with fail
  refine (num_any (w.heap.size + 1) _ 116 7 0 _ H5.out (HT.out.below BW5.out) (by omega) (by omega) (by omega) (by omega)).mono ?_
  rintro e w6 ⟨rfl, h6, b6⟩
  have H6 := Lib.hid h6
  have BW6 := Lib.hid (BW5.out.trans (b6.mono (Nat.le_succ _)))
  clear h6 b6 H5 BW5
  go_wp2_with fail
  refine (num_any (w.heap.size + 1) _ 124 11 0 _ H6.out (HT.out.below BW6.out) (by omega) (by omega) (by omega) (by omega)).mono ?_
  rintro e w7 ⟨rfl, h7, b7⟩
  have H7 := Lib.hid h7
  have BW7 := Lib.hid (BW6.out.trans (b7.mono (Nat.le_succ _)))
  clear h7 b7 H6 BW6
  go_wp2_with fail
  refine (num_any (w.heap.size + 1) _ 136 11 0 _ H7.out (HT.out.below BW7.out) (by omega) (by omega) (by omega) (by omega)).mono ?_
  rintro e w8 ⟨rfl, h8, b8⟩
  have H8 := Lib.hid h8
  have BW8 := Lib.hid (BW7.out.trans (b8.mono (Nat.le_succ _)))
  clear h8 b8 H7 BW7
  go_wp2_with fail
  refine (text_any (w.heap.size + 1) _ 148 [32, 32, 32, 32, 32, 32, 32, 32] _ H8.out (by first | omega | decide) (by omega)).mono ?_
  rintro e w9 ⟨rfl, hw9⟩
  have h9 := H8.out.set 148 [32, 32, 32, 32, 32, 32, 32, 32] (by first | omega | decide)
  have b9 := below_setCells (Nat.le_refl (w.heap.size + 1)) (List.map (fun x : UInt8 => Value.int .u8 (x.toNat : Int)) [32, 32, 32, 32, 32, 32, 32, 32]) 148 _ (Below.refl _ w8)
  rw [← hw9] at h9 b9
  clear hw9
  have H9 := Lib.hid h9
  have BW9 := Lib.hid (BW8.out.trans (b9.mono (Nat.le_succ _)))
  clear h9 b9 H8 BW8
  have c156 := H9.out.cell 156 (by omega)
  have f156 := H9.out.2.frozen 156
  go_upto_region 24 with fail
  have h10 := H9.out.set1 156 48 (by omega)
  have b10 := (Below.refl (w.heap.size + 1) w9).setCell (p := ⟨w.heap.size + 1, 156, none⟩) (Nat.le_refl _) (.int .u8 ((48 : UInt8).toNat : Int))
  rw [show ((48 : UInt8).toNat : Int) = 48 from rfl] at h10 b10
  clear c156 f156
  generalize hw10 : w9.setCell ⟨w.heap.size + 1, 156, none⟩ (.int .u8 48) = w10 at h10 b10 ⊢
  clear hw10
  have H10 := Lib.hid h10
  have BW10 := Lib.hid (BW9.out.trans (b10.mono (Nat.le_succ _)))
  clear h10 b10 H9 BW9
  go_wp2_with fail
  refine (text_any (w.heap.size + 1) _ 157 [] _ H10.out (by first | omega | decide) (by omega)).mono ?_
  rintro e w11 ⟨rfl, hw11⟩
  have h11 := H10.out.set 157 [] (by first | omega | decide)
  have b11 := below_setCells (Nat.le_refl (w.heap.size + 1)) (List.map (fun x : UInt8 => Value.int .u8 (x.toNat : Int)) []) 157 _ (Below.refl _ w10)
  rw [← hw11] at h11 b11
  clear hw11
  have H11 := Lib.hid h11
  have BW11 := Lib.hid (BW10.out.trans (b11.mono (Nat.le_succ _)))
  clear h11 b11 H10 BW10
  go_wp2_with fail
  refine (text_any (w.heap.size + 1) _ 257 [117, 115, 116, 97, 114, 0, 48, 48] _ H11.out (by first | omega | decide) (by omega)).mono ?_
  rintro e w12 ⟨rfl, hw12⟩
  have h12 := H11.out.set 257 [117, 115, 116, 97, 114, 0, 48, 48] (by first | omega | decide)
  have b12 := below_setCells (Nat.le_refl (w.heap.size + 1)) (List.map (fun x : UInt8 => Value.int .u8 (x.toNat : Int)) [117, 115, 116, 97, 114, 0, 48, 48]) 257 _ (Below.refl _ w11)
  rw [← hw12] at h12 b12
  clear hw12
  have H12 := Lib.hid h12
  have BW12 := Lib.hid (BW11.out.trans (b12.mono (Nat.le_succ _)))
  clear h12 b12 H11 BW11
  go_wp2_with fail
  refine (num_any (w.heap.size + 1) _ 329 7 0 _ H12.out (HT.out.below BW12.out) (by omega) (by omega) (by omega) (by omega)).mono ?_
  rintro e w13 ⟨rfl, h13, b13⟩
  have H13 := Lib.hid h13
  have BW13 := Lib.hid (BW12.out.trans (b13.mono (Nat.le_succ _)))
  clear h13 b13 H12 BW12
  go_wp2_with fail
  refine (num_any (w.heap.size + 1) _ 337 7 0 _ H13.out (HT.out.below BW13.out) (by omega) (by omega) (by omega) (by omega)).mono ?_
  rintro e w14 ⟨rfl, h14, b14⟩
  have H14 := Lib.hid h14
  have BW14 := Lib.hid (BW13.out.trans (b14.mono (Nat.le_succ _)))
  clear h14 b14 H13 BW13
  have HL : Hdr w14 (w.heap.size + 1) (stepB (splB (namB ⟨p, 4, m, d⟩)).2 (splB (namB ⟨p, 4, m, d⟩)).1 m 0 48 []) := H14.out
  rw [stepB_fields _ _ _ _ _ _ hsl.2 hsl.1 (by omega) (by omega) (by first | omega | decide)] at HL
  have HL2 := Lib.hid HL
  have XS2 := Lib.hid (show sumB (fieldsB (splB (namB ⟨p, 4, m, d⟩)).2 (splB (namB ⟨p, 4, m, d⟩)).1 m 0 48 [] (List.replicate 8 32)).flatten = totB ⟨p, 4, m, d⟩ from XS.out)
  have XT := Lib.hid (fun hv => stepB_sum (splB (namB ⟨p, 4, m, d⟩)).2 (splB (namB ⟨p, 4, m, d⟩)).1 m 0 48 [] (totB ⟨p, 4, m, d⟩) hsl.2 (by omega) (by omega) hv)
  have XE2 := Lib.hid (show (fieldsB (splB (namB ⟨p, 4, m, d⟩)).2 (splB (namB ⟨p, 4, m, d⟩)).1 m 0 48 [] (digB (totB ⟨p, 4, m, d⟩) 6 ++ [32])).flatten = headB ⟨p, 4, m, d⟩ ++ digB (totB ⟨p, 4, m, d⟩) 6 ++ [32] ++ tailB ⟨p, 4, m, d⟩ from XE.out)
  clear H14 XS XE HL hsl
  generalize (fieldsB (splB (namB ⟨p, 4, m, d⟩)).2 (splB (namB ⟨p, 4, m, d⟩)).1 m 0 48 [] (List.replicate 8 32)).flatten = F at HL2 XS2 XT
  obtain ⟨hFl, cs, hcs, hsz, hget⟩ := HL2.out
  have hsum := sumB_le F
  rw [hFl] at hsum
  have Hcs := Lib.hid hcs
  have Hget := Lib.hid hget
  have Hsz := Lib.hid hsz
  have HFl := Lib.hid hFl
  clear hcs hget hsz hFl
  go_wp2_with (refine wpList_load_row rfl _ _ rfl (w.heap.size + 1) rfl _ cs (0, 0) _ Hcs.out Tryz.underlying132 rfl (by rw [Hsz.out]; kernel_rfl) ?_)
  go_loop [10, 84] (fun s i => ∃ k : Nat, k ≤ 512 ∧ i = .int .i64 k ∧ s = .int .i64 (sumB (F.take k) : Nat)) (fun _ i => 512 - (intOf i).toNat)
  case atStart => exact ⟨0, Nat.zero_le _, rfl, by simp [sumB]⟩
  case round =>
    obtain ⟨k, hk, rfl, rfl⟩ := hrel
    by_cases hlt : k < 512
    · have hFk : k < F.length := by rw [HFl.out]; exact hlt
      have hs1 := Lib.hid (sumB_take F k hFk)
      have hs2 := sumB_le (F.take k)
      have hs3 : (F.take k).length ≤ 512 := by rw [List.length_take]; omega
      have hck := Hget.out k hlt
      rw [List.getD_eq_getElem?_getD, List.getElem?_eq_getElem hFk, Option.getD_some] at hck
      have hs4 := F[k].toNat_lt
      have hix := index512 w14 cs k _ hlt hck
      clear hck
      go_wp2
      go_round
      case rel => exact ⟨k + 1, by omega, by go_num, int_eq (by have := hs1.out; omega)⟩
      case measure => simp [intOf]; omega
    · obtain rfl : k = 512 := by omega
      have ht512 : F.take 512 = F := List.take_of_length_le (by rw [HFl.out]; omega)
      rw [ht512, XS2.out]
      rw [XS2.out] at hsum
      clear ht512 hk hlt
      have hot := octB_len (totB ⟨p, 4, m, d⟩) 5 (by omega)
      have XT2 := Lib.hid (XT.out hot)
      generalize hTOT : totB ⟨p, 4, m, d⟩ = tot at *
      have H0 := Lib.hid HL2.out
      go_wp2_with fail
      refine (num_any (w.heap.size + 1) _ 148 6 tot _ H0.out (HT.out.below BW14.out) (by omega) (by omega) (by omega) (by omega)).mono ?_
      rintro e v1 ⟨rfl, h1, b1⟩
      have HV := Lib.hid h1
      have BV := Lib.hid (BW14.out.trans (b1.mono (Nat.le_succ _)))
      clear h1 b1 H0
      have c154 := HV.out.cell 154 (by omega)
      have f154 := HV.out.2.frozen 154
      go_upto_region 36 with fail
      have h2 := HV.out.set1 154 0 (by omega)
      have b2 := BV.out.setCell (p := ⟨w.heap.size + 1, 154, none⟩) (Nat.le_succ _) (.int .u8 ((0 : UInt8).toNat : Int))
      rw [XT2.out, XE2.out] at h2
      rw [show ((0 : UInt8).toNat : Int) = 0 from rfl] at h2 b2
      clear c154 f154 HV BV
      generalize hv2 : v1.setCell ⟨w.heap.size + 1, 154, none⟩ (.int .u8 0) = v2 at h2 b2 ⊢
      have HV := Lib.hid h2
      have BV := Lib.hid b2
      clear hv2 h2 b2 XT2 XE2 XT XS2 BW14 HL2 Hcs Hget Hsz HFl
      have hwh := whole_any v2 (w.heap.size + 1)
      have hst := store_empty v2 (w.heap.size + 1)
      have XEE := Lib.hid (show entB ⟨p, 4, m, d⟩ = headB ⟨p, 4, m, d⟩ ++ digB tot 6 ++ [32] ++ tailB ⟨p, 4, m, d⟩ by
        unfold entB; rw [hTOT]; simp [dataB, filB])
      have hlen := HV.out.1
      go_wp2
      go_loop [13] (fun v => v = .slice (some ⟨w.heap.size + 1, 0, none⟩) 512 512) (fun _ => 0)
      case atStart => rfl
      case round =>
        subst hrel
        go_wp2
        go_ret
        exact ⟨some ⟨w.heap.size + 1, 0, none⟩, 512, by rw [XEE.out, hlen]; rfl, by rw [XEE.out]; exact HV.out.rd, BV.out, _, _, rfl, by omega⟩
end Go.Proofs.YtpkabccinhfmbaaGreatDoor
namespace Go.Proofs.YtpkabccinhfmbaaGreatDoor
open Go.RowKit

set_option maxRecDepth 100000 in
set_option maxHeartbeats 8000000 in
theorem entryP_clear (p d : List UInt8) (m : Nat) (w : World) (hF : Fit ⟨p, 5, m, d⟩) (hm : m ≤ 511) (hd : d.length ≤ 4096) (hp : p.length ≤ 170) (hS : Std w) (hT : Tz w) :
    Calls Tryz.prog 40 #[.agg #[.string (S p), .int .i64 5, .int .i64 m, .string (S d)]] w (EntOut (entB ⟨p, 5, m, d⟩) w) := by
  obtain ⟨hnam, hE⟩ := elems_name hF
  have hnl := name_len hF
  rw [hnam] at hnl
  have hsl := split_len hE hnl
  rw [← hnam] at hsl
  have hN := hnam
  have HE := Lib.hid hE
  have HS := Lib.hid hS
  have HT := Lib.hid hT
  have hom := octB_len m 3 (by omega)
  have ho0 := octB_len 0 0 (by omega)
  have h1 := (Below.refl w.heap.size w).alloc (Nat.le_refl _) (.cells #[.string (S p), .int .i64 5, .int .i64 m, .string (S d)] 33)
  have C1 := Cell4.new w ⟨p, 5, m, d⟩ 33
  have H0 := Hdr.new (w.alloc (.cells #[.string (S p), .int .i64 5, .int .i64 m, .string (S d)] 33)) _ zeroHdr
  have BW := h1.alloc (by simp) (.cells Tryz.zeroCells134 134)
  have C2 := C1.below ((Below.refl _ _).alloc (Nat.le_refl _) (.cells Tryz.zeroCells134 134))
  rw [show (w.alloc (.cells #[.string (S p), .int .i64 5, .int .i64 m, .string (S d)] 33)).heap.size = w.heap.size + 1 by simp] at H0
  have XE := Lib.hid (head_fields ⟨p, 5, m, d⟩)
  have XS := Lib.hid (sumB_fields ⟨p, 5, m, d⟩)
  have HN := Lib.hid (show inB p [46, 119, 104, 46, 46, 119, 104, 46, 46, 111, 112, 113] = joinB (elemsB ⟨p, 5, m, d⟩) from hN)
  have HJ := Lib.hid (show inB p [46, 119, 104, 46, 46, 119, 104, 46, 46, 111, 112, 113] = namB ⟨p, 5, m, d⟩ from rfl)
  clear hN
  clear hE hS hT h1 C1 hnam
  go_enter Tryz.func40, Tryz.ntmps40
  go_wp2_with fail
  generalize hW2 : (w.alloc (.cells #[.string (S p), .int .i64 5, .int .i64 m, .string (S d)] 33)).alloc (.cells Tryz.zeroCells134 134) = w2 at H0 BW C2 ⊢
  clear hW2
  have HLT := Lib.hid H0.lt
  replace H0 := Lib.hid H0
  replace C2 := Lib.hid C2
  replace BW := Lib.hid BW
  have BC := Lib.hid (Below.refl (w.heap.size + 1) w2)
  refine (joinP_any p [46, 119, 104, 46, 46, 119, 104, 46, 46, 111, 112, 113] _ (by first | omega | (simp; omega))).mono ?_
  rintro e wq ⟨rfl, rfl⟩
  go_wp2_with fail
  have hNM := name_any (w.heap.size + 1) _ _ _ HE.out hnl H0.out (HS.out.below BW.out)
  rw [← HN.out] at hNM
  refine hNM.mono ?_
  rintro e w3 ⟨rfl, h3, b3⟩
  rw [HJ.out] at h3
  clear hNM
  have H3 := Lib.hid h3
  have BC3 := Lib.hid (BC.out.trans b3)
  have BW3 := Lib.hid (BW.out.trans (b3.mono (Nat.le_succ _)))
  clear h3 b3 H0 BW BC HE HN HJ HLT
  have c3m : w3.cell? ⟨w.heap.size, 2, none⟩ = some (.int .i64 m) := (BC3.out.cell (p := ⟨w.heap.size, 2, none⟩) (Nat.lt_succ_self _)).trans C2.out.2.2.1
  go_wp2_with fail
  refine (num_any (w.heap.size + 1) _ 100 7 m _ H3.out (HT.out.below BW3.out) (by omega) (by omega) (by omega) (by omega)).mono ?_
  rintro e w4 ⟨rfl, h4, b4⟩
  have H4 := Lib.hid h4
  have BW4 := Lib.hid (BW3.out.trans (b4.mono (Nat.le_succ _)))
  clear h4 b4 H3 BW3 c3m
  go_wp2_with fail
  refine (num_any (w.heap.size + 1) _ 108 7 0 _ H4.out (HT.out.below BW4.out) (by omega) (by omega) (by omega) (by omega)).mono ?_
  rintro e w5 ⟨rfl, h5, b5⟩
  have H5 := Lib.hid h5
  have BW5 := Lib.hid (BW4.out.trans (b5.mono (Nat.le_succ _)))
  clear h5 b5 H4 BW4
  go_wp2_with fail
  refine (num_any (w.heap.size + 1) _ 116 7 0 _ H5.out (HT.out.below BW5.out) (by omega) (by omega) (by omega) (by omega)).mono ?_
  rintro e w6 ⟨rfl, h6, b6⟩
  have H6 := Lib.hid h6
  have BW6 := Lib.hid (BW5.out.trans (b6.mono (Nat.le_succ _)))
  clear h6 b6 H5 BW5
  go_wp2_with fail
  refine (num_any (w.heap.size + 1) _ 124 11 0 _ H6.out (HT.out.below BW6.out) (by omega) (by omega) (by omega) (by omega)).mono ?_
  rintro e w7 ⟨rfl, h7, b7⟩
  have H7 := Lib.hid h7
  have BW7 := Lib.hid (BW6.out.trans (b7.mono (Nat.le_succ _)))
  clear h7 b7 H6 BW6
  go_wp2_with fail
  refine (num_any (w.heap.size + 1) _ 136 11 0 _ H7.out (HT.out.below BW7.out) (by omega) (by omega) (by omega) (by omega)).mono ?_
  rintro e w8 ⟨rfl, h8, b8⟩
  have H8 := Lib.hid h8
  have BW8 := Lib.hid (BW7.out.trans (b8.mono (Nat.le_succ _)))
  clear h8 b8 H7 BW7
  go_wp2_with fail
  refine (text_any (w.heap.size + 1) _ 148 [32, 32, 32, 32, 32, 32, 32, 32] _ H8.out (by first | omega | decide) (by omega)).mono ?_
  rintro e w9 ⟨rfl, hw9⟩
  have h9 := H8.out.set 148 [32, 32, 32, 32, 32, 32, 32, 32] (by first | omega | decide)
  have b9 := below_setCells (Nat.le_refl (w.heap.size + 1)) (List.map (fun x : UInt8 => Value.int .u8 (x.toNat : Int)) [32, 32, 32, 32, 32, 32, 32, 32]) 148 _ (Below.refl _ w8)
  rw [← hw9] at h9 b9
  clear hw9
  have H9 := Lib.hid h9
  have BW9 := Lib.hid (BW8.out.trans (b9.mono (Nat.le_succ _)))
  clear h9 b9 H8 BW8
  have c156 := H9.out.cell 156 (by omega)
  have f156 := H9.out.2.frozen 156
  go_upto_region 24 with fail
  have h10 := H9.out.set1 156 48 (by omega)
  have b10 := (Below.refl (w.heap.size + 1) w9).setCell (p := ⟨w.heap.size + 1, 156, none⟩) (Nat.le_refl _) (.int .u8 ((48 : UInt8).toNat : Int))
  rw [show ((48 : UInt8).toNat : Int) = 48 from rfl] at h10 b10
  clear c156 f156
  generalize hw10 : w9.setCell ⟨w.heap.size + 1, 156, none⟩ (.int .u8 48) = w10 at h10 b10 ⊢
  clear hw10
  have H10 := Lib.hid h10
  have BW10 := Lib.hid (BW9.out.trans (b10.mono (Nat.le_succ _)))
  clear h10 b10 H9 BW9
  go_wp2_with fail
  refine (text_any (w.heap.size + 1) _ 157 [] _ H10.out (by first | omega | decide) (by omega)).mono ?_
  rintro e w11 ⟨rfl, hw11⟩
  have h11 := H10.out.set 157 [] (by first | omega | decide)
  have b11 := below_setCells (Nat.le_refl (w.heap.size + 1)) (List.map (fun x : UInt8 => Value.int .u8 (x.toNat : Int)) []) 157 _ (Below.refl _ w10)
  rw [← hw11] at h11 b11
  clear hw11
  have H11 := Lib.hid h11
  have BW11 := Lib.hid (BW10.out.trans (b11.mono (Nat.le_succ _)))
  clear h11 b11 H10 BW10
  go_wp2_with fail
  refine (text_any (w.heap.size + 1) _ 257 [117, 115, 116, 97, 114, 0, 48, 48] _ H11.out (by first | omega | decide) (by omega)).mono ?_
  rintro e w12 ⟨rfl, hw12⟩
  have h12 := H11.out.set 257 [117, 115, 116, 97, 114, 0, 48, 48] (by first | omega | decide)
  have b12 := below_setCells (Nat.le_refl (w.heap.size + 1)) (List.map (fun x : UInt8 => Value.int .u8 (x.toNat : Int)) [117, 115, 116, 97, 114, 0, 48, 48]) 257 _ (Below.refl _ w11)
  rw [← hw12] at h12 b12
  clear hw12
  have H12 := Lib.hid h12
  have BW12 := Lib.hid (BW11.out.trans (b12.mono (Nat.le_succ _)))
  clear h12 b12 H11 BW11
  go_wp2_with fail
  refine (num_any (w.heap.size + 1) _ 329 7 0 _ H12.out (HT.out.below BW12.out) (by omega) (by omega) (by omega) (by omega)).mono ?_
  rintro e w13 ⟨rfl, h13, b13⟩
  have H13 := Lib.hid h13
  have BW13 := Lib.hid (BW12.out.trans (b13.mono (Nat.le_succ _)))
  clear h13 b13 H12 BW12
  go_wp2_with fail
  refine (num_any (w.heap.size + 1) _ 337 7 0 _ H13.out (HT.out.below BW13.out) (by omega) (by omega) (by omega) (by omega)).mono ?_
  rintro e w14 ⟨rfl, h14, b14⟩
  have H14 := Lib.hid h14
  have BW14 := Lib.hid (BW13.out.trans (b14.mono (Nat.le_succ _)))
  clear h14 b14 H13 BW13
  have HL : Hdr w14 (w.heap.size + 1) (stepB (splB (namB ⟨p, 5, m, d⟩)).2 (splB (namB ⟨p, 5, m, d⟩)).1 m 0 48 []) := H14.out
  rw [stepB_fields _ _ _ _ _ _ hsl.2 hsl.1 (by omega) (by omega) (by first | omega | decide)] at HL
  have HL2 := Lib.hid HL
  have XS2 := Lib.hid (show sumB (fieldsB (splB (namB ⟨p, 5, m, d⟩)).2 (splB (namB ⟨p, 5, m, d⟩)).1 m 0 48 [] (List.replicate 8 32)).flatten = totB ⟨p, 5, m, d⟩ from XS.out)
  have XT := Lib.hid (fun hv => stepB_sum (splB (namB ⟨p, 5, m, d⟩)).2 (splB (namB ⟨p, 5, m, d⟩)).1 m 0 48 [] (totB ⟨p, 5, m, d⟩) hsl.2 (by omega) (by omega) hv)
  have XE2 := Lib.hid (show (fieldsB (splB (namB ⟨p, 5, m, d⟩)).2 (splB (namB ⟨p, 5, m, d⟩)).1 m 0 48 [] (digB (totB ⟨p, 5, m, d⟩) 6 ++ [32])).flatten = headB ⟨p, 5, m, d⟩ ++ digB (totB ⟨p, 5, m, d⟩) 6 ++ [32] ++ tailB ⟨p, 5, m, d⟩ from XE.out)
  clear H14 XS XE HL hsl
  generalize (fieldsB (splB (namB ⟨p, 5, m, d⟩)).2 (splB (namB ⟨p, 5, m, d⟩)).1 m 0 48 [] (List.replicate 8 32)).flatten = F at HL2 XS2 XT
  obtain ⟨hFl, cs, hcs, hsz, hget⟩ := HL2.out
  have hsum := sumB_le F
  rw [hFl] at hsum
  have Hcs := Lib.hid hcs
  have Hget := Lib.hid hget
  have Hsz := Lib.hid hsz
  have HFl := Lib.hid hFl
  clear hcs hget hsz hFl
  go_wp2_with (refine wpList_load_row rfl _ _ rfl (w.heap.size + 1) rfl _ cs (0, 0) _ Hcs.out Tryz.underlying132 rfl (by rw [Hsz.out]; kernel_rfl) ?_)
  go_loop [10, 84] (fun s i => ∃ k : Nat, k ≤ 512 ∧ i = .int .i64 k ∧ s = .int .i64 (sumB (F.take k) : Nat)) (fun _ i => 512 - (intOf i).toNat)
  case atStart => exact ⟨0, Nat.zero_le _, rfl, by simp [sumB]⟩
  case round =>
    obtain ⟨k, hk, rfl, rfl⟩ := hrel
    by_cases hlt : k < 512
    · have hFk : k < F.length := by rw [HFl.out]; exact hlt
      have hs1 := Lib.hid (sumB_take F k hFk)
      have hs2 := sumB_le (F.take k)
      have hs3 : (F.take k).length ≤ 512 := by rw [List.length_take]; omega
      have hck := Hget.out k hlt
      rw [List.getD_eq_getElem?_getD, List.getElem?_eq_getElem hFk, Option.getD_some] at hck
      have hs4 := F[k].toNat_lt
      have hix := index512 w14 cs k _ hlt hck
      clear hck
      go_wp2
      go_round
      case rel => exact ⟨k + 1, by omega, by go_num, int_eq (by have := hs1.out; omega)⟩
      case measure => simp [intOf]; omega
    · obtain rfl : k = 512 := by omega
      have ht512 : F.take 512 = F := List.take_of_length_le (by rw [HFl.out]; omega)
      rw [ht512, XS2.out]
      rw [XS2.out] at hsum
      clear ht512 hk hlt
      have hot := octB_len (totB ⟨p, 5, m, d⟩) 5 (by omega)
      have XT2 := Lib.hid (XT.out hot)
      generalize hTOT : totB ⟨p, 5, m, d⟩ = tot at *
      have H0 := Lib.hid HL2.out
      go_wp2_with fail
      refine (num_any (w.heap.size + 1) _ 148 6 tot _ H0.out (HT.out.below BW14.out) (by omega) (by omega) (by omega) (by omega)).mono ?_
      rintro e v1 ⟨rfl, h1, b1⟩
      have HV := Lib.hid h1
      have BV := Lib.hid (BW14.out.trans (b1.mono (Nat.le_succ _)))
      clear h1 b1 H0
      have c154 := HV.out.cell 154 (by omega)
      have f154 := HV.out.2.frozen 154
      go_upto_region 36 with fail
      have h2 := HV.out.set1 154 0 (by omega)
      have b2 := BV.out.setCell (p := ⟨w.heap.size + 1, 154, none⟩) (Nat.le_succ _) (.int .u8 ((0 : UInt8).toNat : Int))
      rw [XT2.out, XE2.out] at h2
      rw [show ((0 : UInt8).toNat : Int) = 0 from rfl] at h2 b2
      clear c154 f154 HV BV
      generalize hv2 : v1.setCell ⟨w.heap.size + 1, 154, none⟩ (.int .u8 0) = v2 at h2 b2 ⊢
      have HV := Lib.hid h2
      have BV := Lib.hid b2
      clear hv2 h2 b2 XT2 XE2 XT XS2 BW14 HL2 Hcs Hget Hsz HFl
      have hwh := whole_any v2 (w.heap.size + 1)
      have hst := store_empty v2 (w.heap.size + 1)
      have XEE := Lib.hid (show entB ⟨p, 5, m, d⟩ = headB ⟨p, 5, m, d⟩ ++ digB tot 6 ++ [32] ++ tailB ⟨p, 5, m, d⟩ by
        unfold entB; rw [hTOT]; simp [dataB, filB])
      have hlen := HV.out.1
      go_wp2
      go_loop [13] (fun v => v = .slice (some ⟨w.heap.size + 1, 0, none⟩) 512 512) (fun _ => 0)
      case atStart => rfl
      case round =>
        subst hrel
        go_wp2
        go_ret
        exact ⟨some ⟨w.heap.size + 1, 0, none⟩, 512, by rw [XEE.out, hlen]; rfl, by rw [XEE.out]; exact HV.out.rd, BV.out, _, _, rfl, by omega⟩
end Go.Proofs.YtpkabccinhfmbaaGreatDoor
namespace Go.Proofs.YtpkabccinhfmbaaGreatDoor
open Go.RowKit

theorem fit_small {c : Ent} (h : Fit c) : c.path.length ≤ 170 ∧ 0 ≤ c.mode ∧ c.mode ≤ 511 ∧ c.data.length ≤ 4096 ∧ (c.kind = 3 → c.data.length ≤ 100) ∧ (c.kind = 1 ∨ c.kind = 2 ∨ c.kind = 3 ∨ c.kind = 4 ∨ c.kind = 5) := by
  obtain ⟨hp, hg, h0⟩ := h
  obtain ⟨hl, _⟩ := pathB_ok hp
  refine ⟨hl, ?_⟩
  rcases hg with hg | hg
  · unfold goodB modeE at hg
    split at hg
    · rename_i k1
      simp only [Bool.and_eq_true, decide_eq_true_eq, List.isEmpty_iff] at hg
      obtain ⟨⟨h1, h2⟩, h3⟩ := hg
      rw [h3]; exact ⟨h1, h2, by simp, by simp, .inl k1⟩
    · split at hg
      · rename_i _ k2
        simp only [Bool.and_eq_true, decide_eq_true_eq] at hg
        obtain ⟨⟨h1, h2⟩, h3⟩ := hg
        exact ⟨h1, h2, h3, by intro e; omega, .inr (.inl k2)⟩
      · split at hg
        · rename_i _ _ k3
          simp only [Bool.and_eq_true, decide_eq_true_eq, targetB] at hg
          obtain ⟨h1, _, _, h3⟩ := hg
          exact ⟨by omega, by omega, by omega, fun _ => h3, .inr (.inr (.inl k3))⟩
        · cases hg
  · unfold markB at hg
    simp only [Bool.and_eq_true, Bool.or_eq_true, decide_eq_true_eq, List.isEmpty_iff] at hg
    obtain ⟨⟨h1, h2⟩, h3⟩ := hg
    rw [h3]
    exact ⟨by omega, by omega, by simp, by simp, by omega⟩
theorem entryP_any (c : Ent) (w : World) (hF : Fit c) (hS : Std w) (hT : Tz w) :
    Calls Tryz.prog 40 #[c.agg] w (EntOut (entB c) w) := by
  obtain ⟨h1, h2, h3, h4, h5, h6⟩ := fit_small hF
  have h0 := hF.2.2
  obtain ⟨p, k, m, d⟩ := c
  simp only at h0 h1 h2 h3 h4 h5 h6
  obtain ⟨m, rfl⟩ : ∃ n : Nat, m = n := ⟨m.toNat, by omega⟩
  rw [show Ent.agg ⟨p, k, m, d⟩ = .agg #[.string (S p), .int .i64 k, .int .i64 m, .string (S d)] from rfl]
  rcases h6 with rfl | rfl | rfl | rfl | rfl
  · exact entryP_dir p d m w hF (by omega) h4 h1 hS hT
  · by_cases hd : d = []
    · subst hd; exact entryP_file p m w hF (by omega) h1 hS hT
    · exact entryP_fileD p d m w hF (by omega) h4 h1 hd hS hT
  · exact entryP_link p d m w hF (by omega) h4 h1 (h5 rfl) hS hT
  · exact entryP_gone p d m w hF (by omega) h4 h1 (fun e => by have := h0 e; omega) hS hT
  · exact entryP_clear p d m w hF (by omega) h4 h1 hS hT

theorem Rd.far {w : World} {A : Option Addr} {cs : List Value} (h : Rd w A cs) (b : Nat) (hb : ∀ a, A = some a → a.block ≠ b) (o : Nat) (v : Value) : Rd (w.setCell ⟨b, o, none⟩ v) A cs := by
  rcases h with h | ⟨g, o', rfl, hc⟩
  · exact .inl h
  · refine .inr ⟨g, o', rfl, fun i u hu => ?_⟩
    rw [World.cell?_setCell_other _ _ _ _ (by intro e; have := congrArg Addr.block e; exact hb _ rfl this.symm)]; exact hc i u hu
theorem copyCheck_rd {B b : Nat} {bs : List Value} {w : World} (h : Lib.IsBuilder tBld tByte B b bs w) {A : Option Addr} {cs : List Value} (hr : Rd w A cs) (hn : ∀ a, A = some a → a.block ≠ b) :
    Calls Tryz.prog 59 #[.pointer (some ⟨b, 0, none⟩)] w fun e w' => e = .returned (.tuple #[]) ∧ Lib.BuilderAt tBld tByte B b (.pointer (some ⟨b, 0, none⟩)) bs w' ∧ Below B w w' ∧ w'.heap.size = w.heap.size ∧ Rd w' A cs := by
  rcases h with h | h
  · refine (copyCheck_fresh b w h.cell0 h.shape h.frozen0).mono ?_
    rintro e w' ⟨rfl, rfl⟩
    exact ⟨rfl, h.used _, (Below.refl B w).setCell (p := ⟨b, 0, none⟩) h.1 _, by simp, hr.far b hn 0 _⟩
  · refine (copyCheck_used b w h.cell0).mono ?_
    rintro e w' ⟨rfl, rfl⟩
    exact ⟨rfl, h, Below.refl B _, rfl, hr⟩
theorem bytesV_cells (l : List UInt8) : bytesV l = Lib.byteCells l := rfl
/-- bytes that are read do not lie in a builder -/
theorem Rd.notBld {B b : Nat} {l s : List UInt8} {A : Option Addr} {w : World} (h : Bld B b l w) (hr : Rd w A (bytesV s)) (hs : 0 < s.length) : ∀ a, A = some a → a.block ≠ b := by
  rintro a rfl e
  rcases hr with h0 | ⟨g, o, ha, hc⟩
  · have := congrArg List.length h0; rw [bytesV_len, List.length_nil] at this; omega
  · obtain rfl := Option.some.inj ha
    subst e
    have h1 := hc 0 _ (List.getElem?_eq_getElem (show 0 < (bytesV s).length by rw [bytesV_len]; exact hs))
    have key : ∀ p, Lib.BuilderAt tBld tByte B g (.pointer p) (Lib.byteCells l) w → False := by
      intro p ⟨hB, v, hbk, hown, _⟩
      obtain ⟨ao, c, rfl⟩ := ownsRow_form hown
      rw [Nat.add_zero] at h1
      have h2 : w.cell? ⟨g, o, none⟩ = #[Value.pointer p, .slice ao (Lib.byteCells l).length c][o]? := cell_of_row w g o _ _ _ hbk
      rw [h2] at h1
      have hv : (bytesV s)[0]'(by rw [bytesV_len]; exact hs) = .int .u8 (s[0].toNat : Int) := by simp [bytesV]
      rw [hv] at h1
      match o, h1 with
      | 0, h1 => simp at h1
      | 1, h1 => simp at h1
      | (n + 2), h1 => simp at h1
    rcases h with h | h
    · exact key _ h
    · exact key _ h

set_option maxHeartbeats 2000000 in
set_option maxRecDepth 100000 in
theorem write_any {B b : Nat} {l s : List UInt8} {A : Option Addr} {cap : Nat} {w : World} (h : Bld B b l w) (hr : Rd w A (bytesV s)) (hs0 : 0 < s.length) (hlen : l.length + s.length ≤ 4000000000) (hBw : B ≤ w.heap.size) :
    Calls Tryz.prog 39 #[.pointer (some ⟨b, 0, none⟩), .slice A s.length cap] w fun e w' => e = .returned (.tuple #[.int .i64 s.length, .nilIface]) ∧ Bld B b (l ++ s) w' ∧ Below B w w' := by
  obtain ⟨i0, hi, hz0, hz1, hz2⟩ := info_parts (show (Tryz.prog.info? tByte).map (fun i => (i.zero, i.size, i.bytes)) = some (some (.int .u8 0), 1, 1) by kernel_rfl)
  have hll : (Lib.byteCells l).length = l.length := Lib.byteCells_length l
  have hn := Lib.hid (Rd.notBld h hr hs0)
  have HS := Lib.hid hBw
  have HH := Lib.hid h
  have HR := Lib.hid hr
  clear h hBw hr
  go_enter Tryz.func39, Tryz.ntmps39
  go_wp2_with fail
  refine (copyCheck_rd HH.out HR.out hn.out).mono ?_
  rintro e1 w1 ⟨rfl, h1, hb1, hs1, hr1⟩
  obtain ⟨hB, v, hbk, hown, hne⟩ := h1
  have HS1 := Lib.hid hs1
  have HB := Lib.hid hB
  have HBK := Lib.hid hbk
  have HO := Lib.hid hown
  have HN := Lib.hid hne
  have c0 : w1.cell? ⟨b, 0, none⟩ = some (.pointer (some ⟨b, 0, none⟩)) := by rw [Lib.cell_of_heap hbk]; rfl
  have c1 : w1.cell? ⟨b, 1, none⟩ = some v := by rw [Lib.cell_of_heap hbk]; rfl
  have f1 : w1.frozen? ⟨b, 1, none⟩ = false := Lib.frozen_of_heap hbk 1
  have hlt : b < w1.heap.size := World.block_lt_of_cell? w1 _ c0
  obtain ⟨g, o, rfl, _, hcells⟩ := hr1.at 0 (by rw [bytesV_len]; exact hs0)
  have HC := Lib.hid (show ∀ j u, (bytesV s)[j]? = some u → w1.cell? ((⟨g, o, none⟩ : Addr).add j) = some u by
    intro j u hu
    have := hcells j u hu
    rw [show (⟨g, o, none⟩ : Addr).add j = ⟨g, o + j, none⟩ from by simp [Addr.add]]
    exact this)
  have hone := Lib.hid (show ∀ u ∈ bytesV s, u.oneCell' = true by
    intro u hu
    unfold bytesV at hu
    obtain ⟨x, _, rfl⟩ := List.mem_map.1 hu; rfl)
  have hbl := Lib.hid (bytesV_len s)
  clear hB hbk hown hne hs1 hcells hr1 hn HR HH
  go_wp2_with (at_builtin; refine wpList_append_own _ rfl _ _ 95 rfl B tByte i0 (.int .u8 0) 1 1 Tryz.underlying95 hi hz0 hz1 hz2 rfl (by decide) _ _ _ rfl HO.out ⟨g, o, none⟩ s.length cap (bytesV s) rfl (by rw [hbl.out]; omega) HC.out hone.out (by rw [hll]; unfold maxLen; omega) (by rw [hll]; omega) (by have := HS1.out; have := HS.out; omega) ?_; intro v' w2 hown2 hgr2 _; have HO2 := Lib.hid hown2; have HG2 := Lib.hid hgr2; obtain ⟨g', cap', rfl⟩ := ownsRow_form hown2; have hb2 : w2.heap[b]? = some (.cells #[.pointer (some ⟨b, 0, none⟩), v] tBld (0, 0)) := (by rw [hgr2.block b hlt (fun e => HN.out e.symm)]; exact HBK.out); have HB2 := Lib.hid hb2; have d1 : w2.cell? ⟨b, 1, none⟩ = some v := (by rw [Lib.cell_of_heap hb2]; rfl); have f2 : w2.frozen? ⟨b, 1, none⟩ = false := Lib.frozen_of_heap hb2 1; clear hown2 hgr2 hb2)
  go_ret2
  refine ⟨by simp, .inr ?_, ?_⟩
  · refine Lib.BuilderAt.put (T := tBld) (e := tByte) HB.out HB2.out (bs' := Lib.byteCells (l ++ s)) ?_ (by decide)
    have h3 := HO2.out
    rw [hll, bytesV_cells] at h3
    rw [show Lib.byteCells (l ++ s) = Lib.byteCells l ++ Lib.byteCells s from by unfold Lib.byteCells; rw [List.map_append], List.length_append, hll, Lib.byteCells_length]
    exact h3
  · exact (hb1.grown HG2.out (by have := HS1.out; have := HS.out; omega) (fun k hk => (HO.out.lt k hk).1)).setCell (p := ⟨b, 1, none⟩) HB.out _
end Go.Proofs.YtpkabccinhfmbaaGreatDoor
namespace Go.Proofs.YtpkabccinhfmbaaGreatDoor
open Go.RowKit

theorem entB_pos (c : Ent) : 0 < (entB c).length := by unfold entB tailB; simp; omega
set_option maxHeartbeats 4000000 in
set_option maxRecDepth 100000 in
theorem packP_any (l : List Ent) (A : Option Addr) (cap : Nat) (w : World) (hr : Rd w A (ents l)) (hl : l.length ≤ 4294967290) (hz : (packsB l).length ≤ 3000000000) (hc : ∀ c ∈ l, Fit c) (hS : Std w) (hT : Tz w) :
    Calls Tryz.prog 26 #[.slice A l.length cap] w fun e w' => e = .returned (.string (S (packB l))) ∧ Below w.heap.size w w' := by
  have HF := Lib.hid hc
  have HS := Lib.hid hS
  have HT := Lib.hid hT
  have hb0 := Bld.new w.heap.size w (Nat.le_refl _)
  have hB0 := (Below.refl w.heap.size w).alloc (Nat.le_refl _) (.cells #[.pointer none, .slice none 0 0] tBld)
  have HB0 := Lib.hid hB0
  have Hb0 := Lib.hid hb0
  have HR := Lib.hid hr
  clear hc hS hT hb0 hB0 hr
  go_enter Tryz.func26, Tryz.ntmps26
  go_wp2
  try rw [show (ByteArray.mk #[]) = S [] from rfl]
  go_loopw [8] (fun i wr => ∃ k : Nat, k ≤ l.length ∧ i = .int .i64 k ∧ Hid (Bld w.heap.size w.heap.size (packsB (l.take k)) wr) ∧ Hid (Below w.heap.size w wr)) (fun i _ => l.length - (intOf i).toNat)
  case atStart => exact ⟨0, Nat.zero_le _, rfl, Hb0.out, HB0.out⟩
  case round =>
    obtain ⟨k, hk, rfl, HBd, HB⟩ := hrel
    have hq := packsB_le l k
    by_cases hlt : k < l.length
    · obtain ⟨b, o, rfl, hbb, c0, c1, c2, c3⟩ := ents_at HR.out HB.out k hlt
      have hq2 := packsB_le l (k + 1)
      have X := Lib.hid (packsB_take l k hlt)
      rw [packsB_take l k hlt, List.length_append] at hq2
      obtain ⟨c, hcc⟩ : ∃ c, l[k] = c := ⟨_, rfl⟩
      have hfit := Lib.hid (hcc ▸ HF.out _ (List.getElem_mem hlt))
      rw [hcc] at c0 c1 c2 c3 X hq2
      have hkl : (k : Int) < (l.length : Int) := by omega
      have HB1 := Lib.hid (HB.out.alloc HB.out.size (.cells #[.string (S c.path), .int .i64 c.kind, .int .i64 c.mode, .string (S c.data)] 33))
      have HBd1 := Lib.hid (HBd.out.after ((Below.refl _ _).alloc (Nat.le_refl _) (.cells #[.string (S c.path), .int .i64 c.kind, .int .i64 c.mode, .string (S c.data)] 33)))
      have hpos := entB_pos c
      clear hcc
      go_wp2_with fail
      refine (entryP_any c _ hfit.out (HS.out.below HB1.out) (HT.out.below HB1.out)).mono ?_
      rintro e w2 ⟨A2, cap2, rfl, hr2, hb2, _⟩
      have HR2 := Lib.hid hr2
      have HB2 := Lib.hid (HB1.out.trans (hb2.mono HB1.out.size))
      have HBd2 := Lib.hid (HBd1.out.after hb2)
      clear hr2 hb2 HB1 HBd1 c0 c1 c2 c3 HB HBd
      generalize hE : entB c = E at *
      clear hE
      go_wp2_with fail
      refine (write_any HBd2.out HR2.out hpos (by omega) HB2.out.size).mono ?_
      rintro e w3 ⟨rfl, hbd3, hb3⟩
      have HB3 := Lib.hid (HB2.out.trans hb3)
      have HBd3 := Lib.hid hbd3
      clear hbd3 hb3
      go_wp2_with fail
      go_round
      case rel => exact ⟨k + 1, by omega, by go_num, by rw [X.out]; exact HBd3.out, HB3.out⟩
      case measure => simp [intOf]; omega
    · obtain rfl : k = l.length := by omega
      have X := Lib.hid (show packB l = packsB l ++ List.replicate 1024 0 by simp [packB, packsB, filB])
      have hlz : (List.replicate 1024 (0 : UInt8)).length ≤ 1024 := by rw [List.length_replicate]; omega
      have hRp := Lib.hid (repeat_any 0 1024 wr (by omega))
      generalize List.replicate 1024 (0 : UInt8) = z at *
      go_wp2_with fail
      refine hRp.out.mono ?_
      rintro e w2 ⟨rfl, hb2⟩
      have HBd2 := Lib.hid (HBd.out.after hb2)
      have HB2 := Lib.hid (HB.out.trans (hb2.mono HB.out.size))
      clear hb2 hRp HBd HB
      go_wp2_with fail
      refine (writeString_any HBd2.out (by omega) HB2.out.size).mono ?_
      rintro e w3 ⟨rfl, hbd3, hb3, _⟩
      have HB3 := Lib.hid (HB2.out.trans hb3)
      have HBd3 := Lib.hid hbd3
      clear hbd3 hb3
      go_wp2_with fail
      refine (bldString_any HBd3.out HB3.out.size).mono ?_
      rintro e w4 ⟨rfl, hb4⟩
      go_wp2_with fail
      go_ret
      exact ⟨ret_str X.out.symm, HB3.out.trans hb4⟩
end Go.Proofs.YtpkabccinhfmbaaGreatDoor
