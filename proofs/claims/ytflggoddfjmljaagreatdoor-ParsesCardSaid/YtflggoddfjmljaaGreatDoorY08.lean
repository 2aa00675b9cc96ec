/-
  The program's own lexer: what stands between quotes (under way).
  The program's own lexer: what stands between quotes: the walk.
  The program's own lexer: a word: what it leaves, bounds on it.
  The program's own lexer: a word: the walk.
  The program's own lexer: a line under way, in plain words and in memory.
  The program's own lexer: a line: the walk.
  The program's own parser: the text of a word that is read, the name of a stage.
  The program's own parser: the stage of a name.
  The program's own parser: the number of a stage that a word names.
  The program's own parser: are all variables of words set?
  The program's own parser: are all variables of words set? The walk.
  The program's own one form: a word, a stage's name: the walks.
-/
import Derived.StillTailTactics
import Derived.Deep.RegionWith
import Derived.Deep.AppendLies
import Derived.RegionDies
import Derived.Test.YtflggoddfjmljaaGreatDoorY01
import Derived.Test.YtflggoddfjmljaaGreatDoorY03
import Derived.Test.YtflggoddfjmljaaGreatDoorY07
set_option linter.unusedVariables false
set_option linter.unusedSimpArgs false
namespace Go.Proofs.YtflggoddfjmljaaGreatDoor
open Go.RowKit

/-- pieces within bounds -/
def TB (l : List PieceG) (n : Nat) : Prop := l.length ≤ n ∧ ∀ q ∈ l, q.text.length ≤ n
theorem TB.mono {l : List PieceG} {n m : Nat} (h : TB l n) (hm : n ≤ m) : TB l m := ⟨Nat.le_trans h.1 hm, fun q hq => Nat.le_trans (h.2 q hq) hm⟩
theorem TB.add {l : List PieceG} {n : Nat} (h : TB l n) (c : UInt8) : TB (addP l c) (n + 1) := by
  refine ⟨Nat.le_trans (addP_len l c) (by have := h.1; omega), ?_⟩
  rcases List.eq_nil_or_concat l with rfl | ⟨init, q, rfl⟩
  · intro q hq
    rw [addP_nil] at hq
    simp at hq; subst hq; simp
  · rw [List.concat_eq_append] at *
    have hq := h.2 q (by simp)
    cases hv : q.var
    · rw [addP_run init q c hv]
      intro r hr
      rcases List.mem_append.1 hr with hr | hr
      · have := h.2 r (List.mem_append.2 (.inl hr)); omega
      · simp at hr; subst hr; simp; omega
    · rw [addP_var init q c hv]
      intro r hr
      rcases List.mem_append.1 hr with hr | hr
      · have := h.2 r hr; omega
      · simp at hr; subst hr; simp
theorem TB.var {l : List PieceG} {n : Nat} (h : TB l n) {x : List UInt8} (hx : x.length ≤ n + 1) (p : Nat) : TB (l ++ [⟨x, true, p⟩]) (n + 1) := by
  refine ⟨by simp; exact h.1, ?_⟩
  intro r hr
  rcases List.mem_append.1 hr with hr | hr
  · have := h.2 r hr; omega
  · simp at hr; subst hr; exact hx

/-- what 'quoted' does -/
def quotedOutP (B gw g p : Nat) (s : List UInt8) (l : List PieceG) (w w' : World) (e : Ending) : Except Nat (List Atm × Nat) → Prop
  | .error q => Thrown w w' e 5 q
  | .ok (m, n) => e = .returned (.tuple #[]) ∧ Lex w' g s n ∧ ∃ ao c, Wd B gw w' (piecesP m l) p ao c

/-- 'quoted' under way -/
structure QInv (B gw g p : Nat) (s : List UInt8) (w0 w : World) (l : List PieceG) (j : Nat) (ao : Option Addr) (c : Nat) : Prop where
  lex : Lex w g s j
  wd : Wd B gw w l p ao c
  fr : Fr (fun b => b = g ∨ b = gw ∨ B ≤ b) w0 w
  tb : TB l (j + 10)
  hg : g < B
  ne : g ≠ gw
theorem QInv.drewN {B gw g p : Nat} {s : List UInt8} {w0 w : World} {l : List PieceG} {j : Nat} {ao : Option Addr} {c : Nat} (h : QInv B gw g p s w0 w l j ao c) (n : Nat) : QInv B gw g p s w0 (w.drewN n) l j ao c :=
  ⟨h.lex, ⟨h.wd.own, h.wd.blk, h.wd.hB, h.wd.hgw⟩, h.fr.drewN n, h.tb, h.hg, h.ne⟩
theorem QInv.drew {B gw g p : Nat} {s : List UInt8} {w0 w : World} {l : List PieceG} {j : Nat} {ao : Option Addr} {c : Nat} (h : QInv B gw g p s w0 w l j ao c) : QInv B gw g p s w0 w.drew l j ao c :=
  ⟨h.lex, h.wd.drew, h.fr.drew, h.tb, h.hg, h.ne⟩
/-- the lexer goes on -/
theorem QInv.go {B gw g p : Nat} {s : List UInt8} {w0 w : World} {l : List PieceG} {j : Nat} {ao : Option Addr} {c : Nat} (h : QInv B gw g p s w0 w l j ao c) (m : Nat) (hm : j ≤ m) : QInv B gw g p s w0 (w.setCell ⟨g, 1, none⟩ (.int .i64 m)) l m ao c := by
  have hg := h.hg
  have hne := h.ne
  refine ⟨h.lex.set m, ⟨ownsRow_setCell_below h.wd.own (a := ⟨g, 1, none⟩) hg _, ?_, by rw [World.size_setCell]; exact h.wd.hB, h.wd.hgw⟩, h.fr.setCell (fun _ => .inl rfl) _ _, h.tb.mono (by omega), hg, hne⟩
  rw [heap_setCell_other w ⟨g, 1, none⟩ gw _ (by show gw ≠ g; omega)]; exact h.wd.blk
/-- a byte was added -/
theorem QInv.added {B gw g p : Nat} {s : List UInt8} {w0 w w' : World} {l : List PieceG} {j : Nat} {ao ao' : Option Addr} {c c' : Nat} (h : QInv B gw g p s w0 w l j ao c) (x : UInt8) (hw : Wd B gw w' (addP l x) p ao' c') (hf : Fr (fun b => b = gw ∨ B ≤ b) w w') :
    Lex w' g s j ∧ Wd B gw w' (addP l x) p ao' c' ∧ Fr (fun b => b = g ∨ b = gw ∨ B ≤ b) w0 w' ∧ TB (addP l x) (j + 1 + 10) := by
  have hg := h.hg
  have hne := h.ne
  refine ⟨h.lex.fr hf (by omega), hw, h.fr.trans (hf.mono (fun k _ hk => .inr hk)), ?_⟩
  have := h.tb.add x
  rwa [show j + 10 + 1 = j + 1 + 10 by omega] at this
theorem QInv.addedGo {B gw g p : Nat} {s : List UInt8} {w0 w w' : World} {l : List PieceG} {j : Nat} {ao ao' : Option Addr} {c c' : Nat} (h : QInv B gw g p s w0 w l j ao c) (x : UInt8) (hw : Wd B gw w' (addP l x) p ao' c') (hf : Fr (fun b => b = gw ∨ B ≤ b) w w') (n : Nat) :
    QInv B gw g p s w0 ((w'.drewN n).setCell ⟨g, 1, none⟩ (.int .i64 ((j : Int) + 1))) (addP l x) (j + 1) ao' c' := by
  obtain ⟨h1, h2, h3, h4⟩ := h.added x hw hf
  have hg := h.hg
  have hne := h.ne
  have hc : ((j : Int) + 1) = ((j + 1 : Nat) : Int) := by omega
  rw [hc]
  refine ⟨(h1.drewN n).set (j + 1), ⟨ownsRow_setCell_below (w := w'.drewN n) h2.own (a := ⟨g, 1, none⟩) hg _, ?_, by rw [World.size_setCell]; exact h2.hB, h2.hgw⟩, (h3.drewN n).setCell (fun _ => .inl rfl) _ _, h4, hg, hne⟩
  rw [heap_setCell_other (w'.drewN n) ⟨g, 1, none⟩ gw _ (by show gw ≠ g; omega)]; exact h2.blk
theorem QInv.facts {B gw g p : Nat} {s : List UInt8} {w0 w : World} {l : List PieceG} {j : Nat} {ao : Option Addr} {c : Nat} (h : QInv B gw g p s w0 w l j ao c) : w.cell? ⟨g, 0, none⟩ = some (.string (S s)) ∧ w.cell? ⟨g, 1, none⟩ = some (.int .i64 j) ∧ w.frozen? ⟨g, 0, none⟩ = false ∧ w.frozen? ⟨g, 1, none⟩ = false := h.lex.blk2.facts
theorem QInv.goV {B gw g p : Nat} {s : List UInt8} {w0 w : World} {l : List PieceG} {j : Nat} {ao : Option Addr} {c : Nat} (h : QInv B gw g p s w0 w l j ao c) (m : Nat) (hm : j ≤ m) {v : Int} (hv : v = (m : Int)) : QInv B gw g p s w0 (w.setCell ⟨g, 1, none⟩ (.int .i64 v)) l m ao c := by
  subst hv; exact h.go m hm
theorem QInv.addedGoV {B gw g p : Nat} {s : List UInt8} {w0 w w' : World} {l : List PieceG} {j : Nat} {ao ao' : Option Addr} {c c' : Nat} (h : QInv B gw g p s w0 w l j ao c) (x : UInt8) (hw : Wd B gw w' (addP l x) p ao' c') (hf : Fr (fun b => b = gw ∨ B ≤ b) w w') {v : Int} (hv : v = (j : Int) + 1) :
    QInv B gw g p s w0 (w'.setCell ⟨g, 1, none⟩ (.int .i64 v)) (addP l x) (j + 1) ao' c' := by
  subst hv; exact h.addedGo x hw hf 0
/-- the lexer has turned, the word not -/
theorem Wd.lexed {B gw g j p c : Nat} {s : List UInt8} {w w' : World} {l : List PieceG} {ao : Option Addr} (h : Wd B gw w l p ao c) (hx : Lex w g s j) (hf : Fr (fun b => b = g) w w') (hne : g ≠ gw) : Wd B gw w' l p ao c := by
  refine ⟨ownsRow_keep h.own (hf.keepT ?_), (hf.block gw (Array.getElem?_eq_some_iff.1 h.blk).1 (fun e => hne e.symm)).trans h.blk, Nat.le_trans h.hB hf.size, h.hgw⟩
  intro b cur fz e1 e2
  have h1 := hx
  unfold Lex at h1
  rw [e1, h1] at e2
  simp only [Option.some.injEq, Obj.cells.injEq] at e2
  exact absurd e2.2.1 (by decide)
theorem QInv.varied {B gw g p : Nat} {s : List UInt8} {w0 w w' : World} {l : List PieceG} {j : Nat} {ao : Option Addr} {c : Nat} (h : QInv B gw g p s w0 w l j ao c) (hf : Fr (fun b => b = g) w w') : Wd B gw w' l p ao c := h.wd.lexed h.lex hf h.ne
/-- a variable was read, then appended, then stored -/
theorem QInv.pushed {B gw g p : Nat} {s : List UInt8} {w0 w w6 w7 : World} {l : List PieceG} {j n : Nat} {ao : Option Addr} {c : Nat} (h : QInv B gw g p s w0 w l j ao c) (hf : Fr (fun b => b = g) w w6) (hl6 : Lex w6 g s (j + n)) (o : Obj) {x : List UInt8} {ao' : Option Addr} {c' : Nat}
    (hgr : (w6.alloc o).grownBy w7 (Value.slice ao l.length c).ownBlock) (hown : w7.ownsRow B tPiece 3 (.slice ao' (l.length + 1) c') (l.length + 1) (pcs l ++ [.string (S x), .bool true, .int .i64 j])) (hx : x.length ≤ 10) (hn : 0 < n) :
    QInv B gw g p s w0 (w7.setCell ⟨gw, 0, none⟩ (.slice ao' (l.length + 1) c')) (l ++ [⟨x, true, j⟩]) (j + n) ao' c' := by
  have hwd := (h.varied hf).alloc o
  have hg := h.hg
  have hne := h.ne
  refine ⟨?_, hwd.push ⟨x, true, j⟩ hown hgr, ?_, (h.tb.var (x := x) (by omega) j).mono (by omega), hg, hne⟩
  · have hlx := hl6.alloc o
    have : Lex w7 g s (j + n) := (hgr.block g (Array.getElem?_eq_some_iff.1 hlx).1 (own_ne hwd.own hg)).trans hlx
    exact this.far 0 _ hne
  · exact (((h.fr.trans (hf.mono (fun _ _ e => .inl e))).alloc o).grown hgr (fun k hk _ => .inr (.inr (own_le hwd.own k hk)))).setCell (fun _ => .inr (.inl rfl)) _ _
end Go.Proofs.YtflggoddfjmljaaGreatDoor
namespace Go.Proofs.YtflggoddfjmljaaGreatDoor
open Go.RowKit

theorem quoteIdx_in {c : UInt8} (h : c = 34 ∨ c = 92 ∨ c = 36) : ∃ i : Nat, Lib.indexByte [34, 92, 36] c = (i : Int) := by
  rcases h with rfl | rfl | rfl
  · exact ⟨0, rfl⟩
  · exact ⟨1, rfl⟩
  · exact ⟨2, rfl⟩
theorem quoteIdx_out {c : UInt8} (h : ¬ (c = 34 ∨ c = 92 ∨ c = 36)) : Lib.indexByte [34, 92, 36] c = -1 := by
  have h1 : ¬ c = 34 := fun e => h (.inl e)
  have h2 : ¬ c = 92 := fun e => h (.inr (.inl e))
  have h3 : ¬ c = 36 := fun e => h (.inr (.inr e))
  have e1 : ((34 : UInt8) == c) = false := by rw [beq_eq_false_iff_ne]; exact fun e => h1 e.symm
  have e2 : ((92 : UInt8) == c) = false := by rw [beq_eq_false_iff_ne]; exact fun e => h2 e.symm
  have e3 : ((36 : UInt8) == c) = false := by rw [beq_eq_false_iff_ne]; exact fun e => h3 e.symm
  rw [Lib.indexByte, e1, Lib.indexByte, e2, Lib.indexByte, e3, Lib.indexByte]
  rfl
theorem quoteIdx_none (c : UInt8) (h : ¬ (c = 34 ∨ c = 92 ∨ c = 36)) (w : World) :
    Calls Tryz.prog 75 #[.string (S [34, 92, 36]), .int .u8 c.toNat] w fun e w' => e = .returned (.int .i64 (-1)) ∧ w' = w :=
  (Tryz.strings_IndexByte (S [34, 92, 36]) c.toNat w).mono fun e w' ⟨he, hw⟩ => ⟨by rw [he, S_data, ← quoteIdx_out h]; simp, hw⟩
theorem quoteIdx_some (c : UInt8) (h : c = 34 ∨ c = 92 ∨ c = 36) : ∃ i : Nat, ∀ w : World,
    Calls Tryz.prog 75 #[.string (S [34, 92, 36]), .int .u8 c.toNat] w fun e w' => e = .returned (.int .i64 (i : Int)) ∧ w' = w := by
  obtain ⟨i, hi⟩ := quoteIdx_in h
  exact ⟨i, fun w => (Tryz.strings_IndexByte (S [34, 92, 36]) c.toNat w).mono fun e w' ⟨he, hw⟩ => ⟨by rw [he, S_data, ← hi]; simp, hw⟩⟩
set_option maxRecDepth 100000 in
set_option maxHeartbeats 4000000 in
theorem quotedP_any (s : List UInt8) (g k B gw p c : Nat) (ao : Option Addr) (l : List PieceG) (w : World) (hs : s.length ≤ 100000) (hk : k < s.length) (hx : Lex w g s k) (hw : Wd B gw w l p ao c) (hg : g < B) (hne : g ≠ gw) (ht : TB l (k + 10)) :
    Calls Tryz.prog 64 #[.pointer (some ⟨g, 0, none⟩), .pointer (some ⟨gw, 0, none⟩)] w fun e w' => quotedOutP B gw g p s l w w' e (quotedB s k (k + 1) []) ∧ Fr (fun b => b = g ∨ b = gw ∨ B ≤ b) w w' := by
  obtain ⟨c1, c2, c3, c4⟩ := hx.blk2.facts
  have Q0 := Lib.hid ((⟨hx, hw, Fr.refl _ _, ht, hg, hne⟩ : QInv B gw g p s w w l k ao c).go (k + 1) (by omega))
  clear hx hw ht
  go_enter Tryz.func64, Tryz.ntmps64
  go_wp2
  go_loopw [5] (fun _ wr => ∃ (acc : List Atm) (j : Nat) (ao : Option Addr) (c : Nat), k < j ∧ j ≤ s.length ∧ Hid (quotedB s k (k + 1) [] = quotedB s k j acc) ∧ Hid (QInv B gw g p s w wr (piecesP acc l) j ao c)) (fun _ wr => s.length - atOf wr g)
  case atStart => exact ⟨[], k + 1, ao, c, by omega, by omega, rfl, Q0⟩
  case round =>
    obtain ⟨acc, j, ao, c, hkj, hj, HQ, QI⟩ := hrel
    clear Q0
    obtain ⟨c1, c2, c3, c4⟩ := QI.out.lex.blk2.facts
    have hat := Lib.hid QI.out.lex.atOf
    have hfs := Lib.hid QI.out.fr.size
    by_cases hst : stopsB s j = true
    · have Y := Lib.hid (show quotedB s k (k + 1) [] = .error k by
        rw [HQ.out]
        by_cases h : j < s.length
        · exact quotedB_nl h (by simpa [stopsB, h] using hst)
        · exact quotedB_end (by omega))
      have HS := Lib.hid hst
      clear hst HQ
      go_wp2_with (first
        | (go_at_call 51; refine (endP_any s g j _ (by omega) hj QI.out.lex).mono ?_; rintro e2 w2 ⟨rfl, m2, rfl⟩; rw [HS.out])
        | (go_at_call 32; refine (failP_any 5 k _).mono ?_; rintro e5 w5 ⟨rfl, rfl⟩))
      refine ⟨rfl, ?_, ?_⟩
      · rw [Y.out]
        exact ⟨_, rfl, hfs.out, heap_alloc_new _ _⟩
      · exact ((QI.out.fr.drewN _).alloc _)
    · have hst' : stopsB s j = false := by simpa using hst
      obtain ⟨hlt, n10⟩ := stopsB_false hst'
      have HS := Lib.hid hst'
      have hj1 : (j : Int) < (s.length : Int) := by omega
      have hj0 : (0 : Int) ≤ (j : Int) := by omega
      clear hst hst'
      by_cases e34 : s[j] = 34
      · have Y := Lib.hid (show quotedB s k (k + 1) [] = .ok (acc, j + 1) by rw [HQ.out]; exact quotedB_shut hlt e34)
        have h34 : ((s[j].toNat : Int) == 34) = true := by rw [e34]; rfl
        clear e34 n10 HQ
        go_wp2_with (go_at_call 51; refine (endP_any s g j _ (by omega) hj QI.out.lex).mono ?_; rintro e2 w2 ⟨rfl, m2, rfl⟩; rw [HS.out])
        go_quiet (fail)
        go_wp2
        first | go_end0 | refine bodyPost_ret (results_none rfl _ _ _) rfl ?_
        have QG := (QI.out.drewN (m2 + nq)).go (j + 1) (by omega)
        refine ⟨?_, QG.fr⟩
        rw [Y.out]
        exact ⟨rfl, QG.lex, _, _, QG.wd⟩
      have h34 : ((s[j].toNat : Int) == 34) = false := u8_ne e34
      by_cases e36 : s[j] = 36
      · have h36 : ((s[j].toNat : Int) == 36) = true := by rw [e36]; rfl
        cases hv : varB s j with
        | none =>
          have Y := Lib.hid (show quotedB s k (k + 1) [] = .error j by rw [HQ.out]; exact quotedB_var0 hlt e36 hv)
          have HV := Lib.hid hv
          clear n10 hv HQ e34 e36
          go_wp2_with (go_at_call 51; refine (endP_any s g j _ (by omega) hj QI.out.lex).mono ?_; rintro e2 w2 ⟨rfl, m2, rfl⟩; rw [HS.out])
          go_quiet (fail)
          go_wp2_with fail
          have QN := Lib.hid (QI.out.drewN (m2 + nq))
          clear c1 c2 c3 c4 hat QI
          generalize hW : wr.drewN (m2 + nq) = wz at *
          clear hW
          obtain ⟨b1, b2, b3, b4⟩ := QN.out.wd.blk2.facts
          have hfz := Lib.hid QN.out.fr.size
          go_region_dies
          all_goals
            go_at_call 65
            refine (variableP_any s g j _ (by omega) hlt QN.out.drew.lex).mono ?_
            rintro e6 w6 ⟨ho6, hf6⟩
            rw [HV.out] at ho6
            obtain ⟨n6, rfl, h6, h7⟩ := ho6
            go_wp2
            refine ⟨rfl, ?_, ?_⟩
            · rw [Y.out]
              exact ⟨n6, rfl, Nat.le_trans hfz.out h6, h7⟩
            · exact QN.out.fr.drew.trans (hf6.mono (fun _ _ e => .inl e))
        | some xn =>
          obtain ⟨x, n⟩ := xn
          have Y := Lib.hid (show quotedB s k (k + 1) [] = quotedB s k (j + n) (acc ++ [.var x j]) by rw [HQ.out]; exact quotedB_var hlt e36 hv)
          obtain ⟨v1, v2, v3, v4⟩ := varB_pos hv
          have HV := Lib.hid hv
          clear n10 hv HQ e34 e36
          go_wp2_with (go_at_call 51; refine (endP_any s g j _ (by omega) hj QI.out.lex).mono ?_; rintro e2 w2 ⟨rfl, m2, rfl⟩; rw [HS.out])
          go_quiet (fail)
          go_wp2_with fail
          have QN := Lib.hid (QI.out.drewN (m2 + nq))
          have HA := Lib.hid (show atOf wr g = j from hat.out)
          clear c1 c2 c3 c4 hat QI
          generalize hW : wr.drewN (m2 + nq) = wz at *
          clear hW
          obtain ⟨b1, b2, b3, b4⟩ := QN.out.wd.blk2.facts
          have htb := QN.out.tb
          have HT := Lib.hid htb
          clear htb
          obtain ⟨i0, hi0, hz0, hz1, hz2⟩ := info_parts (show (Tryz.prog.info? 143).map (fun i => (i.zero, i.size, i.bytes)) = some (some (.agg #[.string ByteArray.empty, .bool false, .int .i64 0]), 3, 32) by kernel_rfl)
          go_region_law (first
            | (refine step_append_lies _ (by rfl) (.tmp 48) (.tmp 51) 109 (by rfl) B tPiece i0 (.agg #[.string ByteArray.empty, .bool false, .int .i64 0]) 3 32 Tryz.underlying109 hi0 hz0 hz1 hz2 (by rfl) (by decide) (.slice ao (piecesP acc l).length c) (piecesP acc l).length (pcs (piecesP acc l)) (by rfl) (WD6.out.alloc _).own ⟨_, 0, none⟩ 1 1 [.string (S x), .bool true, .int .i64 j] (by rfl) (by rfl) (cells3_at _ _ _ _ _ _ (by simp)) (by simp [Value.oneCell']) (by decide) (by have := HT.out.1; unfold maxLen; omega) (by have := HT.out.1; omega) (by simp; have := WD6.out.hB; omega) _ (by rfl) ?_; intro g' c' w7 hown7 hgr7 _ _; obtain ⟨k1, k2, k3, k4⟩ := ((WD6.out.alloc _).kept hgr7).facts)
            | (go_simp; go_at_call 65; refine (variableP_any s g j _ (by omega) hlt QN.out.drew.lex).mono ?_; rintro e6 w6 ⟨ho6, hf6⟩; rw [HV.out] at ho6; obtain ⟨rfl, hlx6⟩ := ho6; obtain ⟨b61, b62, b63, b64⟩ := (QN.out.drew.varied hf6).blk2.facts; have hgs6 := (QN.out.drew.varied hf6).blk2.lt; have WD6 := Lib.hid (QN.out.drew.varied hf6); have HF6 := Lib.hid hf6; have HL6 := Lib.hid hlx6; clear hf6 hlx6))
          all_goals
            have PQ := Lib.hid (QN.out.drew.pushed HF6.out HL6.out _ hgr7 hown7 v4 v1)
            clear hgr7 hown7 k1 k2 k3 k4
            go_wp2
            go_roundw
            case rel => exact ⟨acc ++ [.var x j], j + n, _, _, by omega, v2, Y, by rw [piecesP_snoc]; exact PQ.out⟩
            case measure =>
              rw [HA.out, PQ.out.lex.atOf]
              omega
      have h36 : ((s[j].toNat : Int) == 36) = false := u8_ne e36
      by_cases e92 : s[j] = 92
      · have h92 : ((s[j].toNat : Int) == 92) = true := by rw [e92]; rfl
        have hw1 : IntKind.i64.wrap ((j : Int) + 1) = (j : Int) + 1 := by rw [IntKind.wrap_i64]; omega
        have hw2 : (0 : Int) ≤ (j : Int) + 1 := by omega
        have hw4 : ((j : Int) + 1).toNat = j + 1 := by omega
        by_cases hl1 : j + 1 < s.length
        · have hne1 : ((j : Int) + 1 == (s.length : Int)) = false := by rw [beq_eq_false_iff_ne]; omega
          have hw3 : (j : Int) + 1 < (s.length : Int) := by omega
          by_cases hd : s[j + 1] = 34 ∨ s[j + 1] = 92 ∨ s[j + 1] = 36
          · have Y := Lib.hid (show quotedB s k (k + 1) [] = quotedB s k (j + 2) (acc ++ [.ch s[j + 1]]) by rw [HQ.out]; exact quotedB_esc hl1 e92 hd)
            obtain ⟨ix, hix⟩ := quoteIdx_some s[j + 1] hd
            have HD := Lib.hid hix
            have hix0 : (0 : Int) ≤ (ix : Int) := by omega
            clear e34 e36 e92 n10 HQ hd hix
            go_wp2_with (go_at_call 51; refine (endP_any s g j _ (by omega) hj QI.out.lex).mono ?_; rintro e2 w2 ⟨rfl, m2, rfl⟩; rw [HS.out])
            go_quiet (fail)
            go_wp2_with fail
            have QN := Lib.hid (QI.out.drewN (m2 + nq))
            have HA := Lib.hid (show atOf wr g = j from hat.out)
            clear c1 c2 c3 c4 hat QI
            generalize hW : wr.drewN (m2 + nq) = wz at *
            clear hW
            obtain ⟨c1, c2, c3, c4⟩ := QN.out.facts
            go_quiet (exact Calls.quiet_of_same (HD.out _))
            go_wp2_with fail
            have QM := Lib.hid ((QN.out.drewN nq).goV (j + 1) (by omega) (v := (j : Int) + 1) (by omega))
            clear c1 c2 c3 c4 QN
            generalize hW : (wz.drewN nq).setCell ⟨g, 1, none⟩ (.int .i64 ((j : Int) + 1)) = wy at *
            clear hW
            obtain ⟨c1, c2, c3, c4⟩ := QM.out.facts
            rw [show ((j + 1 : Nat) : Int) = (j : Int) + 1 by omega] at c2
            have htb := QM.out.tb
            have HT := Lib.hid htb
            clear htb
            go_still_tail 10, (by kernel_rfl)
            go_wp2_with (go_at_call 66; refine (addP_any B gw _ s[j + 1] p c ao _ QM.out.wd.drew (by have := HT.out.1; omega) (fun q hq => by have := HT.out.2 q hq; omega)).mono ?_; rintro e6 w6 ⟨rfl, ⟨ao', c', hwd⟩, hf6⟩; have HW6 := Lib.hid hwd; have HF6 := Lib.hid hf6; obtain ⟨c1, c2, c3, c4⟩ := ((QM.out.drew).added s[j + 1] hwd hf6).1.blk2.facts; rw [show ((j + 1 : Nat) : Int) = (j : Int) + 1 by omega] at c2; clear hwd hf6)
            go_roundw
            case rel => exact ⟨acc ++ [.ch s[j + 1]], j + 2, ao', c', by omega, by omega, Y, by rw [piecesP_snoc]; exact (QM.out.drew).addedGoV s[j + 1] HW6.out HF6.out (by omega)⟩
            case measure =>
              rw [HA.out, ((QM.out.drew).added s[j + 1] HW6.out HF6.out).1.atSet (j + 2) (by omega)]
              omega
          · have Y := Lib.hid (show quotedB s k (k + 1) [] = .error j by rw [HQ.out]; exact quotedB_esc0 hlt e92 (fun _ h => hd h))
            have HD := Lib.hid (fun w => quoteIdx_none s[j + 1] hd w)
            clear e34 e36 e92 n10 HQ hd
            go_wp2_with (go_at_call 51; refine (endP_any s g j _ (by omega) hj QI.out.lex).mono ?_; rintro e2 w2 ⟨rfl, m2, rfl⟩; rw [HS.out])
            go_quiet (fail)
            go_wp2_with fail
            have QN := Lib.hid (QI.out.drewN (m2 + nq))
            have HA := Lib.hid (show atOf wr g = j from hat.out)
            clear c1 c2 c3 c4 hat QI
            generalize hW : wr.drewN (m2 + nq) = wz at *
            clear hW
            obtain ⟨c1, c2, c3, c4⟩ := QN.out.facts
            have hfz := Lib.hid QN.out.fr.size
            go_quiet (exact Calls.quiet_of_same (HD.out _))
            go_wp2_with (go_at_call 32; refine (failP_any 5 j _).mono ?_; rintro e5 w5 ⟨rfl, rfl⟩)
            refine ⟨rfl, ?_, ?_⟩
            · rw [Y.out]
              exact ⟨_, rfl, hfz.out, heap_alloc_new _ _⟩
            · exact ((QN.out.fr.drewN _).alloc _)
        · have hne1 : ((j : Int) + 1 == (s.length : Int)) = true := by rw [beq_iff_eq]; omega
          have Y := Lib.hid (show quotedB s k (k + 1) [] = .error j by rw [HQ.out]; exact quotedB_esc0 hlt e92 (fun h1 _ => hl1 h1))
          clear e34 e36 e92 n10 HQ
          go_wp2_with (go_at_call 51; refine (endP_any s g j _ (by omega) hj QI.out.lex).mono ?_; rintro e2 w2 ⟨rfl, m2, rfl⟩; rw [HS.out])
          go_quiet (fail)
          go_wp2_with fail
          have QN := Lib.hid (QI.out.drewN (m2 + nq))
          have HA := Lib.hid (show atOf wr g = j from hat.out)
          clear c1 c2 c3 c4 hat QI
          generalize hW : wr.drewN (m2 + nq) = wz at *
          clear hW
          obtain ⟨c1, c2, c3, c4⟩ := QN.out.facts
          have hfz := Lib.hid QN.out.fr.size
          go_quiet (fail)
          go_wp2_with (go_at_call 32; refine (failP_any 5 j _).mono ?_; rintro e5 w5 ⟨rfl, rfl⟩)
          refine ⟨rfl, ?_, ?_⟩
          · rw [Y.out]
            exact ⟨_, rfl, hfz.out, heap_alloc_new _ _⟩
          · exact ((QN.out.fr.drewN _).alloc _)
      have h92 : ((s[j].toNat : Int) == 92) = false := u8_ne e92
      have Y := Lib.hid (show quotedB s k (k + 1) [] = quotedB s k (j + 1) (acc ++ [.ch s[j]]) by rw [HQ.out]; exact quotedB_ch hlt n10 e34 e36 e92)
      clear e34 e36 e92 n10 HQ
      go_wp2_with (go_at_call 51; refine (endP_any s g j _ (by omega) hj QI.out.lex).mono ?_; rintro e2 w2 ⟨rfl, m2, rfl⟩; rw [HS.out])
      go_quiet (fail)
      go_wp2_with fail
      have QN := Lib.hid (QI.out.drewN (m2 + nq))
      have HA := Lib.hid (show atOf wr g = j from hat.out)
      clear c1 c2 c3 c4 hat QI
      generalize hW : wr.drewN (m2 + nq) = wz at *
      clear hW
      obtain ⟨c1, c2, c3, c4⟩ := QN.out.facts
      have htb := QN.out.tb
      have HT := Lib.hid htb
      clear htb
      go_still_tail 10, (by kernel_rfl)
      go_wp2_with (go_at_call 66; refine (addP_any B gw _ s[j] p c ao _ QN.out.wd.drew (by have := HT.out.1; omega) (fun q hq => by have := HT.out.2 q hq; omega)).mono ?_; rintro e6 w6 ⟨rfl, ⟨ao', c', hwd⟩, hf6⟩; have HW6 := Lib.hid hwd; have HF6 := Lib.hid hf6; obtain ⟨c1, c2, c3, c4⟩ := ((QN.out.drew).added s[j] hwd hf6).1.blk2.facts; clear hwd hf6)

      go_roundw
      case rel => exact ⟨acc ++ [.ch s[j]], j + 1, ao', c', by omega, by omega, Y, by rw [piecesP_snoc]; exact (QN.out.drew).addedGo s[j] HW6.out HF6.out 0⟩
      case measure =>
        rw [HA.out, ((QN.out.drew).added s[j] HW6.out HF6.out).1.atSet (j + 1) (by omega)]
        omega
end Go.Proofs.YtflggoddfjmljaaGreatDoor
namespace Go.Proofs.YtflggoddfjmljaaGreatDoor
open Go.RowKit

/-- what 'word' does -/
def wordOutP (B g i : Nat) (s : List UInt8) (w w' : World) (e : Ending) : Except Nat (List Atm × Nat) → Prop
  | .error q => Thrown w w' e 5 q
  | .ok (m, n) => ∃ ao c, e = .returned (.agg #[.slice ao (piecesP m []).length c, .int .i64 i]) ∧ Lex w' g s n ∧ w'.ownsRow B tPiece 3 (.slice ao (piecesP m []).length c) (piecesP m []).length (pcs (piecesP m []))
theorem TB.pieces {l : List PieceG} {n : Nat} (h : TB l n) (hn : 10 ≤ n) : ∀ m : List Atm, GoodA m → TB (piecesP m l) (n + m.length)
  | [], _ => h
  | .ch c :: r, g => by
    have h1 := TB.pieces (h.add c) (by omega) r (fun x p hx => g x p (List.mem_cons_of_mem _ hx))
    rw [show n + 1 + r.length = n + (Atm.ch c :: r).length by simp; omega] at h1
    exact h1
  | .var x p :: r, g => by
    have h1 := TB.pieces (h.var (x := x) (by have := (g x p (by simp)).2; omega) p) (by omega) r (fun x p hx => g x p (List.mem_cons_of_mem _ hx))
    rw [show n + 1 + r.length = n + (Atm.var x p :: r).length by simp; omega] at h1
    exact h1
theorem Wd.nil {B gw p : Nat} {w : World} (hb : w.heap[gw]? = some (Obj.cells #[.slice none 0 0, .int .i64 p] tFWord (0, 0))) (hB : B ≤ w.heap.size) (hg : gw < B) : Wd B gw w [] p none 0 :=
  ⟨World.ownsRow_nil _ _ _ _, hb, hB, hg⟩
/-- what stood between quotes is a part of the word -/
theorem QInv.quoted {B gw g p : Nat} {s : List UInt8} {w0 w w' : World} {l : List PieceG} {j n : Nat} {ao ao' : Option Addr} {c c' : Nat} {m : List Atm} (h : QInv B gw g p s w0 w l j ao c) (hq : quotedB s j (j + 1) [] = .ok (m, n)) (hl : Lex w' g s n) (hw : Wd B gw w' (piecesP m l) p ao' c') (hf : Fr (fun b => b = g ∨ b = gw ∨ B ≤ b) w w') :
    QInv B gw g p s w0 w' (piecesP m l) n ao' c' := by
  have h1 := quotedB_le _ _ _ _ _ _ hq
  simp only [List.length_nil] at h1
  exact ⟨hl, hw, h.fr.trans hf, (h.tb.pieces (by omega) m (quotedB_good _ _ _ _ _ _ hq GoodA.nil)).mono (by omega), h.hg, h.ne⟩
/-- the word's end: its variable is read, the result's variable written -/
theorem QInv.ends {B gw g p gr : Nat} {s : List UInt8} {w w0 wr : World} {l : List PieceG} {j : Nat} {ao : Option Addr} {c : Nat} (h : QInv B gw g p s w0 wr l j ao c) (hfr : Fr (fun b => b = g) w w0) (hg : g < w.heap.size) (hgw : w.heap.size ≤ gw) (hgr : w.heap.size ≤ gr) (hB : w.heap.size ≤ B) (hrB : gr < B) (u v : Value) :
    Lex ((wr.setCell ⟨gr, 0, none⟩ u).setCell ⟨gr, 1, none⟩ v) g s j ∧ ((wr.setCell ⟨gr, 0, none⟩ u).setCell ⟨gr, 1, none⟩ v).ownsRow w.heap.size tPiece 3 (.slice ao l.length c) l.length (pcs l) ∧ Fr (fun b => b = g) w ((wr.setCell ⟨gr, 0, none⟩ u).setCell ⟨gr, 1, none⟩ v) := by
  refine ⟨(h.lex.far 0 u (by omega)).far 1 v (by omega), ownsRow_base (ownsRow_setCell_below (ownsRow_setCell_below h.wd.own (a := ⟨gr, 0, none⟩) hrB u) (a := ⟨gr, 1, none⟩) hrB v) hB, ?_⟩
  have h1 : Fr (fun b => b = g) w wr := ⟨h.fr.os.trans hfr.os, h.fr.tape.trans hfr.tape, h.fr.output.trans hfr.output, Nat.le_trans hfr.size h.fr.size, fun k hk hn => (h.fr.block k (Nat.lt_of_lt_of_le hk hfr.size) (by rintro (e | e | e) <;> first | exact hn e | omega)).trans (hfr.block k hk hn)⟩
  exact (h1.setCell (fun e => by omega) 0 u).setCell (fun e => by omega) 1 v
theorem QInv.thrown {B gw g p : Nat} {s : List UInt8} {w w0 wr : World} {l : List PieceG} {j : Nat} {ao : Option Addr} {c : Nat} (h : QInv B gw g p s w0 wr l j ao c) (hfr : Fr (fun b => b = g) w w0) (hgw : w.heap.size ≤ gw) (hB : w.heap.size ≤ B) : Fr (fun b => b = g) w wr ∧ w.heap.size ≤ wr.heap.size :=
  ⟨⟨h.fr.os.trans hfr.os, h.fr.tape.trans hfr.tape, h.fr.output.trans hfr.output, Nat.le_trans hfr.size h.fr.size, fun k hk hn => (h.fr.block k (Nat.lt_of_lt_of_le hk hfr.size) (by rintro (e | e | e) <;> first | exact hn e | omega)).trans (hfr.block k hk hn)⟩, Nat.le_trans hfr.size h.fr.size⟩
/-- blocks that are new to an elder world do not count -/
theorem Fr.transNew {G G' : Nat → Prop} {a b c : World} (h : Fr G a b) (k : Fr G' b c) (hG : ∀ i, i < a.heap.size → G' i → G i) : Fr G a c :=
  ⟨k.os.trans h.os, k.tape.trans h.tape, k.output.trans h.output, Nat.le_trans h.size k.size, fun i hi hg => (k.block i (Nat.lt_of_lt_of_le hi h.size) (fun e => hg (hG i hi e))).trans (h.block i hi hg)⟩
end Go.Proofs.YtflggoddfjmljaaGreatDoor
namespace Go.Proofs.YtflggoddfjmljaaGreatDoor
open Go.RowKit

theorem QInv.resBlk {B gw g p gr : Nat} {s : List UInt8} {w0 wr : World} {l : List PieceG} {j : Nat} {ao : Option Addr} {c : Nat} {a b : Value} (h : QInv B gw g p s w0 wr l j ao c) (hb : Blk2 w0 gr a b) (h1 : gr ≠ g) (h2 : gr ≠ gw) (h3 : gr < B) : Blk2 wr gr a b := by
  obtain ⟨t, hb⟩ := hb
  exact ⟨t, (h.fr.block gr (Array.getElem?_eq_some_iff.1 hb).1 (by rintro (e | e | e) <;> omega)).trans hb⟩

set_option maxRecDepth 100000 in
set_option maxHeartbeats 8000000 in
theorem wordP_any (s : List UInt8) (g i : Nat) (w : World) (hs : s.length ≤ 100000) (hi : i ≤ s.length) (hx : Lex w g s i) :
    Calls Tryz.prog 52 #[.pointer (some ⟨g, 0, none⟩)] w fun e w' => wordOutP w.heap.size g i s w w' e (wordB s i []) ∧ Fr (fun b => b = g) w w' := by
  obtain ⟨c1, c2, c3, c4⟩ := hx.blk2.facts
  have hgl := hx.lt
  have HX := Lib.hid hx
  have Q0 := Lib.hid (show QInv (w.heap.size + 2) (w.heap.size + 1) g i s ((w.alloc (.cells #[.slice none 0 0, .int .i64 0] tFWord)).alloc (.cells #[.slice none 0 0, .int .i64 i] tFWord)) ((w.alloc (.cells #[.slice none 0 0, .int .i64 0] tFWord)).alloc (.cells #[.slice none 0 0, .int .i64 i] tFWord)) [] i none 0 from
    ⟨(hx.alloc _).alloc _, Wd.nil (heap_alloc_at _ _ _ (by simp)) (by simp) (by omega), Fr.refl _ _, ⟨by simp, by simp⟩, by omega, by omega⟩)
  have HR := Lib.hid ((Blk2.new w (.slice none 0 0) (.int .i64 0) tFWord).alloc (.cells #[.slice none 0 0, .int .i64 i] tFWord))
  have HF1 := Lib.hid (((Fr.refl (fun b => b = g) w).alloc (.cells #[.slice none 0 0, .int .i64 0] tFWord)).alloc (.cells #[.slice none 0 0, .int .i64 i] tFWord))
  clear hx
  go_enter Tryz.func52, Tryz.ntmps52
  go_wp2
  generalize hW : (w.alloc (.cells #[.slice none 0 0, .int .i64 0] tFWord)).alloc (.cells #[.slice none 0 0, .int .i64 i] tFWord) = w1 at *
  clear hW c1 c2 c3 c4
  go_loopw [4] (fun _ wr => ∃ (acc : List Atm) (j : Nat) (ao : Option Addr) (c : Nat), i ≤ j ∧ j ≤ s.length ∧ Hid (wordB s i [] = wordB s j acc) ∧ Hid (QInv (w.heap.size + 2) (w.heap.size + 1) g i s w1 wr (piecesP acc []) j ao c)) (fun _ wr => s.length - atOf wr g)
  case atStart => exact ⟨[], i, none, 0, by omega, hi, rfl, Q0⟩
  case round =>
    obtain ⟨acc, j, ao, c, hij, hj, HQ, QI⟩ := hrel
    clear Q0
    obtain ⟨c1, c2, c3, c4⟩ := QI.out.lex.blk2.facts
    have hat := Lib.hid QI.out.lex.atOf
    have hws : w.heap.size + 2 ≤ wr.heap.size := QI.out.wd.hB
    by_cases hst : stopsB s j = true
    · have Y := Lib.hid (show wordB s i [] = .ok (acc, j) by
        rw [HQ.out]
        by_cases h : j < s.length
        · exact wordB_stop h (.inl (by simpa [stopsB, h] using hst))
        · exact wordB_end (by omega))
      have HS := Lib.hid hst
      obtain ⟨b1, b2, b3, b4⟩ := QI.out.wd.blk2.facts
      obtain ⟨r1, r2, r3, r4⟩ := (QI.out.resBlk HR.out (by omega) (by omega) (by omega)).facts
      clear hst HQ
      go_wp2_with (go_at_call 51; refine (endP_any s g j _ (by omega) hj QI.out.lex).mono ?_; rintro e2 w2 ⟨rfl, m2, rfl⟩; rw [HS.out])
      have QX := Lib.hid (QI.out.drewN m2)
      first | go_end0 | refine bodyPost_ret (by simp [results, Tryz.results52, go_sem, r1, r2]; try rfl) rfl ?_
      obtain ⟨x1, x2, x3⟩ := QX.out.ends HF1.out hgl (gr := w.heap.size) (by omega) (by omega) (by omega) (by omega) (.slice ao (piecesP acc []).length c) (.int .i64 i)
      refine ⟨?_, x3⟩
      rw [Y.out]
      exact ⟨ao, c, rfl, x1, x2⟩
    · have hst' : stopsB s j = false := by simpa using hst
      obtain ⟨hlt, n10⟩ := stopsB_false hst'
      have HS := Lib.hid hst'
      have hj1 : (j : Int) < (s.length : Int) := by omega
      have hj0 : (0 : Int) ≤ (j : Int) := by omega
      clear hst hst'
      by_cases hg : goesB s j = true
      · have Y := Lib.hid (show wordB s i [] = .ok (acc, j) by rw [HQ.out]; exact wordB_stop hlt (.inr (.inl hg)))
        have HG := Lib.hid hg
        obtain ⟨b1, b2, b3, b4⟩ := QI.out.wd.blk2.facts
        obtain ⟨r1, r2, r3, r4⟩ := (QI.out.resBlk HR.out (by omega) (by omega) (by omega)).facts
        clear hg HQ n10
        go_wp2_with (first | (go_at_call 51; refine (endP_any s g j _ (by omega) hj QI.out.lex).mono ?_; rintro e2 w2 ⟨rfl, m2, rfl⟩; rw [HS.out]) | (go_at_call 63; refine (joinedP_any s g j _ (by omega) hj (QI.out.lex.drewN _)).mono ?_; rintro e3 w3 ⟨rfl, m3, rfl⟩; rw [HG.out]))
        have QX := Lib.hid (QI.out.drewN (m2 + m3))
        first | go_end0 | refine bodyPost_ret (by simp [results, Tryz.results52, go_sem, r1, r2]; try rfl) rfl ?_
        obtain ⟨x1, x2, x3⟩ := QX.out.ends HF1.out hgl (gr := w.heap.size) (by omega) (by omega) (by omega) (by omega) (.slice ao (piecesP acc []).length c) (.int .i64 i)
        refine ⟨?_, x3⟩
        rw [Y.out]
        exact ⟨ao, c, rfl, x1, x2⟩
      have hg' : goesB s j = false := by simpa using hg
      have HG := Lib.hid hg'
      by_cases e32 : s[j] = 32
      · have Y := Lib.hid (show wordB s i [] = .ok (acc, j) by rw [HQ.out]; exact wordB_stop hlt (.inr (.inr e32)))
        have h32 : ((s[j].toNat : Int) == 32) = true := by rw [e32]; rfl
        clear hg hg' HQ n10 e32
        obtain ⟨b1, b2, b3, b4⟩ := QI.out.wd.blk2.facts
        obtain ⟨r1, r2, r3, r4⟩ := (QI.out.resBlk HR.out (by omega) (by omega) (by omega)).facts
        go_wp2_with (first | (go_at_call 51; refine (endP_any s g j _ (by omega) hj QI.out.lex).mono ?_; rintro e2 w2 ⟨rfl, m2, rfl⟩; rw [HS.out]) | (go_at_call 63; refine (joinedP_any s g j _ (by omega) hj (QI.out.lex.drewN _)).mono ?_; rintro e3 w3 ⟨rfl, m3, rfl⟩; rw [HG.out]))
        go_quiet (fail)
        go_wp2_with fail
        have QX := Lib.hid (QI.out.drewN (m2 + m3 + nq))
        first | go_end0 | refine bodyPost_ret (by simp [results, Tryz.results52, go_sem, r1, r2]; try rfl) rfl ?_
        obtain ⟨x1, x2, x3⟩ := QX.out.ends HF1.out hgl (gr := w.heap.size) (by omega) (by omega) (by omega) (by omega) (.slice ao (piecesP acc []).length c) (.int .i64 i)
        refine ⟨?_, x3⟩
        rw [Y.out]
        exact ⟨ao, c, rfl, x1, x2⟩
      have h32 : ((s[j].toNat : Int) == 32) = false := u8_ne e32
      by_cases e34 : s[j] = 34
      · have h34 : ((s[j].toNat : Int) == 34) = true := by rw [e34]; rfl
        cases hq : quotedB s j (j + 1) [] with
        | error q =>
          have Y := Lib.hid (show wordB s i [] = .error q by rw [HQ.out]; exact wordB_q0 hlt e34 hg' hq)
          have HV := Lib.hid hq
          clear hg hg' HQ n10 e32 e34 hq
          go_wp2_with (first | (go_at_call 51; refine (endP_any s g j _ (by omega) hj QI.out.lex).mono ?_; rintro e2 w2 ⟨rfl, m2, rfl⟩; rw [HS.out]) | (go_at_call 63; refine (joinedP_any s g j _ (by omega) hj (QI.out.lex.drewN _)).mono ?_; rintro e3 w3 ⟨rfl, m3, rfl⟩; rw [HG.out]))
          go_quiet (fail)
          go_wp2_with fail
          have QN := Lib.hid (QI.out.drewN (m2 + m3 + nq))
          have HA := Lib.hid (show atOf wr g = j from hat.out)
          clear c1 c2 c3 c4 hat QI
          generalize hW : wr.drewN (m2 + m3 + nq) = wz at *
          clear hW
          obtain ⟨c1, c2, c3, c4⟩ := QN.out.facts
          go_wp2_with (go_at_call 64; refine (quotedP_any s g j (w.heap.size + 2) (w.heap.size + 1) i c ao (piecesP acc []) _ hs hlt QN.out.lex QN.out.wd (by omega) (by omega) QN.out.tb).mono ?_; rintro e6 w6 ⟨ho6, hf6⟩; rw [HV.out] at ho6; obtain ⟨n6, rfl, h6, h7⟩ := ho6)
          have hth := QN.out.thrown HF1.out (by omega) (by omega)
          refine ⟨rfl, ?_, ?_⟩
          · rw [Y.out]
            exact ⟨n6, rfl, Nat.le_trans hth.2 h6, h7⟩
          · exact hth.1.transNew hf6 (fun k hk e => by rcases e with e | e | e <;> first | exact e | omega)
        | ok mn =>
          obtain ⟨m, n⟩ := mn
          have Y := Lib.hid (show wordB s i [] = wordB s n (acc ++ m) by rw [HQ.out]; exact wordB_q hlt e34 hg' hq)
          have HV := Lib.hid hq
          have hql := quotedB_le _ _ _ _ _ _ hq
          obtain ⟨ql1, ql2, _⟩ := hql
          clear hg hg' HQ n10 e32 e34 hq
          go_wp2_with (first | (go_at_call 51; refine (endP_any s g j _ (by omega) hj QI.out.lex).mono ?_; rintro e2 w2 ⟨rfl, m2, rfl⟩; rw [HS.out]) | (go_at_call 63; refine (joinedP_any s g j _ (by omega) hj (QI.out.lex.drewN _)).mono ?_; rintro e3 w3 ⟨rfl, m3, rfl⟩; rw [HG.out]))
          go_quiet (fail)
          go_wp2_with fail
          have QN := Lib.hid (QI.out.drewN (m2 + m3 + nq))
          have HA := Lib.hid (show atOf wr g = j from hat.out)
          clear c1 c2 c3 c4 hat QI
          generalize hW : wr.drewN (m2 + m3 + nq) = wz at *
          clear hW
          obtain ⟨c1, c2, c3, c4⟩ := QN.out.facts
          go_wp2_with (go_at_call 64; refine (quotedP_any s g j (w.heap.size + 2) (w.heap.size + 1) i c ao (piecesP acc []) _ hs hlt QN.out.lex QN.out.wd (by omega) (by omega) QN.out.tb).mono ?_; rintro e6 w6 ⟨ho6, hf6⟩; rw [HV.out] at ho6; obtain ⟨rfl, hl6, ao6, c6, hw6⟩ := ho6; have PQ := Lib.hid (QN.out.quoted HV.out hl6 hw6 hf6); clear hl6 hw6 hf6)
          go_roundw
          case rel => exact ⟨acc ++ m, n, ao6, c6, by omega, ql2, Y, by rw [piecesP_app]; exact PQ.out⟩
          case measure =>
            rw [HA.out, PQ.out.lex.atOf]
            omega
      have h34 : ((s[j].toNat : Int) == 34) = false := u8_ne e34
      by_cases e36 : s[j] = 36
      · have h36 : ((s[j].toNat : Int) == 36) = true := by rw [e36]; rfl
        cases hv : varB s j with
        | none =>
          have Y := Lib.hid (show wordB s i [] = .error j by rw [HQ.out]; exact wordB_var0 hlt e36 hg' hv)
          have HV := Lib.hid hv
          clear hg hg' HQ n10 e32 e34 e36 hv
          go_wp2_with (first | (go_at_call 51; refine (endP_any s g j _ (by omega) hj QI.out.lex).mono ?_; rintro e2 w2 ⟨rfl, m2, rfl⟩; rw [HS.out]) | (go_at_call 63; refine (joinedP_any s g j _ (by omega) hj (QI.out.lex.drewN _)).mono ?_; rintro e3 w3 ⟨rfl, m3, rfl⟩; rw [HG.out]))
          go_quiet (fail)
          go_wp2_with fail
          have QN := Lib.hid (QI.out.drewN (m2 + m3 + nq))
          have HA := Lib.hid (show atOf wr g = j from hat.out)
          clear c1 c2 c3 c4 hat QI
          generalize hW : wr.drewN (m2 + m3 + nq) = wz at *
          clear hW
          obtain ⟨c1, c2, c3, c4⟩ := QN.out.facts
          obtain ⟨b1, b2, b3, b4⟩ := QN.out.wd.blk2.facts
          have hth := Lib.hid (QN.out.thrown HF1.out (by omega) (by omega))
          go_region_dies
          all_goals
            go_at_call 65
            refine (variableP_any s g j _ (by omega) hlt QN.out.drew.lex).mono ?_
            rintro e6 w6 ⟨ho6, hf6⟩
            rw [HV.out] at ho6
            obtain ⟨n6, rfl, h6, h7⟩ := ho6
            go_wp2
            refine ⟨rfl, ?_, ?_⟩
            · rw [Y.out]
              exact ⟨n6, rfl, Nat.le_trans hth.out.2 h6, h7⟩
            · exact hth.out.1.drew.trans hf6
        | some xn =>
          obtain ⟨x, n⟩ := xn
          have Y := Lib.hid (show wordB s i [] = wordB s (j + n) (acc ++ [.var x j]) by rw [HQ.out]; exact wordB_var hlt e36 hg' hv)
          obtain ⟨v1, v2, v3, v4⟩ := varB_pos hv
          have HV := Lib.hid hv
          clear hg hg' HQ n10 e32 e34 e36 hv
          go_wp2_with (first | (go_at_call 51; refine (endP_any s g j _ (by omega) hj QI.out.lex).mono ?_; rintro e2 w2 ⟨rfl, m2, rfl⟩; rw [HS.out]) | (go_at_call 63; refine (joinedP_any s g j _ (by omega) hj (QI.out.lex.drewN _)).mono ?_; rintro e3 w3 ⟨rfl, m3, rfl⟩; rw [HG.out]))
          go_quiet (fail)
          go_wp2_with fail
          have QN := Lib.hid (QI.out.drewN (m2 + m3 + nq))
          have HA := Lib.hid (show atOf wr g = j from hat.out)
          clear c1 c2 c3 c4 hat QI
          generalize hW : wr.drewN (m2 + m3 + nq) = wz at *
          clear hW
          obtain ⟨c1, c2, c3, c4⟩ := QN.out.facts
          obtain ⟨b1, b2, b3, b4⟩ := QN.out.wd.blk2.facts
          have htb := QN.out.tb
          have HT := Lib.hid htb
          clear htb
          obtain ⟨i0, hi0, hz0, hz1, hz2⟩ := info_parts (show (Tryz.prog.info? 143).map (fun i => (i.zero, i.size, i.bytes)) = some (some (.agg #[.string ByteArray.empty, .bool false, .int .i64 0]), 3, 32) by kernel_rfl)
          go_region_law (first
            | (refine step_append_lies _ (by rfl) (.tmp 40) (.tmp 43) 109 (by rfl) (w.heap.size + 2) tPiece i0 (.agg #[.string ByteArray.empty, .bool false, .int .i64 0]) 3 32 Tryz.underlying109 hi0 hz0 hz1 hz2 (by rfl) (by decide) (.slice ao (piecesP acc []).length c) (piecesP acc []).length (pcs (piecesP acc [])) (by rfl) (WD6.out.alloc _).own ⟨_, 0, none⟩ 1 1 [.string (S x), .bool true, .int .i64 j] (by rfl) (by rfl) (cells3_at _ _ _ _ _ _ (by simp)) (by simp [Value.oneCell']) (by decide) (by have := HT.out.1; unfold maxLen; omega) (by have := HT.out.1; omega) (by simp; have := WD6.out.hB; omega) _ (by rfl) ?_; intro g' c' w7 hown7 hgr7 _ _; obtain ⟨k1, k2, k3, k4⟩ := ((WD6.out.alloc _).kept hgr7).facts)
            | (go_simp; go_at_call 65; refine (variableP_any s g j _ (by omega) hlt QN.out.drew.lex).mono ?_; rintro e6 w6 ⟨ho6, hf6⟩; rw [HV.out] at ho6; obtain ⟨rfl, hlx6⟩ := ho6; obtain ⟨b61, b62, b63, b64⟩ := (QN.out.drew.varied hf6).blk2.facts; have hgs6 := (QN.out.drew.varied hf6).blk2.lt; have WD6 := Lib.hid (QN.out.drew.varied hf6); have HF6 := Lib.hid hf6; have HL6 := Lib.hid hlx6; clear hf6 hlx6))
          all_goals
            have PQ := Lib.hid (QN.out.drew.pushed HF6.out HL6.out _ hgr7 hown7 v4 v1)
            clear hgr7 hown7 k1 k2 k3 k4
            go_wp2
            go_roundw
            case rel => exact ⟨acc ++ [.var x j], j + n, _, _, by omega, v2, Y, by rw [piecesP_snoc]; exact PQ.out⟩
            case measure =>
              rw [HA.out, PQ.out.lex.atOf]
              omega
      have h36 : ((s[j].toNat : Int) == 36) = false := u8_ne e36
      by_cases e92 : s[j] = 92
      · have h92 : ((s[j].toNat : Int) == 92) = true := by rw [e92]; rfl
        have hw1 : IntKind.i64.wrap ((j : Int) + 1) = (j : Int) + 1 := by rw [IntKind.wrap_i64]; omega
        by_cases hl1 : j + 1 < s.length
        · have n10' : s[j + 1] ≠ 10 := by
            intro e; apply hg
            simp [goesB, List.getElem?_eq_getElem hlt, List.getElem?_eq_getElem hl1, e92, e]
          have Y := Lib.hid (show wordB s i [] = wordB s (j + 2) (acc ++ [.ch s[j + 1]]) by rw [HQ.out]; exact wordB_esc hl1 e92 hg')
          have HS1 := Lib.hid (show stopsB s (j + 1) = false by simp [stopsB, hl1, n10'])
          have hw2 : (0 : Int) ≤ (j : Int) + 1 := by omega
          have hw3 : (j : Int) + 1 < (s.length : Int) := by omega
          have hw4 : ((j : Int) + 1).toNat = j + 1 := by omega
          clear hg hg' HQ n10 n10' e32 e34 e36 e92
          go_wp2_with (first | (go_at_call 51; refine (endP_any s g j _ (by omega) hj QI.out.lex).mono ?_; rintro e2 w2 ⟨rfl, m2, rfl⟩; rw [HS.out]) | (go_at_call 63; refine (joinedP_any s g j _ (by omega) hj (QI.out.lex.drewN _)).mono ?_; rintro e3 w3 ⟨rfl, m3, rfl⟩; rw [HG.out]))
          go_quiet (fail)
          go_wp2_with fail
          have QN := Lib.hid (QI.out.drewN (m2 + m3 + nq))
          have HA := Lib.hid (show atOf wr g = j from hat.out)
          clear c1 c2 c3 c4 hat QI
          generalize hW : wr.drewN (m2 + m3 + nq) = wz at *
          clear hW
          obtain ⟨c1, c2, c3, c4⟩ := QN.out.facts
          have QM := Lib.hid (QN.out.goV (j + 1) (by omega) (v := (j : Int) + 1) (by omega))
          go_wp2_with (go_at_call 51; refine (endP_any s g (j + 1) _ (by omega) (by omega) QM.out.lex).mono ?_; rintro e8 w8 ⟨rfl, m8, rfl⟩; rw [HS1.out])
          have QP := Lib.hid (QM.out.drewN m8)
          clear c1 c2 c3 c4 QM QN
          generalize hW : (wz.setCell ⟨g, 1, none⟩ (.int .i64 ((j : Int) + 1))).drewN m8 = wy at *
          clear hW
          obtain ⟨c1, c2, c3, c4⟩ := QP.out.facts
          rw [show ((j + 1 : Nat) : Int) = (j : Int) + 1 by omega] at c2
          have htb := QP.out.tb
          have HT := Lib.hid htb
          clear htb
          go_still_tail 9, (by kernel_rfl)
          go_wp2_with (go_at_call 66; refine (addP_any (w.heap.size + 2) (w.heap.size + 1) _ s[j + 1] i c ao _ QP.out.wd.drew (by have := HT.out.1; omega) (fun q hq => by have := HT.out.2 q hq; omega)).mono ?_; rintro e6 w6 ⟨rfl, ⟨ao', c', hwd⟩, hf6⟩; have HW6 := Lib.hid hwd; have HF6 := Lib.hid hf6; obtain ⟨c1, c2, c3, c4⟩ := ((QP.out.drew).added s[j + 1] hwd hf6).1.blk2.facts; rw [show ((j + 1 : Nat) : Int) = (j : Int) + 1 by omega] at c2; clear hwd hf6)
          go_roundw
          case rel => exact ⟨acc ++ [.ch s[j + 1]], j + 2, ao', c', by omega, by omega, Y, by rw [piecesP_snoc]; exact (QP.out.drew).addedGoV s[j + 1] HW6.out HF6.out (by omega)⟩
          case measure =>
            rw [HA.out, ((QP.out.drew).added s[j + 1] HW6.out HF6.out).1.atSet (j + 2) (by omega)]
            omega
        · have Y := Lib.hid (show wordB s i [] = .error j by rw [HQ.out]; exact wordB_esc0 hlt e92 hg' (by omega))
          have HS1 := Lib.hid (show stopsB s (j + 1) = true by simp [stopsB, hl1])
          clear hg hg' HQ n10 e32 e34 e36 e92
          go_wp2_with (first | (go_at_call 51; refine (endP_any s g j _ (by omega) hj QI.out.lex).mono ?_; rintro e2 w2 ⟨rfl, m2, rfl⟩; rw [HS.out]) | (go_at_call 63; refine (joinedP_any s g j _ (by omega) hj (QI.out.lex.drewN _)).mono ?_; rintro e3 w3 ⟨rfl, m3, rfl⟩; rw [HG.out]))
          go_quiet (fail)
          go_wp2_with fail
          have QN := Lib.hid (QI.out.drewN (m2 + m3 + nq))
          have HA := Lib.hid (show atOf wr g = j from hat.out)
          clear c1 c2 c3 c4 hat QI
          generalize hW : wr.drewN (m2 + m3 + nq) = wz at *
          clear hW
          obtain ⟨c1, c2, c3, c4⟩ := QN.out.facts
          have QM := Lib.hid (QN.out.goV (j + 1) (by omega) (v := (j : Int) + 1) (by omega))
          go_wp2_with (first | (go_at_call 51; refine (endP_any s g (j + 1) _ (by omega) (by omega) QM.out.lex).mono ?_; rintro e8 w8 ⟨rfl, m8, rfl⟩; rw [HS1.out]) | (go_at_call 32; refine (failP_any 5 j _).mono ?_; rintro e5 w5 ⟨rfl, rfl⟩))
          have hth := QN.out.thrown HF1.out (by omega) (by omega)
          refine ⟨rfl, ?_, ?_⟩
          · rw [Y.out]
            exact ⟨_, rfl, hth.2, heap_alloc_at _ _ _ (by simp)⟩
          · exact (((hth.1.setCell (fun _ => rfl) _ _).drewN _).alloc _)
      have h92 : ((s[j].toNat : Int) == 92) = false := u8_ne e92
      have Y := Lib.hid (show wordB s i [] = wordB s (j + 1) (acc ++ [.ch s[j]]) by rw [HQ.out]; exact wordB_ch hlt n10 e32 hg' e34 e36 e92)
      clear hg hg' HQ n10 e32 e34 e36 e92
      go_wp2_with (first | (go_at_call 51; refine (endP_any s g j _ (by omega) hj QI.out.lex).mono ?_; rintro e2 w2 ⟨rfl, m2, rfl⟩; rw [HS.out]) | (go_at_call 63; refine (joinedP_any s g j _ (by omega) hj (QI.out.lex.drewN _)).mono ?_; rintro e3 w3 ⟨rfl, m3, rfl⟩; rw [HG.out]))
      go_quiet (fail)
      go_wp2_with fail
      have QN := Lib.hid (QI.out.drewN (m2 + m3 + nq))
      have HA := Lib.hid (show atOf wr g = j from hat.out)
      clear c1 c2 c3 c4 hat QI
      generalize hW : wr.drewN (m2 + m3 + nq) = wz at *
      clear hW
      obtain ⟨c1, c2, c3, c4⟩ := QN.out.facts
      have htb := QN.out.tb
      have HT := Lib.hid htb
      clear htb
      go_still_tail 9, (by kernel_rfl)
      go_wp2_with (go_at_call 66; refine (addP_any (w.heap.size + 2) (w.heap.size + 1) _ s[j] i c ao _ QN.out.wd.drew (by have := HT.out.1; omega) (fun q hq => by have := HT.out.2 q hq; omega)).mono ?_; rintro e6 w6 ⟨rfl, ⟨ao', c', hwd⟩, hf6⟩; have HW6 := Lib.hid hwd; have HF6 := Lib.hid hf6; obtain ⟨c1, c2, c3, c4⟩ := ((QN.out.drew).added s[j] hwd hf6).1.blk2.facts; clear hwd hf6)
      go_roundw
      case rel => exact ⟨acc ++ [.ch s[j]], j + 1, ao', c', by omega, by omega, Y, by rw [piecesP_snoc]; exact (QN.out.drew).addedGo s[j] HW6.out HF6.out 0⟩
      case measure =>
        rw [HA.out, ((QN.out.drew).added s[j] HW6.out HF6.out).1.atSet (j + 1) (by omega)]
        omega
end Go.Proofs.YtflggoddfjmljaaGreatDoor
namespace Go.Proofs.YtflggoddfjmljaaGreatDoor
open Go.RowKit

theorem blanksB_le (s : List UInt8) (k : Nat) (hk : k ≤ s.length) : k ≤ blanksB s k ∧ blanksB s k ≤ s.length ∧ s[blanksB s k]? ≠ some 32 ∧ goesB s (blanksB s k) = false := by
  induction hm : s.length - k using Nat.strongRecOn generalizing k with
  | ind m ih =>
    by_cases h : k < s.length
    · by_cases c : s[k] = 32
      · rw [blanksB_blank h c]
        have := ih (s.length - (k + 1)) (by omega) (k + 1) (by omega) rfl
        exact ⟨by omega, this.2⟩
      · cases g : goesB s k
        · have hne : s[k]? ≠ some 32 := by rw [List.getElem?_eq_getElem h]; intro e; exact c (Option.some.inj e)
          rw [blanksB_stop hne g]
          exact ⟨Nat.le_refl _, hk, hne, g⟩
        · obtain ⟨g1, _⟩ := goesB_lt g
          rw [blanksB_goes g]
          have := ih (s.length - (k + 2)) (by omega) (k + 2) (by omega) rfl
          exact ⟨by omega, this.2⟩
    · have hn : s[k]? = none := List.getElem?_eq_none (by omega)
      have g : goesB s k = false := by simp [goesB, hn]
      rw [blanksB_stop (by rw [hn]; simp) g]
      exact ⟨Nat.le_refl _, hk, by rw [hn]; simp, g⟩
theorem lineB_blanks (s : List UInt8) (k : Nat) (hk : k ≤ s.length) (acc : List WordG) : lineB s k acc = lineB s (blanksB s k) acc := by
  induction hm : s.length - k using Nat.strongRecOn generalizing k with
  | ind m ih =>
    by_cases h : k < s.length
    · by_cases c : s[k] = 32
      · have hst : stopsB s k = false := by simp [stopsB, h, c]
        have g : goesB s k = false := by simp [goesB, h, c]
        rw [blanksB_blank h c, lineB_blank hst g (by rw [List.getElem?_eq_getElem h, c])]
        exact ih (s.length - (k + 1)) (by omega) (k + 1) (by omega) rfl
      · cases g : goesB s k
        · have hne : s[k]? ≠ some 32 := by rw [List.getElem?_eq_getElem h]; intro e; exact c (Option.some.inj e)
          rw [blanksB_stop hne g]
        · obtain ⟨g1, g2, _⟩ := goesB_lt g
          have hst : stopsB s k = false := by simp [stopsB, g2]
          rw [blanksB_goes g, lineB_goes hst g]
          exact ih (s.length - (k + 2)) (by omega) (k + 2) (by omega) rfl
    · have hn : s[k]? = none := List.getElem?_eq_none (by omega)
      rw [blanksB_stop (by rw [hn]; simp) (by simp [goesB, hn])]

/-- what 'line' does -/
def lineOutP (B g : Nat) (s : List UInt8) (w w' : World) (e : Ending) : Except Nat (List WordG × Nat) → Prop
  | .error q => Thrown w w' e 5 q
  | .ok (ws, n) => ∃ A c cs, e = .returned (.slice A ws.length c) ∧ Lex w' g s n ∧ w'.ownsRow B tFWord 2 (.slice A ws.length c) ws.length cs ∧ FWordCells w' ws cs

/-- a line under way -/
structure LGInv (B g : Nat) (s : List UInt8) (w0 w : World) (acc : List WordG) (j : Nat) (A : Option Addr) (c : Nat) : Prop where
  lex : Lex w g s j
  row : ∃ cs, w.ownsRow B tFWord 2 (.slice A acc.length c) acc.length cs ∧ FWordCells w acc cs
  fr : Fr (fun b => b = g ∨ B ≤ b) w0 w
  hg : g < B
  hB : B ≤ w.heap.size
theorem Fr.keepLex {g j : Nat} {s : List UInt8} {w w' : World} (hf : Fr (fun b => b = g) w w') (hx : Lex w g s j) {T : TypeId} (hT : T ≠ tLex) : KeepT T w w' := by
  refine hf.keepT (fun b cur fz e1 e2 => ?_)
  have h1 := hx
  unfold Lex at h1
  rw [e1, h1] at e2
  simp only [Option.some.injEq, Obj.cells.injEq] at e2
  exact hT e2.2.1.symm
/-- the lexer has gone on -/
theorem LGInv.lexed {B g : Nat} {s : List UInt8} {w0 w w' : World} {acc : List WordG} {j n : Nat} {A : Option Addr} {c : Nat} (h : LGInv B g s w0 w acc j A c) (hf : Fr (fun b => b = g) w w') (hx : Lex w' g s n) : LGInv B g s w0 w' acc n A c := by
  obtain ⟨cs, h1, h2⟩ := h.row
  exact ⟨hx, ⟨cs, ownsRow_keep h1 (hf.keepLex h.lex (by decide)), h2.keep (hf.keepLex h.lex (by decide))⟩, h.fr.trans (hf.mono (fun _ _ e => .inl e)), h.hg, Nat.le_trans h.hB hf.size⟩
theorem LGInv.drewN {B g : Nat} {s : List UInt8} {w0 w : World} {acc : List WordG} {j : Nat} {A : Option Addr} {c : Nat} (h : LGInv B g s w0 w acc j A c) (n : Nat) : LGInv B g s w0 (w.drewN n) acc j A c :=
  h.lexed ((Fr.refl _ w).drewN n) (h.lex.drewN n)
theorem LGInv.go {B g : Nat} {s : List UInt8} {w0 w : World} {acc : List WordG} {j : Nat} {A : Option Addr} {c : Nat} (h : LGInv B g s w0 w acc j A c) (m : Nat) {v : Int} (hv : v = (m : Int)) : LGInv B g s w0 (w.setCell ⟨g, 1, none⟩ (.int .i64 v)) acc m A c := by
  subst hv
  exact h.lexed ((Fr.refl (fun b => b = g) w).setCell (fun _ => rfl) _ _) (h.lex.set m)
/-- a word more -/
theorem LGInv.push {B g : Nat} {s : List UInt8} {w0 w w6 w7 : World} {acc : List WordG} {j n : Nat} {A A' a : Option Addr} {c c' d k : Nat} {y : WordG} {cs : List Value} (h : LGInv B g s w0 w acc j A c) (hf : Fr (fun b => b = g) w w6) (hl : Lex w6 g s n)
    (hy : w6.ownsRow k tPiece 3 (.slice a y.pl.length d) y.pl.length (pcs y.pl)) (o : Obj) (hcs : w.ownsRow B tFWord 2 (.slice A acc.length c) acc.length cs) (hwc : FWordCells w acc cs)
    (hgr : (w6.alloc o).grownBy w7 (Value.slice A acc.length c).ownBlock) (hown : w7.ownsRow B tFWord 2 (.slice A' (acc.length + 1) c') (acc.length + 1) (cs ++ [.slice a y.pl.length d, .int .i64 y.at_])) :
    LGInv B g s w0 w7 (acc ++ [y]) n A' c' := by
  have hb : Below w6.heap.size w6 (w6.alloc o) := (Below.refl _ _).alloc (Nat.le_refl _) o
  have h6 := (h.lexed hf hl)
  have hcs6 := ownsRow_keep hcs (hf.keepLex h.lex (by decide))
  have hwc6 := hwc.keep (hf.keepLex h.lex (by decide))
  have hown6 := ownsRow_below hcs6 hb
  have hk : KeepT tPiece w6 w7 := (KeepT.below hb).trans (KeepT.grown hgr hown6 (by decide))
  have hg := h.hg
  refine ⟨?_, ⟨cs ++ [.slice a y.pl.length d, .int .i64 y.at_], ?_, (hwc6.keep hk).app (ownsRow_base (ownsRow_keep hy hk) (Nat.zero_le _))⟩, ?_, hg, Nat.le_trans h6.hB (Nat.le_trans hb.size hgr.size)⟩
  · have hlx := hl.alloc o
    exact (hgr.block g (Array.getElem?_eq_some_iff.1 hlx).1 (own_ne hown6 hg)).trans hlx
  · rw [List.length_append]; exact hown
  · exact (h6.fr.alloc o).grown hgr (fun k hk _ => .inr (own_le hown6 k hk))
end Go.Proofs.YtflggoddfjmljaaGreatDoor
namespace Go.Proofs.YtflggoddfjmljaaGreatDoor
open Go.RowKit

set_option maxRecDepth 100000 in
set_option maxHeartbeats 8000000 in
theorem lineP_any (s : List UInt8) (g i : Nat) (w : World) (hs : s.length ≤ 100000) (hi : i ≤ s.length) (hx : Lex w g s i) :
    Calls Tryz.prog 33 #[.pointer (some ⟨g, 0, none⟩)] w fun e w' => lineOutP w.heap.size g s w w' e (lineB s i []) ∧ Fr (fun b => b = g) w w' := by
  have hgl := hx.lt
  have HX := Lib.hid hx
  have L0 := Lib.hid (show LGInv w.heap.size g s w w [] i none 0 from ⟨hx, ⟨[], World.ownsRow_nil _ _ _ _, rfl⟩, Fr.refl _ _, hgl, Nat.le_refl _⟩)
  clear hx
  go_enter Tryz.func33, Tryz.ntmps33
  go_wp2_with (go_at_call 50; refine (blanksP_any s g i _ (by omega) hi HX.out).mono ?_; rintro e1 w1 ⟨rfl, hl1, hf1⟩; have L1 := Lib.hid (L0.out.lexed hf1 hl1); clear hl1 hf1)
  have hbl := blanksB_le s i hi
  have HLB := Lib.hid (lineB_blanks s i hi [])
  obtain ⟨bl1, bl2, bl3, bl4⟩ := hbl
  go_loopw [2] (fun v wr => ∃ (acc : List WordG) (j : Nat) (A : Option Addr) (c : Nat), v = .slice A acc.length c ∧ j ≤ s.length ∧ acc.length ≤ j ∧ Hid (s[j]? ≠ some 32 ∧ goesB s j = false) ∧ Hid (lineB s i [] = lineB s j acc) ∧ Hid (LGInv w.heap.size g s w wr acc j A c)) (fun _ wr => s.length - atOf wr g)
  case atStart => exact ⟨[], _, none, 0, rfl, bl2, by simp, ⟨bl3, bl4⟩, HLB, L1⟩
  case round =>
    obtain ⟨acc, j, A, c, rfl, hj, haj, HB, HQ, LI⟩ := hrel
    clear L0 L1 HLB bl1 bl2 bl3 bl4
    have hat := Lib.hid LI.out.lex.atOf
    obtain ⟨c1, c2, c3, c4⟩ := LI.out.lex.blk2.facts
    by_cases hst : stopsB s j = true
    · have Y := Lib.hid (show lineB s i [] = .ok (acc, j + 1) by rw [HQ.out]; exact lineB_stop hst)
      have HS := Lib.hid hst
      clear hst HQ
      go_wp2_with (go_at_call 51; refine (endP_any s g j _ (by omega) hj LI.out.lex).mono ?_; rintro e2 w2 ⟨rfl, m2, rfl⟩; rw [HS.out])
      have LX := (LI.out.drewN m2).go (j + 1) (v := (j : Int) + 1) (by omega)
      go_ret
      refine ⟨?_, (LX.fr.mono (fun k hk e => by rcases e with e | e <;> first | exact e | omega))⟩
      rw [Y.out]
      obtain ⟨cs, h1, h2⟩ := LX.row
      exact ⟨A, c, cs, rfl, LX.lex, h1, h2⟩
    · have hst' : stopsB s j = false := by simpa using hst
      obtain ⟨hlt, n10⟩ := stopsB_false hst'
      have HS := Lib.hid hst'
      have hj1 : (j : Int) < (s.length : Int) := by omega
      have hj0 : (0 : Int) ≤ (j : Int) := by omega
      clear hst
      by_cases h0 : acc = []
      · subst h0
        by_cases e35 : s[j] = 35
        · have Y := Lib.hid (show lineB s i [] = .ok ([], commentB s j + 1) by rw [HQ.out]; exact lineB_comment hst' HB.out.2 (by rw [List.getElem?_eq_getElem hlt, e35]))
          have h35 : ((s[j].toNat : Int) == 35) = true := by rw [e35]; rfl
          clear e35 n10 hst' HQ
          go_wp2_with (go_at_call 51; refine (endP_any s g j _ (by omega) hj LI.out.lex).mono ?_; rintro e2 w2 ⟨rfl, m2, rfl⟩; rw [HS.out])
          go_quiet (fail)
          go_wp2_with fail
          have LN := Lib.hid ((LI.out.drewN m2).drewN nq)
          have HA := Lib.hid (show atOf wr g = j from hat.out)
          clear c1 c2 c3 c4 hat LI
          generalize hW : (wr.drewN m2).drewN nq = wz at *
          clear hW
          go_loopw [25] (fun _ wr => ∃ j2 : Nat, j2 ≤ s.length ∧ Hid (commentB s j = commentB s j2) ∧ Hid (LGInv w.heap.size g s w wr [] j2 A c)) (fun _ wr => s.length - atOf wr g)
          case atStart => exact ⟨j, hj, rfl, LN⟩
          case round =>
            obtain ⟨j2, hj2, HC, LI2⟩ := hrel
            clear LN HA
            obtain ⟨c1, c2, c3, c4⟩ := LI2.out.lex.blk2.facts
            have hat := Lib.hid LI2.out.lex.atOf
            by_cases hst : stopsB s j2 = true
            · have HS := Lib.hid hst
              have Y2 := Lib.hid (show commentB s j = j2 by rw [HC.out]; exact commentB_stop hst)
              clear hst
              go_wp2_with (go_at_call 51; refine (endP_any s g j2 _ (by omega) hj2 LI2.out.lex).mono ?_; rintro e2 w2 ⟨rfl, m2, rfl⟩; rw [HS.out])
              have LX := (LI2.out.drewN m2).go (j2 + 1) (v := (j2 : Int) + 1) (by omega)
              go_ret
              refine ⟨?_, (LX.fr.mono (fun k hk e => by rcases e with e | e <;> first | exact e | omega))⟩
              rw [Y.out, Y2.out]
              obtain ⟨cs, h1, h2⟩ := LX.row
              exact ⟨A, c, cs, rfl, LX.lex, h1, h2⟩
            · have hst' : stopsB s j2 = false := by simpa using hst
              obtain ⟨hlt2, _⟩ := stopsB_false hst'
              have HS := Lib.hid hst'
              have Y2 := Lib.hid (show commentB s j = commentB s (j2 + 1) by rw [HC.out]; exact commentB_on hst')
              clear hst hst'
              go_wp2_with (go_at_call 51; refine (endP_any s g j2 _ (by omega) hj2 LI2.out.lex).mono ?_; rintro e2 w2 ⟨rfl, m2, rfl⟩; rw [HS.out])
              have LX := Lib.hid ((LI2.out.drewN m2).go (j2 + 1) (v := (j2 : Int) + 1) (by omega))
              go_roundw
              case rel => exact ⟨j2 + 1, by omega, Y2, LX⟩
              case measure =>
                rw [hat.out, LX.out.lex.atOf]
                omega
        · have h35 : ((s[j].toNat : Int) == 35) = false := u8_ne e35
          have HD := Lib.hid e35
          clear e35
          cases hw : wordB s j [] with
          | error p =>
            have Y := Lib.hid (show lineB s i [] = .error p by rw [HQ.out]; exact lineB_word0 hst' HB.out.2 HB.out.1 (by rintro ⟨e, _⟩; rw [List.getElem?_eq_getElem hlt] at e; exact HD.out (Option.some.inj e)) hw)
            have HV := Lib.hid hw
            clear HQ n10 hst' hw
            go_wp2_with (go_at_call 51; refine (endP_any s g j _ (by omega) hj LI.out.lex).mono ?_; rintro e2 w2 ⟨rfl, m2, rfl⟩; rw [HS.out])
            go_quiet (fail)
            go_wp2_with fail
            have LN := Lib.hid (LI.out.drewN (m2 + nq))
            have HA := Lib.hid (show atOf wr g = j from hat.out)
            clear c1 c2 c3 c4 hat LI
            generalize hW : wr.drewN (m2 + nq) = wz at *
            clear hW
            have hsz := LN.out.hB
            go_wp2_with (go_at_call 52; refine (wordP_any s g j _ hs hj LN.out.lex).mono ?_; rintro e6 w6 ⟨ho6, hf6⟩; rw [HV.out] at ho6; obtain ⟨n6, rfl, h6, h7⟩ := ho6)
            refine ⟨rfl, ?_, ?_⟩
            · rw [Y.out]
              exact ⟨n6, rfl, Nat.le_trans hsz h6, h7⟩
            · exact (LN.out.fr.mono (fun k hk e => by rcases e with e | e <;> first | exact e | omega)).trans hf6
          | ok ln =>
            obtain ⟨l, n⟩ := ln
            have hwm := wordB_moves s j [] l n hw hlt n10 (by intro e; apply HB.out.1; rw [List.getElem?_eq_getElem hlt, e]) HB.out.2
            have hwl := wordB_le s j [] l n hw hj
            have hnl : n ≤ s.length := hwl.2.1
            have hbl := blanksB_le s n hnl
            have HBL := Lib.hid hbl
            have hbn := hbl.1
            have hbs := hbl.2.1
            have Y := Lib.hid (show lineB s i [] = lineB s (blanksB s n) ([] ++ [⟨l, j⟩]) by rw [HQ.out, lineB_word hst' HB.out.2 HB.out.1 (by rintro ⟨e, _⟩; rw [List.getElem?_eq_getElem hlt] at e; exact HD.out (Option.some.inj e)) hw]; exact lineB_blanks s n hnl _)
            have HV := Lib.hid hw
            clear HQ n10 hst' hw hbl hwl
            go_wp2_with (go_at_call 51; refine (endP_any s g j _ (by omega) hj LI.out.lex).mono ?_; rintro e2 w2 ⟨rfl, m2, rfl⟩; rw [HS.out])
            go_quiet (fail)
            go_wp2_with fail
            have LN := Lib.hid (LI.out.drewN (m2 + nq))
            have HA := Lib.hid (show atOf wr g = j from hat.out)
            clear c1 c2 c3 c4 hat LI
            generalize hW : wr.drewN (m2 + nq) = wz at *
            clear hW
            obtain ⟨cs, hcs, hwc⟩ := LN.out.row
            have HCS := Lib.hid hcs
            have HWC := Lib.hid hwc
            have hsz := LN.out.hB
            clear hcs hwc
            obtain ⟨i0, hi0, hz0, hz1, hz2⟩ := info_parts (show (Tryz.prog.info? 111).map (fun i => (i.zero, i.size, i.bytes)) = some (some (.agg #[.slice none 0 0, .int .i64 0]), 2, 32) by kernel_rfl)
            go_wp2_with (first
              | (go_at_call 52; refine (wordP_any s g j _ hs hj LN.out.lex).mono ?_; rintro e6 w6 ⟨ho6, hf6⟩; rw [HV.out] at ho6; obtain ⟨aw, cw, rfl, hl6, hw6⟩ := ho6; have hs6 := hf6.size; have HR6 := Lib.hid (ownsRow_keep HCS.out (hf6.keepLex LN.out.lex (by decide))); have HF6 := Lib.hid hf6; have HL6 := Lib.hid hl6; have HW6 := Lib.hid hw6; clear hf6 hl6 hw6)
              | (at_builtin; refine wpList_append_own _ rfl _ _ 93 rfl w.heap.size tFWord i0 (.agg #[.slice none 0 0, .int .i64 0]) 2 32 Tryz.underlying93 hi0 hz0 hz1 hz2 rfl (by decide) _ _ _ rfl (ownsRow_below HR6.out ((Below.refl _ _).alloc (Nat.le_refl _) _)) ⟨_, 0, none⟩ 1 1 [.slice aw (piecesP l []).length cw, .int .i64 j] rfl rfl (cells2_at _ _ _ _ _ (by simp)) (by simp [Value.oneCell']) (by unfold maxLen; omega) (by omega) (by simp; omega) ?_; intro v' w7 hown7 hgr7 _; obtain ⟨A', c', rfl⟩ := ownsRow_form hown7; have PL := Lib.hid (LN.out.push (y := ⟨l, j⟩) HF6.out HL6.out HW6.out _ HCS.out HWC.out hgr7 hown7); clear hown7 hgr7)
              | (go_at_call 50; refine (blanksP_any s g n _ (by omega) hnl PL.out.lex).mono ?_; rintro e8 w8 ⟨rfl, hl8, hf8⟩; have PL8 := Lib.hid (PL.out.lexed hf8 hl8); clear hl8 hf8))
            go_roundw
            case rel => exact ⟨[] ++ [⟨l, j⟩], blanksB s n, A', c', by rw [List.length_append]; rfl, hbs, by rw [List.length_append, List.length_singleton]; omega, ⟨HBL.out.2.2.1, HBL.out.2.2.2⟩, Y, PL8⟩
            case measure =>
              rw [HA.out, PL8.out.lex.atOf]
              omega
      · have hl0 : ((acc.length : Int) == 0) = false := by
          rw [beq_eq_false_iff_ne]; intro e; exact h0 (List.eq_nil_of_length_eq_zero (by omega))
        have HD := Lib.hid h0
        clear h0
        cases hw : wordB s j [] with
        | error p =>
          have Y := Lib.hid (show lineB s i [] = .error p by rw [HQ.out]; exact lineB_word0 hst' HB.out.2 HB.out.1 (by rintro ⟨_, e⟩; exact HD.out e) hw)
          have HV := Lib.hid hw
          clear HQ n10 hst' hw
          go_wp2_with (go_at_call 51; refine (endP_any s g j _ (by omega) hj LI.out.lex).mono ?_; rintro e2 w2 ⟨rfl, m2, rfl⟩; rw [HS.out])
          go_quiet (fail)
          go_wp2_with fail
          have LN := Lib.hid (LI.out.drewN (m2 + nq))
          have HA := Lib.hid (show atOf wr g = j from hat.out)
          clear c1 c2 c3 c4 hat LI
          generalize hW : wr.drewN (m2 + nq) = wz at *
          clear hW
          have hsz := LN.out.hB
          go_wp2_with (go_at_call 52; refine (wordP_any s g j _ hs hj LN.out.lex).mono ?_; rintro e6 w6 ⟨ho6, hf6⟩; rw [HV.out] at ho6; obtain ⟨n6, rfl, h6, h7⟩ := ho6)
          refine ⟨rfl, ?_, ?_⟩
          · rw [Y.out]
            exact ⟨n6, rfl, Nat.le_trans hsz h6, h7⟩
          · exact (LN.out.fr.mono (fun k hk e => by rcases e with e | e <;> first | exact e | omega)).trans hf6
        | ok ln =>
          obtain ⟨l, n⟩ := ln
          have hwm := wordB_moves s j [] l n hw hlt n10 (by intro e; apply HB.out.1; rw [List.getElem?_eq_getElem hlt, e]) HB.out.2
          have hwl := wordB_le s j [] l n hw hj
          have hnl : n ≤ s.length := hwl.2.1
          have hbl := blanksB_le s n hnl
          have HBL := Lib.hid hbl
          have hbn := hbl.1
          have hbs := hbl.2.1
          have Y := Lib.hid (show lineB s i [] = lineB s (blanksB s n) (acc ++ [⟨l, j⟩]) by rw [HQ.out, lineB_word hst' HB.out.2 HB.out.1 (by rintro ⟨_, e⟩; exact HD.out e) hw]; exact lineB_blanks s n hnl _)
          have HV := Lib.hid hw
          clear HQ n10 hst' hw hbl hwl
          go_wp2_with (go_at_call 51; refine (endP_any s g j _ (by omega) hj LI.out.lex).mono ?_; rintro e2 w2 ⟨rfl, m2, rfl⟩; rw [HS.out])
          go_quiet (fail)
          go_wp2_with fail
          have LN := Lib.hid (LI.out.drewN (m2 + nq))
          have HA := Lib.hid (show atOf wr g = j from hat.out)
          clear c1 c2 c3 c4 hat LI
          generalize hW : wr.drewN (m2 + nq) = wz at *
          clear hW
          obtain ⟨cs, hcs, hwc⟩ := LN.out.row
          have HCS := Lib.hid hcs
          have HWC := Lib.hid hwc
          have hsz := LN.out.hB
          clear hcs hwc
          obtain ⟨i0, hi0, hz0, hz1, hz2⟩ := info_parts (show (Tryz.prog.info? 111).map (fun i => (i.zero, i.size, i.bytes)) = some (some (.agg #[.slice none 0 0, .int .i64 0]), 2, 32) by kernel_rfl)
          go_wp2_with (first
            | (go_at_call 52; refine (wordP_any s g j _ hs hj LN.out.lex).mono ?_; rintro e6 w6 ⟨ho6, hf6⟩; rw [HV.out] at ho6; obtain ⟨aw, cw, rfl, hl6, hw6⟩ := ho6; have hs6 := hf6.size; have HR6 := Lib.hid (ownsRow_keep HCS.out (hf6.keepLex LN.out.lex (by decide))); have HF6 := Lib.hid hf6; have HL6 := Lib.hid hl6; have HW6 := Lib.hid hw6; clear hf6 hl6 hw6)
            | (at_builtin; refine wpList_append_own _ rfl _ _ 93 rfl w.heap.size tFWord i0 (.agg #[.slice none 0 0, .int .i64 0]) 2 32 Tryz.underlying93 hi0 hz0 hz1 hz2 rfl (by decide) _ _ _ rfl (ownsRow_below HR6.out ((Below.refl _ _).alloc (Nat.le_refl _) _)) ⟨_, 0, none⟩ 1 1 [.slice aw (piecesP l []).length cw, .int .i64 j] rfl rfl (cells2_at _ _ _ _ _ (by simp)) (by simp [Value.oneCell']) (by unfold maxLen; omega) (by omega) (by simp; omega) ?_; intro v' w7 hown7 hgr7 _; obtain ⟨A', c', rfl⟩ := ownsRow_form hown7; have PL := Lib.hid (LN.out.push (y := ⟨l, j⟩) HF6.out HL6.out HW6.out _ HCS.out HWC.out hgr7 hown7); clear hown7 hgr7)
            | (go_at_call 50; refine (blanksP_any s g n _ (by omega) hnl PL.out.lex).mono ?_; rintro e8 w8 ⟨rfl, hl8, hf8⟩; have PL8 := Lib.hid (PL.out.lexed hf8 hl8); clear hl8 hf8))
          go_roundw
          case rel => exact ⟨acc ++ [⟨l, j⟩], blanksB s n, A', c', by rw [List.length_append]; rfl, hbs, by rw [List.length_append, List.length_singleton]; omega, ⟨HBL.out.2.2.1, HBL.out.2.2.2⟩, Y, PL8⟩
          case measure =>
            rw [HA.out, PL8.out.lex.atOf]
            omega
end Go.Proofs.YtflggoddfjmljaaGreatDoor
namespace Go.Proofs.YtflggoddfjmljaaGreatDoor
open Go.RowKit

theorem WordG.tb (x : WordG) (hg : GoodA x.l) : TB x.pl (10 + x.l.length) := TB.pieces ⟨by simp, by simp⟩ (by omega) x.l hg
theorem WordG.plain_pl (x : WordG) : plainP x.pl [] = (x.text, x.flat) := plain_same x.l
theorem plainW_any (x : WordG) (ao : Option Addr) (c k n : Nat) (w : World) (hg : GoodA x.l) (hl : x.l.length ≤ 2000) (hn : x.pl.length = n) (ho : w.ownsRow k tPiece 3 (.slice ao x.pl.length c) x.pl.length (pcs x.pl)) :
    Calls Tryz.prog 53 #[.agg #[.slice ao n c, .int .i64 x.at_]] w fun e w' => e = .returned (.tuple #[.string (S x.text), .bool x.flat]) ∧ Below w.heap.size w w' := by
  subst hn
  have ht := x.tb hg
  refine (plainP_any x.pl x.at_ c ao w (by have := ht.1; omega) (fun q hq => by have := ht.2 q hq; omega) (RdT.of_own ho).rd).mono fun e w' ⟨h1, h2⟩ => ⟨?_, h2⟩
  rw [h1, x.plain_pl]
theorem WordG.text_var (x : WordG) (h : x.flat = false) : x.text = [] := by
  have := plainA_bad x.l [] h
  show (plainA x.l []).1 = []
  rw [this]
/-- a stage's name, if it is one -/
def snB (s : List UInt8) : List UInt8 := if stageB s = true then s else []
theorem stageB_nil : stageB [] = false := by simp [stageB]
theorem stageB_long {s : List UInt8} (h : 10 < s.length) : stageB s = false := by
  unfold stageB
  rw [show decide (s.length ≤ 10) = false by rw [decide_eq_false_iff_not]; omega]; simp
theorem snB_no {s : List UInt8} (h : stageB s = false) : snB s = [] := by simp [snB, h]
theorem snB_yes {s : List UInt8} (h : stageB s = true) : snB s = s := by simp [snB, h]

set_option maxRecDepth 100000 in
set_option maxHeartbeats 4000000 in
theorem stageNameP_any (x : WordG) (ao : Option Addr) (c k n : Nat) (w : World) (hg : GoodA x.l) (hl : x.l.length ≤ 2000) (hn : x.pl.length = n) (ho : w.ownsRow k tPiece 3 (.slice ao x.pl.length c) x.pl.length (pcs x.pl)) :
    Calls Tryz.prog 78 #[.agg #[.slice ao n c, .int .i64 x.at_]] w fun e w' => e = .returned (.string (S (snB x.text))) ∧ Below w.heap.size w w' := by
  have HP := Lib.hid (show ∀ wx : World, Below w.heap.size w wx → Calls Tryz.prog 53 #[.agg #[.slice ao n c, .int .i64 x.at_]] wx fun e w' => e = .returned (.tuple #[.string (S x.text), .bool x.flat]) ∧ Below wx.heap.size wx w' from
    fun wx hb => plainW_any x ao c k n wx hg hl hn (ownsRow_below ho hb))
  have htl : x.text.length ≤ 2000 := Nat.le_trans x.text_len hl
  have htv := x.text_var
  have hb0 : Below w.heap.size w (w.alloc (.cells #[.slice ao n c, .int .i64 x.at_] tFWord)) := (Below.refl _ _).alloc (Nat.le_refl _) _
  generalize x.text = t at *
  generalize x.flat = f at *
  clear ho hg hn
  cases f
  · obtain rfl := htv rfl
    have Y := Lib.hid (snB_no stageB_nil)
    clear htv
    go_enter Tryz.func78, Tryz.ntmps78
    go_wp2_with (go_at_call 53; refine (HP.out _ hb0).mono ?_; rintro e1 w1 ⟨rfl, hb1⟩)
    go_ret
    exact ⟨ret_str (by rw [Y.out]), hb0.trans (hb1.mono hb0.size)⟩
  clear htv
  by_cases h0 : t = []
  · subst h0
    have Y := Lib.hid (snB_no stageB_nil)
    go_enter Tryz.func78, Tryz.ntmps78
    go_wp2_with (go_at_call 53; refine (HP.out _ hb0).mono ?_; rintro e1 w1 ⟨rfl, hb1⟩)
    go_ret
    exact ⟨ret_str (by rw [Y.out]), hb0.trans (hb1.mono hb0.size)⟩
  have hne : (t == []) = false := by simpa using h0
  have hie : t.isEmpty = false := by cases t <;> simp_all
  by_cases h10 : 10 < t.length
  · have Y := Lib.hid (snB_no (stageB_long h10))
    have h10' : (10 : Int) < (t.length : Int) := by omega
    clear h0
    go_enter Tryz.func78, Tryz.ntmps78
    go_wp2_with (go_at_call 53; refine (HP.out _ hb0).mono ?_; rintro e1 w1 ⟨rfl, hb1⟩)
    go_ret
    exact ⟨ret_str (by rw [Y.out]), hb0.trans (hb1.mono hb0.size)⟩
  have h10' : decide ((10 : Int) < (t.length : Int)) = false := by rw [decide_eq_false_iff_not]; omega
  have hpos : 0 < t.length := by cases t <;> simp_all
  have hpos' : (0 : Int) < (t.length : Int) := by omega
  by_cases h97 : (t[0].toNat : Int) < 97
  · have Y := Lib.hid (show snB t = [] from snB_no (stageB_not hpos (by
      rw [okS_at hpos]
      have hs : smallC t[0] = false := by rw [Bool.eq_false_iff]; intro e; have := (smallC_iff _).1 e; omega
      simp [hs])))
    clear h0
    go_enter Tryz.func78, Tryz.ntmps78
    go_wp2_with (go_at_call 53; refine (HP.out _ hb0).mono ?_; rintro e1 w1 ⟨rfl, hb1⟩)
    go_ret
    exact ⟨ret_str (by rw [Y.out]), hb0.trans (hb1.mono hb0.size)⟩
  have h97' : decide ((t[0].toNat : Int) < 97) = false := by rw [decide_eq_false_iff_not]; exact h97
  have HF := Lib.hid h97
  have HL := Lib.hid (show t.length ≤ 10 by omega)
  have HE := Lib.hid hie
  clear h0
  go_enter Tryz.func78, Tryz.ntmps78
  go_wp2_with (go_at_call 53; refine (HP.out _ hb0).mono ?_; rintro e1 w1 ⟨rfl, hb1⟩)
  have HW := Lib.hid (hb0.trans (hb1.mono hb0.size))
  clear hb1 hb0
  go_loop [30] (fun i => ∃ k : Nat, k ≤ t.length ∧ i = .int .i64 k ∧ Hid (∀ j, j < k → okS t j = true)) (fun i => t.length - (intOf i).toNat)
  case atStart => exact ⟨0, by omega, rfl, by intro j hj; omega⟩
  case round =>
    obtain ⟨k, hk, rfl, hall⟩ := hrel
    by_cases hlt : k < t.length
    · have hS := smallC_iff t[k]
      have hD := digitC_iff t[k]
      have ho := okS_at hlt
      have hf := HF.out
      cases hok : okS t k
      · have Y := Lib.hid (snB_no (stageB_not hlt hok))
        rw [hok] at ho
        have hn : ¬ (97 ≤ (t[k].toNat : Int) ∧ (t[k].toNat : Int) ≤ 122) ∧ ¬ (48 ≤ (t[k].toNat : Int) ∧ (t[k].toNat : Int) ≤ 57) := by
          have hs : smallC t[k] = false := by
            cases h : smallC t[k] with
            | false => rfl
            | true => rw [h, Bool.true_or] at ho; cases ho
          refine ⟨fun h => (by rw [hS.2 h] at hs; cases hs), fun h => ?_⟩
          have hd := hD.2 h
          by_cases k0 : k = 0
          · subst k0; omega
          · simp [hd, k0] at ho
        obtain ⟨n1, n2⟩ := hn
        clear hok ho hS hD hall hf
        go_wp2
        all_goals first
          | (go_ret; exact ⟨ret_str (by rw [Y.out]), HW.out⟩)
          | (exfalso; simp only [Bool.not_eq_true', Bool.not_eq_false', bne_iff_ne, bne_eq_false_iff_eq, beq_iff_eq, beq_eq_false_iff_ne, decide_eq_true_eq, decide_eq_false_iff_not, ne_eq] at *; omega)
      · have HA := Lib.hid (show ∀ j, j < k + 1 → okS t j = true by
          intro j hj
          rcases Nat.lt_or_ge j k with h | h
          · exact hall.out j h
          · obtain rfl : j = k := by omega
            exact hok)
        rw [hok] at ho
        have hn : (97 ≤ (t[k].toNat : Int) ∧ (t[k].toNat : Int) ≤ 122) ∨ (48 ≤ (t[k].toNat : Int) ∧ (t[k].toNat : Int) ≤ 57) := by
          cases hs : smallC t[k]
          · have hd : digitC t[k] = true := by
              rw [hs, Bool.false_or] at ho
              exact (Bool.and_eq_true_iff.1 ho.symm).1
            exact .inr (hD.1 hd)
          · exact .inl (hS.1 hs)
        clear hok ho hS hD hall hf
        go_wp2
        all_goals first
          | (go_round; (case rel => exact ⟨k + 1, by omega, by go_num, HA⟩); (case measure => simp [intOf]; omega))
          | (exfalso; simp only [Bool.not_eq_true', Bool.not_eq_false', bne_iff_ne, bne_eq_false_iff_eq, beq_iff_eq, beq_eq_false_iff_ne, decide_eq_true_eq, decide_eq_false_iff_not, ne_eq] at *; omega)
    · obtain rfl : k = t.length := by omega
      have Y := Lib.hid (show snB t = t from snB_yes (by rw [stageB_all hall.out, HE.out]; simp; exact HL.out))
      clear hall
      go_wp2
      go_ret
      exact ⟨ret_str (by rw [Y.out]), HW.out⟩
end Go.Proofs.YtflggoddfjmljaaGreatDoor
namespace Go.Proofs.YtflggoddfjmljaaGreatDoor
open Go.RowKit

theorem closA_any (x n : List UInt8) (b sv vv : Value) (gn : Nat) (w : World) (hn : w.cell? ⟨gn, 0, none⟩ = some (.string (S n))) (h1 : b.oneCell' = true) (h2 : sv.oneCell' = true) (h3 : vv.oneCell' = true) :
    Calls Tryz.prog 89 #[.agg #[.string (S x), b, sv, vv], .pointer (some ⟨gn, 0, none⟩)] w fun e w' => e = .returned (.bool (x == n)) ∧ Below w.heap.size w w' := by
  have hl := World.block_lt_of_cell? w _ hn
  go_enter Tryz.func89, Tryz.ntmps89
  go_wp2
  go_ret
  exact ⟨rfl, (Below.refl _ _).alloc (Nat.le_refl _) _⟩
theorem closB_any (x n : List UInt8) (b sv vv : Value) (gn : Nat) (w : World) (hn : w.cell? ⟨gn, 0, none⟩ = some (.string (S n))) (h1 : b.oneCell' = true) (h2 : sv.oneCell' = true) (h3 : vv.oneCell' = true) :
    Calls Tryz.prog 81 #[.agg #[.string (S x), b, sv, vv], .pointer (some ⟨gn, 0, none⟩)] w fun e w' => e = .returned (.bool (x == n)) ∧ Below w.heap.size w w' := by
  have hl := World.block_lt_of_cell? w _ hn
  go_enter Tryz.func81, Tryz.ntmps81
  go_wp2
  go_ret
  exact ⟨rfl, (Below.refl _ _).alloc (Nat.le_refl _) _⟩

/-- stages that are read -/
def FSt (w : World) (st : List StageG) (ao : Option Addr) : Prop := ∃ cs lo hi, RdT tFStage w ao cs ∧ FStageCells lo hi w st cs
theorem FStagesR.st {B : Nat} {w : World} {l : List StageG} {ao : Option Addr} {c : Nat} (h : FStagesR B w l ao c) : FSt w l ao := by
  obtain ⟨cs, h1, h2⟩ := h.all
  exact ⟨cs, B, w.heap.size, RdT.of_own h1, h2⟩
theorem FSt.get {w : World} {st : List StageG} {ao : Option Addr} (h : FSt w st ao) {k : Nat} (hk : k < st.length) :
    ∃ b o sa sc va vc, ao = some ⟨b, o, none⟩ ∧ b < w.heap.size ∧ w.cell? ⟨b, o + k * 4, none⟩ = some (.string (S st[k].name)) ∧ w.cell? ⟨b, o + k * 4 + 1, none⟩ = some (.int .i64 st[k].base) ∧ w.cell? ⟨b, o + k * 4 + 2, none⟩ = some (.slice sa st[k].steps.length sc) ∧ w.cell? ⟨b, o + k * 4 + 3, none⟩ = some (.slice va st[k].vars.length vc) ∧ (∃ scs, w.ownsRow 0 tFStep 4 (.slice sa st[k].steps.length sc) st[k].steps.length scs ∧ FStepCells w st[k].steps scs) ∧ w.ownsRow 0 tText 1 (.slice va st[k].vars.length vc) st[k].vars.length (strs st[k].vars) := by
  obtain ⟨cs, lo, hi, h1, h2⟩ := h
  obtain ⟨sv, vv, g1, g2, g3, g4, g5⟩ := h2.get k hk
  obtain ⟨b, o, rfl, hb, hc⟩ := h1.rd.at (k * 4) (by rw [h2.len]; omega)
  obtain ⟨scs, s1, s2⟩ := g5.steps
  obtain ⟨sa, sc, rfl⟩ := ownsRow_form s1
  obtain ⟨va, vc, rfl⟩ := ownsRow_form g5.vars
  exact ⟨b, o, sa, sc, va, vc, rfl, hb, hc _ _ g1, hc _ _ g2, hc _ _ g3, hc _ _ g4, ⟨scs, ownsRow_base s1 (Nat.zero_le _), s2⟩, ownsRow_base g5.vars (Nat.zero_le _)⟩
theorem FSt.after {w w' : World} {st : List StageG} {ao : Option Addr} (h : FSt w st ao) (hb : Below w.heap.size w w') : FSt w' st ao := by
  obtain ⟨cs, lo, hi, h1, h2⟩ := h
  have hT : ∀ T, KeepT T w w' := fun T => KeepT.below hb
  exact ⟨cs, lo, hi, h1.keep (hT _), h2.stays (hT _) (hT _) (fun g cur _ e => hT _ g cur e) (fun g cur _ e => hT _ g cur e)⟩

set_option maxRecDepth 100000 in
set_option maxHeartbeats 4000000 in
theorem indexFuncA_any (st : List StageG) (n : List UInt8) (ao : Option Addr) (m c gn : Nat) (w : World) (hm : st.length = m) (h5 : st.length ≤ 5) (hst : FSt w st ao) (hn : w.cell? ⟨gn, 0, none⟩ = some (.string (S n))) :
    Calls Tryz.prog 88 #[.slice ao m c, .func (Fn.func 89) #[] #[.pointer (some ⟨gn, 0, none⟩)]] w fun e w' => e = .returned (.int .i64 (calledB st n)) ∧ Below w.heap.size w w' := by
  subst hm
  have HS := Lib.hid hst
  have hgn := World.block_lt_of_cell? w _ hn
  have HN := Lib.hid hn
  clear hst hn
  go_enter Tryz.func88, Tryz.ntmps88
  go_wp2
  go_loopw [8] (fun i wr => ∃ k : Nat, k ≤ st.length ∧ i = .int .i64 k ∧ Hid (∀ j (hj : j < k) (h : j < st.length), st[j].name ≠ n) ∧ Below w.heap.size w wr) (fun i _ => st.length - (intOf i).toNat)
  case atStart => exact ⟨0, by omega, rfl, by intro j hj; omega, Below.refl _ _⟩
  case round =>
    obtain ⟨k, hk, rfl, hall, hbel⟩ := hrel
    by_cases hlt : k < st.length
    · obtain ⟨b, o, sa, sc, va, vc, rfl, hb, m1, m2, m3, m4, _, _⟩ := (HS.out.after hbel).get hlt
      have HC := Lib.hid (closA_any st[k].name n (.int .i64 st[k].base) (.slice sa st[k].steps.length sc) (.slice va st[k].vars.length vc) gn wr ((hbel.cell (p := ⟨gn, 0, none⟩) hgn).trans HN.out) rfl rfl rfl)
      cases he : (st[k].name == n)
      · have HA := Lib.hid (show ∀ j (hj : j < k + 1) (h : j < st.length), st[j].name ≠ n by
          intro j hj h
          rcases Nat.lt_or_ge j k with h' | h'
          · exact hall.out j h' h
          · obtain rfl : j = k := by omega
            simpa using he)
        have HE := Lib.hid he
        clear hall he
        go_wp2_with (go_at_call 89; refine HC.out.mono ?_; rintro e2 w2 ⟨rfl, hb2⟩; rw [HE.out])
        go_roundw
        case rel => exact ⟨k + 1, by omega, by go_num, HA, hbel.trans (hb2.mono hbel.size)⟩
        case measure => simp [intOf]; omega
      · have Y := Lib.hid (show calledB st n = (k : Int) from calledB_at hlt (by simpa using he) (fun j hj hjk => hall.out j hjk hj))
        have HE := Lib.hid he
        clear hall he
        go_wp2_with (go_at_call 89; refine HC.out.mono ?_; rintro e2 w2 ⟨rfl, hb2⟩; rw [HE.out])
        go_ret
        exact ⟨ret_int (by rw [Y.out]), hbel.trans (hb2.mono hbel.size)⟩
    · have Y := Lib.hid (show calledB st n = -1 from calledB_none (fun j hj => hall.out j (by omega) hj))
      clear hall
      go_wp2
      go_ret
      exact ⟨ret_int (by rw [Y.out]), hbel⟩
set_option maxRecDepth 100000 in
set_option maxHeartbeats 4000000 in
theorem indexFuncB_any (st : List StageG) (n : List UInt8) (ao : Option Addr) (m c gn : Nat) (w : World) (hm : st.length = m) (h5 : st.length ≤ 5) (hst : FSt w st ao) (hn : w.cell? ⟨gn, 0, none⟩ = some (.string (S n))) :
    Calls Tryz.prog 88 #[.slice ao m c, .func (Fn.func 81) #[] #[.pointer (some ⟨gn, 0, none⟩)]] w fun e w' => e = .returned (.int .i64 (calledB st n)) ∧ Below w.heap.size w w' := by
  subst hm
  have HS := Lib.hid hst
  have hgn := World.block_lt_of_cell? w _ hn
  have HN := Lib.hid hn
  clear hst hn
  go_enter Tryz.func88, Tryz.ntmps88
  go_wp2
  go_loopw [8] (fun i wr => ∃ k : Nat, k ≤ st.length ∧ i = .int .i64 k ∧ Hid (∀ j (hj : j < k) (h : j < st.length), st[j].name ≠ n) ∧ Below w.heap.size w wr) (fun i _ => st.length - (intOf i).toNat)
  case atStart => exact ⟨0, by omega, rfl, by intro j hj; omega, Below.refl _ _⟩
  case round =>
    obtain ⟨k, hk, rfl, hall, hbel⟩ := hrel
    by_cases hlt : k < st.length
    · obtain ⟨b, o, sa, sc, va, vc, rfl, hb, m1, m2, m3, m4, _, _⟩ := (HS.out.after hbel).get hlt
      have HC := Lib.hid (closB_any st[k].name n (.int .i64 st[k].base) (.slice sa st[k].steps.length sc) (.slice va st[k].vars.length vc) gn wr ((hbel.cell (p := ⟨gn, 0, none⟩) hgn).trans HN.out) rfl rfl rfl)
      cases he : (st[k].name == n)
      · have HA := Lib.hid (show ∀ j (hj : j < k + 1) (h : j < st.length), st[j].name ≠ n by
          intro j hj h
          rcases Nat.lt_or_ge j k with h' | h'
          · exact hall.out j h' h
          · obtain rfl : j = k := by omega
            simpa using he)
        have HE := Lib.hid he
        clear hall he
        go_wp2_with (go_at_call 81; refine HC.out.mono ?_; rintro e2 w2 ⟨rfl, hb2⟩; rw [HE.out])
        go_roundw
        case rel => exact ⟨k + 1, by omega, by go_num, HA, hbel.trans (hb2.mono hbel.size)⟩
        case measure => simp [intOf]; omega
      · have Y := Lib.hid (show calledB st n = (k : Int) from calledB_at hlt (by simpa using he) (fun j hj hjk => hall.out j hjk hj))
        have HE := Lib.hid he
        clear hall he
        go_wp2_with (go_at_call 81; refine HC.out.mono ?_; rintro e2 w2 ⟨rfl, hb2⟩; rw [HE.out])
        go_ret
        exact ⟨ret_int (by rw [Y.out]), hbel.trans (hb2.mono hbel.size)⟩
    · have Y := Lib.hid (show calledB st n = -1 from calledB_none (fun j hj => hall.out j (by omega) hj))
      clear hall
      go_wp2
      go_ret
      exact ⟨ret_int (by rw [Y.out]), hbel⟩

theorem containsFuncB_any (st : List StageG) (n : List UInt8) (ao : Option Addr) (m c gn : Nat) (w : World) (hm : st.length = m) (h5 : st.length ≤ 5) (hst : FSt w st ao) (hn : w.cell? ⟨gn, 0, none⟩ = some (.string (S n))) :
    Calls Tryz.prog 80 #[.slice ao m c, .func (Fn.func 81) #[] #[.pointer (some ⟨gn, 0, none⟩)]] w fun e w' => e = .returned (.bool (decide (0 ≤ calledB st n))) ∧ Below w.heap.size w w' := by
  have HC := Lib.hid (indexFuncB_any st n ao m c gn w hm h5 hst hn)
  clear hn hst hm
  go_enter Tryz.func80, Tryz.ntmps80
  go_wp2_with (go_at_call 88; refine HC.out.mono ?_; rintro e2 w2 ⟨rfl, hb2⟩)
  go_ret
  exact ⟨rfl, hb2⟩

abbrev tParser : TypeId := 89
/-- a parser in memory -/
def PB (w : World) (gp : Nat) (ao : Option Addr) (n c k : Nat) : Prop := w.heap[gp]? = some (Obj.cells #[.slice ao n c, .int .i64 k] tParser (0, 0))
theorem PB.blk2 {w : World} {gp : Nat} {ao : Option Addr} {n c k : Nat} (h : PB w gp ao n c k) : Blk2 w gp (.slice ao n c) (.int .i64 k) := ⟨_, h⟩
theorem PB.after {w w' : World} {gp : Nat} {ao : Option Addr} {n c k : Nat} (h : PB w gp ao n c k) (hb : Below w.heap.size w w') : PB w' gp ao n c k := (hb.block gp (Array.getElem?_eq_some_iff.1 h).1).trans h
theorem PB.lt {w : World} {gp : Nat} {ao : Option Addr} {n c k : Nat} (h : PB w gp ao n c k) : gp < w.heap.size := (Array.getElem?_eq_some_iff.1 h).1
set_option maxRecDepth 100000 in
set_option maxHeartbeats 2000000 in
theorem lastP_any (gp gb m c k : Nat) (w : World) (hm : m ≤ 4) (hp : PB w gp (some ⟨gb, 0, none⟩) (m + 1) c k) :
    Calls Tryz.prog 57 #[.pointer (some ⟨gp, 0, none⟩)] w fun e w' => e = .returned (.pointer (some ⟨gb, m * 4, none⟩)) ∧ ∃ q, w' = w.drewN q := by
  obtain ⟨c1, c2, c3, c4⟩ := hp.blk2.facts
  have hm1 : (m : Int) < (m : Int) + 1 := by omega
  have hm0 : (0 : Int) ≤ (m : Int) := by omega
  clear hp
  go_enter Tryz.func57, Tryz.ntmps57
  go_wp2
  go_quiet (fail)
  go_wp2
  go_ret
  exact ⟨rfl, _, rfl⟩
end Go.Proofs.YtflggoddfjmljaaGreatDoor
namespace Go.Proofs.YtflggoddfjmljaaGreatDoor
open Go.RowKit

/-- the stage that a text names (-1: scratch, where that may be), or the fault -/
def stageR (st : List StageG) (t : List UInt8) (scratch : Bool) : Except Nat Int :=
  if stageB t = false then .error 5 else if calledB st t < 0 ∧ ¬ (scratch = true ∧ t = wSCRATCH) then .error 6 else .ok (calledB st t)
def stageOutP (w w' : World) (e : Ending) (p : Nat) : Except Nat Int → Prop
  | .error f => Thrown w w' e f p
  | .ok k => e = .returned (.int .i64 k)
theorem scratch_ne : (wSCRATCH : List UInt8) = [115, 99, 114, 97, 116, 99, 104] := rfl

set_option maxRecDepth 100000 in
set_option maxHeartbeats 4000000 in
theorem stageP_any (st : List StageG) (x : WordG) (scratch : Bool) (gp m c k wk wn wc : Nat) (ao wa : Option Addr) (w : World) (hm : st.length = m) (h5 : st.length ≤ 5) (hp : PB w gp ao m c k) (hst : FSt w st ao)
    (hg : GoodA x.l) (hl : x.l.length ≤ 2000) (hn : x.pl.length = wn) (ho : w.ownsRow wk tPiece 3 (.slice wa x.pl.length wc) x.pl.length (pcs x.pl)) :
    Calls Tryz.prog 79 #[.pointer (some ⟨gp, 0, none⟩), .agg #[.slice wa wn wc, .int .i64 x.at_], .bool scratch] w fun e w' => stageOutP w w' e x.at_ (stageR st x.text scratch) ∧ Below w.heap.size w w' := by
  have HN := Lib.hid (show ∀ wx : World, Below w.heap.size w wx → Calls Tryz.prog 78 #[.agg #[.slice wa wn wc, .int .i64 x.at_]] wx fun e w' => e = .returned (.string (S (snB x.text))) ∧ Below wx.heap.size wx w' from
    fun wx hb => stageNameP_any x wa wc wk wn wx hg hl hn (ownsRow_below ho hb))
  have HI := Lib.hid (show ∀ (wx : World) (n : List UInt8) (gn : Nat), Below w.heap.size w wx → wx.cell? ⟨gn, 0, none⟩ = some (.string (S n)) → Calls Tryz.prog 88 #[.slice ao m c, .func (Fn.func 89) #[] #[.pointer (some ⟨gn, 0, none⟩)]] wx fun e w' => e = .returned (.int .i64 (calledB st n)) ∧ Below wx.heap.size wx w' from
    fun wx n gn hb hc => indexFuncA_any st n ao m c gn wx hm h5 (hst.after hb) hc)
  have HP := Lib.hid hp
  have hb0 : Below w.heap.size w (w.alloc (.cells #[.slice wa wn wc, .int .i64 x.at_] tFWord)) := (Below.refl _ _).alloc (Nat.le_refl _) _
  have HX := Lib.hid (Blk2.new w (.slice wa wn wc) (.int .i64 x.at_) tFWord)
  clear ho hg hn hst hp hm
  cases hs : stageB x.text
  · have Y := Lib.hid (show stageR st x.text scratch = .error 5 by simp [stageR, hs])
    have HS := Lib.hid (snB_no hs)
    clear hs
    go_enter Tryz.func79, Tryz.ntmps79
    go_wp2_with (first
      | (go_at_call 78; refine (HN.out _ hb0).mono ?_; rintro e1 w1 ⟨rfl, hb1⟩; rw [HS.out]; have hb2 := hb0.trans (hb1.mono hb0.size); obtain ⟨c1, c2, c3, c4⟩ := (HX.out.after hb1).facts; have hz := (HX.out.after hb1).lt)
      | (go_at_call 32; refine (failP_any 5 x.at_ _).mono ?_; rintro e5 w5 ⟨rfl, rfl⟩))
    refine ⟨rfl, ?_, (hb2.alloc hb2.size _).alloc (by simp; have := hb2.size; omega) _⟩
    rw [Y.out]
    exact ⟨_, rfl, by have := hb2.size; first | omega | (simp; omega), heap_alloc_at _ _ _ (by simp)⟩
  · have HS := Lib.hid (snB_yes hs)
    have hne : x.text ≠ [] := by intro e; rw [e, stageB_nil] at hs; cases hs
    have hne' : (x.text == []) = false := by simpa using hne
    have hie : x.text.isEmpty = false := by cases h : x.text <;> simp_all
    have HR := Lib.hid (show stageR st x.text scratch = if calledB st x.text < 0 ∧ ¬ (scratch = true ∧ x.text = wSCRATCH) then .error 6 else .ok (calledB st x.text) by unfold stageR; rw [if_neg (by simp [hs])])
    clear hs hne
    obtain ⟨k1, hk1⟩ : ∃ k1, calledB st x.text = k1 := ⟨_, rfl⟩
    have HK := Lib.hid hk1
    rw [hk1] at HR
    clear hk1
    by_cases h0 : k1 < 0
    · by_cases h1 : x.text = wSCRATCH
      · have h1' : (x.text == [115, 99, 114, 97, 116, 99, 104]) = true := by rw [h1]; rfl
        cases scratch
        · have Y := Lib.hid (show stageR st x.text false = .error 6 by rw [HR.out, if_pos ⟨h0, by simp⟩])
          clear HR h1
          go_enter Tryz.func79, Tryz.ntmps79
          go_wp2_with (first
            | (go_at_call 78; refine (HN.out _ hb0).mono ?_; rintro e1 w1 ⟨rfl, hb1⟩; rw [HS.out]; have hb2 := hb0.trans (hb1.mono hb0.size); obtain ⟨p1, p2, p3, p4⟩ := (HP.out.after hb2).blk2.facts; have hpz := (HP.out.after hb2).lt; have hb2a := hb2.alloc hb2.size (.cells #[.string (S x.text)] tText))
            | (go_at_call 88; refine (HI.out _ x.text _ hb2a (by simp)).mono ?_; rintro e3 w3 ⟨rfl, hb3⟩; rw [HK.out]; have n3 : w3.cell? ⟨w1.heap.size, 0, none⟩ = some (.string (S x.text)) := (hb3.cell (p := ⟨w1.heap.size, 0, none⟩) (by simp)).trans (by simp); obtain ⟨d1, d2, d3, d4⟩ := (((HX.out.after hb1).alloc (.cells #[.string (S x.text)] tText)).after hb3).facts; have hz3 := (((HX.out.after hb1).alloc (.cells #[.string (S x.text)] tText)).after hb3).lt; have hbz := hb2a.trans (hb3.mono hb2a.size))
            | (go_at_call 32; refine (failP_any 6 x.at_ _).mono ?_; rintro e5 w5 ⟨rfl, rfl⟩))
          refine ⟨rfl, ?_, hbz.alloc hbz.size _⟩
          rw [Y.out]
          exact ⟨_, rfl, hbz.size, heap_alloc_new _ _⟩
        · have Y := Lib.hid (show stageR st x.text true = .ok k1 by rw [HR.out, if_neg (by rintro ⟨_, h⟩; exact h ⟨rfl, h1⟩)])
          clear HR h1
          go_enter Tryz.func79, Tryz.ntmps79
          go_wp2_with (first
            | (go_at_call 78; refine (HN.out _ hb0).mono ?_; rintro e1 w1 ⟨rfl, hb1⟩; rw [HS.out]; have hb2 := hb0.trans (hb1.mono hb0.size); obtain ⟨p1, p2, p3, p4⟩ := (HP.out.after hb2).blk2.facts; have hpz := (HP.out.after hb2).lt; have hb2a := hb2.alloc hb2.size (.cells #[.string (S x.text)] tText))
            | (go_at_call 88; refine (HI.out _ x.text _ hb2a (by simp)).mono ?_; rintro e3 w3 ⟨rfl, hb3⟩; rw [HK.out]; have n3 : w3.cell? ⟨w1.heap.size, 0, none⟩ = some (.string (S x.text)) := (hb3.cell (p := ⟨w1.heap.size, 0, none⟩) (by simp)).trans (by simp); obtain ⟨d1, d2, d3, d4⟩ := (((HX.out.after hb1).alloc (.cells #[.string (S x.text)] tText)).after hb3).facts; have hz3 := (((HX.out.after hb1).alloc (.cells #[.string (S x.text)] tText)).after hb3).lt; have hbz := hb2a.trans (hb3.mono hb2a.size))
            | (go_at_call 32; refine (failP_any 6 x.at_ _).mono ?_; rintro e5 w5 ⟨rfl, rfl⟩))
          go_ret
          refine ⟨?_, hbz⟩
          rw [Y.out]
          rfl
      · have h1' : (x.text == [115, 99, 114, 97, 116, 99, 104]) = false := by rw [beq_eq_false_iff_ne]; exact h1
        have Y := Lib.hid (show stageR st x.text scratch = .error 6 by rw [HR.out, if_pos ⟨h0, fun h => h1 h.2⟩])
        clear HR h1
        cases scratch
        · skip
          go_enter Tryz.func79, Tryz.ntmps79
          go_wp2_with (first
            | (go_at_call 78; refine (HN.out _ hb0).mono ?_; rintro e1 w1 ⟨rfl, hb1⟩; rw [HS.out]; have hb2 := hb0.trans (hb1.mono hb0.size); obtain ⟨p1, p2, p3, p4⟩ := (HP.out.after hb2).blk2.facts; have hpz := (HP.out.after hb2).lt; have hb2a := hb2.alloc hb2.size (.cells #[.string (S x.text)] tText))
            | (go_at_call 88; refine (HI.out _ x.text _ hb2a (by simp)).mono ?_; rintro e3 w3 ⟨rfl, hb3⟩; rw [HK.out]; have n3 : w3.cell? ⟨w1.heap.size, 0, none⟩ = some (.string (S x.text)) := (hb3.cell (p := ⟨w1.heap.size, 0, none⟩) (by simp)).trans (by simp); obtain ⟨d1, d2, d3, d4⟩ := (((HX.out.after hb1).alloc (.cells #[.string (S x.text)] tText)).after hb3).facts; have hz3 := (((HX.out.after hb1).alloc (.cells #[.string (S x.text)] tText)).after hb3).lt; have hbz := hb2a.trans (hb3.mono hb2a.size))
            | (go_at_call 32; refine (failP_any 6 x.at_ _).mono ?_; rintro e5 w5 ⟨rfl, rfl⟩))
          refine ⟨rfl, ?_, hbz.alloc hbz.size _⟩
          rw [Y.out]
          exact ⟨_, rfl, hbz.size, heap_alloc_new _ _⟩
        · skip
          go_enter Tryz.func79, Tryz.ntmps79
          go_wp2_with (first
            | (go_at_call 78; refine (HN.out _ hb0).mono ?_; rintro e1 w1 ⟨rfl, hb1⟩; rw [HS.out]; have hb2 := hb0.trans (hb1.mono hb0.size); obtain ⟨p1, p2, p3, p4⟩ := (HP.out.after hb2).blk2.facts; have hpz := (HP.out.after hb2).lt; have hb2a := hb2.alloc hb2.size (.cells #[.string (S x.text)] tText))
            | (go_at_call 88; refine (HI.out _ x.text _ hb2a (by simp)).mono ?_; rintro e3 w3 ⟨rfl, hb3⟩; rw [HK.out]; have n3 : w3.cell? ⟨w1.heap.size, 0, none⟩ = some (.string (S x.text)) := (hb3.cell (p := ⟨w1.heap.size, 0, none⟩) (by simp)).trans (by simp); obtain ⟨d1, d2, d3, d4⟩ := (((HX.out.after hb1).alloc (.cells #[.string (S x.text)] tText)).after hb3).facts; have hz3 := (((HX.out.after hb1).alloc (.cells #[.string (S x.text)] tText)).after hb3).lt; have hbz := hb2a.trans (hb3.mono hb2a.size))
            | (go_at_call 32; refine (failP_any 6 x.at_ _).mono ?_; rintro e5 w5 ⟨rfl, rfl⟩))
          refine ⟨rfl, ?_, hbz.alloc hbz.size _⟩
          rw [Y.out]
          exact ⟨_, rfl, hbz.size, heap_alloc_new _ _⟩
    · have Y := Lib.hid (show stageR st x.text scratch = .ok k1 by rw [HR.out, if_neg (fun h => h0 h.1)])
      have h0' : decide (k1 < 0) = false := by rw [decide_eq_false_iff_not]; exact h0
      clear HR h0
      go_enter Tryz.func79, Tryz.ntmps79
      go_wp2_with (first
        | (go_at_call 78; refine (HN.out _ hb0).mono ?_; rintro e1 w1 ⟨rfl, hb1⟩; rw [HS.out]; have hb2 := hb0.trans (hb1.mono hb0.size); obtain ⟨p1, p2, p3, p4⟩ := (HP.out.after hb2).blk2.facts; have hpz := (HP.out.after hb2).lt; have hb2a := hb2.alloc hb2.size (.cells #[.string (S x.text)] tText))
        | (go_at_call 88; refine (HI.out _ x.text _ hb2a (by simp)).mono ?_; rintro e3 w3 ⟨rfl, hb3⟩; rw [HK.out]; have n3 : w3.cell? ⟨w1.heap.size, 0, none⟩ = some (.string (S x.text)) := (hb3.cell (p := ⟨w1.heap.size, 0, none⟩) (by simp)).trans (by simp); obtain ⟨d1, d2, d3, d4⟩ := (((HX.out.after hb1).alloc (.cells #[.string (S x.text)] tText)).after hb3).facts; have hz3 := (((HX.out.after hb1).alloc (.cells #[.string (S x.text)] tText)).after hb3).lt; have hbz := hb2a.trans (hb3.mono hb2a.size))
        | (go_at_call 32; refine (failP_any 6 x.at_ _).mono ?_; rintro e5 w5 ⟨rfl, rfl⟩))
      go_ret
      refine ⟨?_, hbz⟩
      rw [Y.out]
      rfl
end Go.Proofs.YtflggoddfjmljaaGreatDoor
namespace Go.Proofs.YtflggoddfjmljaaGreatDoor
open Go.RowKit

/-- the place of the first variable of pieces that is not set -/
def unsetP (vars : List (List UInt8)) : List PieceG → Option Nat
  | [] => none
  | p :: r => if p.var = true ∧ p.text ∉ vars then some p.at_ else unsetP vars r
theorem unsetP_app (vars : List (List UInt8)) (l m : List PieceG) : unsetP vars (l ++ m) = (unsetP vars l).or (unsetP vars m) := by
  induction l with
  | nil => rfl
  | cons p r ih =>
    simp only [List.cons_append, unsetP]
    split
    · rfl
    · exact ih
theorem unsetA_app (vars : List (List UInt8)) (l m : List Atm) : unsetA vars (l ++ m) = (unsetA vars l).or (unsetA vars m) := by
  induction l with
  | nil => rfl
  | cons p r ih =>
    cases p with
    | ch c => simp only [List.cons_append, unsetA]; exact ih
    | var x q =>
      simp only [List.cons_append, unsetA]
      split
      · exact ih
      · rfl
theorem unset_same (vars : List (List UInt8)) (l : List Atm) : unsetP vars (piecesP l []) = unsetA vars l := by
  induction hn : l.length generalizing l with
  | zero => rw [List.eq_nil_of_length_eq_zero hn]; rfl
  | succ n ihn =>
    rcases List.eq_nil_or_concat l with rfl | ⟨l, x, rfl⟩
    · simp at hn
    rw [List.concat_eq_append] at hn ⊢
    have ih := ihn l (by simpa using hn)
    rw [piecesP_snoc, unsetA_app, ← ih]
    cases x with
    | var n p =>
      simp only [atomP, unsetP_app]
      congr 1
      simp only [unsetP, unsetA]
      by_cases h : n ∈ vars <;> simp [h]
    | ch c =>
      simp only [atomP]
      rw [show unsetA vars [Atm.ch c] = none from rfl, Option.or_none]
      generalize piecesP l [] = L
      rcases List.eq_nil_or_concat L with rfl | ⟨init, q, rfl⟩
      · rfl
      · rw [List.concat_eq_append]
        cases hv : q.var
        · rw [addP_run init q c hv, unsetP_app, unsetP_app]; simp [unsetP, hv]
        · rw [addP_var init q c hv, unsetP_app]; simp [unsetP]
theorem unset_pl (vars : List (List UInt8)) (x : WordG) : unsetP vars x.pl = unsetA vars x.l := unset_same vars x.l
theorem unsetP_var {vars : List (List UInt8)} {l : List PieceG} {k : Nat} (h : k < l.length) (hv : l[k].var = true) (hm : l[k].text ∉ vars) : unsetP vars (l.drop k) = some l[k].at_ := by
  rw [List.drop_eq_getElem_cons h, unsetP, if_pos ⟨hv, hm⟩]
theorem unsetP_on {vars : List (List UInt8)} {l : List PieceG} {k : Nat} (h : k < l.length) (hv : ¬ (l[k].var = true ∧ l[k].text ∉ vars)) : unsetP vars (l.drop k) = unsetP vars (l.drop (k + 1)) := by
  conv => lhs; rw [List.drop_eq_getElem_cons h, unsetP, if_neg hv]
theorem unsetB_word {vars : List (List UInt8)} {l : List WordG} {k : Nat} (h : k < l.length) : unsetB vars (l.drop k) = (match unsetA vars l[k].l with | some p => some p | none => unsetB vars (l.drop (k + 1))) := by
  rw [List.drop_eq_getElem_cons h, unsetB]
  cases unsetA vars l[k].l <;> rfl
theorem unsetB_some {vars : List (List UInt8)} {l : List WordG} {k p : Nat} (h : k < l.length) (e : unsetA vars l[k].l = some p) : unsetB vars (l.drop k) = some p := by rw [unsetB_word h, e]
theorem unsetB_none {vars : List (List UInt8)} {l : List WordG} {k : Nat} (h : k < l.length) (e : unsetA vars l[k].l = none) : unsetB vars (l.drop k) = unsetB vars (l.drop (k + 1)) := by rw [unsetB_word h, e]

theorem containsP_q (l : List (List UInt8)) (x : List UInt8) (A : Option Addr) (n c : Nat) (w : World) (hn : l.length = n) (hrd : Rd w A (strs l)) (hl : l.length ≤ 1000) :
    Calls Tryz.prog 71 #[.slice A n c, .string (S x)] w fun e w' => e = .returned (.bool (decide (x ∈ l))) ∧ w' = w := by
  subst hn
  rcases hrd with h | ⟨b, o, rfl, hc⟩
  · have : l = [] := by simpa [strs] using h
    subst this
    exact (Tryz.slices_Contains_string_empty A c (S x) w).mono fun e w' ⟨h1, h2⟩ => ⟨by rw [h1]; simp, h2⟩
  · have hg : ∀ j, j < (l.map S).length → w.cell? ⟨b, o + j, none⟩ = some (.string ((l.map S).getD j ByteArray.empty)) := by
      intro j hj
      rw [hc j (.string ((l.map S).getD j ByteArray.empty)) (by
        have hj' : j < l.length := by simpa using hj
        simp [strs, hj'])]
    refine (Tryz.slices_Contains_string b o l.length c (l.map S) (S x) w (by simp) (by omega) hg).mono fun e w' ⟨h1, h2⟩ => ⟨?_, h2⟩
    rw [h1]
    refine ret_bool ?_
    rw [List.take_of_length_le (by simp), Bool.eq_iff_iff, Lib.containsS_iff, decide_eq_true_eq, List.mem_map]
    exact ⟨fun ⟨a, ha, e⟩ => S_inj e ▸ ha, fun h => ⟨x, h, rfl⟩⟩
theorem containsP_yes (l : List (List UInt8)) (x : List UInt8) (A : Option Addr) (n c : Nat) (w : World) (hn : l.length = n) (hrd : Rd w A (strs l)) (hl : l.length ≤ 1000) (h : x ∈ l) :
    Calls Tryz.prog 71 #[.slice A n c, .string (S x)] w fun e w' => e = .returned (.bool true) ∧ w' = w := by
  have := containsP_q l x A n c w hn hrd hl
  simpa [h] using this
theorem containsP_no (l : List (List UInt8)) (x : List UInt8) (A : Option Addr) (n c : Nat) (w : World) (hn : l.length = n) (hrd : Rd w A (strs l)) (hl : l.length ≤ 1000) (h : x ∉ l) :
    Calls Tryz.prog 71 #[.slice A n c, .string (S x)] w fun e w' => e = .returned (.bool false) ∧ w' = w := by
  have := containsP_q l x A n c w hn hrd hl
  simpa [h] using this

/-- what 'known' does -/
def knownOut (w w' : World) (e : Ending) : Option Nat → Prop
  | none => e = .returned (.tuple #[])
  | some p => Thrown w w' e 7 p
/-- the last stage's variables are read -/
def VarsAt (w : World) (gp gb m c k : Nat) (vars : List (List UInt8)) (va : Option Addr) (vc : Nat) : Prop :=
  PB w gp (some ⟨gb, 0, none⟩) (m + 1) c k ∧ gb < w.heap.size ∧ w.cell? ⟨gb, m * 4 + 3, none⟩ = some (.slice va vars.length vc) ∧ Rd w va (strs vars)
theorem VarsAt.after {w w' : World} {gp gb m c k : Nat} {vars : List (List UInt8)} {va : Option Addr} {vc : Nat} (h : VarsAt w gp gb m c k vars va vc) (hb : Below w.heap.size w w') : VarsAt w' gp gb m c k vars va vc :=
  ⟨h.1.after hb, Nat.lt_of_lt_of_le h.2.1 hb.size, (hb.cell (p := ⟨gb, m * 4 + 3, none⟩) h.2.1).trans h.2.2.1, h.2.2.2.below hb⟩
theorem FLastR.varsAt {B H gp : Nat} {w : World} {init : List StageG} {y : StageG} {gb c k vc : Nat} {va : Option Addr} {cs0 : List Value} {sv : Value} {scs : List Value} (h : FLastR B H w init y gb c cs0 sv (.slice va y.vars.length vc) scs) (hp : PB w gp (some ⟨gb, 0, none⟩) (init.length + 1) c k) :
    VarsAt w gp gb init.length c k y.vars va vc := ⟨hp, h.facts.1, h.facts.2.2.1, h.varsRd⟩
theorem belowDN {B : Nat} {w w' : World} (h : Below B w w') (n : Nat) : Below B w (w'.drewN n) := ⟨h.os, h.tape, h.output, h.size, h.block⟩
theorem VarsAt.drewN {w : World} {gp gb m c k : Nat} {vars : List (List UInt8)} {va : Option Addr} {vc : Nat} (h : VarsAt w gp gb m c k vars va vc) (n : Nat) : VarsAt (w.drewN n) gp gb m c k vars va vc := h.after (belowDN (Below.refl _ _) n)
/-- a new block of three cells -/
theorem blk3_new (w : World) (a b c : Value) (t : TypeId) : (w.alloc (.cells #[a, b, c] t)).cell? ⟨w.heap.size, 0, none⟩ = some a ∧ (w.alloc (.cells #[a, b, c] t)).cell? ⟨w.heap.size, 1, none⟩ = some b ∧ (w.alloc (.cells #[a, b, c] t)).cell? ⟨w.heap.size, 2, none⟩ = some c ∧ w.heap.size < (w.alloc (.cells #[a, b, c] t)).heap.size := by
  simp
end Go.Proofs.YtflggoddfjmljaaGreatDoor
namespace Go.Proofs.YtflggoddfjmljaaGreatDoor
open Go.RowKit

set_option maxRecDepth 100000 in
set_option maxHeartbeats 8000000 in
theorem knownP_any (gp gb m c k : Nat) (vars : List (List UInt8)) (va A : Option Addr) (vc n lc : Nat) (l : List WordG) (w : World) (hm : m ≤ 4) (hv : VarsAt w gp gb m c k vars va vc) (hvl : vars.length ≤ 1000) (hw : FWordsR w A l) (hg : GoodW l) (hn : l.length = n) (hl : l.length ≤ 1000) :
    Calls Tryz.prog 56 #[.pointer (some ⟨gp, 0, none⟩), .slice A n lc] w fun e w' => knownOut w w' e (unsetB vars l) ∧ Below w.heap.size w w' := by
  subst hn
  obtain ⟨cs, hrd, hwc⟩ := hw
  have HV := Lib.hid hv
  have HC := Lib.hid hwc
  have HR := Lib.hid hrd
  have HG := Lib.hid hg
  clear hv hwc hrd hg
  go_enter Tryz.func56, Tryz.ntmps56
  go_wp2
  go_loopw [10] (fun i wr => ∃ j : Nat, j ≤ l.length ∧ i = .int .i64 j ∧ Hid (unsetB vars l = unsetB vars (l.drop j)) ∧ Below w.heap.size w wr) (fun i _ => l.length - (intOf i).toNat)
  case atStart => exact ⟨0, by omega, rfl, rfl, Below.refl _ _⟩
  case round =>
    obtain ⟨j, hj, rfl, HQ, hbel⟩ := hrel
    by_cases hlt : j < l.length
    · obtain ⟨b, o, rfl, hb, hc⟩ := HR.out.rd.at (j * 2) (by rw [HC.out.len]; omega)
      obtain ⟨ao, ac, g1, g2, g3⟩ := HC.out.get j hlt
      have m1 : wr.cell? ⟨b, o + j * 2, none⟩ = some (.slice ao l[j].pl.length ac) := (hbel.cell (p := ⟨b, o + j * 2, none⟩) hb).trans (hc _ _ g1)
      have m2 : wr.cell? ⟨b, o + j * 2 + 1, none⟩ = some (.int .i64 l[j].at_) := (hbel.cell (p := ⟨b, o + j * 2 + 1, none⟩) hb).trans (hc _ _ g2)
      have HO := Lib.hid ((RdT.of_own g3).rd)
      have HU := Lib.hid (unset_pl vars l[j])
      have htb := l[j].tb (HG.out _ (List.getElem_mem hlt)).1
      have HA1 := Lib.hid (fun p (e : unsetA vars l[j].l = some p) => HQ.out.trans (unsetB_some hlt e))
      have HA0 := Lib.hid (fun (e : unsetA vars l[j].l = none) => HQ.out.trans (unsetB_none hlt e))
      have hpl : l[j].pl.length ≤ 3000 := by have := htb.1; have := (HG.out _ (List.getElem_mem hlt)).2; omega
      have hbs := hbel.size
      clear hc g1 g2 g3 htb
      obtain ⟨pl, hpe⟩ : ∃ pl, l[j].pl = pl := ⟨_, rfl⟩
      rw [hpe] at m1 HO HU hpl
      obtain ⟨ua, hue⟩ : ∃ u, unsetA vars l[j].l = u := ⟨_, rfl⟩
      rw [hue] at HU HA1 HA0
      obtain ⟨at_, hat⟩ : ∃ a, l[j].at_ = a := ⟨_, rfl⟩
      rw [hat] at m2
      clear hpe hue hat
      go_wp2
      have hbw : Below w.heap.size w (wr.alloc (.cells #[.slice ao pl.length ac, .int .i64 at_] tFWord)) := hbel.alloc hbs _
      go_loopw [17] (fun i2 wr2 => ∃ q : Nat, q ≤ pl.length ∧ i2 = .int .i64 q ∧ Hid (unsetP vars pl = unsetP vars (pl.drop q)) ∧ Below w.heap.size w wr2) (fun i2 _ => pl.length - (intOf i2).toNat)
      case atStart => exact ⟨0, by omega, rfl, rfl, hbw⟩
      case round =>
        obtain ⟨q, hq, rfl, HQ2, hb2⟩ := hrel
        clear hbel hbs hbw m1 m2
        have hbs2 := hb2.size
        by_cases hql : q < pl.length
        · obtain ⟨b3, o3, rfl, hb3, hc3⟩ := HO.out.at (q * 3) (by rw [pcs_len]; omega)
          obtain ⟨h1, h2, h3⟩ := pcs_get pl q hql
          have m1 : wr.cell? ⟨b3, o3 + q * 3, none⟩ = some (.string (S pl[q].text)) := (hb2.cell (p := ⟨b3, o3 + q * 3, none⟩) hb3).trans (hc3 _ _ h1)
          have m2 : wr.cell? ⟨b3, o3 + q * 3 + 1, none⟩ = some (.bool pl[q].var) := (hb2.cell (p := ⟨b3, o3 + q * 3 + 1, none⟩) hb3).trans (hc3 _ _ h2)
          have m3 : wr.cell? ⟨b3, o3 + q * 3 + 2, none⟩ = some (.int .i64 pl[q].at_) := (hb2.cell (p := ⟨b3, o3 + q * 3 + 2, none⟩) hb3).trans (hc3 _ _ h3)
          have HX := Lib.hid (fun (h : pl[q].var = true) (hm : pl[q].text ∉ vars) => HQ2.out.trans (unsetP_var hql h hm))
          have HN := Lib.hid (fun (h : ¬ (pl[q].var = true ∧ pl[q].text ∉ vars)) => HQ2.out.trans (unsetP_on hql h))
          clear h1 h2 h3 hc3 HQ2
          generalize pl[q].text = tx at *
          generalize pl[q].at_ = pa at *
          cases hvv : pl[q].var
          · have Y := Lib.hid (HN.out (by rw [hvv]; simp))
            rw [hvv] at m2
            clear hvv HX HN
            go_wp2
            have VZ := Lib.hid (HV.out.after (hb2.alloc hbs2 (.cells #[.string (S tx), .bool false, .int .i64 pa] tPiece)))
            have hbz := hb2.alloc hbs2 (.cells #[.string (S tx), .bool false, .int .i64 pa] tPiece)
            have hzz := hbz.size
            obtain ⟨n1, n2, n3, n4⟩ := blk3_new wr (.string (S tx)) (.bool false) (.int .i64 pa) tPiece
            generalize hW : wr.alloc (.cells #[.string (S tx), .bool false, .int .i64 pa] tPiece) = wz at *
            generalize wr.heap.size = gz at *
            clear hW
            obtain ⟨p1, p2, p3, p4⟩ := VZ.out.1.blk2.facts
            have v3 := VZ.out.2.2.1
            go_quiet (fail)
            go_wp2
            go_roundw
            case rel => exact ⟨q + 1, by omega, by go_num, Y, belowDN hbz _⟩
            case measure => simp [intOf]; omega
          · rw [hvv] at m2
            by_cases hmem : tx ∈ vars
            · have Y := Lib.hid (HN.out (by rw [hvv]; simp [hmem]))
              have HM := Lib.hid hmem
              clear hvv HX HN hmem
              go_wp2
              have VZ := Lib.hid (HV.out.after (hb2.alloc hbs2 (.cells #[.string (S tx), .bool true, .int .i64 pa] tPiece)))
              have hbz := hb2.alloc hbs2 (.cells #[.string (S tx), .bool true, .int .i64 pa] tPiece)
              have hzz := hbz.size
              obtain ⟨n1, n2, n3, n4⟩ := blk3_new wr (.string (S tx)) (.bool true) (.int .i64 pa) tPiece
              generalize hW : wr.alloc (.cells #[.string (S tx), .bool true, .int .i64 pa] tPiece) = wz at *
              generalize wr.heap.size = gz at *
              clear hW
              obtain ⟨p1, p2, p3, p4⟩ := VZ.out.1.blk2.facts
              have v3 := VZ.out.2.2.1
              go_quiet (first | (go_at_call 57; refine Calls.quiet_of (lastP_any gp gb m c k _ hm (VZ.out.drewN _).1)) | (go_at_call 71; refine Calls.quiet_of_same (containsP_yes vars tx va _ vc _ rfl (VZ.out.drewN _).2.2.2 hvl HM.out)))
              go_wp2
              go_roundw
              case rel => exact ⟨q + 1, by omega, by go_num, Y, belowDN hbz _⟩
              case measure => simp [intOf]; omega
            · have Y := Lib.hid (HA1.out pa (HU.out.symm.trans (HX.out hvv hmem)))
              have HM := Lib.hid hmem
              clear hvv HX HN hmem
              go_wp2
              have VZ := Lib.hid (HV.out.after (hb2.alloc hbs2 (.cells #[.string (S tx), .bool true, .int .i64 pa] tPiece)))
              have hbz := hb2.alloc hbs2 (.cells #[.string (S tx), .bool true, .int .i64 pa] tPiece)
              have hzz := hbz.size
              obtain ⟨n1, n2, n3, n4⟩ := blk3_new wr (.string (S tx)) (.bool true) (.int .i64 pa) tPiece
              generalize hW : wr.alloc (.cells #[.string (S tx), .bool true, .int .i64 pa] tPiece) = wz at *
              generalize wr.heap.size = gz at *
              clear hW
              obtain ⟨p1, p2, p3, p4⟩ := VZ.out.1.blk2.facts
              have v3 := VZ.out.2.2.1
              go_quiet (first | (go_at_call 57; refine Calls.quiet_of (lastP_any gp gb m c k _ hm (VZ.out.drewN _).1)) | (go_at_call 71; refine Calls.quiet_of_same (containsP_no vars tx va _ vc _ rfl (VZ.out.drewN _).2.2.2 hvl HM.out)))
              go_wp2_with (go_at_call 32; refine (failP_any 7 pa _).mono ?_; rintro e5 w5 ⟨rfl, rfl⟩)
              refine ⟨rfl, ?_, (belowDN hbz _).alloc hzz _⟩
              rw [Y.out]
              exact ⟨_, rfl, hzz, heap_alloc_new _ _⟩
        · have Y := Lib.hid (HA0.out (by rw [← HU.out, HQ2.out, List.drop_of_length_le (by omega)]; rfl))
          clear HQ2
          go_wp2
          go_roundw
          case rel => exact ⟨j + 1, by omega, by go_num, Y, hb2⟩
          case measure => simp [intOf]; omega
    · have Y := Lib.hid (show unsetB vars l = none by rw [HQ.out, List.drop_of_length_le (by omega)]; rfl)
      clear HQ
      go_wp2
      first | go_end0 | refine bodyPost_ret (results_none rfl _ _ _) rfl ?_
      exact ⟨by rw [Y.out]; rfl, hbel⟩
end Go.Proofs.YtflggoddfjmljaaGreatDoor
namespace Go.Proofs.YtflggoddfjmljaaGreatDoor
open Go.RowKit

theorem showsB_ge (s : List UInt8) : s.length ≤ (showsB s).length := by
  induction s with
  | nil => simp
  | cons x r ih =>
    have := (shownB_len x).1
    simp only [showsB, List.flatMap_cons, List.length_append, List.length_cons] at ih ⊢
    omega
theorem formP_take {l : List PieceG} {k : Nat} (h : k < l.length) : formP (l.take (k + 1)) = formP (l.take k) ++ pieceT l[k] := flatMap_take pieceT l k h
theorem formP_le (l : List PieceG) (k : Nat) : (formP (l.take k)).length ≤ (formP l).length := by
  have h : formP l = formP (l.take k) ++ formP (l.drop k) := by
    unfold formP
    rw [← List.flatMap_append, List.take_append_drop]
  rw [h, List.length_append]; omega

set_option maxRecDepth 100000 in
set_option maxHeartbeats 4000000 in
theorem wordStrP_any (x : WordG) (ao : Option Addr) (n c p : Nat) (w : World) (hn : x.pl.length = n) (hp : x.at_ = p) (hg : GoodA x.l) (hl : x.l.length ≤ 2000) (hx : w.ownsRow 0 tPiece 3 (.slice ao n c) n (pcs x.pl)) (hpl : x.pl.length ≤ 100000) :
    Calls Tryz.prog 38 #[.agg #[.slice ao n c, .int .i64 p]] w fun e w' => e = .returned (.string (S (formB x))) ∧ Below w.heap.size w w' := by
  have HF : (formA x.l).length ≤ 26000 := by
    have h3 : (formA x.l).length ≤ x.l.length * 13 := flatMap_len atomT x.l 13 (atomT_len hg)
    omega
  have HB := Lib.hid (show formB x = quoteE (formP x.pl) by unfold formB; rw [form_pl])
  rw [← form_pl] at HF
  generalize x.pl = pl at *
  subst hn
  have hrd := Lib.hid (RdT.of_own hx).rd
  clear hx hg hl hp
  have hbw : Below w.heap.size w (w.alloc (.cells #[.slice ao pl.length c, .int .i64 p] tFWord)) := (Below.refl _ _).alloc (Nat.le_refl _) _
  go_enter Tryz.func38, Tryz.ntmps38
  go_wp2
  generalize hW : w.alloc (.cells #[.slice ao pl.length c, .int .i64 p] tFWord) = w1 at *
  clear hW
  rw [show (ByteArray.mk #[]) = S [] from rfl]
  go_loopw [3, 9] (fun v y wr => ∃ q : Nat, q ≤ pl.length ∧ y = .int .i64 q ∧ v = .string (S (formP (pl.take q))) ∧ Below w.heap.size w wr) (fun _ y _ => pl.length - (intOf y).toNat)
  case atStart => exact ⟨0, by omega, by go_num, rfl, hbw⟩
  case round =>
    obtain ⟨q, hq, rfl, rfl, hbel⟩ := hrel
    have hl0 : (formP (pl.take q)).length ≤ 26000 := Nat.le_trans (formP_le pl q) HF
    by_cases hlt : q < pl.length
    · obtain ⟨b, o, rfl, hb, hc⟩ := hrd.out.at (q * 3) (by rw [pcs_len]; omega)
      obtain ⟨h1, h2, h3⟩ := pcs_get pl q hlt
      have m1 := (hbel.cell (p := ⟨b, o + q * 3, none⟩) hb).trans (hc _ _ h1)
      have m2 := (hbel.cell (p := ⟨b, o + q * 3 + 1, none⟩) hb).trans (hc _ _ h2)
      have m3 := (hbel.cell (p := ⟨b, o + q * 3 + 2, none⟩) hb).trans (hc _ _ h3)
      have HT := Lib.hid (formP_take hlt)
      have HL1 := Lib.hid (show (formP (pl.take q)).length + (pieceT pl[q]).length ≤ 26000 by
        have := Nat.le_trans (formP_le pl (q + 1)) HF
        rw [formP_take hlt, List.length_append] at this; exact this)
      have hql : (q : Int) < (pl.length : Int) := by omega
      clear h1 h2 h3 hc
      obtain ⟨pc, hpc⟩ : ∃ pc, pc = pl[q] := ⟨_, rfl⟩
      rw [← hpc] at m1 m2 m3 HT HL1
      have HPC := Lib.hid hpc
      clear hpc
      have hba : ∀ o, Below w.heap.size w (wr.alloc o) := fun o => hbel.alloc hbel.size o
      have hways : pc.var = true ∨ (pc.var = false ∧ pc.text = []) ∨ (pc.var = false ∧ pc.text ≠ []) := by
        cases pc.var
        · by_cases h : pc.text = []
          · exact .inr (.inl ⟨rfl, h⟩)
          · exact .inr (.inr ⟨rfl, h⟩)
        · exact .inl rfl
      rcases hways with hv | ⟨hv, ht⟩ | ⟨hv, ht⟩
      · have T := Lib.hid (show formP (pl.take (q + 1)) = formP (pl.take q) ++ ([36, 123] ++ pc.text ++ [125]) by rw [HT.out]; unfold pieceT; rw [hv]; rfl)
        have htl : (formP (pl.take q)).length + pc.text.length + 3 ≤ 26000 := by have := HL1.out; unfold pieceT at this; rw [if_pos hv] at this; simp at this; omega
        rw [hv] at m2
        clear hv HT HL1
        go_wp2
        go_roundw
        case rel => exact ⟨q + 1, by omega, by go_num, str_eq (by rw [T.out]; try simp), hba _⟩
        case measure => simp [intOf]; omega
      · have T := Lib.hid (show formP (pl.take (q + 1)) = formP (pl.take q) by rw [HT.out]; unfold pieceT; rw [hv, ht]; simp [showsB])
        rw [hv] at m2
        rw [ht] at m1
        clear hv ht HT HL1
        go_wp2
        go_roundw
        case rel => exact ⟨q + 1, by omega, by go_num, str_eq (by rw [T.out]), hba _⟩
        case measure => simp [intOf]; omega
      · have hsn : showsB pc.text ≠ [] := by
          intro e
          have h1 := showsB_ge pc.text
          rw [e] at h1
          exact ht (List.eq_nil_of_length_eq_zero (by simpa using h1))
        have T := Lib.hid (show formP (pl.take (q + 1)) = formP (pl.take q) ++ quoteE (showsB pc.text) by rw [HT.out]; unfold pieceT; rw [hv]; unfold quoteE; rw [if_neg hsn]; rfl)
        have htl : (formP (pl.take q)).length + (quoteE (showsB pc.text)).length ≤ 26000 := by
          have h2 := HL1.out
          rw [← List.length_append, ← HT.out, T.out, List.length_append] at h2; exact h2
        have htt : pc.text.length ≤ 26000 := by
          have h1 := showsB_ge pc.text
          unfold quoteE at htl
          rw [if_neg hsn] at htl; omega
        have hne : (pc.text == []) = false := by simpa using ht
        have HWr := Lib.hid (fun wx => writtenP_any pc.text wx (by omega))
        rw [hv] at m2
        clear hv ht HT HL1 hsn
        generalize quoteE (showsB pc.text) = qt at *
        go_wp2_with fail
        refine (HWr.out _).mono ?_
        rintro e2 w2 ⟨rfl, hb2⟩
        have HB2 := Lib.hid ((hba _).trans (hb2.mono (hba _).size))
        clear hb2
        go_wp2
        go_roundw
        case rel => exact ⟨q + 1, by omega, by go_num, str_eq (by rw [T.out]), HB2.out⟩
        case measure => simp [intOf]; omega
    · have hqe : q = pl.length := by omega
      have HQ := Lib.hid (show formP (pl.take q) = formP pl by rw [hqe, List.take_length])
      rw [HQ.out]
      clear hqe
      by_cases he : formP pl = []
      · have Z := Lib.hid (show formB x = [34, 34] by rw [HB.out, he]; rfl)
        rw [he]
        have HWr := Lib.hid (fun wx => writtenP_any [] wx (by simp))
        clear he
        go_wp2_with fail
        refine (HWr.out _).mono ?_
        rintro e2 w2 ⟨rfl, hb2⟩
        have HB2 := Lib.hid (hbel.trans (hb2.mono hbel.size))
        clear hb2
        go_wp2
        go_ret
        exact ⟨ret_str Z.out.symm, HB2.out⟩
      · have Z := Lib.hid (show formB x = formP pl by rw [HB.out]; unfold quoteE; rw [if_neg he])
        have hne : (formP pl == []) = false := by simpa using he
        clear he
        go_wp2
        go_ret
        exact ⟨ret_str Z.out.symm, hbel⟩

theorem titleP_neg {st : List StageG} {k : Int} (h : k < 0) : titleB st k = wSCRATCH := by unfold titleB; rw [if_pos h]
theorem titleP_at {st : List StageG} {k : Nat} (h : k < st.length) : titleB st (k : Int) = st[k].name := by unfold titleB; rw [if_neg (by omega)]; simp [h]
set_option maxRecDepth 100000 in
set_option maxHeartbeats 2000000 in
theorem calledP_any (st : List StageG) (B n c gp k0 : Nat) (ao : Option Addr) (k : Int) (w : World) (hn : st.length = n) (hp : w.heap[gp]? = some (Obj.cells #[.slice ao n c, .int .i64 k0] 89 (0, 0))) (hst : FStagesR B w st ao c) (hk : k < (n : Int)) :
    Calls Tryz.prog 36 #[.pointer (some ⟨gp, 0, none⟩), .int .i64 k] w fun e w' => e = .returned (.string (S (titleB st k))) ∧ Below w.heap.size w w' := by
  subst hn
  obtain ⟨c1, c2, c3, c4⟩ := (show Blk2 w gp (.slice ao st.length c) (.int .i64 k0) from ⟨_, hp⟩).facts
  rcases Int.lt_or_le k 0 with h | h
  · have Y := Lib.hid (titleP_neg (st := st) h)
    go_enter Tryz.func36, Tryz.ntmps36
    go_wp2
    go_ret
    exact ⟨ret_str Y.out.symm, Below.refl _ _⟩
  · obtain ⟨k, rfl⟩ : ∃ m : Nat, k = (m : Int) := ⟨k.toNat, by omega⟩
    have hkl : k < st.length := by omega
    obtain ⟨b, o, sa, sc, va, vc, rfl, hb, m1, m2, m3, m4, _, _⟩ := hst.st.get hkl
    have Y := Lib.hid (titleP_at hkl)
    clear hp
    go_enter Tryz.func36, Tryz.ntmps36
    go_wp2
    go_ret
    exact ⟨ret_str Y.out.symm, Below.refl _ _⟩
end Go.Proofs.YtflggoddfjmljaaGreatDoor
