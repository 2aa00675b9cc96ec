/-
  The program's own Parse: a text: its stages, or its first fault: the walk (under way).
  The program's own Parse: the walk (under way).
  Plain words: stages of a file that was parsed stand only on, and take only from, elder ones; which are needed, from the last one down. No program in sight.
  The program's own Parse at any text; layers.Plan; plain.Plan.
  Plain words: the number of a fault is never 0. No program in sight.
  The law Plans: the walk.
-/
import Derived.Test.YtflggoddfjmljaaDoorY05
import Derived.Test.YtflggoddfjmljaaDoorY06
import Derived.Test.YtflggoddfjmljaaDoorY07
import Derived.Test.YtflggoddfjmljaaDoorY17
import Derived.Test.YtflggoddfjmljaaDoorY19
import Derived.Test.YtflggoddfjmljaaDoorY20
import Derived.Test.YtflggoddfjmljaaDoorY23
set_option linter.unusedVariables false
set_option linter.unusedSimpArgs false
namespace Go.Proofs.YtflggoddfjmljaaDoor
open Go.RowKit

/-- what 'Parse' answers -/
def parseOutP (w w' : World) (e : Ending) : Except Flt (List StageG) → Prop
  | .error (f, p) => ∃ n, e = .returned (.tuple #[.pointer none, .iface tPtrAt (.pointer (some ⟨n, 0, none⟩))]) ∧ w.heap.size ≤ n ∧ w'.heap[n]? = some (Obj.cells #[.int .i64 f, .int .i64 p] tAt (0, 0))
  | .ok st => ∃ gp ao c k B, e = .returned (.tuple #[.pointer (some ⟨gp, 0, none⟩), .nilIface]) ∧ PB w' gp ao st.length c k ∧ FStagesR B w' st ao c

/-- at the door: the results' variables are as they were laid -/
structure DoorW (w W : World) : Prop where
  c2 : W.cell? ⟨w.heap.size, 0, none⟩ = some (.pointer none)
  f2 : W.frozen? ⟨w.heap.size, 0, none⟩ = false
  c3 : W.cell? ⟨w.heap.size + 1, 0, none⟩ = some .nilIface
  f3 : W.frozen? ⟨w.heap.size + 1, 0, none⟩ = false
  hb : Below w.heap.size w W
  hs : w.heap.size + 2 ≤ W.heap.size
  t2 : BlkT W w.heap.size 59
  t3 : BlkT W (w.heap.size + 1) 34
theorem DoorW.start (w : World) : DoorW w ((w.alloc (.cells #[.pointer none] 59)).alloc (.cells #[.nilIface] 34)) :=
  ⟨by simp, by simp, by simp, by simp, ((Below.refl _ w).alloc (Nat.le_refl _) _).alloc (by simp) _, by simp, (BlkT.new w #[.pointer none] 59).alloc _, ⟨_, heap_alloc_at _ _ _ (by simp)⟩⟩
theorem DoorW.after {w W W' : World} (h : DoorW w W) (hb : Below (w.heap.size + 2) W W') : DoorW w W' := by
  have h2 : w.heap.size < w.heap.size + 2 := by omega
  have h3 : w.heap.size + 1 < w.heap.size + 2 := by omega
  exact ⟨(hb.cell (p := ⟨w.heap.size, 0, none⟩) h2).trans h.c2, (hb.frozen (p := ⟨w.heap.size, 0, none⟩) h2).trans h.f2, (hb.cell (p := ⟨w.heap.size + 1, 0, none⟩) h3).trans h.c3, (hb.frozen (p := ⟨w.heap.size + 1, 0, none⟩) h3).trans h.f3, h.hb.trans (hb.mono (by omega)), Nat.le_trans h.hs hb.size, h.t2.imp (fun cs e => (hb.block _ h2).trans e), h.t3.imp (fun cs e => (hb.block _ h3).trans e)⟩
/-- behind the closure that has taken the fault: the results, and what is as it was -/
theorem DoorW.caught {w W w1 : World} (h : DoorW w W) (hb : Below W.heap.size W w1) (n : Nat) :
    (w1.setCell ⟨w.heap.size, 0, none⟩ (.pointer none)).cell? ⟨w.heap.size, 0, none⟩ = some (.pointer none) ∧
    ((w1.setCell ⟨w.heap.size, 0, none⟩ (.pointer none)).setCell ⟨w.heap.size + 1, 0, none⟩ (.iface tPtrAt (.pointer (some ⟨n, 0, none⟩)))).cell? ⟨w.heap.size, 0, none⟩ = some (.pointer none) ∧
    ((w1.setCell ⟨w.heap.size, 0, none⟩ (.pointer none)).setCell ⟨w.heap.size + 1, 0, none⟩ (.iface tPtrAt (.pointer (some ⟨n, 0, none⟩)))).cell? ⟨w.heap.size + 1, 0, none⟩ = some (.iface tPtrAt (.pointer (some ⟨n, 0, none⟩))) ∧
    Below w.heap.size w ((w1.setCell ⟨w.heap.size, 0, none⟩ (.pointer none)).setCell ⟨w.heap.size + 1, 0, none⟩ (.iface tPtrAt (.pointer (some ⟨n, 0, none⟩)))) ∧
    (∀ k cs, w.heap.size + 2 ≤ k → W.heap[k]? = some cs → ((w1.setCell ⟨w.heap.size, 0, none⟩ (.pointer none)).setCell ⟨w.heap.size + 1, 0, none⟩ (.iface tPtrAt (.pointer (some ⟨n, 0, none⟩)))).heap[k]? = some cs) := by
  have hd := h.after (hb.mono h.hs)
  have k2 : (w1.setCell ⟨w.heap.size, 0, none⟩ (.pointer none)).cell? ⟨w.heap.size, 0, none⟩ = some (.pointer none) := World.cell?_setCell_same' w1 _ _ (by rw [hd.c2]; rfl)
  have hne : (⟨w.heap.size + 1, 0, none⟩ : Addr).block ≠ (⟨w.heap.size, 0, none⟩ : Addr).block := by show w.heap.size + 1 ≠ w.heap.size; omega
  refine ⟨k2, (World.cell?_setCell_far _ _ _ _ hne).trans k2, World.cell?_setCell_same' _ _ _ (by rw [World.cell?_setCell_far _ _ _ _ hne.symm, hd.c3]; rfl), Below.setCell (Below.setCell hd.hb (Nat.le_refl _) _) (Nat.le_succ _) _, ?_⟩
  intro k cs hk e
  rw [heap_setCell_other _ ⟨w.heap.size + 1, 0, none⟩ k _ (by show k ≠ w.heap.size + 1; omega), heap_setCell_other _ ⟨w.heap.size, 0, none⟩ k _ (by show k ≠ w.heap.size; omega)]
  exact (hb.block k (Array.getElem?_eq_some_iff.1 e).1).trans e

set_option maxRecDepth 100000 in
set_option maxHeartbeats 4000000 in
theorem parseP_long (s : List UInt8) (w : World) (hs : s.length ≤ maxLen) (hg : ErrT w) (hl : 1500 < s.length) :
    Calls Tryd.prog 17 #[.string (S s)] w fun e w' => parseOutP w w' e (.error (10, 1500)) ∧ Below w.heap.size w w' := by
  have hmf : ∀ (fn : Fn) (first cap : Array Value) (w : World), (Instr.makeFunc fn first cap).run Tryd.prog w = .ok (.func fn first cap) w := fun _ _ _ _ => rfl
  unfold maxLen at hs
  have hl' : (1500 : Int) < (s.length : Int) := by omega
  go_enter_defers Tryd.func17, Tryd.ntmps17
  go_wp2_with (go_at_call 30; refine (failP_any 10 1500 _).mono ?_; rintro e9 w9 ⟨rfl, rfl⟩)
  have HD := Lib.hid ((DoorW.start w).after (Below.alloc (Below.refl _ _) (by simp) (.cells #[.int .i64 10, .int .i64 1500] tAt)))
  have hbW : Below w.heap.size w (((w.alloc (.cells #[.pointer none] 59)).alloc (.cells #[.nilIface] 34)).alloc (.cells #[.int .i64 10, .int .i64 1500] tAt)) := (((Below.refl _ w).alloc (Nat.le_refl _) _).alloc (by simp) _).alloc (by simp; omega) _
  refine leaves_cons (f := 29) (args := #[.pointer (some ⟨w.heap.size, 0, none⟩), .pointer (some ⟨w.heap.size + 1, 0, none⟩)]) (by simp) (by simp [go_sem]) ?_
  refine (catch_panicking w.heap.size (w.heap.size + 1) _ [] _ (hg.below hbW) (.pointer none) .nilIface HD.out.c2 HD.out.f2 HD.out.c3 HD.out.f3 (by omega)).mono ?_
  rintro e u' w'' ⟨rfl, rfl, w1, hb1, rfl⟩
  obtain ⟨r1, r2, r3, r4, r5⟩ := HD.out.caught hb1 (w.heap.size + 1 + 1)
  simp [Leaves, settle, results, Tryd.results17, go_sem, r1, r3]
  exact ⟨⟨_, rfl, by omega, r5 _ _ (by omega) (heap_alloc_at _ _ _ (by simp))⟩, r4⟩
end Go.Proofs.YtflggoddfjmljaaDoor
namespace Go.Proofs.YtflggoddfjmljaaDoor
open Go.RowKit

theorem findIdx_at {s : List UInt8} {k : Nat} (hk : k < s.length) (h : ∀ j (hj : j < s.length), j < k → byteB s[j] = true) (hb : byteB s[k] = false) : s.findIdx? (fun c => !byteB c) = some k := by
  rw [List.findIdx?_eq_some_iff_getElem]
  exact ⟨hk, by simp [hb], fun j hj => by simp [h j (by omega) hj]⟩
theorem findIdx_not {s : List UInt8} (h : ∀ j (hj : j < s.length), j < s.length → byteB s[j] = true) : s.findIdx? (fun c => !byteB c) = none := by
  rw [List.findIdx?_eq_none_iff]
  intro x hx
  obtain ⟨j, hj, rfl⟩ := List.getElem_of_mem hx
  simp [h j hj hj]

theorem rowForm {w : World} {base : Nat} {e : TypeId} {size : Nat} {A : Option Addr} {n c : Nat} {xs : List Value} (h : w.ownsRow base e size (.slice A n c) n xs) (hn : 0 < n) : ∃ g, A = some ⟨g, 0, none⟩ ∧ n ≤ c ∧ c ≤ maxLen := by
  rcases h.2 with ⟨_, e2⟩ | ⟨g, cap, cur, e, hg, hh, h1, h2, r⟩
  · omega
  · simp only [Value.slice.injEq] at e
    obtain ⟨rfl, -, rfl⟩ := e
    exact ⟨g, rfl, h1, h2⟩
theorem fileB_R {s : List UInt8} {j n : Nat} {ws : List WordG} {st : List StageG} {steps : Nat} (h : j < s.length) (v : lineB s j [] = .ok (ws, n)) (hw : ws ≠ []) : fileB s j st steps = (match instrR st ws steps with | .error f => .error f | .ok st' => fileB s n st' (steps + 1)) := by
  unfold instrR
  cases hi : instrB st ws with
  | error f => exact fileB_instr0 h v hw hi
  | ok st' =>
    by_cases h24 : 24 < steps + 1
    · rw [fileB_bound h v hw hi h24]; simp [h24]
    · rw [fileB_instr h v hw hi h24]; simp [h24]
theorem instrR_ok {st st' : List StageG} {ws : List WordG} {steps : Nat} (h : instrR st ws steps = .ok st') (hb : StB steps st) (h5 : st.length ≤ 5) : StB (steps + 1) st' ∧ st'.length ≤ 5 ∧ steps + 1 ≤ 24 := by
  unfold instrR at h
  split at h
  · cases h
  · rename_i st2 hi
    split at h
    · cases h
    · rename_i h24
      cases h
      unfold instrB at hi
      split at hi
      · cases hi
      · split at hi
        · cases hi
        · rename_i hn
          split at hi
          · obtain ⟨a, _, b⟩ := fromB_ok hi hb h5
            exact ⟨a.mono (by omega), b, by omega⟩
          · rename_i hF
            obtain ⟨a, _, b⟩ := stepB_ok hi hb h5 (fun e => hn (.inl ⟨e, hF⟩))
            exact ⟨a, b, by omega⟩

/-- Parse under way -/

structure PLInv (w wr : World) (s : List UInt8) (j : Nat) (st : List StageG) (ao : Option Addr) (c steps : Nat) : Prop where
  dw : DoorW w wr
  lex : Lex wr (w.heap.size + 1 + 1 + 1) s j
  pb : PB wr (w.heap.size + 1 + 1) ao st.length c steps
  stg : FStagesR (w.heap.size + 2) wr st ao c
theorem PLInv.lexed {w wr w1 : World} {s : List UInt8} {j n : Nat} {st : List StageG} {ao : Option Addr} {c steps : Nat} (h : PLInv w wr s j st ao c steps) (hf : Fr (fun b => b = w.heap.size + 1 + 1 + 1) wr w1) (hl : Lex w1 (w.heap.size + 1 + 1 + 1) s n) : PLInv w w1 s n st ao c steps :=
  ⟨h.dw.after (hf.toBelow h.dw.hs (fun k e => by omega)), hl, h.pb.keep (hf.keepLex h.lex (by decide)), h.stg.keep (hf.keepLex h.lex (by decide)) (hf.keepLex h.lex (by decide)) (hf.keepLex h.lex (by decide)) (hf.keepLex h.lex (by decide)) (hf.keepLex h.lex (by decide)) hf.size⟩
theorem PLInv.stepped {w wr w1 : World} {s : List UInt8} {j : Nat} {st st' : List StageG} {ao ao' : Option Addr} {c c' steps : Nat} (h : PLInv w wr s j st ao c steps) (hb : Below (w.heap.size + 2) wr w1) (hy : KeepY wr w1) (hp : PB w1 (w.heap.size + 1 + 1) ao' st'.length c' (steps + 1)) (hs : FStagesR (w.heap.size + 2) w1 st' ao' c') : PLInv w w1 s j st' ao' c' (steps + 1) :=
  ⟨h.dw.after hb, hy tLex (by decide) (by decide) (by decide) (by decide) _ _ h.lex, hp, hs⟩

set_option maxRecDepth 100000 in
set_option maxHeartbeats 8000000 in
theorem parseP_short (s : List UInt8) (w : World) (hg : ErrT w) (hord : Ord w) (hl : s.length ≤ 1500) :
    Calls Tryd.prog 17 #[.string (S s)] w fun e w' => parseOutP w w' e (parseB s) ∧ Below w.heap.size w w' := by
  have hmf : ∀ (fn : Fn) (first cap : Array Value) (w : World), (Instr.makeFunc fn first cap).run Tryd.prog w = .ok (.func fn first cap) w := fun _ _ _ _ => rfl
  have hl' : decide ((1500 : Int) < (s.length : Int)) = false := by rw [decide_eq_false_iff_not]; omega
  have HD := Lib.hid (DoorW.start w)
  have HG := Lib.hid hg
  have HO := Lib.hid hord
  clear hg hord
  go_enter_defers Tryd.func17, Tryd.ntmps17
  go_wp2
  go_loop [16] (fun i => ∃ k : Nat, k ≤ s.length ∧ i = .int .i64 k ∧ Hid (∀ j (hj : j < s.length), j < k → byteB s[j] = true)) (fun i => s.length - (intOf i).toNat)
  case atStart => exact ⟨0, by omega, rfl, by intro j hj h; omega⟩
  case round =>
    obtain ⟨k, hk, rfl, hall⟩ := hrel
    by_cases hlt : k < s.length
    · have hB := byteB_iff s[k]
      cases hb : byteB s[k]
      · have HA := Lib.hid (show parseB s = .error (5, k) from parseB_bad hl (findIdx_at hlt hall.out hb))
        have hn : ¬ ((s[k].toNat : Int) = 10 ∨ (32 ≤ (s[k].toNat : Int) ∧ (s[k].toNat : Int) ≤ 126)) := fun h => by rw [hB.2 h] at hb; cases hb
        have hn1 : ¬ (s[k].toNat : Int) = 10 := fun h => hn (.inl h)
        have hn2 : (s[k].toNat : Int) < 32 ∨ 126 < (s[k].toNat : Int) := by omega
        clear hb hB hall hn
        have HDW := Lib.hid (HD.out.after (Below.alloc (Below.refl _ _) (by simp) (.cells #[.int .i64 5, .int .i64 k] tAt)))
        have h10 : ((s[k].toNat : Int) != 10) = true := by rw [bne_iff_ne]; exact hn1
        rcases hn2 with h32 | h126
        · go_wp2_with (go_at_call 30; refine (failP_any 5 k _).mono ?_; rintro e9 w9 ⟨rfl, rfl⟩)
          refine leaves_cons (f := 29) (args := #[.pointer (some ⟨w.heap.size, 0, none⟩), .pointer (some ⟨w.heap.size + 1, 0, none⟩)]) (by simp) (by simp [go_sem]) ?_
          refine (catch_panicking w.heap.size (w.heap.size + 1) _ [] _ (HG.out.below HDW.out.hb) (.pointer none) .nilIface HDW.out.c2 HDW.out.f2 HDW.out.c3 HDW.out.f3 (by omega)).mono ?_
          rintro e u' w'' ⟨rfl, rfl, w1, hb1, rfl⟩
          obtain ⟨r1, r2, r3, r4, r5⟩ := HDW.out.caught hb1 (w.heap.size + 1 + 1)
          simp [Leaves, settle, results, Tryd.results17, go_sem, r1, r3]
          rw [HA.out]
          exact ⟨⟨_, rfl, by omega, r5 _ _ (by omega) (heap_alloc_at _ _ _ (by simp))⟩, r4⟩
        · have h32' : decide ((s[k].toNat : Int) < 32) = false := by rw [decide_eq_false_iff_not]; omega
          go_wp2_with (go_at_call 30; refine (failP_any 5 k _).mono ?_; rintro e9 w9 ⟨rfl, rfl⟩)
          refine leaves_cons (f := 29) (args := #[.pointer (some ⟨w.heap.size, 0, none⟩), .pointer (some ⟨w.heap.size + 1, 0, none⟩)]) (by simp) (by simp [go_sem]) ?_
          refine (catch_panicking w.heap.size (w.heap.size + 1) _ [] _ (HG.out.below HDW.out.hb) (.pointer none) .nilIface HDW.out.c2 HDW.out.f2 HDW.out.c3 HDW.out.f3 (by omega)).mono ?_
          rintro e u' w'' ⟨rfl, rfl, w1, hb1, rfl⟩
          obtain ⟨r1, r2, r3, r4, r5⟩ := HDW.out.caught hb1 (w.heap.size + 1 + 1)
          simp [Leaves, settle, results, Tryd.results17, go_sem, r1, r3]
          rw [HA.out]
          exact ⟨⟨_, rfl, by omega, r5 _ _ (by omega) (heap_alloc_at _ _ _ (by simp))⟩, r4⟩
      · have HA := Lib.hid (show ∀ j (hj : j < s.length), j < k + 1 → byteB s[j] = true by
          intro j hj h
          rcases Nat.lt_or_ge j k with h' | h'
          · exact hall.out j hj h'
          · obtain rfl : j = k := by omega
            exact hb)
        have hn := hB.1 hb
        clear hb hB hall
        by_cases h10 : (s[k].toNat : Int) = 10
        · have h10' : ((s[k].toNat : Int) != 10) = false := by rw [h10]; rfl
          clear hn h10
          go_wp2
          go_round
          case rel => exact ⟨k + 1, by omega, by go_num, HA⟩
          case measure => simp [intOf]; omega
        · have h10' : ((s[k].toNat : Int) != 10) = true := by rw [bne_iff_ne]; exact h10
          have h32' : decide ((s[k].toNat : Int) < 32) = false := by rw [decide_eq_false_iff_not]; omega
          have h126 : decide (126 < (s[k].toNat : Int)) = false := by rw [decide_eq_false_iff_not]; omega
          clear hn h10
          go_wp2
          go_round
          case rel => exact ⟨k + 1, by omega, by go_num, HA⟩
          case measure => simp [intOf]; omega
    · obtain rfl : k = s.length := by omega
      have HP := Lib.hid (show parseB s = fileB s 0 [] 0 from parseB_good hl (findIdx_not (fun j hj _ => hall.out j hj hj)))
      clear hall hk hlt
      go_wp2
      have P0 := Lib.hid (show PLInv w ((((w.alloc (.cells #[.pointer none] 59)).alloc (.cells #[.nilIface] 34)).alloc (.cells #[.slice none 0 0, .int .i64 0] tParser)).alloc (.cells #[.string (S s), .int .i64 0] tLex)) s 0 [] none 0 0 from
        ⟨(HD.out.after ((Below.alloc (Below.alloc (Below.refl _ _) (by simp) _) (by simp) _))), heap_alloc_at _ _ _ (by simp), (heap_alloc_at _ _ _ (by simp) : ((w.alloc (.cells #[.pointer none] 59)).alloc (.cells #[.nilIface] 34) |>.alloc (.cells #[.slice none 0 0, .int .i64 0] tParser)).heap[w.heap.size + 1 + 1]? = _) |> fun h => ((Below.alloc (Below.refl _ _) (Nat.le_refl _) _).block _ (by simp)).trans h, FStagesR.nil _ _ (by simp <;> omega)⟩)
      go_loopw [8] (fun _ wr => ∃ (j : Nat) (st : List StageG) (ao : Option Addr) (c steps : Nat), j ≤ s.length + 1 ∧ steps ≤ 24 ∧ st.length ≤ 5 ∧ Hid (StB steps st) ∧ Hid (parseB s = fileB s j st steps) ∧ Hid (PLInv w wr s j st ao c steps)) (fun _ wr => s.length - atOf wr (w.heap.size + 1 + 1 + 1))
      case atStart => exact ⟨0, [], none, 0, 0, by omega, by omega, by simp, (by intro x hx; cases hx), HP, P0.out⟩
      case round =>
        obtain ⟨j, st, ao, c, steps, hj, hst24, h5, HST, HQ, LI⟩ := hrel
        clear P0
        obtain ⟨c1, c2, c3, c4⟩ := LI.out.lex.blk2.facts
        have hxl := LI.out.lex.lt
        have hat := Lib.hid LI.out.lex.atOf
        by_cases hlt : j < s.length
        · have hlt' : (j : Int) < (s.length : Int) := by omega
          cases hln : lineB s j [] with
          | error p =>
            have Y := Lib.hid (show parseB s = .error (5, p) by rw [HQ.out]; exact fileB_line0 hlt hln)
            have HV := Lib.hid hln
            clear hln HQ
            go_wp2_with (go_at_call 31; refine (lineP_any s (w.heap.size + 1 + 1 + 1) j _ (by omega) (by omega) LI.out.lex).mono ?_; rintro e6 w6 ⟨ho6, hf6⟩; rw [HV.out] at ho6; obtain ⟨n6, rfl, h6, h7⟩ := ho6; have HDW := Lib.hid (LI.out.dw.after (hf6.toBelow LI.out.dw.hs (fun k e => by omega))); have h66 : w.heap.size + 2 ≤ n6 := Nat.le_trans LI.out.dw.hs h6)
            refine leaves_cons (f := 29) (args := #[.pointer (some ⟨w.heap.size, 0, none⟩), .pointer (some ⟨w.heap.size + 1, 0, none⟩)]) (by simp) (by simp [go_sem]) ?_
            refine (catch_panicking w.heap.size (w.heap.size + 1) _ [] _ (HG.out.below HDW.out.hb) (.pointer none) .nilIface HDW.out.c2 HDW.out.f2 HDW.out.c3 HDW.out.f3 (by omega)).mono ?_
            rintro e u' w'' ⟨rfl, rfl, wq, hbq, rfl⟩
            obtain ⟨r1, r2, r3, r4, r5⟩ := HDW.out.caught hbq n6
            simp [Leaves, settle, results, Tryd.results17, go_sem, r1, r3]
            rw [Y.out]
            exact ⟨⟨_, rfl, by omega, r5 _ _ (by omega) h7⟩, r4⟩
          | ok wn =>
            obtain ⟨ws, n⟩ := wn
            have hle := lineB_le _ _ _ _ _ hln
            have hn1 := hle.1
            have hn2 := (hle.2 (by omega)).1
            have hn3 := (hle.2 (by omega)).2
            have HV := Lib.hid hln
            cases ws with
            | nil =>
              have Y := Lib.hid (show parseB s = fileB s n st steps by rw [HQ.out]; exact fileB_nil hlt hln)
              clear hln HQ hle
              go_wp2_with (go_at_call 31; refine (lineP_any s (w.heap.size + 1 + 1 + 1) j _ (by omega) (by omega) LI.out.lex).mono ?_; rintro e6 w6 ⟨ho6, hf6⟩; rw [HV.out] at ho6; obtain ⟨A6, c6, cs6, rfl, hl6, ho6, hw6⟩ := ho6; have LI6 := Lib.hid (LI.out.lexed hf6 hl6); clear hl6 ho6 hw6 hf6)
              go_roundw
              case rel => exact ⟨n, st, ao, c, steps, by omega, hst24, h5, HST, Y, LI6⟩
              case measure =>
                rw [hat.out, LI6.out.lex.atOf]
                omega
            | cons x0 l =>
              simp only [List.length_cons, List.length_nil] at hn3
              have hgl := lineB_good _ _ _ _ _ hln (by intro x hx; cases hx)
              have HGW := Lib.hid (show GoodW (x0 :: l) from fun x hx => ⟨(hgl x hx).1, by have := (hgl x hx).2.1; omega⟩)
              have hfr := fileB_R (st := st) (steps := steps) hlt hln (by simp)
              clear hgl hle
              cases hr : instrR st (x0 :: l) steps with
              | error fp =>
                obtain ⟨f7, p7⟩ := fp
                have Y := Lib.hid (show parseB s = .error (f7, p7) by rw [HQ.out, hfr, hr])
                have HV2 := Lib.hid hr
                clear hr hfr HQ hln
                go_wp2_with (first
                  | (go_at_call 31; refine (lineP_any s (w.heap.size + 1 + 1 + 1) j _ (by omega) (by omega) LI.out.lex).mono ?_; rintro e6 w6 ⟨ho6, hf6⟩; rw [HV.out] at ho6; obtain ⟨A6, cw, cs6, rfl, hl6, hr6, hw6⟩ := ho6; obtain ⟨g7, rfl, hcw1, hcw2⟩ := rowForm hr6 (by simp); have LI6 := Lib.hid (LI.out.lexed hf6 hl6); have HW6 := Lib.hid (show FWordsR w6 (some ⟨g7, 0, none⟩) (x0 :: l) from ⟨cs6, RdT.of_own hr6, hw6⟩); simp only [List.length_cons] at hcw1; clear hl6 hr6 hw6 hf6)
                  | (go_at_call 32; refine (instrP_any st x0 l (w.heap.size + 2) (w.heap.size + 1 + 1) g7 0 cw c steps ao w6 h5 (HST.out.mono (by omega)) hst24 LI6.out.pb LI6.out.stg LI6.out.dw.hs (by omega) (HO.out.after LI6.out.dw.hb) HW6.out HGW.out (by omega) hcw1 hcw2).mono ?_; rintro e7 w7 ⟨ho7, hb7, hy7⟩; rw [HV2.out] at ho7; obtain ⟨n6, rfl, h6, h7⟩ := ho7; have HDW := Lib.hid (LI6.out.dw.after hb7); have h66 : w.heap.size + 2 ≤ n6 := Nat.le_trans LI6.out.dw.hs h6))
                refine leaves_cons (f := 29) (args := #[.pointer (some ⟨w.heap.size, 0, none⟩), .pointer (some ⟨w.heap.size + 1, 0, none⟩)]) (by simp) (by simp [go_sem]) ?_
                refine (catch_panicking w.heap.size (w.heap.size + 1) _ [] _ (HG.out.below HDW.out.hb) (.pointer none) .nilIface HDW.out.c2 HDW.out.f2 HDW.out.c3 HDW.out.f3 (by omega)).mono ?_
                rintro e u' w'' ⟨rfl, rfl, wq, hbq, rfl⟩
                obtain ⟨r1, r2, r3, r4, r5⟩ := HDW.out.caught hbq n6
                simp [Leaves, settle, results, Tryd.results17, go_sem, r1, r3]
                rw [Y.out]
                exact ⟨⟨_, rfl, by omega, r5 _ _ (by omega) h7⟩, r4⟩
              | ok st' =>
                have hok := instrR_ok hr HST.out h5
                have HST2 := Lib.hid hok.1
                have hs5 := hok.2.1
                have hst3 := hok.2.2
                have Y := Lib.hid (show parseB s = fileB s n st' (steps + 1) by rw [HQ.out, hfr, hr])
                have HV2 := Lib.hid hr
                clear hr hfr HQ hln hok
                go_wp2_with (first
                  | (go_at_call 31; refine (lineP_any s (w.heap.size + 1 + 1 + 1) j _ (by omega) (by omega) LI.out.lex).mono ?_; rintro e6 w6 ⟨ho6, hf6⟩; rw [HV.out] at ho6; obtain ⟨A6, cw, cs6, rfl, hl6, hr6, hw6⟩ := ho6; obtain ⟨g7, rfl, hcw1, hcw2⟩ := rowForm hr6 (by simp); have LI6 := Lib.hid (LI.out.lexed hf6 hl6); have HW6 := Lib.hid (show FWordsR w6 (some ⟨g7, 0, none⟩) (x0 :: l) from ⟨cs6, RdT.of_own hr6, hw6⟩); simp only [List.length_cons] at hcw1; clear hl6 hr6 hw6 hf6)
                  | (go_at_call 32; refine (instrP_any st x0 l (w.heap.size + 2) (w.heap.size + 1 + 1) g7 0 cw c steps ao w6 h5 (HST.out.mono (by omega)) hst24 LI6.out.pb LI6.out.stg LI6.out.dw.hs (by omega) (HO.out.after LI6.out.dw.hb) HW6.out HGW.out (by omega) hcw1 hcw2).mono ?_; rintro e7 w7 ⟨ho7, hb7, hy7⟩; rw [HV2.out] at ho7; obtain ⟨rfl, ao7, c7, hp7, hs7⟩ := ho7; have LI7 := Lib.hid (LI6.out.stepped hb7 hy7 hp7 hs7)))
                go_roundw
                case rel => exact ⟨n, st', ao7, c7, steps + 1, by omega, hst3, hs5, HST2, Y, LI7⟩
                case measure =>
                  rw [hat.out, LI7.out.lex.atOf]
                  omega
        · have hlt' : decide ((j : Int) < (s.length : Int)) = false := by rw [decide_eq_false_iff_not]; omega
          obtain ⟨p1, p2, p3, p4⟩ := LI.out.pb.blk2.facts
          have hpl := LI.out.pb.lt
          by_cases hst0 : st = []
          · have Y := Lib.hid (show parseB s = .error (5, s.length) by rw [HQ.out, fileB_end (by omega), if_pos hst0])
            have hs0 : ((st.length : Int) == 0) = true := by rw [hst0]; rfl
            have HDW := Lib.hid (LI.out.dw.after (Below.alloc (Below.refl _ _) LI.out.dw.hs (.cells #[.int .i64 5, .int .i64 s.length] tAt)))
            have hws := LI.out.dw.hs
            clear hst0 HQ
            go_wp2_with (go_at_call 30; refine (failP_any 5 s.length _).mono ?_; rintro e9 w9 ⟨rfl, rfl⟩)
            refine leaves_cons (f := 29) (args := #[.pointer (some ⟨w.heap.size, 0, none⟩), .pointer (some ⟨w.heap.size + 1, 0, none⟩)]) (by simp) (by simp [go_sem]) ?_
            refine (catch_panicking w.heap.size (w.heap.size + 1) _ [] _ (HG.out.below HDW.out.hb) (.pointer none) .nilIface HDW.out.c2 HDW.out.f2 HDW.out.c3 HDW.out.f3 (by omega)).mono ?_
            rintro e u' w'' ⟨rfl, rfl, wq, hbq, rfl⟩
            obtain ⟨r1, r2, r3, r4, r5⟩ := HDW.out.caught hbq wr.heap.size
            simp [Leaves, settle, results, Tryd.results17, go_sem, r1, r3]
            rw [Y.out]
            exact ⟨⟨_, rfl, by omega, r5 _ _ (by omega) (heap_alloc_new _ _)⟩, r4⟩
          · have Y := Lib.hid (show parseB s = .ok st by rw [HQ.out, fileB_end (by omega), if_neg hst0])
            have hs0 : ((st.length : Int) == 0) = false := by
              rw [beq_eq_false_iff_ne]; intro e; exact hst0 (List.eq_nil_of_length_eq_zero (by omega))
            have d2 := LI.out.dw.c2
            have d3 := LI.out.dw.c3
            have e2 := LI.out.dw.f2
            have e3 := LI.out.dw.f3
            have hws := LI.out.dw.hs
            clear hst0 HQ
            go_wp2
            refine leaves_cons (f := 29) (args := #[.pointer (some ⟨w.heap.size, 0, none⟩), .pointer (some ⟨w.heap.size + 1, 0, none⟩)]) (by simp) (by simp [go_sem]) ?_
            refine (catch_idle _ _ _).mono ?_
            rintro e u' w'' ⟨rfl, rfl, rfl⟩
            have hne : (⟨w.heap.size + 1, 0, none⟩ : Addr).block ≠ (⟨w.heap.size, 0, none⟩ : Addr).block := by show w.heap.size + 1 ≠ w.heap.size; omega
            have b1 := LI.out.dw.t2
            have b1' := b1.set 0 (.pointer (some ⟨w.heap.size + 1 + 1, 0, none⟩))
            have b2 : BlkT (wr.setCell ⟨w.heap.size, 0, none⟩ (.pointer (some ⟨w.heap.size + 1 + 1, 0, none⟩))) (w.heap.size + 1) 34 := LI.out.dw.t3.far _ (by omega)
            have k2 : (wr.setCell ⟨w.heap.size, 0, none⟩ (.pointer (some ⟨w.heap.size + 1 + 1, 0, none⟩))).cell? ⟨w.heap.size, 0, none⟩ = some (.pointer (some ⟨w.heap.size + 1 + 1, 0, none⟩)) := World.cell?_setCell_same' wr _ _ (by rw [d2]; rfl)
            have q2 := (World.cell?_setCell_far _ ⟨w.heap.size + 1, 0, none⟩ ⟨w.heap.size, 0, none⟩ .nilIface hne).trans k2
            have q3 : ((wr.setCell ⟨w.heap.size, 0, none⟩ (.pointer (some ⟨w.heap.size + 1 + 1, 0, none⟩))).setCell ⟨w.heap.size + 1, 0, none⟩ .nilIface).cell? ⟨w.heap.size + 1, 0, none⟩ = some .nilIface := World.cell?_setCell_same' _ _ _ (by rw [World.cell?_setCell_far _ _ _ _ hne.symm, d3]; rfl)
            have hT : ∀ T, T ≠ 59 → T ≠ 34 → KeepT T wr ((wr.setCell ⟨w.heap.size, 0, none⟩ (.pointer (some ⟨w.heap.size + 1 + 1, 0, none⟩))).setCell ⟨w.heap.size + 1, 0, none⟩ .nilIface) := fun T h1 h2 => (KeepT.setT b1 (fun e => h1 e.symm) _ _).trans (KeepT.setT b2 (fun e => h2 e.symm) _ _)
            have hbo : ∀ {W : World} (o : Obj), Below W.heap.size W (W.alloc o) := fun o => Below.alloc (Below.refl _ _) (Nat.le_refl _) o
            have HPE := Lib.hid ((LI.out.pb.keep (hT _ (by decide) (by decide))).after (hbo (.cells #[.pointer none] tPtrAt)))
            have HSE := Lib.hid ((LI.out.stg.keep (hT _ (by decide) (by decide)) (hT _ (by decide) (by decide)) (hT _ (by decide) (by decide)) (hT _ (by decide) (by decide)) (hT _ (by decide) (by decide)) (by simp)).after (hbo (.cells #[.pointer none] tPtrAt)))
            have hbE : Below w.heap.size w (((wr.setCell ⟨w.heap.size, 0, none⟩ (.pointer (some ⟨w.heap.size + 1 + 1, 0, none⟩))).setCell ⟨w.heap.size + 1, 0, none⟩ .nilIface).alloc (.cells #[.pointer none] tPtrAt)) := Below.alloc (Below.setCell (Below.setCell LI.out.dw.hb (Nat.le_refl _) _) (Nat.le_succ _) _) (by simp; omega) _
            have z2 : w.heap.size < ((wr.setCell ⟨w.heap.size, 0, none⟩ (.pointer (some ⟨w.heap.size + 1 + 1, 0, none⟩))).setCell ⟨w.heap.size + 1, 0, none⟩ .nilIface).heap.size := by simp; omega
            have z3 : w.heap.size + 1 < ((wr.setCell ⟨w.heap.size, 0, none⟩ (.pointer (some ⟨w.heap.size + 1 + 1, 0, none⟩))).setCell ⟨w.heap.size + 1, 0, none⟩ .nilIface).heap.size := by simp; omega
            have v2 := (World.cell?_alloc_lt ((wr.setCell ⟨w.heap.size, 0, none⟩ (.pointer (some ⟨w.heap.size + 1 + 1, 0, none⟩))).setCell ⟨w.heap.size + 1, 0, none⟩ .nilIface) (.cells #[.pointer none] tPtrAt) ⟨w.heap.size, 0, none⟩ z2).trans q2
            have v3 := (World.cell?_alloc_lt ((wr.setCell ⟨w.heap.size, 0, none⟩ (.pointer (some ⟨w.heap.size + 1 + 1, 0, none⟩))).setCell ⟨w.heap.size + 1, 0, none⟩ .nilIface) (.cells #[.pointer none] tPtrAt) ⟨w.heap.size + 1, 0, none⟩ z3).trans q3
            generalize hWE : ((wr.setCell ⟨w.heap.size, 0, none⟩ (.pointer (some ⟨w.heap.size + 1 + 1, 0, none⟩))).setCell ⟨w.heap.size + 1, 0, none⟩ .nilIface).alloc (.cells #[.pointer none] tPtrAt) = wE at *
            simp [Leaves, settle, results, Tryd.results17, go_sem, v2, v3]
            rw [Y.out]
            exact ⟨⟨_, ao, c, steps, _, rfl, HPE.out, HSE.out⟩, hbE⟩
end Go.Proofs.YtflggoddfjmljaaDoor
namespace Go.Proofs.YtflggoddfjmljaaDoor
open Go.RowKit

theorem WfS.nil : WfS [] := fun i h => by simp at h
theorem calledB_lt (st : List StageG) (x : List UInt8) : calledB st x < (st.length : Int) := by
  rcases calledB_cases st x with h | ⟨k, hk, h⟩ <;> rw [h] <;> omega
theorem WfS.snoc {init : List StageG} {y : StageG} (h : WfS init) (h1 : y.base < (init.length : Int)) (h2 : ∀ x ∈ y.steps, x.stage < (init.length : Int)) : WfS (init ++ [y]) := by
  intro i hi
  rw [List.length_append, List.length_singleton] at hi
  rcases Nat.lt_or_ge i init.length with h' | h'
  · rw [List.getElem_append_left h']; exact h i h'
  · obtain rfl : i = init.length := by omega
    rw [List.getElem_append_right (Nat.le_refl _)]; simp; exact ⟨h1, h2⟩
theorem WfS.init {init : List StageG} {y : StageG} (h : WfS (init ++ [y])) : WfS init ∧ y.base < (init.length : Int) ∧ ∀ x ∈ y.steps, x.stage < (init.length : Int) := by
  refine ⟨fun i hi => ?_, ?_⟩
  · have := h i (by rw [List.length_append]; omega)
    rwa [List.getElem_append_left hi] at this
  · have := h init.length (by simp)
    rw [List.getElem_append_right (Nat.le_refl _)] at this
    simpa using this
theorem fromB_wf {st st' : List StageG} {ws : List WordG} (h : fromB st ws = .ok st') (hw : WfS st) : WfS st' := by
  unfold fromB at h
  split at h
  · cases h
  · repeat' split at h
    all_goals first
      | (cases h; done)
      | (cases h; exact hw.snoc (calledB_lt _ _) (fun x hx => by cases hx))
theorem looksB_stage {st : List StageG} {op : List UInt8} {ws l : List WordG} {k : Int} (h : looksB st op ws = .ok (k, l)) (hne : st ≠ []) : k < (st.length : Int) - 1 := by
  have hp : 0 < st.length := List.length_pos_iff.2 hne
  unfold looksB at h
  split at h
  · unfold takenB at h
    repeat' split at h
    all_goals first
      | (cases h; done)
      | (cases h; omega)
      | (rename_i hn; cases h; have := calledB_lt st ((nth ws 1).text.drop 7); omega)
  · split at h
    · split at h <;> cases h; omega
    · split at h
      · split at h <;> cases h; omega
      · cases h; omega
theorem stepB_wf {st st' : List StageG} {op : List UInt8} {ws : List WordG} (h : stepB st op ws = .ok st') (hw : WfS st) (hne : st ≠ []) : WfS st' := by
  unfold stepB at h
  split at h
  · cases h
  · rename_i k l hl
    have hk := looksB_stage hl hne
    split at h
    · cases h
    · cases h
      obtain ⟨init, y, rfl⟩ : ∃ init y, st = init ++ [y] := ⟨st.dropLast, st.getLast hne, (List.dropLast_concat_getLast hne).symm⟩
      rw [pushB_last]
      obtain ⟨h1, h2, h3⟩ := hw.init
      refine h1.snoc h2 ?_
      intro x hx
      rcases List.mem_append.1 hx with hx | hx
      · exact h3 x hx
      · simp only [List.mem_singleton] at hx
        subst hx
        rw [List.length_append, List.length_singleton] at hk
        show k < _
        omega
theorem instrR_wf {st st' : List StageG} {ws : List WordG} {n : Nat} (h : instrR st ws n = .ok st') (hw : WfS st) : WfS st' := by
  unfold instrR at h
  split at h
  · cases h
  · rename_i st2 hi
    split at h
    · cases h
    · cases h
      unfold instrB at hi
      split at hi
      · cases hi
      · split at hi
        · cases hi
        · rename_i hn
          split at hi
          · exact fromB_wf hi hw
          · rename_i hF
            exact stepB_wf hi hw (fun e => hn (.inl ⟨e, hF⟩))
theorem fileB_ok (s : List UInt8) (j : Nat) (st st' : List StageG) (n : Nat) (h : fileB s j st n = .ok st') (hw : WfS st) (hb : StB n st) (h5 : st.length ≤ 5) (hn : n ≤ 24) : FileOk st' := by
  induction hm : s.length - j using Nat.strongRecOn generalizing j st n with
  | ind m ih =>
    by_cases hj : j < s.length
    · cases hl : lineB s j [] with
      | error p => rw [fileB_line0 hj hl] at h; cases h
      | ok wn =>
        obtain ⟨ws, k⟩ := wn
        have hle := (lineB_le _ _ _ _ _ hl).1
        by_cases hws : ws = []
        · subst hws
          rw [fileB_nil hj hl] at h
          exact ih (s.length - k) (by omega) k st n h hw hb h5 hn rfl
        · rw [fileB_R hj hl hws] at h
          cases hi : instrR st ws n with
          | error f => rw [hi] at h; cases h
          | ok st2 =>
            rw [hi] at h
            obtain ⟨a, b, c⟩ := instrR_ok hi hb h5
            exact ih (s.length - k) (by omega) k st2 (n + 1) h (instrR_wf hi hw) a b c rfl
    · rw [fileB_end (by omega)] at h
      split at h
      · cases h
      · rename_i hne
        cases h
        exact ⟨hw, hne, h5, hb.mono hn⟩
theorem parseB_ok {s : List UInt8} {st : List StageG} (h : parseB s = .ok st) : FileOk st := by
  unfold parseB at h
  split at h
  · cases h
  · split at h
    · cases h
    · exact fileB_ok s 0 [] st 0 h WfS.nil (fun x hx => by cases hx) (by simp) (by omega)
end Go.Proofs.YtflggoddfjmljaaDoor
namespace Go.Proofs.YtflggoddfjmljaaDoor
open Go.RowKit

theorem parseP_any (s : List UInt8) (w : World) (hs : s.length ≤ maxLen) (hg : ErrT w) (hord : Ord w) :
    Calls Tryd.prog 17 #[.string (S s)] w fun e w' => parseOutP w w' e (parseB s) ∧ Below w.heap.size w w' := by
  by_cases hl : 1500 < s.length
  · rw [show parseB s = .error (10, 1500) by unfold parseB; rw [if_pos hl]]
    exact parseP_long s w hs hg hl
  · exact parseP_short s w hg hord (by omega)

/-- what layers.Plan answers -/
def planOutL (w w' : World) (e : Ending) : Except Flt (List StageG) → Prop
  | .error (f, p) => ∃ n, e = .returned (.tuple #[.slice none 0 0, .iface tPtrAt (.pointer (some ⟨n, 0, none⟩))]) ∧ w'.cell? ⟨n, 0, none⟩ = some (.int .i64 f) ∧ w'.cell? ⟨n, 1, none⟩ = some (.int .i64 p)
  | .ok st => ∃ ao c, e = .returned (.tuple #[.slice ao (needL st).length c, .nilIface]) ∧ w'.ownsRow w.heap.size 3 1 (.slice ao (needL st).length c) (needL st).length (ints (needL st))
/-- what plain.Plan answers -/
def planOutP (w w' : World) (e : Ending) : Except Flt (List StageG) → Prop
  | .error (f, p) => e = .returned (.tuple #[.slice none 0 0, .int .i64 f, .int .i64 p])
  | .ok st => ∃ ao c, e = .returned (.tuple #[.slice ao (needL st).length c, .int .i64 0, .int .i64 (-1)]) ∧ w'.ownsRow w.heap.size 3 1 (.slice ao (needL st).length c) (needL st).length (ints (needL st))
theorem cells_of_block {w : World} {n : Nat} {a b : Value} {t : TypeId} (h : w.heap[n]? = some (Obj.cells #[a, b] t (0, 0))) : w.cell? ⟨n, 0, none⟩ = some a ∧ w.cell? ⟨n, 1, none⟩ = some b := by
  obtain ⟨c1, c2, _, _⟩ := (show Blk2 w n a b from ⟨t, h⟩).facts
  exact ⟨c1, c2⟩

set_option maxHeartbeats 4000000 in
theorem planL_any (s : List UInt8) (w : World) (hs : s.length ≤ maxLen) (hg : ErrT w) (hord : Ord w) :
    Calls Tryd.prog 7 #[.string (S s)] w fun e w' => planOutL w w' e (parseB s) ∧ Below w.heap.size w w' := by
  have HG := Lib.hid hg
  have HO := Lib.hid hord
  clear hg hord
  cases hP : parseB s with
  | error fp =>
    obtain ⟨f, p⟩ := fp
    have HP := Lib.hid hP
    clear hP
    go_enter Tryd.func7, Tryd.ntmps7
    go_wp2_with (go_at_call 17; refine (parseP_any s _ hs HG.out HO.out).mono ?_; rintro e1 w1 ⟨ho1, hb1⟩; rw [HP.out] at ho1; obtain ⟨n1, rfl, h1, h2⟩ := ho1; have HC := Lib.hid (cells_of_block h2))
    go_ret2
    exact ⟨⟨_, rfl, HC.out.1, HC.out.2⟩, hb1⟩
  | ok st =>
    have HP := Lib.hid hP
    have HK := Lib.hid (parseB_ok hP)
    have hn : st.length = (st.length - 1) + 1 := by
      have := List.length_pos_iff.2 HK.out.ne
      omega
    have HN := Lib.hid hn
    clear hP hn
    go_enter Tryd.func7, Tryd.ntmps7
    go_wp2_with (first
      | (go_at_call 17; refine (parseP_any s _ hs HG.out HO.out).mono ?_; rintro e1 w1 ⟨ho1, hb1⟩; rw [HP.out] at ho1; obtain ⟨gp, ao, c, k, B, rfl, h1, h2⟩ := ho1; have HB := Lib.hid h1; have HS := Lib.hid h2; clear h1 h2)
      | (go_at_call 18; refine (neededP_n st (st.length - 1) gp c k B ao _ HN.out (by rw [← HN.out]; exact HB.out) HS.out HK.out).mono ?_; rintro e2 w2 ⟨⟨ao2, c2, rfl, ho2⟩, hb2⟩))
    go_ret2
    exact ⟨⟨_, _, rfl, ownsRow_base ho2 hb1.size⟩, hb1.trans (hb2.mono hb1.size)⟩

set_option maxHeartbeats 4000000 in
theorem planP_any (s : List UInt8) (w : World) (hs : s.length ≤ maxLen) (hg : ErrT w) (hord : Ord w) :
    Calls Tryd.prog 4 #[.string (S s)] w fun e w' => planOutP w w' e (parseB s) ∧ Below w.heap.size w w' := by
  have HG := Lib.hid hg
  have HO := Lib.hid hord
  clear hg hord
  cases hP : parseB s with
  | error fp =>
    obtain ⟨f, p⟩ := fp
    have HP := Lib.hid hP
    clear hP
    go_enter Tryd.func4, Tryd.ntmps4
    go_wp2_with (first
      | (go_at_call 7; refine (planL_any s _ hs HG.out HO.out).mono ?_; rintro e1 w1 ⟨ho1, hb1⟩; rw [HP.out] at ho1; obtain ⟨n1, rfl, h1, h2⟩ := ho1; have H1 := Lib.hid h1; have H2 := Lib.hid h2; clear h1 h2)
      | (go_at_call 8; refine (tell_at n1 0 f p _ (HG.out.below hb1) H1.out H2.out).mono ?_; rintro e2 w2 ⟨rfl, hb2⟩))
    go_ret3
    exact ⟨rfl, hb1.trans (hb2.mono hb1.size)⟩
  | ok st =>
    have HP := Lib.hid hP
    clear hP
    go_enter Tryd.func4, Tryd.ntmps4
    go_wp2_with (first
      | (go_at_call 7; refine (planL_any s _ hs HG.out HO.out).mono ?_; rintro e1 w1 ⟨ho1, hb1⟩; rw [HP.out] at ho1; obtain ⟨ao, c, rfl, h1⟩ := ho1; have H1 := Lib.hid h1; clear h1)
      | (go_at_call 8; refine (tell_nil _).mono ?_; rintro e2 w2 ⟨rfl, hb2⟩))
    go_ret3
    exact ⟨⟨_, _, rfl, ownsRow_below H1.out hb2⟩, hb1.trans (hb2.mono hb1.size)⟩
end Go.Proofs.YtflggoddfjmljaaDoor
namespace Go.Proofs.YtflggoddfjmljaaDoor
open Go.RowKit

theorem instrR_err {st : List StageG} {ws : List WordG} {n f p : Nat} (h : instrR st ws n = .error (f, p)) : f ≠ 0 := by
  unfold instrR at h
  split at h
  · rename_i f' hi
    cases h
    unfold instrB at hi
    split at hi
    · cases hi; decide
    · split at hi
      · cases hi; decide
      · split at hi
        · have := fromB_err hi; omega
        · have := stepB_err hi; omega
  · split at h
    · cases h; decide
    · cases h
theorem fileB_err (s : List UInt8) (j : Nat) (st : List StageG) (n f p : Nat) (h : fileB s j st n = .error (f, p)) : f ≠ 0 := by
  induction hm : s.length - j using Nat.strongRecOn generalizing j st n with
  | ind m ih =>
    by_cases hj : j < s.length
    · cases hl : lineB s j [] with
      | error q => rw [fileB_line0 hj hl] at h; cases h; decide
      | ok wn =>
        obtain ⟨ws, k⟩ := wn
        have hle := (lineB_le _ _ _ _ _ hl).1
        by_cases hws : ws = []
        · subst hws
          rw [fileB_nil hj hl] at h
          exact ih (s.length - k) (by omega) k st n h rfl
        · rw [fileB_R hj hl hws] at h
          cases hi : instrR st ws n with
          | error fq => rw [hi] at h; cases h; exact instrR_err hi
          | ok st2 =>
            rw [hi] at h
            exact ih (s.length - k) (by omega) k st2 (n + 1) h rfl
    · rw [fileB_end (by omega)] at h
      split at h
      · cases h; decide
      · cases h
theorem parseB_err {s : List UInt8} {f p : Nat} (h : parseB s = .error (f, p)) : f ≠ 0 := by
  unfold parseB at h
  split at h
  · cases h; decide
  · split at h
    · cases h; decide
    · exact fileB_err s 0 [] 0 f p h
end Go.Proofs.YtflggoddfjmljaaDoor
namespace Go.Proofs.YtflggoddfjmljaaDoor
open Go.RowKit

/-- numbers that lie in a row are read -/
theorem ints_at {w : World} {B c : Nat} {A : Option Addr} {l : List Nat} (h : w.ownsRow B 3 1 (.slice A l.length c) l.length (ints l)) {k : Nat} (hk : k < l.length) : ∃ g, A = some ⟨g, 0, none⟩ ∧ g < w.heap.size ∧ w.cell? ⟨g, k, none⟩ = some (.int .i64 (l[k] : Int)) := by
  obtain ⟨g, rfl, h1, h2⟩ := rowForm1 h (by omega)
  have hc := h.cells (g := g) rfl k (.int .i64 (l[k] : Int)) (by simp [ints, hk])
  have ha : (⟨g, 0, none⟩ : Addr).add k = ⟨g, k, none⟩ := by unfold Addr.add; split <;> simp_all
  rw [ha] at hc
  exact ⟨g, rfl, own_lt h g rfl, hc⟩

set_option maxRecDepth 100000 in
set_option maxHeartbeats 8000000 in
theorem plans_any (s : List UInt8) (w : World) (hs : s.length ≤ maxLen) (hg : ErrT w) (hord : Ord w) :
    Calls Tryd.prog 3 #[.string (S s)] w fun e w' => e = .returned (.bool true) ∧ Below w.heap.size w w' := by
  have HG := Lib.hid hg
  have HO := Lib.hid hord
  clear hg hord
  go_enter Tryd.func3, Tryd.ntmps3
  go_wp2_with fail
  refine (planP_any knownT _ (by decide) HG.out HO.out).mono ?_
  rintro e1 w1 ⟨ho1, hb1⟩
  rw [known_parse] at ho1
  obtain ⟨A1, c1, rfl, ho1⟩ := ho1
  rw [known_need] at ho1 ⊢
  obtain ⟨g1, rfl, hg1, hc1⟩ := ints_at ho1 (k := 0) (by decide)
  have HB1 := Lib.hid hb1
  have hc1' : w1.cell? ⟨g1, 0, none⟩ = some (.int .i64 1) := hc1
  clear hc1 ho1 hb1
  go_wp2_with fail
  refine (planP_any s _ hs (HG.out.below HB1.out) (HO.out.after HB1.out)).mono ?_
  rintro e2 w2 ⟨ho2, hb2⟩
  have HB2 := Lib.hid (HB1.out.trans (hb2.mono HB1.out.size))
  cases hP : parseB s with
  | error fp =>
    obtain ⟨f, p⟩ := fp
    have hf := parseB_err hP
    have hf0 : ((f : Int) != 0) = true := by rw [bne_iff_ne]; omega
    have HP := Lib.hid hP
    rw [hP] at ho2
    obtain rfl := ho2
    clear hP hf hb2
    go_wp2_with (go_at_call 5; refine (parseR_any s _ hs).mono ?_; rintro e3 w3 ⟨ho3, hb3⟩; rw [HP.out] at ho3; obtain rfl := ho3; unfold faultV)
    go_ret
    exact ⟨ret_bool (by simp), (HB2.out.trans (hb3.mono HB2.out.size)).alloc (Nat.le_trans HB2.out.size hb3.size) _⟩
  | ok st =>
    have HP := Lib.hid hP
    have HK := Lib.hid (parseB_ok hP)
    obtain ⟨m, hn⟩ : ∃ m, st.length = m + 1 := ⟨st.length - 1, by
      have := List.length_pos_iff.2 HK.out.ne
      omega⟩
    have h5 : m ≤ 100 := by have := HK.out.h5; omega
    have HN := Lib.hid hn
    rw [hP] at ho2
    obtain ⟨A2, c2, rfl, ho2⟩ := ho2
    have HO2 := Lib.hid ho2
    clear hP hn hb2 ho2
    go_wp2_with (first
      | (go_at_call 5; refine (parseR_any s _ hs).mono ?_; rintro e3 w3 ⟨ho3, hb3⟩; rw [HP.out] at ho3; obtain ⟨A3, c3, rfl, h3, h4, _, _⟩ := ho3; unfold faultV; rw [HN.out]; have HST := Lib.hid h3; have HSB := Lib.hid h4; clear h3 h4)
      | (go_at_call 6; refine (neededR_n st m _ c3 A3 _ HN.out (HST.out.after (Below.alloc (Below.refl _ _) (Nat.le_refl _) _)) h5 HSB.out).mono ?_; rintro e4 w4 ⟨⟨A4, c4, rfl, ho4⟩, hb4⟩))
    have HO4 := Lib.hid ho4
    have HB3 := Lib.hid (Below.alloc (hb3) hb3.size (.cells #[.int .i64 0, .int .i64 (-1)] 28))
    have HB4 := Lib.hid hb4
    clear hb4 ho4 hb3
    have hnl : (needL st).length ≤ 5 := by
      have h1 : (needL st).length ≤ (List.range st.length).length := List.length_filter_le _ _
      rw [List.length_range] at h1
      have := HK.out.h5; omega
    go_loopw [12] (fun i wr => ∃ k : Nat, k ≤ (needL st).length ∧ i = .int .i64 k ∧ Below w4.heap.size w4 wr) (fun i _ => (needL st).length - (intOf i).toNat)
    case atStart => exact ⟨0, by omega, by go_num, Below.refl _ _⟩
    case round =>
      obtain ⟨k, hk, rfl, hbel⟩ := hrel
      by_cases hlt : k < (needL st).length
      · have q2 := ownsRow_below (ownsRow_below (ownsRow_below HO2.out HB3.out) HB4.out) hbel
        have q4 := ownsRow_below HO4.out hbel
        obtain ⟨g2, rfl, hg2, m2⟩ := ints_at q2 hlt
        obtain ⟨g4, rfl, hg4, m4⟩ := ints_at q4 hlt
        have hlt' : (k : Int) < ((needL st).length : Int) := by omega
        clear q2 q4
        go_wp2
        go_quiet (fail)
        go_wp2
        go_roundw
        case rel => exact ⟨k + 1, by omega, by go_num, below_drewN hbel _⟩
        case measure => simp [intOf]; omega
      · go_wp2
        go_ret
        have e1 := HB2.out.trans (HB3.out.mono HB2.out.size)
        have e2 := e1.trans (HB4.out.mono e1.size)
        exact ⟨rfl, e2.trans (hbel.mono e2.size)⟩
end Go.Proofs.YtflggoddfjmljaaDoor
