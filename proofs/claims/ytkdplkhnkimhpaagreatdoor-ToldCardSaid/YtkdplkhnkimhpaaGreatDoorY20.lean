/-
  The program: the sum of a node, of a tree.
-/
import Derived.Deep.RegionWith
import Derived.Deep.RegionHeld3
import Derived.Test.YtkdplkhnkimhpaaGreatDoorY01
import Derived.Test.YtkdplkhnkimhpaaGreatDoorY03
import Derived.Test.YtkdplkhnkimhpaaGreatDoorY05
import Derived.Test.YtkdplkhnkimhpaaGreatDoorY11
import Derived.Test.YtkdplkhnkimhpaaGreatDoorY17
set_option linter.unusedVariables false
set_option linter.unusedSimpArgs false
namespace Go.Proofs.YtkdplkhnkimhpaaGreatDoor
open Go.RowKit

/-- what a node is, if a list makes the tree -/
theorem node_ok {l : List Ent} {F : Forest} (h : Lists l F) {p : Pth} {x : Nd} (hx : F p = some x) : (x.kind = 1 ∨ x.kind = 2 ∨ x.kind = 3) ∧ (∃ m : Nat, x.mode = (m : Int) ∧ m < 4096) ∧ x.data.length ≤ 5000 := by
  rcases h.only p x hx with rfl | ⟨e, he, _, rfl⟩
  · rw [h.root] at hx; obtain rfl := Option.some.inj hx
    exact ⟨.inl rfl, ⟨493, rfl, by decide⟩, by decide⟩
  · have := sumOk_of h he
    exact ⟨this.kind, this.mode, this.data⟩
theorem own_keep {w w' : World} {base size n : Nat} {e : TypeId} {v : Value} {xs : List Value} (h : w.ownsRow base e size v n xs) (hk : KeepT e w w') : w'.ownsRow base e size v n xs := by
  obtain ⟨h1, h2⟩ := h
  refine ⟨h1, h2.imp id ?_⟩
  rintro ⟨g, cap, cur, a1, a2, a3, a4⟩
  exact ⟨g, cap, cur, a1, a2, hk _ _ a3, a4⟩
theorem names_le {l : List Ent} {F : Forest} (h : Lists l F) {p : Pth} {x : Nd} (hx : F p = some x) : (namesF F p).length ≤ l.length := by
  obtain ⟨h1, _⟩ := children_names h (h.back hx)
  rw [← h1, List.length_map]
  exact List.length_filter_le _ _
theorem sumF_len {F : Forest} {d : Nat} {p : Pth} {x : Nd} (hd : 0 < d) (hx : F p = some x) : (sumF F d p).length = 64 := by
  cases d with
  | zero => omega
  | succ d =>
    rw [sumF, hx]
    show (if x.kind = 1 then _ else _ : List UInt8).length = 64
    split <;> exact shaB_len _
theorem lines_lenF (f : List UInt8 → List UInt8) (l : List (List UInt8)) (hf : ∀ c ∈ l, (f c).length ≤ 1100) : (l.flatMap f).length ≤ 1100 * l.length := by
  induction l with
  | nil => simp
  | cons c cs ih =>
    have h1 := hf c (by simp)
    have h2 := ih fun c hc => hf c (by simp [hc])
    rw [List.flatMap_cons, List.length_append, List.length_cons]; omega
set_option maxRecDepth 100000 in
set_option maxHeartbeats 4000000 in
theorem sumG_any {W0 : World} {B N : Nat} {a m : Pth → Nat} {F : Forest} (hT : TreeAt W0 B N a m F) {l : List Ent} (hLi : Lists l F) (hl : l.length ≤ 1000000) (hN : N ≤ 1000000) : ∀ (d : Nat) (p : Pth), p.length + d = 13 → ∀ (x : Nd), F p = some x → ∀ w : World, Below W0.heap.size W0 w → Tabs w →
    Calls Tryz.prog 52 #[.pointer (some ⟨a p, 0, none⟩)] w fun e w' => e = .returned (.string (S (sumF F d p))) ∧ Below w.heap.size w w' := by
  intro d
  induction d with
  | zero =>
    intro p hp x hx
    have := (hLi.deep hT.tree).len p (by rw [hx]; rfl)
    omega
  | succ d ih =>
    intro p hp x hx w hW htab
    have HI := Lib.hid ih
    have HP := Lib.hid hp
    have HT := Lib.hid hT
    have HLi := Lib.hid hLi
    have HW := Lib.hid hW
    have HTab := Lib.hid htab
    obtain ⟨hkind, ⟨mo, hmo, hmo2⟩, hdl⟩ := node_ok hLi hx
    have hTw := hT.below hW
    have HS := Lib.hid (show sumF F (d + 1) p = if x.kind = 1 then shaB (headT x.mode ++ (namesF F p).flatMap fun k => lineT k (sumF F d (p ++ [k]))) else shaB (leafT x.kind x.mode x.data) by rw [sumF, hx])
    have HX := Lib.hid hx
    have hTw' := Lib.hid hTw
    have HC : Hid (∀ wx, Below w.heap.size w wx → wx.cell? ⟨a p, 1, none⟩ = some (.int .i64 x.kind) ∧ wx.cell? ⟨a p, 2, none⟩ = some (.int .i64 x.mode) ∧ wx.cell? ⟨a p, 3, none⟩ = some (.string (S x.data)) ∧ wx.cell? ⟨a p, 4, none⟩ = some (mapV x (m p))) := Lib.hid (fun wx hb => by
      obtain ⟨_, c1, c2, c3, c4⟩ := (hTw.below hb).cells p x hx
      exact ⟨c1, c2, c3, c4⟩)
    have HLk : Hid (∀ wx : World, Below w.heap.size w wx → x.kind = 1 → ∀ k : List UInt8, k.length ≤ maxLen → (Instr.lookup tMap (.map (some (m p))) (.string (S k)) false).run Tryz.prog wx = .ok (nodeV (if (F (p ++ [k])).isSome then some (a (p ++ [k])) else none)) wx) := Lib.hid (fun wx hb hk1 k hk => by
      have := (hTw.below hb).look p x hx k hk
      rwa [show mapV x (m p) = .map (some (m p)) from if_pos hk1] at this)
    have hlt : a p < w.heap.size := (hTw.lt p x hx).1
    obtain ⟨xk, xm, xd⟩ := x
    simp only at hmo hdl hkind HS HC HLk
    subst hmo
    have hol : (octB mo).length ≤ 11 := octB_len mo 10 (by omega)
    have hdc : (Lib.decDigits xd.length).length ≤ 11 := decB_len xd.length 10 (by omega)
    have hO := Lib.hid (fun (wx : World) (hb : Below w.heap.size w wx) => octalG_any mo wx (HTab.out.below hb).tz (by omega))
    have hDc := Lib.hid (fun (wx : World) (hb : Below w.heap.size w wx) => itoa_any xd.length wx (HTab.out.below hb).pt (by omega))
    have HF := Lib.hid (show fileT mo xd = [102, 105, 108, 101, 32] ++ (octB mo ++ ([32] ++ (Lib.decDigits xd.length ++ ([10] ++ xd)))) from rfl)
    have HH := Lib.hid (show headT mo = [100, 105, 114, 32] ++ (octB mo ++ [10]) from rfl)
    clear ih hp hT hLi hW htab hx hTw
    generalize octB mo = O at *
    generalize Lib.decDigits xd.length = Dc at *
    obtain ⟨c1, c2, c3, c4⟩ := HC.out w (Below.refl _ _)
    rcases hkind with rfl | rfl | rfl
    · have HSd := Lib.hid (show sumF F (d + 1) p = shaB (headT mo ++ (namesF F p).flatMap fun k => lineT k (sumF F d (p ++ [k]))) by rw [HS.out, if_pos rfl])
      have hno := names_dir (hTw'.out.dirAt p _ HX.out rfl) (Nat.le_trans hN (by decide))
      have HNo := Lib.hid (fun (wx : World) (hb : Below w.heap.size w wx) => names_dir ((hTw'.out.below hb).dirAt p _ HX.out rfl) (Nat.le_trans hN (by decide)))
      rw [show mapV ⟨1, (mo : Int), xd⟩ (m p) = .map (some (m p)) from if_pos rfl] at c4
      have HC4 : Hid (∀ wx, Below w.heap.size w wx → wx.cell? ⟨a p, 4, none⟩ = some (.map (some (m p)))) := Lib.hid (fun wx hb => by
        have h := (HC.out wx hb).2.2.2
        rwa [show mapV ⟨1, (mo : Int), xd⟩ (m p) = .map (some (m p)) from if_pos rfl] at h)
      have HLk2 := Lib.hid (fun wx hb => HLk.out wx hb rfl)
      clear hno HLk HS hDc HF
      go_enter Tryz.func52, Tryz.ntmps52
      have hb0 : Below w.heap.size w (w.alloc (.cells #[.pointer none, .slice none 0 0] tBld)) := (Below.refl _ _).alloc (Nat.le_refl _) _
      have HB0 := Lib.hid hb0
      have HBd0 := Lib.hid (Bld.new w.heap.size w (Nat.le_refl _))
      obtain ⟨e1, e2, e3, e4⟩ := HC.out _ hb0
      clear hb0
      go_wp2_with fail
      refine (hO.out _ HB0.out).mono ?_
      rintro e w1 ⟨rfl, hb1⟩
      have HB1 := Lib.hid (HB0.out.trans (hb1.mono HB0.out.size))
      have HBd1 := Lib.hid (HBd0.out.after hb1)
      clear hb1 HB0 HBd0 e1 e2 e3 e4
      go_wp2_with fail
      refine (writeString_any HBd1.out (by simp; omega) HB1.out.size).mono ?_
      rintro e w2 ⟨rfl, hbd2, hb2, _⟩
      have HB2 := Lib.hid (HB1.out.trans hb2)
      have HBd2 := Lib.hid hbd2
      clear hbd2 hb2 HB1 HBd1
      go_wp2_with fail
      refine (HNo.out _ HB2.out).mono ?_
      rintro e w3 ⟨ns, A, cap, rfl, hown, hrise, hmem, hlens, hb3, hnN⟩
      have HB3 := Lib.hid (HB2.out.trans (hb3.mono HB2.out.size))
      have HBd3 := Lib.hid (HBd2.out.after hb3)
      have HOw := Lib.hid hown
      have hmm : ∀ x, x ∈ ns ↔ (F (p ++ [x])).isSome = true := fun x => by rw [hmem]; unfold kidsF; split <;> simp_all
      have hns : namesF F p = ns := namesF_of hrise hmm
      rw [hns] at HSd
      have hnl : ns.length ≤ 1000000 := Nat.le_trans hnN hN
      have HM := Lib.hid (show ∀ k ∈ ns, ∃ y, F (p ++ [k]) = some y ∧ k.length ≤ 60 by
        intro k hk
        obtain ⟨y, hy⟩ := Option.isSome_iff_exists.1 ((hmm k).1 hk)
        exact ⟨y, hy, (elementB_ok ((HLi.out.elems hy).1 k (by simp))).2.1⟩)
      have hd0 : 0 < d ∨ ns = [] := by
        rcases Nat.eq_zero_or_pos d with h0 | h0
        · right
          cases hnn : ns with
          | nil => rfl
          | cons k ks =>
            obtain ⟨y, hy, _⟩ := HM.out k (by rw [hnn]; simp)
            have h1 := (HLi.out.elems hy).2.2
            have h2 := HP.out
            rw [List.length_append, List.length_singleton] at h1; omega
        · exact .inl h0
      obtain ⟨f, hf⟩ : ∃ f : List UInt8 → List UInt8, f = fun k => lineT k (sumF F d (p ++ [k])) := ⟨_, rfl⟩
      rw [← hf] at HSd
      have HFf := Lib.hid hf
      have HD0 := Lib.hid hd0
      have HFl := Lib.hid (show ∀ k ∈ ns, (f k).length ≤ 1100 by
        intro k hk
        obtain ⟨y, hy, h60⟩ := HM.out k hk
        have hdp : 0 < d := HD0.out.resolve_right (fun e => by rw [e] at hk; simp at hk)
        rw [HFf.out]
        show (lineT _ _).length ≤ _
        unfold lineT
        simp only [List.length_append, sumF_len hdp hy, List.length_singleton]
        omega)
      have hw3 := HB3.out.size
      clear hown hrise hmem hlens hb3 hnN hmm hns hf hd0 HB2 HBd2 HNo
      go_wp2
      go_loopw [58] (fun i wr => ∃ k : Nat, k ≤ ns.length ∧ i = .int .i64 k ∧ Hid (Bld w.heap.size w.heap.size (headT mo ++ (ns.take k).flatMap f) wr) ∧ Hid (Below w.heap.size w wr) ∧ Hid (wr.ownsRow w2.heap.size tStr 1 (.slice A ns.length cap) ns.length (strs ns))) (fun i _ => ns.length - (intOf i).toNat)
      case atStart =>
        refine ⟨0, Nat.zero_le _, rfl, Lib.hid ?_, HB3, HOw⟩
        have h := HBd3.out
        rw [HH.out]
        simpa using h
      case round =>
        clear HB3 HBd3 HOw
        obtain ⟨k, hk, rfl, HBd, HB, HOw⟩ := hrel
        have hTl : (headT mo ++ (ns.take k).flatMap f).length ≤ 1200000000 := by
          have h1 := lines_lenF f (ns.take k) (fun c hc => HFl.out c (List.mem_of_mem_take hc))
          have h2 : (ns.take k).length ≤ k := by rw [List.length_take]; omega
          rw [List.length_append, HH.out]
          simp only [List.length_append, List.length_cons, List.length_nil]
          omega
        by_cases hlt : k < ns.length
        · obtain ⟨nm, hnm⟩ : ∃ nm, ns[k] = nm := ⟨_, rfl⟩
          obtain ⟨y, hy, h60⟩ := HM.out nm (hnm ▸ List.getElem_mem hlt)
          have hdp : 0 < d := HD0.out.resolve_right (fun e => by rw [e] at hlt; simp at hlt)
          have hsl := sumF_len hdp hy
          have HT := Lib.hid (show headT mo ++ (ns.take (k + 1)).flatMap f = (headT mo ++ (ns.take k).flatMap f) ++ lineT nm (sumF F d (p ++ [nm])) by
            rw [List.take_succ_eq_append_getElem hlt, List.flatMap_append, hnm, HFf.out]; simp)
          obtain ⟨A', c', hv', _, _, hrd⟩ := Rd.of_own HOw.out
          cases hv'
          obtain ⟨b, o, rfl, hbb, hcc⟩ := hrd.at k (by simp [strs]; omega)
          have g0 : wr.cell? ⟨b, o + k, none⟩ = some (.string (S nm)) := by
            refine hcc k _ ?_
            simp only [strs]; rw [List.getElem?_map, List.getElem?_eq_getElem hlt, hnm]; rfl
          have c4' := HC4.out wr HB.out
          have hlk := HLk2.out wr HB.out nm (by unfold maxLen; omega)
          rw [if_pos (show (F (p ++ [nm])).isSome = true by rw [hy]; rfl)] at hlk
          have HIc := Lib.hid (HI.out (p ++ [nm]) (by rw [List.length_append, List.length_singleton]; have := HP.out; omega) y hy wr (HW.out.trans (HB.out.mono HW.out.size)) (HTab.out.below HB.out))
          have hkl : (k : Int) < (ns.length : Int) := by omega
          clear hrd hcc hnm hy hdp
          generalize sumF F d (p ++ [nm]) = sm at hsl HT HIc
          generalize headT mo ++ (ns.take k).flatMap f = T at hTl HT HBd
          simp only [nodeV] at hlk
          go_wp2_with fail
          refine HIc.out.mono ?_
          rintro e4 w4 ⟨rfl, hb4⟩
          have HB4 := Lib.hid (HB.out.trans (hb4.mono HB.out.size))
          have HBd4 := Lib.hid (HBd.out.after hb4)
          have HOw4 := Lib.hid (own_keep HOw.out (KeepT.below hb4))
          clear hb4 HB HBd HOw g0 c4' hlk HIc
          go_wp2_with fail
          refine (writeString_any HBd4.out (by simp; omega) HB4.out.size).mono ?_
          rintro e5 w5 ⟨rfl, hbd5, hb5, hk5⟩
          have HB5 := Lib.hid (HB4.out.trans hb5)
          have HBd5 := Lib.hid hbd5
          have HOw5 := Lib.hid (own_keep HOw4.out (hk5 tStr (by decide) (by decide)))
          clear hbd5 hb5 hk5 HB4 HBd4 HOw4
          go_wp2
          go_roundw
          case rel => exact ⟨k + 1, by omega, by go_num, Lib.hid (by have h := HBd5.out; rw [HT.out]; simpa [lineT] using h), HB5, HOw5⟩
          case measure => simp [intOf]; omega
        · obtain rfl : k = ns.length := by omega
          rw [List.take_length] at hTl HBd
          have hT0 : 0 < (headT mo ++ ns.flatMap f).length := by
            rw [List.length_append, HH.out]; simp only [List.length_append, List.length_cons]; omega
          generalize headT mo ++ ns.flatMap f = T at hTl hT0 HSd HBd
          go_wp2_with fail
          refine (bldString_any HBd.out HB.out.size).mono ?_
          rintro e3 w4 ⟨rfl, hb4⟩
          have HB4 := Lib.hid (HB.out.trans hb4)
          clear hb4 HB
          go_wp2_with fail
          refine (shaOf_any _ _ (by omega) (HTab.out.below HB4.out).keys (HTab.out.below HB4.out).starts).mono ?_
          rintro e3 w5 ⟨rfl, hb5⟩
          have HB5 := Lib.hid (HB4.out.trans (hb5.mono HB4.out.size))
          clear hb5
          go_wp2
          go_ret
          exact ⟨ret_str (by rw [HSd.out]), HB5.out⟩
    · have HSf := Lib.hid (show sumF F (d + 1) p = shaB (fileT mo xd) by rw [HS.out, if_neg (by decide), leafT, if_pos rfl])
      rw [HF.out] at HSf
      go_enter Tryz.func52, Tryz.ntmps52
      go_upto_region 3 with fail
      have HB0 := Lib.hid (Below.refl w.heap.size w)
      have n1 : ¬ 9223372036854775807 < 5 + O.length := by omega
      have n2 : ¬ 9223372036854775807 < O.length + 1 + 1 + 1 + 1 + 1 + 1 := by omega
      have n3 : ¬ 9223372036854775807 < O.length + 1 + 1 + 1 + 1 + 1 + 1 + Dc.length := by omega
      have n4 : ¬ 9223372036854775807 < O.length + (Dc.length + 1) + 1 + 1 + 1 + 1 + 1 + 1 := by omega
      have n5 : ¬ 9223372036854775807 < O.length + (Dc.length + 1 + 1) + 1 + 1 + 1 + 1 + 1 + xd.length := by omega
      go_region_held3 (fun w' => w'.cell? ⟨a p, 2, none⟩ = some (.int .i64 (mo : Int)) ∧ w'.cell? ⟨a p, 3, none⟩ = some (.string (S xd))) (go_keep) (first
        | (go_at_call 79; refine (hO.out _ (by exact ⟨rfl, rfl, rfl, Nat.le_refl _, fun _ _ => rfl⟩)).mono ?_; rintro e1 w1 ⟨rfl, hb1⟩; have HB1 : Hid (Below w.heap.size w w1) := Lib.hid ((below_drew2 (Below.refl w.heap.size w)).trans hb1); obtain ⟨d1, d2, d3, d4⟩ := HC.out w1 HB1.out; clear hb1)
        | (go_at_call 80; refine (hDc.out _ (by exact ⟨HB1.out.os, HB1.out.tape, HB1.out.output, HB1.out.size, HB1.out.block⟩)).mono ?_; rintro e2 w2 ⟨rfl, hb2⟩; have HB2 : Hid (Below w.heap.size w w2) := Lib.hid (by exact Below.trans HB1.out (hb2.mono HB1.out.size)); obtain ⟨f1, f2, f3, f4⟩ := HC.out w2 HB2.out; clear hb2)
        | (go_at_call 57; refine (shaOf_any _ _ (by simp; omega) (HTab.out.below HB2.out).keys (HTab.out.below HB2.out).starts).mono ?_; rintro e3 w3 ⟨rfl, hb3⟩; have HB3 := Lib.hid (HB2.out.trans (hb3.mono HB2.out.size)); obtain ⟨k1, k2, k3, k4⟩ := HC.out w3 HB3.out; clear hb3))
      all_goals go_wp2
      all_goals go_ret
      all_goals exact ⟨ret_str (by rw [HSf.out]; rfl), HB3.out⟩
    · have HSl := Lib.hid (show sumF F (d + 1) p = shaB (linkT xd) by rw [HS.out, if_neg (by decide), leafT, if_neg (by decide)])
      go_enter Tryz.func52, Tryz.ntmps52
      go_wp2_with fail
      refine (shaOf_any _ _ (by simp; omega) HTab.out.keys HTab.out.starts).mono ?_
      rintro e3 w3 ⟨rfl, hb3⟩
      go_wp2
      go_ret
      exact ⟨ret_str (by rw [HSl.out]; rfl), hb3⟩
end Go.Proofs.YtkdplkhnkimhpaaGreatDoor
