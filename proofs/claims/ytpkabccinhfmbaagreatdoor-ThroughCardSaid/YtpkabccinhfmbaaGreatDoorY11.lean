/-
  The program: what makes one directory of another, of two at one path.
-/
import Derived.BigQuiet
import Derived.Deep.DeepCutAuto
import Derived.StillTailTactics
import Derived.Deep.RegionWith
import Derived.BigRegion
import Derived.Deep.AppendLies
import Derived.Carry
import Derived.Test.YtpkabccinhfmbaaGreatDoorY00
import Derived.Test.YtpkabccinhfmbaaGreatDoorY02
import Derived.Test.YtpkabccinhfmbaaGreatDoorY07
import Derived.Test.YtpkabccinhfmbaaGreatDoorY08
import Derived.Test.YtpkabccinhfmbaaGreatDoorY09
set_option linter.unusedVariables false
set_option linter.unusedSimpArgs false
namespace Go.Proofs.YtpkabccinhfmbaaGreatDoor
open Go.RowKit
open Go.Sort (SWO)

def keptN (G : Forest) (p : Pth) (ss : List (List UInt8)) : Nat := (ss.filter fun x => (G (p ++ [x])).isSome).length
def lostN (G : Forest) (p : Pth) (ss : List (List UInt8)) : Nat := (ss.filter fun x => (G (p ++ [x])).isNone).length
theorem lost_count {F G : Forest} {p : Pth} {ss : List (List UInt8)} (hnd : ss.Nodup) (hm : ∀ x, x ∈ ss ↔ (F (p ++ [x])).isSome = true) : lostB F G p = (decide (keptN G p ss = 0) && decide (1 < lostN G p ss)) := by
  have hn : namesF F p = srt ss := namesF_of (srt_rise hnd) fun x => by rw [srt_mem]; exact hm x
  unfold lostB keptN lostN
  rw [hn, srt_len]
  by_cases hall : ∀ x ∈ ss, (G (p ++ [x])).isNone = true
  · have e1 : (ss.filter fun x => (G (p ++ [x])).isSome) = [] := by
      rw [List.filter_eq_nil_iff]; intro x hx; have := hall x hx; simp_all
    have e2 : (ss.filter fun x => (G (p ++ [x])).isNone) = ss := List.filter_eq_self.2 hall
    have e3 : ((srt ss).all fun k => (G (p ++ [k])).isNone) = true := by
      rw [List.all_eq_true]; intro x hx; exact hall x ((srt_mem ss x).1 hx)
    rw [e1, e2, e3]; simp
  · obtain ⟨x, hx⟩ := Classical.not_forall.1 hall
    obtain ⟨hx, hn⟩ := Classical.not_imp.1 hx
    have e3 : ((srt ss).all fun k => (G (p ++ [k])).isNone) = false := by
      rw [List.all_eq_false]; exact ⟨x, (srt_mem ss x).2 hx, hn⟩
    have e1 : ¬ (ss.filter fun x => (G (p ++ [x])).isSome).length = 0 := by
      intro h0
      have := List.eq_nil_of_length_eq_zero h0
      rw [List.filter_eq_nil_iff] at this
      have h2 := this x hx
      cases hg : G (p ++ [x]) <;> simp_all
    rw [e3, decide_eq_false e1]; rfl
theorem kept_snoc (G : Forest) (p : Pth) (ss : List (List UInt8)) (x : List UInt8) : keptN G p (ss ++ [x]) = keptN G p ss + (if (G (p ++ [x])).isSome then 1 else 0) ∧ lostN G p (ss ++ [x]) = lostN G p ss + (if (G (p ++ [x])).isSome then 0 else 1) := by
  unfold keptN lostN
  rw [List.filter_append, List.filter_append, List.length_append, List.length_append]
  cases h : G (p ++ [x]) <;> simp [List.filter_cons, h]
theorem rd_of_own {w : World} {base : Nat} {e : TypeId} {size : Nat} {A : Option Addr} {n cap : Nat} {xs : List Value} (h : w.ownsRow base e size (.slice A n cap) n xs) : Rd w A xs := by
  obtain ⟨A', c', hv, _, _, hrd⟩ := Rd.of_own h
  cases hv; exact hrd
theorem nil_of_own {w : World} {base : Nat} {e : TypeId} {size : Nat} {A : Option Addr} {n cap : Nat} {xs : List Value} (h : w.ownsRow base e size (.slice A n cap) n xs) : A = none → n = 0 ∧ cap = 0 := by
  intro ea
  rcases h.2 with ⟨g1, _⟩ | ⟨g, cap, cur, g1, _⟩
  · injection g1 with g1 g2 g3; exact ⟨g2, g3⟩
  · injection g1 with g1 g2 g3; rw [ea] at g1; cases g1
def DifOut (W0 : World) (lb : Nat) (l : List Ent) (w : World) (e : Ending) (w' : World) : Prop :=
  e = .returned (.tuple #[]) ∧ ∃ v', VarC w' lb v' ∧ OwnC w' W0.heap.size v' l ∧ Below W0.heap.size W0 w' ∧ KeepX w w'
set_option maxRecDepth 100000 in
set_option maxHeartbeats 4000000 in
theorem differ_any {W0 : World} {B N : Nat} {a m : Pth → Nat} {F : Forest} (hT : TreeAt W0 B N a m F) {B' N' : Nat} {a' m' : Pth → Nat} {G : Forest} (hU : TreeAt W0 B' N' a' m' G) {al bl : List Ent} (hLa : Lists al F) (hLb : Lists bl G) (hN : N ≤ 1000000) (hN' : N' ≤ 1000000) :
    ∀ (d : Nat) (p : Pth), p.length + d = 13 → isDirF G p = true → ∀ (w : World) (na mb lb : Nat) (v : Value) (l : List Ent), Below W0.heap.size W0 w → W0.heap.size ≤ lb → ANode w na mb N (kidsF F a p) → VarC w lb v → OwnC w W0.heap.size v l → l.length + (diffGo F G d p).length ≤ 1000000 →
      Calls Tryz.prog 33 #[.pointer (some ⟨lb, 0, none⟩), .pointer (some ⟨na, 0, none⟩), .pointer (some ⟨a' p, 0, none⟩), .string (S (joinB p))] w (DifOut W0 lb (l ++ diffGo F G d p) w) := by
  obtain ⟨i0, hi0, hz0, hz1, hz2⟩ := info_parts (show (Tryz.prog.info? 33).map (fun i => (i.zero, i.size, i.bytes)) = some (some entZ, 4, 48) by kernel_rfl)
  obtain ⟨iS, hiS, hzS0, hzS1, hzS2⟩ := info_parts (show (Tryz.prog.info? tStr).map (fun i => (i.zero, i.size, i.bytes)) = some (some (.string (S [])), 1, 16) by kernel_rfl)
  intro d
  induction d with
  | zero =>
    intro p hp hd
    obtain ⟨x, hx, _⟩ := isDirF_iff.1 hd
    have := (hLb.elems hx).2.2
    omega
  | succ d ih =>
    intro p hp hd w na mb lb v l hW hlb hA hV hO hlen
    have IH := Lib.hid ih
    obtain ⟨x, hx, hxk⟩ := isDirF_iff.1 hd
    have hpj := (hLb.elems hx).2.1
    have HT := Lib.hid hT
    have HU := Lib.hid hU
    have HW := Lib.hid hW
    have HA := Lib.hid hA
    have HV := Lib.hid hV
    have HO := Lib.hid hO
    have HLA := Lib.hid hLa
    have HLB := Lib.hid hLb
    have HL := Lib.hid hlen
    have FB : Hid (∀ wx : World, Below W0.heap.size W0 wx → wx.cell? ⟨a' p, 4, none⟩ = some (.map (some (m' p))) ∧ ∀ k : List UInt8, k.length ≤ maxLen → (Instr.lookup tMap (.map (some (m' p))) (.string (S k)) false).run Tryz.prog wx = .ok (nodeV (if (G (p ++ [k])).isSome then some (a' (p ++ [k])) else none)) wx) := Lib.hid (fun wx hb => by
      have hUx := hU.below hb
      obtain ⟨_, _, _, _, c4⟩ := hUx.cells p x hx
      have hmap : mapV x (m' p) = .map (some (m' p)) := if_pos hxk
      rw [hmap] at c4
      refine ⟨c4, fun k hk => ?_⟩
      have := hUx.look p x hx k hk
      rwa [hmap] at this)
    have FA : Hid (∀ wx : World, KeepX w wx → wx.cell? ⟨na, 4, none⟩ = some (.map (some mb)) ∧ ∀ k : List UInt8, k.length ≤ maxLen → (Instr.lookup tMap (.map (some mb)) (.string (S k)) false).run Tryz.prog wx = .ok (nodeV (if (F (p ++ [k])).isSome then some (a (p ++ [k])) else none)) wx) := Lib.hid (fun wx hk => by
      have h := hA.keep hk
      exact ⟨h.1.1, fun k hkl => h.1.2.look k hkl⟩)
    have HD : Hid (ANode W0 (a' p) (m' p) N' (kidsF G a' p)) := Lib.hid (hU.anode p hd)
    obtain ⟨c4, D, hown, hIs, hD⟩ := hA.1
    have HDm := Lib.hid hD
    have HOm := Lib.hid hown
    have hsz : Maps.size D ≤ N := by
      obtain ⟨es, clock, _, _, hs, rfl⟩ := hown
      rw [Maps.size_eq, length_sorted]; simpa using hs
    have hmlt := hown.lt
    have HX := Lib.hid hx
    have HXk := Lib.hid hxk
    clear hT hU hW hA hV hO hLa hLb hlen hD hIs hown ih hx hxk hd
    have hmm := @run_makeMap Tryz.prog
    go_enter Tryz.func33, Tryz.ntmps33
    go_wp2_with (at_range; refine wpList_range_own _ rfl _ tMap rfl tStr tPtr strK Tryz.underlying106 nodeR _ N D rfl HOm.out ?_; intro w0 hrg0 hg0 hs0)
    go_frame
    have HG0 := Lib.hid hrg0
    have HB0 := Lib.hid ((Below.refl w.heap.size w).grown hg0 (Nat.le_refl _) (fun k hk => by cases hk))
    have HS0 := Lib.hid hs0
    clear hrg0 hg0 hs0
    go_loopw [8, 9] (fun v8 v9 wr => ∃ (left : Lit → Bool) (cnt : Nat) (ss : List (List UInt8)) (K L : Nat), v8 = .int .i64 K ∧ v9 = .int .i64 L ∧ K ≤ 1000000 ∧ L ≤ 1000000 ∧ Hid (K = keptN G p ss ∧ L = lostN G p ss) ∧ Hid (wr.ranges Tryz.prog tStr nodeR mb w.heap.size N D left cnt) ∧ Hid (Collected D left ss) ∧ Hid (ss.length + cnt ≤ N) ∧ Hid (Below w.heap.size w wr)) (fun _ _ wr => wr.rangeLeft mb w.heap.size)
    case atStart => exact ⟨_, _, [], 0, 0, rfl, rfl, by omega, by omega, Lib.hid ⟨rfl, rfl⟩, HG0.out, Collected.start D, by rw [Hid, List.length_nil]; omega, HB0.out⟩
    case round =>
      obtain ⟨left, cnt, ss, K, L, rfl, rfl, hK, hL, hKL, hrg, hco, hle, hB⟩ := hrel
      have hle2 := hle.out
      have hbs := hB.out.size
      have hrlt := hrg.out.lt
      clear hsz
      go_wp2_with (at_next; refine wpList_next_ranges _ rfl _ rfl tStr strK nodeR (fun s : List UInt8 => Value.string (S s)) nodeV (fun key kl hkey => by obtain ⟨x, h1, _⟩ := Maps.keyOf_str Tryz.underlying9 hkey; exact ⟨x, h1⟩) (fun v y hv => by obtain ⟨o, h1, _⟩ := nodeR_some hv; exact ⟨o, h1⟩) mb w.heap.size N D left cnt rfl hrg.out ?_ ?_)
      · intro hc0 hl0
        have hcl := lost_count (F := F) (G := G) (p := p) (ss := ss) hco.out.1 (fun x => by
          rw [hco.out.2 x, hl0, (HDm.out x).2]; unfold kidsF; split <;> simp_all)
        rw [← hKL.out.1, ← hKL.out.2] at hcl
        obtain ⟨cl, hc⟩ : ∃ cl, lostB F G p = cl := ⟨_, rfl⟩
        rw [hc] at hcl
        have HC := Lib.hid hc
        have HCl := Lib.hid hcl
        have HKr := Lib.hid (KeepX.below (w := w) hB.out)
        have HVr := Lib.hid (HV.out.below hB.out)
        have HOr := Lib.hid (ownsRow_below HO.out hB.out)
        have HWr := Lib.hid (HW.out.trans (hB.out.mono HW.out.size))
        clear hcl hc hc0 hl0 hrg hco hle hle2 hKL hbs hrlt hmlt c4 HG0 HB0 HS0 HOm HDm
        go_upto_region 7 with fail
        go_cut [11] (fun v wx => v = .bool cl ∧ wr = wx)
        case first =>
          by_cases k0 : K = 0
          · have f0 : ((K : Int) == 0) = true := by rw [beq_iff_eq]; omega
            by_cases l1 : 1 < L
            · have f1 : (1 : Int) < (L : Int) := by omega
              obtain rfl : cl = true := by rw [HCl.out, decide_eq_true k0, decide_eq_true l1]; rfl
              clear k0 l1
              go_wp2
              go_meet
              exact ⟨rfl, rfl⟩
            · have f1 : ¬ (1 : Int) < (L : Int) := by omega
              obtain rfl : cl = false := by rw [HCl.out, decide_eq_false l1, Bool.and_false]
              clear k0 l1
              go_wp2
              go_meet
              exact ⟨rfl, rfl⟩
          · have f0 : ((K : Int) == 0) = false := by rw [beq_eq_false_iff_ne]; omega
            obtain rfl : cl = false := by rw [HCl.out, decide_eq_false k0, Bool.false_and]
            clear k0
            go_wp2
            go_meet
            exact ⟨rfl, rfl⟩
        case rest =>
          obtain ⟨rfl, rfl⟩ := hcut
          clear HCl hK hL
          go_upto_if 45 with fail
          go_cut [11] (fun v wx => v = .bool cl ∧ Hid (∃ v', VarC wx lb v' ∧ OwnC wx W0.heap.size v' (l ++ if cl = true then [⟨joinB p, 5, 0, []⟩] else [])) ∧ Hid (Below W0.heap.size W0 wx) ∧ Hid (KeepX w wx))
          case first =>
            obtain ⟨av, cv, hve⟩ := ownsRow_form HOr.out
            subst hve
            cases cl with
            | true =>
              have fv := HVr.out.cell
              have hll : l.length ≤ 1000000 := by have := HL.out; omega
              go_wp2_with (at_builtin; refine wpList_append_own _ rfl _ _ tChgs rfl W0.heap.size tChg i0 entZ 4 48 Tryz.underlying25 hi0 hz0 hz1 hz2 rfl (by decide) _ _ _ rfl (HOr.out.alloc _) ⟨_, 0, none⟩ 1 1 [.string (S (joinB p)), .int .i64 5, .int .i64 0, .string (S [])] rfl rfl (cells4_at _ _ _ _ _ _ _ (by simp)) (by simp [Value.oneCell']) (by unfold maxLen; omega) (by omega) (by simp; have := HWr.out.size; omega) ?_; intro v' w5 hown5 hgr5 _; obtain ⟨ao', c', rfl⟩ := ownsRow_form hown5; have HB5 := Lib.hid ((HWr.out.alloc HWr.out.size _).grown hgr5 (by have := HWr.out.size; simp; omega) (fun kq hq => ((HOr.out.alloc (.cells #[.string (S (joinB p)), .int .i64 5, .int .i64 0, .string (S [])] tChg)).lt kq hq).1)); have HV5 := Lib.hid ((HVr.out.below ((Below.refl _ _).alloc (Nat.le_refl _) _)).grown (HOr.out.alloc _) hgr5); have HK5 := Lib.hid ((HKr.out.trans (KeepX.below ((Below.refl _ _).alloc (Nat.le_refl _) _))).trans (KeepX.grown (HOr.out.alloc _) hgr5)); have HO5 := Lib.hid (own_snocC hown5); have fc5 := HV5.out.cell; have ff5 := HV5.out.frozen; clear hown5 hgr5 fv)
              go_meet
              exact ⟨rfl, Lib.hid ⟨_, HV5.out.set _, HO5.out.set HV5.out _⟩, Lib.hid (HB5.out.setCell hlb _), Lib.hid (HK5.out.trans (KeepX.set HV5.out _))⟩
            | false =>
              go_wp2
              go_meet
              exact ⟨rfl, Lib.hid ⟨_, HVr.out, by simpa using HOr.out⟩, HWr, HKr⟩
          case rest =>
            obtain ⟨rfl, HVO, HWx, HKx⟩ := hcut
            clear HOr HVr HKr HWr
            have HDef := Lib.hid (show diffGo F G (d + 1) p = (if cl = true then [⟨joinB p, 5, 0, []⟩] else []) ++ (namesF (orF F G) p).flatMap fun k => stepE F G p k ++ (if isDirF G (p ++ [k]) = true then diffGo F G d (p ++ [k]) else []) by rw [diffGo, HC.out])
            have HL1 := Lib.hid (show l ++ diffGo F G (d + 1) p = (l ++ if cl = true then [⟨joinB p, 5, 0, []⟩] else []) ++ (namesF (orF F G) p).flatMap fun k => stepE F G p k ++ (if isDirF G (p ++ [k]) = true then diffGo F G d (p ++ [k]) else []) by rw [HDef.out, List.append_assoc])
            have HLn := Lib.hid (show (l ++ diffGo F G (d + 1) p).length ≤ 1000000 by rw [List.length_append]; exact HL.out)
            clear HDef HL
            generalize l ++ diffGo F G (d + 1) p = lend at *
            generalize (l ++ if cl = true then [⟨joinB p, 5, 0, []⟩] else []) = l1 at *
            go_wp2_with fail
            refine (names_dir (HA.out.keep HKx.out).1 (by omega)).mono ?_
            rintro e1 w1 ⟨ns1, A1, c1, rfl, hown1, hr1, hm1, hl1, hb1, hn1⟩
            have HW1 := Lib.hid (HWx.out.trans (hb1.mono HWx.out.size))
            have HB1 := Lib.hid hb1
            have HO1 := Lib.hid hown1
            have HM1 := Lib.hid hm1
            clear hown1 hr1 hm1 hl1 hb1
            have HNB := Lib.hid (names_dir ((HU.out.below HW1.out).dirAt p x HX.out HXk.out) (by omega))
            go_wp2_with (first
              | (go_at_call 51; refine HNB.out.mono ?_; rintro e2 w2 ⟨ns2, A2, c2, rfl, hown2, hr2, hm2, hl2, hb2, hn2⟩; have HB2 := Lib.hid (HB1.out.trans (hb2.mono HB1.out.size)); have HO2 := Lib.hid (ownsRow_below HO1.out hb2); have HM2 := Lib.hid hm2; have HR2 := Lib.hid (rd_of_own hown2); have HA2 := Lib.hid (nil_of_own hown2); clear hown2 hr2 hm2 hl2 hb2 HO1 HB1 HW1 HNB)
              | (at_builtin; refine wpList_append_rd rfl _ _ 38 rfl wc.heap.size tStr iS (.string (S [])) 1 16 Tryz.underlying38 hiS hzS0 hzS1 hzS2 rfl (by decide) _ _ _ rfl HO2.out A2 ns2.length c2 (strs ns2) rfl HA2.out HR2.out (by rw [strs_len]; omega) (by intro u hu; obtain ⟨z, _, rfl⟩ := List.mem_map.1 hu; rfl) (by unfold maxLen; omega) (by omega) HB2.out.size ?_; intro v4 w4 hown4 hgr4; have HB4 := Lib.hid (HB2.out.grown hgr4 HB2.out.size (own_le HO2.out)); have HO4 := Lib.hid hown4; clear hown4 hgr4))
            obtain ⟨ss2, hss⟩ : ∃ ss2, ns1 ++ ns2 = ss2 := ⟨_, rfl⟩
            have hsl : ns1.length + ns2.length = ss2.length := by rw [← hss, List.length_append]
            have hown4 := HO4.out
            rw [show strs ns1 ++ strs ns2 = strs ss2 by rw [← hss]; simp [strs], hsl] at hown4
            have hssl : ss2.length ≤ 2000000 := by omega
            obtain ⟨av4, cv4, rfl⟩ := ownsRow_form hown4
            have HO5 := Lib.hid hown4
            have HMs := Lib.hid (show ∀ z, z ∈ ss2 ↔ (orF F G (p ++ [z])).isSome = true from fun z => by
              rw [← hss, List.mem_append, HM1.out z, HM2.out z, orF_some]
              unfold kidsF
              cases F (p ++ [z]) <;> cases G (p ++ [z]) <;> simp)
            clear hss hsl hown4 HO4 HM1 HM2 HR2 HA2 HO2 HB2
            refine (sortO_any av4 cv4 ss2 wc.heap.size w4 HO5.out (by omega)).mono ?_
            rintro e5 w5 ⟨rfl, hown5, hgr5⟩
            have HB5 := Lib.hid (HB4.out.grown hgr5 HB4.out.size (own_le HO5.out))
            have HO6 := Lib.hid hown5
            clear hown5 hgr5 HB4 HO5
            have hcp := compact_own av4 cv4 (srtO ss2) wc.heap.size w5 (by rw [srtO_len]; exact HO6.out) (by rw [srtO_len]; omega)
            rw [srtO_len] at hcp
            obtain ⟨hcr, hcm⟩ := compact_rise (srtO_le ss2)
            have HLn2 : Hid (namesF (orF F G) p = Lib.compact (srtO ss2)) := Lib.hid (namesF_of hcr fun z => by rw [hcm, srtO_mem]; exact HMs.out z)
            have HMk : Hid (∀ z, z ∈ Lib.compact (srtO ss2) ↔ (orF F G (p ++ [z])).isSome = true) := Lib.hid (fun z => by rw [hcm, srtO_mem]; exact HMs.out z)
            have hkl : (Lib.compact (srtO ss2)).length ≤ 2000000 := by
              have := Lib.compact_length_le (srtO ss2); rw [srtO_len] at this; omega
            have HCp := Lib.hid hcp
            clear hcp hcr hcm HMs
            generalize Lib.compact (srtO ss2) = ks at *
            generalize List.replicate (ss2.length - ks.length) ([] : List UInt8) = zs at *
            rw [HLn2.out] at HL1
            obtain ⟨st, hst⟩ : ∃ st : List UInt8 → List Ent, st = fun k => stepE F G p k ++ (if isDirF G (p ++ [k]) = true then diffGo F G d (p ++ [k]) else []) := ⟨_, rfl⟩
            rw [← hst] at HL1
            have HSt := Lib.hid (show ∀ k, st k = stepE F G p k ++ (if isDirF G (p ++ [k]) = true then diffGo F G d (p ++ [k]) else []) from fun k => by rw [hst])
            clear hst HLn2
            go_wp2_with fail
            refine HCp.out.mono ?_
            rintro e6 w6 ⟨rfl, hown6, hgr6⟩
            have HB6 := Lib.hid (HB5.out.grown hgr6 HB5.out.size (own_le HO6.out))
            have HAll := Lib.hid hown6
            have HW6 := Lib.hid (HWx.out.trans (HB6.out.mono HWx.out.size))
            have HK6 := Lib.hid (HKx.out.trans (KeepX.below HB6.out))
            obtain ⟨v1, hV1, hO1⟩ := HVO.out
            have HV6 := Lib.hid (hV1.below HB6.out)
            have HO6' := Lib.hid (ownsRow_below hO1 HB6.out)
            clear hown6 hgr6 hV1 hO1 HVO HB5 HO6 HCp HWx HKx HB6
            go_wp2
            go_loopw [65] (fun i wr => ∃ (k : Nat) (v2 : Value), k ≤ ks.length ∧ i = .int .i64 k ∧ Hid (VarC wr lb v2) ∧ Hid (OwnC wr W0.heap.size v2 (l1 ++ (ks.take k).flatMap st)) ∧ Hid (Below W0.heap.size W0 wr) ∧ Hid (KeepX w6 wr)) (fun i _ => ks.length - (intOf i).toNat)
            case atStart => exact ⟨0, v1, Nat.zero_le _, rfl, HV6, by simpa using HO6', HW6, Lib.hid (KeepX.refl _)⟩
            case round =>
              obtain ⟨k, v2, hk, rfl, HV2, HO2, HWr, HKr⟩ := hrel
              clear HV6 HO6'
              by_cases hlt : k < ks.length
              · have hrd : Rd wr av4 (strs ks ++ strs zs) := by
                  have h := rd_of_own (ownsRow_keep HAll.out (HKr.out.keepT (by decide)))
                  rw [show strs (ks ++ zs) = strs ks ++ strs zs by simp [strs]] at h; exact h
                obtain ⟨bq, oq, hAq, hbq, hcq⟩ := (Rd.pre hrd).at k (by rw [strs_len]; exact hlt)
                subst hAq
                have g0 := hcq k _ (strs_get hlt)
                have HTk := Lib.hid (show (ks.take (k + 1)).flatMap st = (ks.take k).flatMap st ++ st ks[k] by rw [List.take_succ_eq_append_getElem hlt, List.flatMap_append]; simp)
                have hor := (HMk.out ks[k]).1 (List.getElem_mem hlt)
                have hlb2 : (l1 ++ (ks.take (k + 1)).flatMap st).length ≤ 1000000 := by
                  have h1 := HLn.out
                  rw [HL1.out, List.length_append] at h1
                  have h2 : ((ks.take (k + 1)).flatMap st).length ≤ (ks.flatMap st).length := by
                    have e := congrArg List.length (show ks.flatMap st = (ks.take (k + 1)).flatMap st ++ (ks.drop (k + 1)).flatMap st by rw [← List.flatMap_append, List.take_append_drop])
                    rw [List.length_append] at e; omega
                  rw [List.length_append]; omega
                obtain ⟨q, hq⟩ : ∃ q, ks[k] = q := ⟨_, rfl⟩
                rw [hq] at g0 HTk hor
                rw [HTk.out, ← List.append_assoc] at hlb2
                clear hq hrd hcq
                have hqe : elementB q = true ∧ inB (joinB p) q = joinB (p ++ [q]) := by
                  rcases orF_some.1 hor with h | h
                  · obtain ⟨z, hz⟩ := Option.isSome_iff_exists.1 h
                    exact ⟨(HLA.out.elems hz).1 q (by simp), HLA.out.fine.join p q h⟩
                  · obtain ⟨z, hz⟩ := Option.isSome_iff_exists.1 h
                    exact ⟨(HLB.out.elems hz).1 q (by simp), HLB.out.fine.join p q h⟩
                have hql : q.length ≤ 60 := (elementB_ok hqe.1).2.1
                have HJ := Lib.hid hqe.2
                have HOr := Lib.hid (orF_some.1 hor)
                have hqm : q.length ≤ maxLen := by unfold maxLen; omega
                clear hqe hor
                obtain ⟨ca, lka⟩ := FA.out wr (HK6.out.trans HKr.out)
                obtain ⟨cb, lkb⟩ := FB.out wr HWr.out
                have lka1 := lka q hqm
                have lkb1 := lkb q hqm
                have lka2 := fun n : Nat => (FA.out (wr.drewN n) ⟨(HK6.out.trans HKr.out).size, (HK6.out.trans HKr.out).keep⟩).2 q hqm
                have lkb2 := fun n : Nat => (FB.out (wr.drewN n) (below_drewN HWr.out n)).2 q hqm
                clear lka lkb
                generalize (ks.take k).flatMap st = lk at *
                have HJq := Lib.hid (show ∀ W : World, Calls Tryz.prog 54 #[.string (S (joinB p)), .string (S q)] W (fun e w' => e = .returned (.string (S (joinB (p ++ [q])))) ∧ w' = W) from fun W => (joinP_any (joinB p) q W (by omega)).mono fun e w' h => ⟨by rw [h.1, HJ.out], h.2.symm⟩)
                cases hG : G (p ++ [q]) with
                | none =>
                  cases hF : F (p ++ [q]) with
                  | none => exfalso; have := HOr.out; rw [hG, hF] at this; simp at this
                  | some y =>
                    simp only [hF] at lka1 lka2
                    simp only [hG] at lkb1 lkb2
                    replace lka1 : (Instr.lookup tMap (.map (some mb)) (.string (S q)) false).run Tryz.prog wr = .ok (.pointer (some ⟨a (p ++ [q]), 0, none⟩)) wr := lka1
                    replace lkb1 : (Instr.lookup tMap (.map (some (m' p))) (.string (S q)) false).run Tryz.prog wr = .ok (.pointer none) wr := lkb1
                    replace lka2 : ∀ n : Nat, (Instr.lookup tMap (.map (some mb)) (.string (S q)) false).run Tryz.prog (wr.drewN n) = .ok (.pointer (some ⟨a (p ++ [q]), 0, none⟩)) (wr.drewN n) := lka2
                    replace lkb2 : ∀ n : Nat, (Instr.lookup tMap (.map (some (m' p))) (.string (S q)) false).run Tryz.prog (wr.drewN n) = .ok (.pointer none) (wr.drewN n) := lkb2
                    have HGq := Lib.hid hG
                    have HFq := Lib.hid hF
                    clear hG hF
                    have HV := HV2
                    have HO := HO2
                    have HW := HWr
                    have HK := HKr
                    clear HV2 HO2 HWr HKr
                    go_upto_region 15 with fail
                    go_quiet (exact Calls.quiet_of_same (HJq.out _))
                    clear g0 ca cb lka1 lkb1 lka2 lkb2 HJq
                    generalize hD : World.drewN wr _ = wd
                    have HV5 := Lib.hid (show VarC wd lb v2 by rw [← hD]; exact HV.out)
                    have HO5 := Lib.hid (show OwnC wd W0.heap.size v2 (l1 ++ lk) by rw [← hD]; exact HO.out)
                    have HW5 := Lib.hid (show Below W0.heap.size W0 wd by rw [← hD]; exact below_drewN HW.out _)
                    have HK5 := Lib.hid (show KeepX w6 wd by rw [← hD]; exact ⟨HK.out.size, HK.out.keep⟩)
                    clear hD HV HO HW HK
                    have HV := HV5
                    have HO := HO5
                    have HW := HW5
                    have HK := HK5
                    clear HV5 HO5 HW5 HK5
                    have hdG := isDirF_none HGq.out
                    obtain ⟨av, cv, hve⟩ := ownsRow_form HO.out
                    subst hve
                    cases cl with
                    | true =>
                      have HSq := Lib.hid (show st q = [] by rw [HSt.out, hdG, if_neg (by decide), List.append_nil]; unfold stepE; rw [HGq.out]; simp only; rw [if_pos HC.out])
                      clear hdG
                      go_wp2
                      go_roundw
                      case rel => exact ⟨k + 1, (.slice av (l1 ++ lk).length cv), by omega, by go_num, HV, Lib.hid (own_eqC HO.out rfl (by rw [HTk.out, HSq.out]; simp)), HW, HK⟩
                      case measure => simp [intOf]; omega
                    | false =>
                      have HSq := Lib.hid (show st q = [⟨joinB (p ++ [q]), 4, 0, []⟩] by rw [HSt.out, hdG, if_neg (by decide), List.append_nil]; unfold stepE; rw [HGq.out]; simp only; rw [if_neg (by rw [HC.out]; decide)])
                      clear hdG
                      have fv := HV.out.cell
                      have hll : (l1 ++ lk).length ≤ 1000000 := by rw [List.length_append] at hlb2; omega
                      generalize hl2 : l1 ++ lk = l2 at *
                      go_wp2_with (at_builtin; refine wpList_append_own _ rfl _ _ tChgs rfl W0.heap.size tChg i0 entZ 4 48 Tryz.underlying25 hi0 hz0 hz1 hz2 rfl (by decide) _ _ _ rfl (HO.out.alloc _) ⟨_, 0, none⟩ 1 1 [.string (S (joinB (p ++ [q]))), .int .i64 4, .int .i64 0, .string (S [])] rfl rfl (cells4_at _ _ _ _ _ _ _ (by simp)) (by simp [Value.oneCell']) (by unfold maxLen; omega) (by omega) (by simp; have := HW.out.size; omega) ?_; intro v' w5 hown5 hgr5 _; obtain ⟨ao', c', rfl⟩ := ownsRow_form hown5; have HB5 := Lib.hid ((HW.out.alloc HW.out.size _).grown hgr5 (by have := HW.out.size; simp; omega) (fun kq hq => ((HO.out.alloc (.cells #[.string (S (joinB (p ++ [q]))), .int .i64 4, .int .i64 0, .string (S [])] tChg)).lt kq hq).1)); have HV5 := Lib.hid ((HV.out.below ((Below.refl _ _).alloc (Nat.le_refl _) _)).grown (HO.out.alloc _) hgr5); have HK5 := Lib.hid ((HK.out.trans (KeepX.below ((Below.refl _ _).alloc (Nat.le_refl _) _))).trans (KeepX.grown (HO.out.alloc _) hgr5)); have HO5 := Lib.hid (own_snocC hown5); have fc5 := HV5.out.cell; have ff5 := HV5.out.frozen; clear hown5 hgr5 fv)
                      go_roundw
                      case rel => exact ⟨k + 1, _, by omega, by go_num, Lib.hid (HV5.out.set _), Lib.hid (own_eqC (HO5.out.set HV5.out _) rfl (by rw [HTk.out, HSq.out, ← hl2]; simp)), Lib.hid (HB5.out.setCell hlb _), Lib.hid (HK5.out.trans (KeepX.set HV5.out _))⟩
                      case measure => simp [intOf]; omega
                | some x2 =>
                  cases hF : F (p ++ [q]) with
                  | none =>
                    simp only [hF] at lka1 lka2
                    simp only [hG] at lkb1 lkb2
                    replace lka1 : (Instr.lookup tMap (.map (some mb)) (.string (S q)) false).run Tryz.prog wr = .ok (.pointer none) wr := lka1
                    replace lkb1 : (Instr.lookup tMap (.map (some (m' p))) (.string (S q)) false).run Tryz.prog wr = .ok (.pointer (some ⟨a' (p ++ [q]), 0, none⟩)) wr := lkb1
                    replace lka2 : ∀ n : Nat, (Instr.lookup tMap (.map (some mb)) (.string (S q)) false).run Tryz.prog (wr.drewN n) = .ok (.pointer none) (wr.drewN n) := lka2
                    replace lkb2 : ∀ n : Nat, (Instr.lookup tMap (.map (some (m' p))) (.string (S q)) false).run Tryz.prog (wr.drewN n) = .ok (.pointer (some ⟨a' (p ++ [q]), 0, none⟩)) (wr.drewN n) := lkb2
                    have HGq := Lib.hid hG
                    have HFq := Lib.hid hF
                    clear hG hF
                    have HV := HV2
                    have HO := HO2
                    have HW := HWr
                    have HK := HKr
                    clear HV2 HO2 HWr HKr
                    go_upto_region 15 with fail
                    go_quiet (exact Calls.quiet_of_same (HJq.out _))
                    clear g0 ca cb lka1 lkb1 lka2 lkb2 HJq
                    generalize hD : World.drewN wr _ = wd
                    have HV5 := Lib.hid (show VarC wd lb v2 by rw [← hD]; exact HV.out)
                    have HO5 := Lib.hid (show OwnC wd W0.heap.size v2 (l1 ++ lk) by rw [← hD]; exact HO.out)
                    have HW5 := Lib.hid (show Below W0.heap.size W0 wd by rw [← hD]; exact below_drewN HW.out _)
                    have HK5 := Lib.hid (show KeepX w6 wd by rw [← hD]; exact ⟨HK.out.size, HK.out.keep⟩)
                    clear hD HV HO HW HK
                    have HV := HV5
                    have HO := HO5
                    have HW := HW5
                    have HK := HK5
                    clear HV5 HO5 HW5 HK5
                    obtain ⟨n0, n1, n2, n3, n4⟩ := (HU.out.below HW.out).cells _ _ HGq.out
                    go_upto_region 18 with fail
                    have hb7 : Below wd.heap.size wd (wd.alloc (.cells #[.string (S (joinB (p ++ [q]))), .int .i64 x2.kind, .int .i64 x2.mode, .string (S x2.data)] 41)) := (Below.refl _ _).alloc (Nat.le_refl _) _
                    have Q7 := Lib.hid (Cell4.new wd ⟨joinB (p ++ [q]), x2.kind, x2.mode, x2.data⟩ 41)
                    skip
                    generalize hw7 : wd.alloc (.cells #[.string (S (joinB (p ++ [q]))), .int .i64 x2.kind, .int .i64 x2.mode, .string (S x2.data)] 41) = w7 at hb7 Q7 ⊢
                    have HV5 := Lib.hid (HV.out.below hb7)
                    have HO5 := Lib.hid (ownsRow_below HO.out hb7)
                    have HW5 := Lib.hid (HW.out.trans (hb7.mono HW.out.size))
                    have HK5 := Lib.hid (HK.out.trans (KeepX.below hb7))
                    clear n0 n1 n2 n3 n4 hb7 hw7 HV HO HW HK
                    have HV := HV5
                    have HO := HO5
                    have HW := HW5
                    have HK := HK5
                    clear HV5 HO5 HW5 HK5
                    obtain ⟨n0, n1, n2, n3, n4⟩ := (HU.out.below HW.out).cells _ _ HGq.out
                    go_quiet (fail)
                    clear n0 n1 n2 n3 n4
                    generalize hD : World.drewN w7 _ = w8
                    have HV5 := Lib.hid (show VarC w8 lb v2 by rw [← hD]; exact HV.out)
                    have HO5 := Lib.hid (show OwnC w8 W0.heap.size v2 (l1 ++ lk) by rw [← hD]; exact HO.out)
                    have HW5 := Lib.hid (show Below W0.heap.size W0 w8 by rw [← hD]; exact below_drewN HW.out _)
                    have HK5 := Lib.hid (show KeepX w6 w8 by rw [← hD]; exact ⟨HK.out.size, HK.out.keep⟩)
                    have Q8 := Lib.hid (show Cell4 w8 wd.heap.size ⟨joinB (p ++ [q]), x2.kind, x2.mode, x2.data⟩ by rw [← hD]; exact Q7.out)
                    clear Q7
                    clear hD HV HO HW HK
                    have HV := HV5
                    have HO := HO5
                    have HW := HW5
                    have HK := HK5
                    clear HV5 HO5 HW5 HK5
                    have HSe := Lib.hid (show stepE F G p q = [⟨joinB (p ++ [q]), x2.kind, x2.mode, x2.data⟩] by unfold stepE; rw [HGq.out]; simp only; rw [if_neg (by rw [HFq.out]; exact fun h => by cases h)])
                    go_upto_if 102 with fail
                    go_cut [102] (fun v wx => v = .bool true ∧ Hid (∃ v3, VarC wx lb v3 ∧ OwnC wx W0.heap.size v3 (l1 ++ lk ++ stepE F G p q)) ∧ Hid (Below W0.heap.size W0 wx) ∧ Hid (KeepX w6 wx))
                    case first =>
                      obtain ⟨q0, q1, q2, q3⟩ := Q8.out
                      obtain ⟨av, cv, hve⟩ := ownsRow_form HO.out
                      subst hve
                      have fv := HV.out.cell
                      have hll : (l1 ++ lk).length ≤ 1000000 := by rw [List.length_append] at hlb2; omega
                      generalize hl2 : l1 ++ lk = l2 at *
                      have HBd := Lib.hid (fun o : Obj => (Below.alloc (below_drew1 (Below.refl w8.heap.size w8)) (Nat.le_refl _) o : Below w8.heap.size w8 (w8.drew.alloc o)))
                      have hWs := HW.out.size
                      have hlv := HV.out.lt
                      have hlq : wd.heap.size < w8.heap.size := World.block_lt_of_cell? w8 _ q0
                      go_upto_region 19 with fail
                      go_region_law (refine step_append_lies _ (by rfl) (.tmp 106) (.tmp 108) tChgs (by rfl) W0.heap.size tChg i0 entZ 4 48 Tryz.underlying25 hi0 hz0 hz1 hz2 (by rfl) (by decide) (.slice av l2.length cv) l2.length (ents l2) (by rfl) (ownsRow_below HO.out (HBd.out _)) ⟨_, 0, none⟩ 1 1 [.string (S (joinB (p ++ [q]))), .int .i64 x2.kind, .int .i64 x2.mode, .string (S x2.data)] (by rfl) (by rfl) (cells4_at _ _ _ _ _ _ _ (by simp)) (by simp [Value.oneCell']) (by decide) (by unfold maxLen; omega) (by omega) (by simp; omega) _ (by rfl) ?_; intro g' c' w9 hown9 hgr9 _ _; have HV5 := Lib.hid ((HV.out.below (HBd.out _)).grown (ownsRow_below HO.out (HBd.out _)) hgr9); have HO5 := Lib.hid (own_snocC hown9); have HW5 := Lib.hid ((HW.out.trans ((HBd.out _).mono HW.out.size)).grown hgr9 (by simp; omega) (own_le HO.out)); have HK5 := Lib.hid ((HK.out.trans (KeepX.below (HBd.out _))).trans (KeepX.grown (ownsRow_below HO.out (HBd.out _)) hgr9)); have fc5 := HV5.out.cell; have ff5 := HV5.out.frozen; clear hown9 hgr9)
                      all_goals
                        go_wp2
                        go_meet
                        exact ⟨rfl, Lib.hid ⟨_, HV5.out.set _, own_eqC (HO5.out.set HV5.out _) rfl (by rw [HSe.out])⟩, Lib.hid (HW5.out.setCell hlb _), Lib.hid (HK5.out.trans (KeepX.set HV5.out _))⟩
                    case rest =>
                      obtain ⟨rfl, HVO, HW5, HK5⟩ := hcut
                      obtain ⟨v3, hV3, hO3⟩ := HVO.out
                      have HV5 := Lib.hid hV3
                      have HO5 := Lib.hid hO3
                      clear HV HO HW HK hV3 hO3 HVO Q8
                      have HV := HV5
                      have HO := HO5
                      have HW := HW5
                      have HK := HK5
                      clear HV5 HO5 HW5 HK5
                      obtain ⟨n0, n1, n2, n3, n4⟩ := (HU.out.below HW.out).cells _ _ HGq.out
                      by_cases hxd : x2.kind = 1
                      · have fk : (x2.kind == 1) = true := by rw [hxd]; rfl
                        have hdG : isDirF G (p ++ [q]) = true := isDirF_iff.2 ⟨x2, HGq.out, hxd⟩
                        have HSq := Lib.hid (show st q = stepE F G p q ++ diffGo F G d (p ++ [q]) by rw [HSt.out, if_pos hdG])
                        have HDG := Lib.hid hdG
                        clear hdG hxd
                        have HFd := Lib.hid (isDirF_none HFq.out)
                        go_upto_region 23 with fail
                        have hbf : Below wc.heap.size wc ((wc.alloc (.map #[] 0)).alloc (.cells #[.string (S []), .int .i64 0, .int .i64 0, .string (S []), .map (some wc.heap.size)] 108)) := ((Below.refl _ _).alloc (Nat.le_refl _) _).alloc (by simp) _
                        have HAn := Lib.hid (show ANode ((wc.alloc (.map #[] 0)).alloc (.cells #[.string (S []), .int .i64 0, .int .i64 0, .string (S []), .map (some wc.heap.size)] 108)) (wc.heap.size + 1) wc.heap.size N (kidsF F a (p ++ [q])) by rw [kids_none HT.out.tree HFd.out]; exact fresh_anode wc N)
                        generalize hwf : ((wc.alloc (.map #[] 0)).alloc (.cells #[.string (S []), .int .i64 0, .int .i64 0, .string (S []), .map (some wc.heap.size)] 108)) = wf at hbf HAn ⊢
                        have HV5 := Lib.hid (HV.out.below hbf)
                        have HO5 := Lib.hid (ownsRow_below HO.out hbf)
                        have HW5 := Lib.hid (HW.out.trans (hbf.mono HW.out.size))
                        have HK5 := Lib.hid (HK.out.trans (KeepX.below hbf))
                        clear hbf hwf HV HO HW HK
                        have HV := HV5
                        have HO := HO5
                        have HW := HW5
                        have HK := HK5
                        clear HV5 HO5 HW5 HK5
                        have hlr : (l1 ++ lk ++ stepE F G p q).length + (diffGo F G d (p ++ [q])).length ≤ 1000000 := by rw [HSq.out] at hlb2; simp only [List.length_append] at hlb2 ⊢; omega
                        have HRec := Lib.hid (IH.out (p ++ [q]) (by simp; omega) HDG.out _ (wc.heap.size + 1) wc.heap.size lb v3 (l1 ++ lk ++ stepE F G p q) HW.out hlb HAn.out HV.out HO.out hlr)
                        clear hlr HAn HV HO
                        go_wp2_with fail
                        refine HRec.out.mono ?_
                        rintro e12 w12 ⟨rfl, v12, hV12, hO12, hW12, hK12⟩
                        have HV := Lib.hid hV12
                        have HO := Lib.hid hO12
                        have HK5 := Lib.hid (HK.out.trans hK12)
                        have HW5 := Lib.hid hW12
                        clear hV12 hO12 hW12 hK12 HW HK HRec n0 n1 n2 n3 n4
                        have HW := HW5
                        have HK := HK5
                        clear HW5 HK5
                        obtain ⟨av, cv, hve⟩ := ownsRow_form HO.out
                        subst hve
                        go_wp2
                        go_roundw
                        case rel => exact ⟨k + 1, _, by omega, by go_num, HV, Lib.hid (own_eqC HO.out rfl (by rw [HTk.out, HSq.out]; simp)), HW, HK⟩
                        case measure => simp [intOf]; omega
                      · have fk : (x2.kind == 1) = false := by rw [beq_eq_false_iff_ne]; exact hxd
                        have HSq := Lib.hid (show st q = stepE F G p q by rw [HSt.out, if_neg (by unfold isDirF; rw [HGq.out]; simpa using hxd), List.append_nil])
                        clear hxd
                        obtain ⟨av, cv, hve⟩ := ownsRow_form HO.out
                        subst hve
                        go_wp2
                        go_roundw
                        case rel => exact ⟨k + 1, _, by omega, by go_num, HV, Lib.hid (own_eqC HO.out rfl (by rw [HTk.out, HSq.out]; simp)), HW, HK⟩
                        case measure => simp [intOf]; omega
                  | some y =>
                    simp only [hF] at lka1 lka2
                    simp only [hG] at lkb1 lkb2
                    replace lka1 : (Instr.lookup tMap (.map (some mb)) (.string (S q)) false).run Tryz.prog wr = .ok (.pointer (some ⟨a (p ++ [q]), 0, none⟩)) wr := lka1
                    replace lkb1 : (Instr.lookup tMap (.map (some (m' p))) (.string (S q)) false).run Tryz.prog wr = .ok (.pointer (some ⟨a' (p ++ [q]), 0, none⟩)) wr := lkb1
                    replace lka2 : ∀ n : Nat, (Instr.lookup tMap (.map (some mb)) (.string (S q)) false).run Tryz.prog (wr.drewN n) = .ok (.pointer (some ⟨a (p ++ [q]), 0, none⟩)) (wr.drewN n) := lka2
                    replace lkb2 : ∀ n : Nat, (Instr.lookup tMap (.map (some (m' p))) (.string (S q)) false).run Tryz.prog (wr.drewN n) = .ok (.pointer (some ⟨a' (p ++ [q]), 0, none⟩)) (wr.drewN n) := lkb2
                    have HGq := Lib.hid hG
                    have HFq := Lib.hid hF
                    clear hG hF
                    have HV := HV2
                    have HO := HO2
                    have HW := HWr
                    have HK := HKr
                    clear HV2 HO2 HWr HKr
                    go_upto_region 15 with fail
                    go_quiet (exact Calls.quiet_of_same (HJq.out _))
                    clear g0 ca cb lka1 lkb1 lka2 lkb2 HJq
                    generalize hD : World.drewN wr _ = wd
                    have HV5 := Lib.hid (show VarC wd lb v2 by rw [← hD]; exact HV.out)
                    have HO5 := Lib.hid (show OwnC wd W0.heap.size v2 (l1 ++ lk) by rw [← hD]; exact HO.out)
                    have HW5 := Lib.hid (show Below W0.heap.size W0 wd by rw [← hD]; exact below_drewN HW.out _)
                    have HK5 := Lib.hid (show KeepX w6 wd by rw [← hD]; exact ⟨HK.out.size, HK.out.keep⟩)
                    clear hD HV HO HW HK
                    have HV := HV5
                    have HO := HO5
                    have HW := HW5
                    have HK := HK5
                    clear HV5 HO5 HW5 HK5
                    have hFG : (F (p ++ [q]) = some x2) ↔ (y.kind = x2.kind ∧ y.mode = x2.mode ∧ y.data = x2.data) := by
                      rw [HFq.out]
                      obtain ⟨y1, y2, y3⟩ := y
                      obtain ⟨z1, z2, z3⟩ := x2
                      simp
                    obtain ⟨E, hE⟩ : ∃ E : Bool, decide (¬ (y.kind = x2.kind ∧ y.mode = x2.mode ∧ y.data = x2.data)) = E := ⟨_, rfl⟩
                    have HEq := Lib.hid (show stepE F G p q = if E = true then [⟨joinB (p ++ [q]), x2.kind, x2.mode, x2.data⟩] else [] by unfold stepE; rw [HGq.out]; simp only; rw [← hE]; by_cases h : F (p ++ [q]) = some x2 <;> simp [h, ← hFG])
                    have hne : ∀ wz : World, (binOp .neq 41 (.agg #[.string (S []), .int .i64 y.kind, .int .i64 y.mode, .string (S y.data)]) (.agg #[.string (S []), .int .i64 x2.kind, .int .i64 x2.mode, .string (S x2.data)])).run Tryz.prog wz = .ok (.bool E) wz := fun wz => by rw [neq_ent [] y.kind y.mode x2.kind x2.mode y.data x2.data _ rfl wz, hE]
                    clear hE hFG
                    obtain ⟨n0, n1, n2, n3, n4⟩ := (HU.out.below HW.out).cells _ _ HGq.out
                    go_upto_region 18 with fail
                    have hb7 : Below wd.heap.size wd (wd.alloc (.cells #[.string (S (joinB (p ++ [q]))), .int .i64 x2.kind, .int .i64 x2.mode, .string (S x2.data)] 41)) := (Below.refl _ _).alloc (Nat.le_refl _) _
                    have Q7 := Lib.hid (Cell4.new wd ⟨joinB (p ++ [q]), x2.kind, x2.mode, x2.data⟩ 41)
                    skip
                    generalize hw7 : wd.alloc (.cells #[.string (S (joinB (p ++ [q]))), .int .i64 x2.kind, .int .i64 x2.mode, .string (S x2.data)] 41) = w7 at hb7 Q7 ⊢
                    have HV5 := Lib.hid (HV.out.below hb7)
                    have HO5 := Lib.hid (ownsRow_below HO.out hb7)
                    have HW5 := Lib.hid (HW.out.trans (hb7.mono HW.out.size))
                    have HK5 := Lib.hid (HK.out.trans (KeepX.below hb7))
                    clear n0 n1 n2 n3 n4 hb7 hw7 HV HO HW HK
                    have HV := HV5
                    have HO := HO5
                    have HW := HW5
                    have HK := HK5
                    clear HV5 HO5 HW5 HK5
                    obtain ⟨n0, n1, n2, n3, n4⟩ := (HU.out.below HW.out).cells _ _ HGq.out
                    obtain ⟨m0, m1, m2, m3, m4⟩ := (HT.out.below HW.out).cells _ _ HFq.out
                    go_quiet (fail)
                    clear n0 n1 n2 n3 n4 m0 m1 m2 m3 m4 hne
                    generalize hD : World.drewN w7 _ = w8
                    have HV5 := Lib.hid (show VarC w8 lb v2 by rw [← hD]; exact HV.out)
                    have HO5 := Lib.hid (show OwnC w8 W0.heap.size v2 (l1 ++ lk) by rw [← hD]; exact HO.out)
                    have HW5 := Lib.hid (show Below W0.heap.size W0 w8 by rw [← hD]; exact below_drewN HW.out _)
                    have HK5 := Lib.hid (show KeepX w6 w8 by rw [← hD]; exact ⟨HK.out.size, HK.out.keep⟩)
                    have Q8 := Lib.hid (show Cell4 w8 wd.heap.size ⟨joinB (p ++ [q]), x2.kind, x2.mode, x2.data⟩ by rw [← hD]; exact Q7.out)
                    clear Q7
                    clear hD HV HO HW HK
                    have HV := HV5
                    have HO := HO5
                    have HW := HW5
                    have HK := HK5
                    clear HV5 HO5 HW5 HK5
                    go_upto_if 102 with fail
                    go_cut [102] (fun v wx => v = .bool E ∧ Hid (∃ v3, VarC wx lb v3 ∧ OwnC wx W0.heap.size v3 (l1 ++ lk ++ stepE F G p q)) ∧ Hid (Below W0.heap.size W0 wx) ∧ Hid (KeepX w6 wx))
                    case first =>
                      cases E with
                      | true =>
                        have HSe := Lib.hid (show stepE F G p q = [⟨joinB (p ++ [q]), x2.kind, x2.mode, x2.data⟩] by rw [HEq.out, if_pos rfl])
                        obtain ⟨q0, q1, q2, q3⟩ := Q8.out
                        obtain ⟨av, cv, hve⟩ := ownsRow_form HO.out
                        subst hve
                        have fv := HV.out.cell
                        have hll : (l1 ++ lk).length ≤ 1000000 := by rw [List.length_append] at hlb2; omega
                        generalize hl2 : l1 ++ lk = l2 at *
                        have HBd := Lib.hid (fun o : Obj => (Below.alloc (below_drew1 (Below.refl w8.heap.size w8)) (Nat.le_refl _) o : Below w8.heap.size w8 (w8.drew.alloc o)))
                        have hWs := HW.out.size
                        have hlv := HV.out.lt
                        have hlq : wd.heap.size < w8.heap.size := World.block_lt_of_cell? w8 _ q0
                        go_upto_region 19 with fail
                        go_region_law (refine step_append_lies _ (by rfl) (.tmp 106) (.tmp 108) tChgs (by rfl) W0.heap.size tChg i0 entZ 4 48 Tryz.underlying25 hi0 hz0 hz1 hz2 (by rfl) (by decide) (.slice av l2.length cv) l2.length (ents l2) (by rfl) (ownsRow_below HO.out (HBd.out _)) ⟨_, 0, none⟩ 1 1 [.string (S (joinB (p ++ [q]))), .int .i64 x2.kind, .int .i64 x2.mode, .string (S x2.data)] (by rfl) (by rfl) (cells4_at _ _ _ _ _ _ _ (by simp)) (by simp [Value.oneCell']) (by decide) (by unfold maxLen; omega) (by omega) (by simp; omega) _ (by rfl) ?_; intro g' c' w9 hown9 hgr9 _ _; have HV5 := Lib.hid ((HV.out.below (HBd.out _)).grown (ownsRow_below HO.out (HBd.out _)) hgr9); have HO5 := Lib.hid (own_snocC hown9); have HW5 := Lib.hid ((HW.out.trans ((HBd.out _).mono HW.out.size)).grown hgr9 (by simp; omega) (own_le HO.out)); have HK5 := Lib.hid ((HK.out.trans (KeepX.below (HBd.out _))).trans (KeepX.grown (ownsRow_below HO.out (HBd.out _)) hgr9)); have fc5 := HV5.out.cell; have ff5 := HV5.out.frozen; clear hown9 hgr9)
                        all_goals
                          go_wp2
                          go_meet
                          exact ⟨rfl, Lib.hid ⟨_, HV5.out.set _, own_eqC (HO5.out.set HV5.out _) rfl (by rw [HSe.out])⟩, Lib.hid (HW5.out.setCell hlb _), Lib.hid (HK5.out.trans (KeepX.set HV5.out _))⟩
                      | false =>
                        obtain ⟨av, cv, hve⟩ := ownsRow_form HO.out
                        subst hve
                        go_wp2
                        go_meet
                        exact ⟨rfl, Lib.hid ⟨_, HV.out, own_eqC HO.out rfl (by rw [HEq.out, if_neg (by decide), List.append_nil])⟩, HW, HK⟩
                    case rest =>
                      obtain ⟨rfl, HVO, HW5, HK5⟩ := hcut
                      obtain ⟨v3, hV3, hO3⟩ := HVO.out
                      have HV5 := Lib.hid hV3
                      have HO5 := Lib.hid hO3
                      clear HV HO HW HK hV3 hO3 HVO Q8
                      have HV := HV5
                      have HO := HO5
                      have HW := HW5
                      have HK := HK5
                      clear HV5 HO5 HW5 HK5
                      obtain ⟨n0, n1, n2, n3, n4⟩ := (HU.out.below HW.out).cells _ _ HGq.out
                      by_cases hxd : x2.kind = 1
                      · have fk : (x2.kind == 1) = true := by rw [hxd]; rfl
                        have hdG : isDirF G (p ++ [q]) = true := isDirF_iff.2 ⟨x2, HGq.out, hxd⟩
                        have HSq := Lib.hid (show st q = stepE F G p q ++ diffGo F G d (p ++ [q]) by rw [HSt.out, if_pos hdG])
                        have HDG := Lib.hid hdG
                        clear hdG hxd
                        obtain ⟨m0, m1, m2, m3, m4⟩ := (HT.out.below HW.out).cells _ _ HFq.out
                        by_cases hyd : y.kind = 1
                        · have fy : (y.kind != 1) = false := by rw [hyd]; rfl
                          have HAn := Lib.hid ((HT.out.below HW.out).anode (p ++ [q]) (isDirF_iff.2 ⟨y, HFq.out, hyd⟩))
                          clear hyd
                          have hlr : (l1 ++ lk ++ stepE F G p q).length + (diffGo F G d (p ++ [q])).length ≤ 1000000 := by rw [HSq.out] at hlb2; simp only [List.length_append] at hlb2 ⊢; omega
                          have HRec := Lib.hid (IH.out (p ++ [q]) (by simp; omega) HDG.out _ (a (p ++ [q])) (m (p ++ [q])) lb v3 (l1 ++ lk ++ stepE F G p q) HW.out hlb HAn.out HV.out HO.out hlr)
                          clear hlr HAn HV HO
                          go_wp2_with fail
                          refine HRec.out.mono ?_
                          rintro e12 w12 ⟨rfl, v12, hV12, hO12, hW12, hK12⟩
                          have HV := Lib.hid hV12
                          have HO := Lib.hid hO12
                          have HK5 := Lib.hid (HK.out.trans hK12)
                          have HW5 := Lib.hid hW12
                          clear hV12 hO12 hW12 hK12 HW HK HRec n0 n1 n2 n3 n4
                          have HW := HW5
                          have HK := HK5
                          clear HW5 HK5
                          obtain ⟨av, cv, hve⟩ := ownsRow_form HO.out
                          subst hve
                          go_wp2
                          go_roundw
                          case rel => exact ⟨k + 1, _, by omega, by go_num, HV, Lib.hid (own_eqC HO.out rfl (by rw [HTk.out, HSq.out]; simp)), HW, HK⟩
                          case measure => simp [intOf]; omega
                        · have fy : (y.kind != 1) = true := by rw [bne_iff_ne]; exact hyd
                          have HFd := Lib.hid (show isDirF F (p ++ [q]) = false by unfold isDirF; rw [HFq.out]; simpa using hyd)
                          clear hyd
                          go_upto_region 23 with fail
                          have hbf : Below wc.heap.size wc ((wc.alloc (.map #[] 0)).alloc (.cells #[.string (S []), .int .i64 0, .int .i64 0, .string (S []), .map (some wc.heap.size)] 108)) := ((Below.refl _ _).alloc (Nat.le_refl _) _).alloc (by simp) _
                          have HAn := Lib.hid (show ANode ((wc.alloc (.map #[] 0)).alloc (.cells #[.string (S []), .int .i64 0, .int .i64 0, .string (S []), .map (some wc.heap.size)] 108)) (wc.heap.size + 1) wc.heap.size N (kidsF F a (p ++ [q])) by rw [kids_none HT.out.tree HFd.out]; exact fresh_anode wc N)
                          generalize hwf : ((wc.alloc (.map #[] 0)).alloc (.cells #[.string (S []), .int .i64 0, .int .i64 0, .string (S []), .map (some wc.heap.size)] 108)) = wf at hbf HAn ⊢
                          have HV5 := Lib.hid (HV.out.below hbf)
                          have HO5 := Lib.hid (ownsRow_below HO.out hbf)
                          have HW5 := Lib.hid (HW.out.trans (hbf.mono HW.out.size))
                          have HK5 := Lib.hid (HK.out.trans (KeepX.below hbf))
                          clear hbf hwf HV HO HW HK
                          have HV := HV5
                          have HO := HO5
                          have HW := HW5
                          have HK := HK5
                          clear HV5 HO5 HW5 HK5
                          have hlr : (l1 ++ lk ++ stepE F G p q).length + (diffGo F G d (p ++ [q])).length ≤ 1000000 := by rw [HSq.out] at hlb2; simp only [List.length_append] at hlb2 ⊢; omega
                          have HRec := Lib.hid (IH.out (p ++ [q]) (by simp; omega) HDG.out _ (wc.heap.size + 1) wc.heap.size lb v3 (l1 ++ lk ++ stepE F G p q) HW.out hlb HAn.out HV.out HO.out hlr)
                          clear hlr HAn HV HO
                          go_wp2_with fail
                          refine HRec.out.mono ?_
                          rintro e12 w12 ⟨rfl, v12, hV12, hO12, hW12, hK12⟩
                          have HV := Lib.hid hV12
                          have HO := Lib.hid hO12
                          have HK5 := Lib.hid (HK.out.trans hK12)
                          have HW5 := Lib.hid hW12
                          clear hV12 hO12 hW12 hK12 HW HK HRec n0 n1 n2 n3 n4
                          have HW := HW5
                          have HK := HK5
                          clear HW5 HK5
                          obtain ⟨av, cv, hve⟩ := ownsRow_form HO.out
                          subst hve
                          go_wp2
                          go_roundw
                          case rel => exact ⟨k + 1, _, by omega, by go_num, HV, Lib.hid (own_eqC HO.out rfl (by rw [HTk.out, HSq.out]; simp)), HW, HK⟩
                          case measure => simp [intOf]; omega
                      · have fk : (x2.kind == 1) = false := by rw [beq_eq_false_iff_ne]; exact hxd
                        have HSq := Lib.hid (show st q = stepE F G p q by rw [HSt.out, if_neg (by unfold isDirF; rw [HGq.out]; simpa using hxd), List.append_nil])
                        clear hxd
                        obtain ⟨av, cv, hve⟩ := ownsRow_form HO.out
                        subst hve
                        go_wp2
                        go_roundw
                        case rel => exact ⟨k + 1, _, by omega, by go_num, HV, Lib.hid (own_eqC HO.out rfl (by rw [HTk.out, HSq.out]; simp)), HW, HK⟩
                        case measure => simp [intOf]; omega
              · obtain rfl : k = ks.length := by omega
                rw [List.take_length, ← HL1.out] at HO2
                go_wp2
                go_end0
                exact ⟨rfl, v2, HV2.out, HO2.out, HWr.out, HK6.out.trans HKr.out⟩
      · intro y c' kl z yb w' cnt' hkey hlk hv hat hrg' hlt hgr hsz' hen
        obtain ⟨y', hx1, rfl, hxl⟩ := Maps.keyOf_str Tryz.underlying9 hkey
        have hxx : y = y' := by
          have h1 : S y = S y' := Value.string.inj hx1
          exact S_inj h1
        subst hxx
        have hcol := Lib.hid (hco.out.step hlk hat)
        have hB2 := Lib.hid (hB.out.grown hgr hbs (fun k hk => by have := Option.some.inj hk; omega))
        have hBw2 := Lib.hid (HW.out.trans (hB2.out.mono HW.out.size))
        have HLT := Lib.hid hlt
        have HRG := Lib.hid hrg'
        have hKs := kept_snoc G p ss y
        obtain ⟨cb, lk⟩ := FB.out _ hBw2.out
        have lk1 := lk y hxl
        have hlen2 : (ss ++ [y]).length + cnt' ≤ N := by
          simp only [List.length_append, List.length_singleton]
          omega
        have hKe : keptN G p (ss ++ [y]) ≤ (ss ++ [y]).length := List.length_filter_le _ _
        have hLe : lostN G p (ss ++ [y]) ≤ (ss ++ [y]).length := List.length_filter_le _ _
        clear hkey hlk hv hat hrg' hlt hgr hsz' hx1 lk
        have hlen3 : ss.length + 1 + cnt' ≤ N := by simpa using hlen2
        simp only [List.length_append, List.length_singleton] at hKe hLe
        cases hs : (G (p ++ [y])).isSome with
        | true =>
          rw [hs] at lk1 hKs
          replace lk1 : (Instr.lookup tMap (.map (some (m' p))) (.string (S y)) false).run Tryz.prog w' = .ok (.pointer (some ⟨a' (p ++ [y]), 0, none⟩)) w' := lk1
          simp only [if_true] at hKs
          have hb1 : K + 1 ≤ 1000000 := by have := hKL.out; omega
          have hKL2 := Lib.hid (show K + 1 = keptN G p (ss ++ [y]) ∧ L = lostN G p (ss ++ [y]) by rw [hKs.1, hKs.2]; have := hKL.out; omega)
          clear hKe hLe hs hKs hKL hlen2
          go_wp2
          go_roundw
          case rel => exact ⟨fun z => left z && !z.sameKey (.string y), cnt', ss ++ [y], K + 1, L, by go_num, rfl, hb1, hL, hKL2, HRG, hcol.out, by rw [Hid, List.length_append, List.length_singleton]; exact hlen3, hB2⟩
          case measure =>
            have h1 := HRG.out.left_eq
            have h2 := hrg.out.left_eq
            have := HLT.out
            rw [h1, h2]; exact this
        | false =>
          rw [hs] at lk1 hKs
          replace lk1 : (Instr.lookup tMap (.map (some (m' p))) (.string (S y)) false).run Tryz.prog w' = .ok (.pointer none) w' := lk1
          simp only [Bool.false_eq_true, if_false] at hKs
          have hb1 : L + 1 ≤ 1000000 := by have := hKL.out; omega
          have hKL2 := Lib.hid (show K = keptN G p (ss ++ [y]) ∧ L + 1 = lostN G p (ss ++ [y]) by rw [hKs.1, hKs.2]; have := hKL.out; omega)
          clear hKe hLe hs hKs hKL hlen2
          go_wp2
          go_roundw
          case rel => exact ⟨fun z => left z && !z.sameKey (.string y), cnt', ss ++ [y], K, L + 1, rfl, by go_num, hK, hb1, hKL2, HRG, hcol.out, by rw [Hid, List.length_append, List.length_singleton]; exact hlen3, hB2⟩
          case measure =>
            have h1 := HRG.out.left_eq
            have h2 := hrg.out.left_eq
            have := HLT.out
            rw [h1, h2]; exact this
end Go.Proofs.YtpkabccinhfmbaaGreatDoor
