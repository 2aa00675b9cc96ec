import Derived.Test.YtikdblkfjchjbaaGreatDoorY29
import Derived.Test.YtikdblkfjchjbaaGreatDoorY44
import Derived.Test.YtikdblkfjchjbaaGreatDoorY46
set_option linter.unusedVariables false
set_option linter.unusedSimpArgs false
set_option maxHeartbeats 16000000
set_option maxRecDepth 100000
namespace Go.Proofs.YtikdblkfjchjbaaGreatDoor
open Go.RowKit
structure May (d : List Ent) : Prop where
 fit : ∀ c ∈ d, Fit c
 ok : ∀ j, j < d.length → barP d j = false
 len : d.length ≤ 80
theorem May.first {d : List Ent} (h : May d) {r : Int} (hr : First (barP d) d.length r) : r = -1 := by
 rcases hr with ⟨i, hi, rfl, hb, _⟩ | ⟨rfl, _⟩
 ·rw [h.ok i hi] at hb; cases hb
 ·rfl
theorem qxl (l : List Ent) (h : May l) (h4 : ∀ c ∈ l, c.kind = 4) (hz : (qef l).length ≤ 1000000) (A : Option Addr) (cap : Nat) (w : World) (hw : Std w) (hT : Tz w) (hr : Rd w A (ents l)) :
 Calls Tryz.prog 28 #[.slice A l.length cap] w fun e w' => e = .returned (.tuple #[.string (S (qnw l)), .nilIface]) ∧ Below w.heap.size w w' := by
 have hl := h.len;have HV := q4z (qof l A cap w hw hr (by omega) (fun e he => by obtain ⟨q1, _, _, q4, _⟩ := qpz (h.fit e he); omega));have HM := q4z h;have H4 := q4z h4;have HW := q4z hw;have HT := q4z hT;have HR := q4z hr;clear hw hT hr h h4;go_enter Tryz.func28, Tryz.ntmps28;go_wp2_with fail;refine HV.out.mono ?_;rintro e w1 ⟨r', rfl, hf, hb1⟩;obtain rfl := HM.out.first hf
 clear HV hf;have HB := q4z hb1;clear hb1;go_wp2_with fail;refine (qxk l A cap _ (HR.out.below HB.out) (by omega) (by omega) HM.out.fit H4.out (HW.out.below HB.out) (HT.out.below HB.out)).mono ?_;rintro e w2 ⟨rfl, hb2⟩;go_wp2_with fail;go_ret2;exact ⟨rfl, HB.out.trans (hb2.mono HB.out.size)⟩
theorem qux (l : List Ent) (h : May l) (h4 : ∀ c ∈ l, c.kind = 4) (hz : (qef l).length ≤ 1000000) (A : Option Addr) (cap : Nat) (w : World) (hw : Std w) (hT : Tz w) (hr : Rd w A (ents l)) :
 Calls Tryz.prog 15 #[.slice A l.length cap] w fun e w' => e = .returned (.tuple #[.string (S (qnw l)), .int .i64 0, .int .i64 (-1)]) ∧ Below w.heap.size w w' := by
 have HL := q4z (qxl l h h4 hz A cap w hw hT hr);clear hw hT hr h h4;go_enter Tryz.func15, Tryz.ntmps15;go_wp2_with fail;refine HL.out.mono ?_;rintro e w1 ⟨rfl, hb1⟩;have HB := q4z hb1;clear hb1 HL;go_wp2_with fail;refine (qkb _).mono ?_;rintro e w2 ⟨rfl, hb2⟩;go_wp2_with fail;go_ret3;exact ⟨rfl, HB.out.trans (hb2.mono HB.out.size)⟩
end Go.Proofs.YtikdblkfjchjbaaGreatDoor
