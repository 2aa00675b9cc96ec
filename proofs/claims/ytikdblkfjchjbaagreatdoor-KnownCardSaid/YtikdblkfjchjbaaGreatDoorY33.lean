import Derived.Test.YtikdblkfjchjbaaGreatDoorY15
import Derived.Test.YtikdblkfjchjbaaGreatDoorY31
import Derived.Test.YtikdblkfjchjbaaGreatDoorY32
set_option linter.unusedVariables false
set_option linter.unusedSimpArgs false
set_option maxHeartbeats 16000000
set_option maxRecDepth 100000
namespace Go.Proofs.YtikdblkfjchjbaaGreatDoor
open Go.RowKit
def q3o (l : List Ent) (w w' : World) (e : Ending) : Except Flt (List StageG) → Prop
 | .error (f, p) => ∃ n, e = .returned (.tuple #[.pointer none, .pointer none, .iface qci (.pointer (some ⟨n, 0, none⟩))]) ∧ w.heap.size ≤ n ∧ w'.heap[n]? = some (Obj.cells #[.int .i64 f, .int .i64 p] tAt (0, 0))
 | .ok st => ∃ gp ao c k B t, e = .returned (.tuple #[.pointer (some ⟨gp, 0, none⟩), .pointer (some ⟨t, 0, none⟩), .nilIface]) ∧ PB w' gp ao st.length c k ∧ FStagesR B w' st ao c ∧ CtxT w' l t
theorem q1o (s : List UInt8) (l : List Ent) (A : Option Addr) (cap : Nat) (w : World) (hs : s.length ≤ maxLen) (hg : ErrT w) (hord : Ord w) (hS : Std w) (hr : Rd w A (ents l)) (hl : l.length ≤ 2000000000) (hln : l.length ≤ 4294967290) (hsm : ∀ e ∈ l, e.path.length ≤ 2000000000 ∧ e.data.length ≤ 2000000000) (hL : Lists l (qa0 l)) (hf : First (qcb l) l.length (-1)) :
 Calls Tryz.prog 33 #[.string (S s), .slice A l.length cap] w fun e w' => q3o l w w' e (qbk s) ∧ Below w.heap.size w w' := by
 have HP := q4z (qnv s w hs hg hord);have HL := q4z hL;have HF := q4z hf;have HO := q4z (fun (wx : World) (hb : Below w.heap.size w wx) => qs4 l A cap wx (hS.below hb) (hr.below hb) hl hsm);clear hg hord hS hr hsm hL hf;go_enter Tryz.func33, Tryz.ntmps33;go_wp2_with fail;refine HP.out.mono ?_;intro e w1 ⟨ho, hb1⟩;have HB1 := q4z hb1;clear hb1 HP;cases hp : qbk s with
 | error fp =>
  obtain ⟨f, p⟩ := fp;rw [hp] at ho;obtain ⟨n, rfl, h1, h2⟩ := ho;have HPe := q4z hp;clear hp;have H1 := q4z h1;have H2 := q4z h2;clear h1 h2;go_wp2;go_ret3;rw [HPe.out];exact ⟨⟨n, rfl, H1.out, H2.out⟩, HB1.out⟩
 | ok st =>
  rw [hp] at ho;obtain ⟨gp, ao, c, k, B, rfl, h1, h2⟩ := ho;have HPe := q4z hp;clear hp;have H1 := q4z h1;have H2 := q4z h2;clear h1 h2;go_wp2_with fail;refine (HO.out w1 HB1.out).mono ?_;rintro e w2 ⟨r, hfr, hb2, hr⟩;obtain rfl := First.uniq HF.out hfr (fun _ _ _ _ => rfl);have HB2 := q4z (HB1.out.trans (hb2.mono HB1.out.size));have H12 := q4z (PB.after H1.out hb2);have H22 := q4z (H2.out.after hb2);clear hfr hb2;rcases hr with ⟨_, t, a2, m2, rfl, hT, hV⟩ | ⟨k2, hr, _⟩
  ·have HT := q4z hT
   have HV := q4z hV;clear hT hV;go_wp2;go_ret3;rw [HPe.out];exact ⟨⟨gp, ao, c, k, B, t, rfl, H12.out, H22.out, HL.out, _, _, a2, m2, hln, HT.out, HV.out⟩, HB2.out⟩
  ·omega
end Go.Proofs.YtikdblkfjchjbaaGreatDoor
