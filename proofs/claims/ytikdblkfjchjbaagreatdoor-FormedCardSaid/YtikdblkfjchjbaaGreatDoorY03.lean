import Derived.BigQuiet
import Derived.Test.YtikdblkfjchjbaaGreatDoorY02
set_option linter.unusedVariables false
set_option linter.unusedSimpArgs false
set_option maxHeartbeats 16000000
set_option maxRecDepth 100000
namespace Go.Proofs.YtikdblkfjchjbaaGreatDoor
open Go.RowKit
theorem qtk(w:World):Calls Tryz.prog 19 #[.nilIface] w fun e w'=>e= .returned (.tuple #[.int .i64 0,.int .i64 (-1)])∧Below w.heap.size w w':=by
 go_enter Tryz.func19,Tryz.ntmps19;go_wp2;go_ret2;exact⟨rfl,((Below.refl _ _).alloc (Nat.le_refl _) _).alloc (by simp) _⟩
theorem qkb{B:Nat}{w:World}(hB:B≤w.heap.size)(o1 o2 o3 o4:Obj):Below B w ((((w.alloc o1).alloc o2).alloc o3).alloc o4):=
 ((((Below.refl B w).alloc hB o1).alloc (by simp;omega) o2).alloc (by simp;omega) o3).alloc (by simp;omega) o4
theorem quh(e t:Addr)(old:Value)(w:World)(hg:ErrT w)(ht0:w.cell? t=some old)(hf0:w.frozen? t=false):
 Calls Tryz.prog 32 #[.iface 80 (.pointer (some e)),.iface 82 (.pointer (some t))] w fun ev w'=>ev= .returned (.bool true)∧w'.cell? t=some (.pointer (some e))∧Below t.block w w':=by
 have htl:t.block<w.heap.size:=q6r w _ ht0;refine(q5p e t old w hg ht0 hf0).mono fun ev w' ⟨h1,h2⟩=>⟨h1,?_,?_⟩
 ·rw[h2]
  exact World.cell?_setCell_same _ _ _ (((qkb (Nat.le_refl _) _ _ _ _).cell htl).trans ht0)
 ·rw[h2]
  exact(qkb (Nat.le_of_lt htl) _ _ _ _).setCell (Nat.le_refl _) _
theorem q1k(w:World)(a b:Value)(s t:TypeId):Below w.heap.size w ((w.alloc (.cells #[a] s)).alloc (.cells #[b] t))∧
 ((w.alloc (.cells #[a] s)).alloc (.cells #[b] t)).cell? ⟨w.heap.size,0,none⟩=some a∧((w.alloc (.cells #[a] s)).alloc (.cells #[b] t)).frozen? ⟨w.heap.size,0,none⟩=false∧
 ((w.alloc (.cells #[a] s)).alloc (.cells #[b] t)).cell? ⟨w.heap.size+1,0,none⟩=some b∧((w.alloc (.cells #[a] s)).alloc (.cells #[b] t)).frozen? ⟨w.heap.size+1,0,none⟩=false∧
 ((w.alloc (.cells #[a] s)).alloc (.cells #[b] t)).heap.size=w.heap.size+2:=
 ⟨((Below.refl _ _).alloc (Nat.le_refl _) _).alloc (by simp) _,by simp,by simp,by simp,by simp,by simp⟩
theorem qx6(b o:Nat)(n p:Int)(w:World)(hg:ErrT w)(h0:w.cell? ⟨b,o,none⟩=some (.int .i64 n))(h1:w.cell? ⟨b,o+1,none⟩=some (.int .i64 p)):
 Calls Tryz.prog 19 #[.iface 80 (.pointer (some ⟨b,o,none⟩))] w fun e w'=>e= .returned (.tuple #[.int .i64 n,.int .i64 p])∧Below w.heap.size w w':=by
 obtain⟨hb0,c0,f0,c1,f1,hz⟩:=q1k w (.pointer none) (.int .i64 0) 80 27;have HC:=q6q (And.intro hb0 (And.intro c0 f0));have hg0:=q6q (hg.below hb0);have hbb:b<w.heap.size:=q6r w _ h0;have H0:=q6q h0;have H1:=q6q h1;clear hg hb0 c0 f0 c1 f1 hz h0 h1;go_enter Tryz.func19,Tryz.ntmps19;go_wp2_with fail;refine(quh ⟨b,o,none⟩ ⟨w.heap.size,0,none⟩ (.pointer none) _ hg0.out HC.out.2.1 HC.out.2.2).mono ?_;rintro e w1 ⟨rfl,hc1,hb1⟩;have hbw:=q6q (HC.out.1.trans hb1);have g0:=(hbw.out.cell (p:=⟨b,o,none⟩) hbb).trans H0.out;have g1:=(hbw.out.cell (p:=⟨b,o+1,none⟩) hbb).trans H1.out;clear hg0 HC hb1 H0 H1;go_wp2;go_quiet (fail);go_wp2;go_ret2
 exact⟨rfl,below_drewN hbw.out _⟩
end Go.Proofs.YtikdblkfjchjbaaGreatDoor
