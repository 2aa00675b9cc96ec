import Derived.Laws.EntriesVeiled
import Derived.Test.YtikdblkfjchjbaaGreatDoorY03
import Derived.Test.YtikdblkfjchjbaaGreatDoorY16
set_option linter.unusedVariables false
set_option linter.unusedSimpArgs false
set_option maxHeartbeats 16000000
set_option maxRecDepth 100000
namespace Go.Proofs.YtikdblkfjchjbaaGreatDoor
open Go.RowKit
theorem q30(n:Nat)(w:World):(Instr.typeAssert (.iface qc3 (.pointer (some ⟨n,0,none⟩))) 20 57 true).run Tryz.prog w= .ok (.tuple #[.iface qc3 (.pointer (some ⟨n,0,none⟩)),.bool true]) w:=by kernel_rfl
theorem q0x(w:World):(Instr.typeAssert .nilIface 20 57 true).run Tryz.prog w= .ok (.tuple #[.nilIface,.bool false]) w:=by kernel_rfl
theorem qxd(b2 b3:Nat)(w:World):
 CallsD Tryz.prog 42 #[.pointer (some ⟨b2,0,none⟩),.pointer (some ⟨b3,0,none⟩)] .returning w fun e u' w'=>e= .returned (.tuple #[])∧u'= .returning∧w'=w.alloc (.cells #[.pointer none] qc3):=by
 refine callsD_of_wpS Tryz.func42 rfl fun c₀ cs hu=>?_
 apply wpS_seq;apply wpS_region;simp[wpOpsS,go_sem,recoverD,hu,Tryz.ntmps42,Exit.thenS]
 apply wpS_seq;apply wpS_region;simp[wpOpsS,go_sem,recoverD,hu,Exit.thenS,q0x]
 apply wpS_seq;apply wpS_region;simp[wpOpsS,go_sem,hu,Exit.thenS,Region.wanted,yielded]
 refine wpS_cond (t:=false) (by simp[Act.eval,Array.replicate]) ?_;simp only[Bool.false_eq_true,if_false];refine wpS_of_wp (wp_skip ?_);cases c₀;simp_all [bodyPostS,results,Tryz.results42]
theorem qcg(b2 b3 n:Nat)(older:List PanicEntry)(w:World)(hg:ErrT w)(v2 v3:Value)(hc2:w.cell? ⟨b2,0,none⟩=some v2)(hf2:w.frozen? ⟨b2,0,none⟩=false)(hc3:w.cell? ⟨b3,0,none⟩=some v3)(hf3:w.frozen? ⟨b3,0,none⟩=false)(hne:b2≠b3):
 CallsD Tryz.prog 42 #[.pointer (some ⟨b2,0,none⟩),.pointer (some ⟨b3,0,none⟩)] (.panicking ({v:=.iface qc3 (.pointer (some ⟨n,0,none⟩)),recovered:=false}::older)) w fun e u' w'=>e= .returned (.tuple #[])∧u'= .panicking ({v:=.iface qc3 (.pointer (some ⟨n,0,none⟩)),recovered:=true}::older)∧∃w1,Below w.heap.size w w1∧w'=(w1.setCell ⟨b2,0,none⟩ (.pointer none)).setCell ⟨b3,0,none⟩ (.iface qc3 (.pointer (some ⟨n,0,none⟩))):=by
 refine callsD_of_wpS Tryz.func42 rfl fun c₀ cs hu=>?_
 have hgs:1<w.heap.size:=q6r w _ hg;apply wpS_seq;apply wpS_region;simp[wpOpsS,go_sem,recoverD,hu,Tryz.ntmps42,Exit.thenS]
 apply wpS_seq;apply wpS_region;simp[wpOpsS,go_sem,recoverD,hu,Exit.thenS,q30]
 apply wpS_seq;apply wpS_region;simp[wpOpsS,go_sem,Exit.thenS,Region.wanted,yielded]
 have hbA:Below w.heap.size w (w.alloc (.cells #[.pointer none] qc3)):=(Below.refl _ _).alloc (Nat.le_refl _) _;refine(quh ⟨n,0,none⟩ ⟨w.heap.size,0,none⟩ (.pointer none) _ (hg.below hbA) (by simp) (by simp)).mono ?_;rintro ev w1 ⟨rfl,hc1,hb1⟩;have hbT:Below w.heap.size w w1:=hbA.trans hb1;have h2l:=q6r w _ hc2;have h3l:=q6r w _ hc3;have k2:w1.cell? ⟨b2,0,none⟩=some v2:=(hbT.cell (p:=⟨b2,0,none⟩) h2l).trans hc2;have k3:w1.cell? ⟨b3,0,none⟩=some v3:=(hbT.cell (p:=⟨b3,0,none⟩) h3l).trans hc3;have g2:w1.frozen? ⟨b2,0,none⟩=false:=(hbT.frozen (p:=⟨b2,0,none⟩) h2l).trans hf2
 have g3:w1.frozen? ⟨b3,0,none⟩=false:=(hbT.frozen (p:=⟨b3,0,none⟩) h3l).trans hf3;refine wpS_cond (t:=true) (by simp[Act.eval,Array.replicate]) ?_;simp only[if_true];apply wpS_region;simp[wpOpsS,go_sem,hc1,k2,k3,g2,g3,hne,bodyPostS,results,Tryz.results42,Array.replicate]
 exact⟨w1,hbT,rfl⟩
end Go.Proofs.YtikdblkfjchjbaaGreatDoor
