import Derived.Laws.EntriesVeiled
import Derived.Test.YtikdblkfjchjbaaGreatDoorY17
set_option linter.unusedVariables false
set_option linter.unusedSimpArgs false
set_option maxHeartbeats 16000000
set_option maxRecDepth 100000
namespace Go.Proofs.YtikdblkfjchjbaaGreatDoor
open Go.RowKit
variable{w w' wr wx w2:World}{n c p B gs gp g f lo hi o q gb kk lc m H:Nat}{A ao:Option Addr}{k kd:Int}{ws l:List WordG}{e:Ending}{a b vv d sv:Value}{cs0 scs:List Value}{t name op s:List UInt8}{r:Except Flt (List StageG)}{y:StageG}
def ordW:List (List UInt8):=[qcq,qfv,wADD,wRM,qdk,qjo,wENV,qc4]
def Ord(w:World):Prop:=w.cell? ⟨0,0,none⟩=some (.string (S qcq))∧w.cell? ⟨0,1,none⟩=some (.string (S qfv))∧w.cell? ⟨0,2,none⟩=some (.string (S wADD))∧w.cell? ⟨0,3,none⟩=some (.string (S wRM))∧w.cell? ⟨0,4,none⟩=some (.string (S qdk))∧w.cell? ⟨0,5,none⟩=some (.string (S qjo))∧w.cell? ⟨0,6,none⟩=some (.string (S wENV))∧w.cell? ⟨0,7,none⟩=some (.string (S qc4))∧0<w.heap.size
theorem Ord.after(h:Ord w)(hb:Below w.heap.size w w'):Ord w':=by
 obtain⟨h0,h1,h2,h3,h4,h5,h6,h7,hs⟩:=h;have hc:∀k,w'.cell? ⟨0,k,none⟩=w.cell? ⟨0,k,none⟩:=fun k=>hb.cell (p:=⟨0,k,none⟩) hs
 exact⟨(hc 0).trans h0,(hc 1).trans h1,(hc 2).trans h2,(hc 3).trans h3,(hc 4).trans h4,(hc 5).trans h5,(hc 6).trans h6,(hc 7).trans h7,Nat.lt_of_lt_of_le hs hb.size⟩
abbrev qa1:TypeId:=178
def qwx:Nat→Nat×Nat×Value
 |0=>(1,3,.func (Fn.func 123) #[] #[])
 |1=>(2,3,.func (Fn.func 124) #[] #[])
 |2=>(2,2,.nilFunc)
 |3=>(1,1,.nilFunc)
 |4=>(1,2,.func (Fn.func 125) #[] #[])
 |5=>(2,2,.nilFunc)
 |6=>(2,2,.func (Fn.func 126) #[] #[])
 |7=>(1,1,.nilFunc)
 |_=>(0,0,.nilFunc)
def qip(op:List UInt8):Value:=match ordW.findIdx? (· ==op) with
 |some k=> .tuple #[.agg #[.string (S op),.int .i64 (qwx k).1,.int .i64 (qwx k).2.1,(qwx k).2.2],.bool true]
 |none=> .tuple #[.agg #[.string (S []),.int .i64 0,.int .i64 0,.nilFunc],.bool false]
theorem qdl(k:Nat)(hk:k<ordW.length)(h:∀(j:Nat) (hj:j<ordW.length),j<k→ordW[j]≠op)(e:ordW[k]=op):qip op= .tuple #[.agg #[.string (S op),.int .i64 (qwx k).1,.int .i64 (qwx k).2.1,(qwx k).2.2],.bool true]:=by
 unfold qip;rw[List.findIdx?_eq_some_iff_getElem.2 ⟨hk,by simpa using e,fun j hj=>by simpa using h j (by omega) hj⟩]
theorem qj8(h:∀(j:Nat) (hj:j<ordW.length),j<8→ordW[j]≠op):qip op= .tuple #[.agg #[.string (S []),.int .i64 0,.int .i64 0,.nilFunc],.bool false]:=by
 unfold qip;rw[List.findIdx?_eq_none_iff.2 (by
  intro x hx;obtain⟨j,hj,rfl⟩:=List.getElem_of_mem hx;simpa using h j hj (by have:ordW.length=8:=rfl;omega))]
theorem Blk4.alloc'{c:Value}(h:Blk4 w g a b c d)(o:Obj):Blk4 (w.alloc o) g a b c d:=h.after ((Below.refl _ _).alloc (Nat.le_refl _) o)
theorem Blk4.all4{c:Value}(h:Blk4 w g a b c d)(x0 x1 x2 x3:Value)(o:Obj):Blk4 (((((w.setCell ⟨g,0,none⟩ x0).setCell ⟨g,1,none⟩ x1).setCell ⟨g,2,none⟩ x2).setCell ⟨g,3,none⟩ x3).alloc o) g x0 x1 x2 x3:=by
 obtain⟨t,h⟩:=h;have h0:Blk4 (w.setCell ⟨g,0,none⟩ x0) g x0 b c d:=⟨t,by rw[heap_setCell_same w g _ _ t x0 h];rfl⟩;exact Blk4.alloc' (((h0.set1 x1).set2 x2).set3 x3) o
theorem qkc(h:Below B w wr)(hg:B≤g)(hB:B≤wr.heap.size)(x0 x1 x2 x3:Value)(o:Obj):Below B w (((((wr.setCell ⟨g,0,none⟩ x0).setCell ⟨g,1,none⟩ x1).setCell ⟨g,2,none⟩ x2).setCell ⟨g,3,none⟩ x3).alloc o):=
 Below.alloc (Below.setCell (Below.setCell (Below.setCell (Below.setCell h hg _) hg _) hg _) hg _) (by simp;exact hB) o
theorem qau(op:List UInt8)(w:World)(ho:Ord w):
 Calls Tryz.prog 81 #[.string (S op)] w fun e w'=>e= .returned (qip op)∧Below w.heap.size w w':=by
 have HO:=q6q ho;have hb0:Below w.heap.size w (w.alloc (.cells #[.string (S []),.int .i64 0,.int .i64 0,.nilFunc] qa1)):=(Below.refl _ _).alloc (Nat.le_refl _) _;have B0:=q6q (Blk4.new w (.string (S [])) (.int .i64 0) (.int .i64 0) .nilFunc qa1);clear ho
 have ix0:∀w:World,(Instr.index 238 (.agg #[.string (S []),.int .i64 1,.int .i64 3,.func (Fn.func 123) #[] #[],.string (S []),.int .i64 2,.int .i64 3,.func (Fn.func 124) #[] #[],.string (S []),.int .i64 2,.int .i64 2,.nilFunc,.string (S []),.int .i64 1,.int .i64 1,.nilFunc,.string (S []),.int .i64 1,.int .i64 2,.func (Fn.func 125) #[] #[],.string (S []),.int .i64 2,.int .i64 2,.nilFunc,.string (S []),.int .i64 2,.int .i64 2,.func (Fn.func 126) #[] #[],.string (S []),.int .i64 1,.int .i64 1,.nilFunc]) (.int .i64 0)).run Tryz.prog w= .ok (.agg #[.string (S []),.int .i64 1,.int .i64 3,.func (Fn.func 123) #[] #[]]) w:=fun _=>by kernel_rfl
 have ix1:∀w:World,(Instr.index 238 (.agg #[.string (S []),.int .i64 1,.int .i64 3,.func (Fn.func 123) #[] #[],.string (S []),.int .i64 2,.int .i64 3,.func (Fn.func 124) #[] #[],.string (S []),.int .i64 2,.int .i64 2,.nilFunc,.string (S []),.int .i64 1,.int .i64 1,.nilFunc,.string (S []),.int .i64 1,.int .i64 2,.func (Fn.func 125) #[] #[],.string (S []),.int .i64 2,.int .i64 2,.nilFunc,.string (S []),.int .i64 2,.int .i64 2,.func (Fn.func 126) #[] #[],.string (S []),.int .i64 1,.int .i64 1,.nilFunc]) (.int .i64 1)).run Tryz.prog w= .ok (.agg #[.string (S []),.int .i64 2,.int .i64 3,.func (Fn.func 124) #[] #[]]) w:=fun _=>by kernel_rfl
 have ix2:∀w:World,(Instr.index 238 (.agg #[.string (S []),.int .i64 1,.int .i64 3,.func (Fn.func 123) #[] #[],.string (S []),.int .i64 2,.int .i64 3,.func (Fn.func 124) #[] #[],.string (S []),.int .i64 2,.int .i64 2,.nilFunc,.string (S []),.int .i64 1,.int .i64 1,.nilFunc,.string (S []),.int .i64 1,.int .i64 2,.func (Fn.func 125) #[] #[],.string (S []),.int .i64 2,.int .i64 2,.nilFunc,.string (S []),.int .i64 2,.int .i64 2,.func (Fn.func 126) #[] #[],.string (S []),.int .i64 1,.int .i64 1,.nilFunc]) (.int .i64 2)).run Tryz.prog w= .ok (.agg #[.string (S []),.int .i64 2,.int .i64 2,.nilFunc]) w:=fun _=>by kernel_rfl
 have ix3:∀w:World,(Instr.index 238 (.agg #[.string (S []),.int .i64 1,.int .i64 3,.func (Fn.func 123) #[] #[],.string (S []),.int .i64 2,.int .i64 3,.func (Fn.func 124) #[] #[],.string (S []),.int .i64 2,.int .i64 2,.nilFunc,.string (S []),.int .i64 1,.int .i64 1,.nilFunc,.string (S []),.int .i64 1,.int .i64 2,.func (Fn.func 125) #[] #[],.string (S []),.int .i64 2,.int .i64 2,.nilFunc,.string (S []),.int .i64 2,.int .i64 2,.func (Fn.func 126) #[] #[],.string (S []),.int .i64 1,.int .i64 1,.nilFunc]) (.int .i64 3)).run Tryz.prog w= .ok (.agg #[.string (S []),.int .i64 1,.int .i64 1,.nilFunc]) w:=fun _=>by kernel_rfl
 have ix4:∀w:World,(Instr.index 238 (.agg #[.string (S []),.int .i64 1,.int .i64 3,.func (Fn.func 123) #[] #[],.string (S []),.int .i64 2,.int .i64 3,.func (Fn.func 124) #[] #[],.string (S []),.int .i64 2,.int .i64 2,.nilFunc,.string (S []),.int .i64 1,.int .i64 1,.nilFunc,.string (S []),.int .i64 1,.int .i64 2,.func (Fn.func 125) #[] #[],.string (S []),.int .i64 2,.int .i64 2,.nilFunc,.string (S []),.int .i64 2,.int .i64 2,.func (Fn.func 126) #[] #[],.string (S []),.int .i64 1,.int .i64 1,.nilFunc]) (.int .i64 4)).run Tryz.prog w= .ok (.agg #[.string (S []),.int .i64 1,.int .i64 2,.func (Fn.func 125) #[] #[]]) w:=fun _=>by kernel_rfl
 have ix5:∀w:World,(Instr.index 238 (.agg #[.string (S []),.int .i64 1,.int .i64 3,.func (Fn.func 123) #[] #[],.string (S []),.int .i64 2,.int .i64 3,.func (Fn.func 124) #[] #[],.string (S []),.int .i64 2,.int .i64 2,.nilFunc,.string (S []),.int .i64 1,.int .i64 1,.nilFunc,.string (S []),.int .i64 1,.int .i64 2,.func (Fn.func 125) #[] #[],.string (S []),.int .i64 2,.int .i64 2,.nilFunc,.string (S []),.int .i64 2,.int .i64 2,.func (Fn.func 126) #[] #[],.string (S []),.int .i64 1,.int .i64 1,.nilFunc]) (.int .i64 5)).run Tryz.prog w= .ok (.agg #[.string (S []),.int .i64 2,.int .i64 2,.nilFunc]) w:=fun _=>by kernel_rfl
 have ix6:∀w:World,(Instr.index 238 (.agg #[.string (S []),.int .i64 1,.int .i64 3,.func (Fn.func 123) #[] #[],.string (S []),.int .i64 2,.int .i64 3,.func (Fn.func 124) #[] #[],.string (S []),.int .i64 2,.int .i64 2,.nilFunc,.string (S []),.int .i64 1,.int .i64 1,.nilFunc,.string (S []),.int .i64 1,.int .i64 2,.func (Fn.func 125) #[] #[],.string (S []),.int .i64 2,.int .i64 2,.nilFunc,.string (S []),.int .i64 2,.int .i64 2,.func (Fn.func 126) #[] #[],.string (S []),.int .i64 1,.int .i64 1,.nilFunc]) (.int .i64 6)).run Tryz.prog w= .ok (.agg #[.string (S []),.int .i64 2,.int .i64 2,.func (Fn.func 126) #[] #[]]) w:=fun _=>by kernel_rfl
 have ix7:∀w:World,(Instr.index 238 (.agg #[.string (S []),.int .i64 1,.int .i64 3,.func (Fn.func 123) #[] #[],.string (S []),.int .i64 2,.int .i64 3,.func (Fn.func 124) #[] #[],.string (S []),.int .i64 2,.int .i64 2,.nilFunc,.string (S []),.int .i64 1,.int .i64 1,.nilFunc,.string (S []),.int .i64 1,.int .i64 2,.func (Fn.func 125) #[] #[],.string (S []),.int .i64 2,.int .i64 2,.nilFunc,.string (S []),.int .i64 2,.int .i64 2,.func (Fn.func 126) #[] #[],.string (S []),.int .i64 1,.int .i64 1,.nilFunc]) (.int .i64 7)).run Tryz.prog w= .ok (.agg #[.string (S []),.int .i64 1,.int .i64 1,.nilFunc]) w:=fun _=>by kernel_rfl
 go_enter Tryz.func81,Tryz.ntmps81;go_wp2;go_loopw [15] (fun i wr=>∃k:Nat,k≤8∧i= .int .i64 k∧Hid (∀(j:Nat) (hj:j<ordW.length),j<k→ordW[j]≠op)∧Below w.heap.size w wr∧Hid (Blk4 wr w.heap.size (.string (S [])) (.int .i64 0) (.int .i64 0) .nilFunc)) (fun i _=>8 - (intOf i).toNat)
 case atStart=>exact⟨0,by omega,rfl,(by intro j hj hk;omega),hb0,B0⟩
 case round=>
  obtain⟨k,hk,rfl,hall,hbel,HB⟩:=hrel;clear hb0 B0;have hsz:=hbel.size;obtain⟨b0,b1,b2,b3,f0,f1,f2,f3⟩:=HB.out.facts;have hbl:=HB.out.lt;obtain⟨o0,o1,o2,o3,o4,o5,o6,o7,ol⟩:=HO.out.after hbel;rcases Nat.lt_or_ge k 8 with h8|h8
  ·have hc:k=0∨k=1∨k=2∨k=3∨k=4∨k=5∨k=6∨k=7:=by omega
   rcases hc with rfl|rfl|rfl|rfl|rfl|rfl|rfl|rfl
   ·cases he:(qcq==op)
    ·have HA:=q6q (show ∀(j:Nat) (hj:j<ordW.length),j<0+1→ordW[j]≠op by
      intro j hj hk;rcases Nat.lt_or_ge j 0 with h|h
      ·exact hall.out j hj h
      ·obtain rfl:j=0:=by omega
       exact ne_of_beq_false he)
     clear hall;go_wp2;go_roundw
     case rel=>exact⟨0+1,by omega,rfl,HA,hbel.alloc hsz _,HB.out.alloc' _⟩
     case measure=>simp[intOf]
    ·have Y:=q6q (qdl 0 (by decide) hall.out (eq_of_beq he))
     have HE:=q6q (eq_of_beq he);clear hall;obtain⟨q0,q1,q2,q3,_,_,_,_⟩:=(HB.out.all4 (.string (S qcq)) (.int .i64 1) (.int .i64 3) (.func (Fn.func 123) #[] #[]) (.cells #[.string (S qcq),.int .i64 1,.int .i64 3,.func (Fn.func 123) #[] #[]] qa1)).facts;go_wp2;refine bodyPost_ret (by simp[results,Tryz.results81,go_sem,q0,q1,q2,q3];try rfl) rfl ?_;exact⟨by rw[Y.out,←HE.out];rfl,qkc hbel (Nat.le_refl _) hsz _ _ _ _ _⟩
   ·cases he:(qfv==op)
    ·have HA:=q6q (show ∀(j:Nat) (hj:j<ordW.length),j<1+1→ordW[j]≠op by
      intro j hj hk;rcases Nat.lt_or_ge j 1 with h|h
      ·exact hall.out j hj h
      ·obtain rfl:j=1:=by omega
       exact ne_of_beq_false he)
     clear hall;go_wp2;go_roundw
     case rel=>exact⟨1+1,by omega,rfl,HA,hbel.alloc hsz _,HB.out.alloc' _⟩
     case measure=>simp[intOf]
    ·have Y:=q6q (qdl 1 (by decide) hall.out (eq_of_beq he))
     have HE:=q6q (eq_of_beq he);clear hall;obtain⟨q0,q1,q2,q3,_,_,_,_⟩:=(HB.out.all4 (.string (S qfv)) (.int .i64 2) (.int .i64 3) (.func (Fn.func 124) #[] #[]) (.cells #[.string (S qfv),.int .i64 2,.int .i64 3,.func (Fn.func 124) #[] #[]] qa1)).facts;go_wp2;refine bodyPost_ret (by simp[results,Tryz.results81,go_sem,q0,q1,q2,q3];try rfl) rfl ?_;exact⟨by rw[Y.out,←HE.out];rfl,qkc hbel (Nat.le_refl _) hsz _ _ _ _ _⟩
   ·cases he:(wADD==op)
    ·have HA:=q6q (show ∀(j:Nat) (hj:j<ordW.length),j<2+1→ordW[j]≠op by
      intro j hj hk;rcases Nat.lt_or_ge j 2 with h|h
      ·exact hall.out j hj h
      ·obtain rfl:j=2:=by omega
       exact ne_of_beq_false he)
     clear hall;go_wp2;go_roundw
     case rel=>exact⟨2+1,by omega,rfl,HA,hbel.alloc hsz _,HB.out.alloc' _⟩
     case measure=>simp[intOf]
    ·have Y:=q6q (qdl 2 (by decide) hall.out (eq_of_beq he))
     have HE:=q6q (eq_of_beq he);clear hall;obtain⟨q0,q1,q2,q3,_,_,_,_⟩:=(HB.out.all4 (.string (S wADD)) (.int .i64 2) (.int .i64 2) (.nilFunc) (.cells #[.string (S wADD),.int .i64 2,.int .i64 2,.nilFunc] qa1)).facts;go_wp2;refine bodyPost_ret (by simp[results,Tryz.results81,go_sem,q0,q1,q2,q3];try rfl) rfl ?_;exact⟨by rw[Y.out,←HE.out];rfl,qkc hbel (Nat.le_refl _) hsz _ _ _ _ _⟩
   ·cases he:(wRM==op)
    ·have HA:=q6q (show ∀(j:Nat) (hj:j<ordW.length),j<3+1→ordW[j]≠op by
      intro j hj hk;rcases Nat.lt_or_ge j 3 with h|h
      ·exact hall.out j hj h
      ·obtain rfl:j=3:=by omega
       exact ne_of_beq_false he)
     clear hall;go_wp2;go_roundw
     case rel=>exact⟨3+1,by omega,rfl,HA,hbel.alloc hsz _,HB.out.alloc' _⟩
     case measure=>simp[intOf]
    ·have Y:=q6q (qdl 3 (by decide) hall.out (eq_of_beq he))
     have HE:=q6q (eq_of_beq he);clear hall;obtain⟨q0,q1,q2,q3,_,_,_,_⟩:=(HB.out.all4 (.string (S wRM)) (.int .i64 1) (.int .i64 1) (.nilFunc) (.cells #[.string (S wRM),.int .i64 1,.int .i64 1,.nilFunc] qa1)).facts;go_wp2;refine bodyPost_ret (by simp[results,Tryz.results81,go_sem,q0,q1,q2,q3];try rfl) rfl ?_;exact⟨by rw[Y.out,←HE.out];rfl,qkc hbel (Nat.le_refl _) hsz _ _ _ _ _⟩
   ·cases he:(qdk==op)
    ·have HA:=q6q (show ∀(j:Nat) (hj:j<ordW.length),j<4+1→ordW[j]≠op by
      intro j hj hk;rcases Nat.lt_or_ge j 4 with h|h
      ·exact hall.out j hj h
      ·obtain rfl:j=4:=by omega
       exact ne_of_beq_false he)
     clear hall;go_wp2;go_roundw
     case rel=>exact⟨4+1,by omega,rfl,HA,hbel.alloc hsz _,HB.out.alloc' _⟩
     case measure=>simp[intOf]
    ·have Y:=q6q (qdl 4 (by decide) hall.out (eq_of_beq he))
     have HE:=q6q (eq_of_beq he);clear hall;obtain⟨q0,q1,q2,q3,_,_,_,_⟩:=(HB.out.all4 (.string (S qdk)) (.int .i64 1) (.int .i64 2) (.func (Fn.func 125) #[] #[]) (.cells #[.string (S qdk),.int .i64 1,.int .i64 2,.func (Fn.func 125) #[] #[]] qa1)).facts;go_wp2;refine bodyPost_ret (by simp[results,Tryz.results81,go_sem,q0,q1,q2,q3];try rfl) rfl ?_;exact⟨by rw[Y.out,←HE.out];rfl,qkc hbel (Nat.le_refl _) hsz _ _ _ _ _⟩
   ·cases he:(qjo==op)
    ·have HA:=q6q (show ∀(j:Nat) (hj:j<ordW.length),j<5+1→ordW[j]≠op by
      intro j hj hk;rcases Nat.lt_or_ge j 5 with h|h
      ·exact hall.out j hj h
      ·obtain rfl:j=5:=by omega
       exact ne_of_beq_false he)
     clear hall;go_wp2;go_roundw
     case rel=>exact⟨5+1,by omega,rfl,HA,hbel.alloc hsz _,HB.out.alloc' _⟩
     case measure=>simp[intOf]
    ·have Y:=q6q (qdl 5 (by decide) hall.out (eq_of_beq he))
     have HE:=q6q (eq_of_beq he);clear hall;obtain⟨q0,q1,q2,q3,_,_,_,_⟩:=(HB.out.all4 (.string (S qjo)) (.int .i64 2) (.int .i64 2) (.nilFunc) (.cells #[.string (S qjo),.int .i64 2,.int .i64 2,.nilFunc] qa1)).facts;go_wp2;refine bodyPost_ret (by simp[results,Tryz.results81,go_sem,q0,q1,q2,q3];try rfl) rfl ?_;exact⟨by rw[Y.out,←HE.out];rfl,qkc hbel (Nat.le_refl _) hsz _ _ _ _ _⟩
   ·cases he:(wENV==op)
    ·have HA:=q6q (show ∀(j:Nat) (hj:j<ordW.length),j<6+1→ordW[j]≠op by
      intro j hj hk;rcases Nat.lt_or_ge j 6 with h|h
      ·exact hall.out j hj h
      ·obtain rfl:j=6:=by omega
       exact ne_of_beq_false he)
     clear hall;go_wp2;go_roundw
     case rel=>exact⟨6+1,by omega,rfl,HA,hbel.alloc hsz _,HB.out.alloc' _⟩
     case measure=>simp[intOf]
    ·have Y:=q6q (qdl 6 (by decide) hall.out (eq_of_beq he))
     have HE:=q6q (eq_of_beq he);clear hall;obtain⟨q0,q1,q2,q3,_,_,_,_⟩:=(HB.out.all4 (.string (S wENV)) (.int .i64 2) (.int .i64 2) (.func (Fn.func 126) #[] #[]) (.cells #[.string (S wENV),.int .i64 2,.int .i64 2,.func (Fn.func 126) #[] #[]] qa1)).facts;go_wp2;refine bodyPost_ret (by simp[results,Tryz.results81,go_sem,q0,q1,q2,q3];try rfl) rfl ?_;exact⟨by rw[Y.out,←HE.out];rfl,qkc hbel (Nat.le_refl _) hsz _ _ _ _ _⟩
   ·cases he:(qc4==op)
    ·have HA:=q6q (show ∀(j:Nat) (hj:j<ordW.length),j<7+1→ordW[j]≠op by
      intro j hj hk;rcases Nat.lt_or_ge j 7 with h|h
      ·exact hall.out j hj h
      ·obtain rfl:j=7:=by omega
       exact ne_of_beq_false he)
     clear hall;go_wp2;go_roundw
     case rel=>exact⟨7+1,by omega,rfl,HA,hbel.alloc hsz _,HB.out.alloc' _⟩
     case measure=>simp[intOf]
    ·have Y:=q6q (qdl 7 (by decide) hall.out (eq_of_beq he))
     have HE:=q6q (eq_of_beq he);clear hall;obtain⟨q0,q1,q2,q3,_,_,_,_⟩:=(HB.out.all4 (.string (S qc4)) (.int .i64 1) (.int .i64 1) (.nilFunc) (.cells #[.string (S qc4),.int .i64 1,.int .i64 1,.nilFunc] qa1)).facts;go_wp2;refine bodyPost_ret (by simp[results,Tryz.results81,go_sem,q0,q1,q2,q3];try rfl) rfl ?_;exact⟨by rw[Y.out,←HE.out];rfl,qkc hbel (Nat.le_refl _) hsz _ _ _ _ _⟩
  ·obtain rfl:k=8:=by omega
   have Y:=q6q (qj8 hall.out);clear hall;go_wp2;refine bodyPost_ret (by simp[results,Tryz.results81,go_sem,b0,b1,b2,b3];try rfl) rfl ?_;exact⟨by rw[Y.out],Below.setCell (Below.setCell (Below.setCell (Below.setCell hbel (Nat.le_refl _) _) (Nat.le_refl _) _) (Nat.le_refl _) _) (Nat.le_refl _) _⟩
theorem q6n(a b:List UInt8):(S a=S b)=(b=a):=propext ⟨fun h=>(qo1 h).symm,fun h=>by rw[h]⟩
theorem qz5(op:List UInt8):Lib.idxOfS (ordW.map S) (S op)=qde op:=by
 simp only[Lib.idxOfS,ordW,List.map_cons,List.map_nil,Lib.idxFromS,q6n,qde];rfl
theorem qam(op:List UInt8)(w:World)(ho:Ord w):
 Calls Tryz.prog 82 #[.slice (some ⟨0,0,none⟩) 8 8,.string (S op)] w fun e w'=>e= .returned (.int .i64 (qde op))∧w'=w:=by
 obtain⟨h0,h1,h2,h3,h4,h5,h6,h7,hs⟩:=ho;refine(Tryz.slices_Index_string 0 0 8 8 (ordW.map S) (S op) w (by decide) (by decide) ?_).mono fun e w' ⟨a,b⟩=>⟨?_,b⟩
 ·intro j hj
  have hj8:j<8:=by simpa[ordW] using hj
  have hc:j=0∨j=1∨j=2∨j=3∨j=4∨j=5∨j=6∨j=7:=by omega
  rcases hc with rfl|rfl|rfl|rfl|rfl|rfl|rfl|rfl <;> first|exact h0|exact h1|exact h2|exact h3|exact h4|exact h5|exact h6|exact h7
 ·rw[a,List.take_of_length_le (by simp[ordW]),qz5]
structure SBlk(w:World)(gs:Nat)(kd:Int)(A:Option Addr)(n c:Nat)(k:Int)(p:Nat):Prop where
 blk:w.heap[gs]? =some (Obj.cells #[.int .i64 kd,.slice A n c,.int .i64 k,.int .i64 p] qai (0,0))
theorem SBlk.facts(h:SBlk w gs kd A n c k p):(w.cell? ⟨gs,0,none⟩=some (.int .i64 kd)∧w.cell? ⟨gs,1,none⟩=some (.slice A n c)∧w.cell? ⟨gs,2,none⟩=some (.int .i64 k)∧w.cell? ⟨gs,3,none⟩=some (.int .i64 p))∧w.frozen? ⟨gs,1,none⟩=false∧w.frozen? ⟨gs,2,none⟩=false∧gs<w.heap.size:=by
 have h4:Blk4 w gs (.int .i64 kd) (.slice A n c) (.int .i64 k) (.int .i64 p):=⟨_,h.blk⟩;obtain⟨a,b,c',d,e,f,g,i⟩:=h4.facts;exact⟨⟨a,b,c',d⟩,f,g,h4.lt⟩
theorem SBlk.after(h:SBlk w gs kd A n c k p)(hb:Below w.heap.size w w'):SBlk w' gs kd A n c k p:=⟨(hb.block gs (q6s h.blk).1).trans h.blk⟩
theorem SBlk.set2(h:SBlk w gs kd A n c k p)(k':Int):SBlk (w.setCell ⟨gs,2,none⟩ (.int .i64 k')) gs kd A n c k' p:=⟨heap_setCell_same w gs 2 _ _ _ h.blk⟩
theorem SBlk.set1(h:SBlk w gs kd A n c k p)(A':Option Addr)(n' c':Nat):SBlk (w.setCell ⟨gs,1,none⟩ (.slice A' n' c')) gs kd A' n' c' k p:=⟨heap_setCell_same w gs 1 _ _ _ h.blk⟩
theorem FWordsR.word(h:FWordsR w A ws){k:Nat}(hk:k<ws.length):
 ∃b o ao c,A=some ⟨b,o,none⟩∧b<w.heap.size∧w.cell? ⟨b,o+k*2,none⟩=some (.slice ao ws[k].pl.length c)∧w.cell? ⟨b,o+k*2+1,none⟩=some (.int .i64 ws[k].at_)∧w.ownsRow 0 qa4 3 (.slice ao ws[k].pl.length c) ws[k].pl.length (pcs ws[k].pl):=by
 obtain⟨cs,h1,h2⟩:=h;obtain⟨ao,c,g1,g2,g3⟩:=h2.get k hk;obtain⟨b,o,rfl,hb,hc⟩:=h1.rd.at (k*2) (by rw[h2.len];omega);exact⟨b,o,ao,c,rfl,hb,hc _ _ g1,hc _ _ g2,g3⟩
theorem FWordsR.after(h:FWordsR w A ws)(hb:Below w.heap.size w w'):FWordsR w' A ws:=h.keep (KeepT.below hb) (KeepT.below hb)
theorem FWordsR.one0{b:Nat}(h:FWordsR w (some ⟨b,o,none⟩) ws){k:Nat}(hk:k<ws.length):
 ∃ao c,b<w.heap.size∧w.cell? ⟨b,o+k*2,none⟩=some (.slice ao ws[k].pl.length c)∧w.cell? ⟨b,o+k*2+1,none⟩=some (.int .i64 ws[k].at_)∧w.ownsRow 0 qa4 3 (.slice ao ws[k].pl.length c) ws[k].pl.length (pcs ws[k].pl):=by
 obtain⟨b',o',ao,c,e,h1,h2,h3,h4⟩:=h.word hk;simp only[Option.some.injEq,Addr.mk.injEq] at e;obtain⟨rfl,rfl,-⟩:=e;exact⟨ao,c,h1,h2,h3,h4⟩
theorem FWordsR.one{b:Nat}(h:FWordsR w (some ⟨b,o,none⟩) ws){k:Nat}(hk:k<ws.length):
 ∃ao c,b<w.heap.size∧w.cell? ⟨b,o+k*2,none⟩=some (.slice ao (nth ws k).pl.length c)∧w.cell? ⟨b,o+k*2+1,none⟩=some (.int .i64 (nth ws k).at_)∧w.ownsRow 0 qa4 3 (.slice ao (nth ws k).pl.length c) (nth ws k).pl.length (pcs (nth ws k).pl):=by
 rw[qzf hk];exact h.one0 hk
theorem Below.cellAt(hb:Below B w wx){b:Nat}(h:b<B){u:Value}(hc:w.cell? ⟨b,o,none⟩=some u):wx.cell? ⟨b,o,none⟩=some u:=(hb.cell (p:=⟨b,o,none⟩) h).trans hc
theorem q2o(s:List UInt8)(w:World)(hl:s.length≤1000000)(h:qfr s=false):
 Calls Tryz.prog 99 #[.string (S s)] w fun e w'=>(∃m:Int,e= .returned (.int .i64 m)∧m<0)∧w'=w:=
 (qlj s w hl).mono fun e w' ⟨⟨m,h1,h2⟩,h3⟩=>⟨⟨m,h1,by
   rcases Int.lt_or_le m 0 with h4|h4
   ·exact h4
   ·have:=h2.1 h4;rw[h] at this;cases this⟩,h3.symm⟩
theorem qzv(s:List UInt8)(w:World)(hl:s.length≤1000000)(h:qfr s=true):
 Calls Tryz.prog 99 #[.string (S s)] w fun e w'=>(∃m:Int,e= .returned (.int .i64 m)∧decide (m<0)=false)∧w'=w:=
 (qlj s w hl).mono fun e w' ⟨⟨m,h1,h2⟩,h3⟩=>⟨⟨m,h1,by
   have:=h2.2 h;rw[decide_eq_false_iff_not];omega⟩,h3.symm⟩
def q44(w w':World)(e:Ending):Except Flt Unit→Prop
 |.error (f,p)=>Thrown w w' e f p
 |.ok _=>e= .returned (.tuple #[])
def qf5(l:List WordG):Except Flt Unit:=if l.length=2∧((nth l 1).flat=false∨qfr (nth l 1).text=false) then .error (5,(nth l 1).at_) else .ok ()
theorem qhy(gp gs b o lc p:Nat)(kd k:Int)(l:List WordG)(w:World)(hs:SBlk w gs kd (some ⟨b,o,none⟩) l.length lc k p)(hw:FWordsR w (some ⟨b,o,none⟩) l)(hg:GoodW l)(h1:1≤l.length)(h2:l.length≤2):
 Calls Tryz.prog 125 #[.pointer (some ⟨gp,0,none⟩),.pointer (some ⟨gs,0,none⟩)] w fun e w'=>q44 w w' e (qf5 l)∧Below w.heap.size w w':=by
 obtain⟨⟨s0,s1,s2,s3⟩,s4,s5,s6⟩:=hs.facts;have HS:=q6q hs;clear hs;by_cases hl:2≤l.length
 ·obtain⟨ao,c,hb,m1,m2,ho⟩:=hw.one (k:=1) (by omega)
  have hgx:=hg.nth 1 (by omega);have HM:=q6q (show qf5 l=if (nth l 1).flat=false∨qfr (nth l 1).text=false then .error (5,(nth l 1).at_) else .ok () by unfold qf5;simp[show l.length=2 by omega]);have HP:=q6q (show ∀wx:World,Below w.heap.size w wx→Calls Tryz.prog 80 #[.agg #[.slice ao (nth l 1).pl.length c,.int .i64 (nth l 1).at_]] wx fun e w'=>e= .returned (.tuple #[.string (S (nth l 1).text),.bool (nth l 1).flat])∧Below wx.heap.size wx w' from
   fun wx hb=>qbu (nth l 1) ao c 0 _ wx hgx.1 hgx.2 rfl (qac ho hb))
  have htl:=Nat.le_trans (nth l 1).text_len hgx.2;have hl2:((l.length:Int)==2)=true:=by rw[beq_iff_eq];omega
  have hli:(1:Int)<(l.length:Int):=by omega
  have hln:=q6q hl;clear hw hg hgx ho hl h2 h1;generalize (nth l 1).text=t at*;generalize (nth l 1).pl.length=n at*;generalize (nth l 1).at_=pa at*;generalize (nth l 1).flat=fl at*;cases fl
  ·have Y:=q6q (show qf5 l= .error (5,pa) by rw[HM.out,if_pos (.inl rfl)])
   clear HM;go_enter Tryz.func125,Tryz.ntmps125;go_wp2_with (first
    |(go_at_call 80;refine(HP.out _ (Below.refl _ _)).mono ?_;rintro e1 w1 ⟨rfl,hb1⟩;obtain⟨⟨s0,s1,s2,s3⟩,s4,s5,s6⟩:=(HS.out.after hb1).facts;have n2:=Below.cellAt hb1 hb m2)
    |(go_at_call 99;refine(qlj t _ (by omega)).mono ?_;rintro e2 w2 ⟨⟨m,rfl,hmo⟩,rfl⟩)
    |(go_at_call 43;refine(qaf 5 pa _).mono ?_;rintro e5 w5 ⟨rfl,rfl⟩))
   refine⟨rfl,?_,hb1.alloc hb1.size _⟩;rw[Y.out];exact⟨_,rfl,hb1.size,heap_alloc_new _ _⟩
  ·cases hm:qfr t
   ·have Y:=q6q (show qf5 l= .error (5,pa) by rw[HM.out,if_pos (.inr hm)])
    have HMB:=q6q hm;clear HM hm;go_enter Tryz.func125,Tryz.ntmps125;go_wp2_with (first
     |(go_at_call 80;refine(HP.out _ (Below.refl _ _)).mono ?_;rintro e1 w1 ⟨rfl,hb1⟩;obtain⟨⟨s0,s1,s2,s3⟩,s4,s5,s6⟩:=(HS.out.after hb1).facts;have n2:=Below.cellAt hb1 hb m2)
     |(go_at_call 99;refine(q2o t _ (by omega) HMB.out).mono ?_;rintro e2 w2 ⟨⟨m,rfl,hm0⟩,rfl⟩)
     |(go_at_call 43;refine(qaf 5 pa _).mono ?_;rintro e5 w5 ⟨rfl,rfl⟩))
    refine⟨rfl,?_,hb1.alloc hb1.size _⟩;rw[Y.out];exact⟨_,rfl,hb1.size,heap_alloc_new _ _⟩
   ·have Y:=q6q (show qf5 l= .ok () by rw[HM.out,if_neg (by simp[hm])])
    have HMB:=q6q hm;clear HM hm;go_enter Tryz.func125,Tryz.ntmps125;go_wp2_with (first
     |(go_at_call 80;refine(HP.out _ (Below.refl _ _)).mono ?_;rintro e1 w1 ⟨rfl,hb1⟩;obtain⟨⟨s0,s1,s2,s3⟩,s4,s5,s6⟩:=(HS.out.after hb1).facts;have n2:=Below.cellAt hb1 hb m2)
     |(go_at_call 99;refine(qzv t _ (by omega) HMB.out).mono ?_;rintro e2 w2 ⟨⟨m,rfl,hm0⟩,rfl⟩)
     |(go_at_call 43;refine(qaf 5 pa _).mono ?_;rintro e5 w5 ⟨rfl,rfl⟩))
    first|go_end0|refine bodyPost_ret (results_none rfl _ _ _) rfl ?_
    exact⟨by rw[Y.out];rfl,hb1⟩
 ·have Y:=q6q (show qf5 l= .ok () by unfold qf5;rw[if_neg (fun h=>by have:=h.1;omega)])
  have hl2:((l.length:Int)==2)=false:=by rw[beq_eq_false_iff_ne];omega
  clear hw hg hl;go_enter Tryz.func125,Tryz.ntmps125;go_wp2
  first|go_end0|refine bodyPost_ret (results_none rfl _ _ _) rfl ?_
  exact⟨by rw[Y.out];rfl,Below.refl _ _⟩
def chs(l:List UInt8):List Atm:=l.map Atm.ch
theorem qud(l:List UInt8):GoodA (chs l):=fun x p h=>by simp[chs] at h
theorem q0t(l:List UInt8):(chs l).length=l.length:=by simp[chs]
theorem qvu(l acc:List UInt8):qbe (chs l) acc=(acc++l,true):=by
 induction l generalizing acc with
 |nil=>simp[chs,qbe]
 |cons c r ih=>
  rw[show chs (c::r)= .ch c::chs r from rfl,qbe,ih];simp
theorem q3u(l:List UInt8)(p:Nat):(⟨chs l,p⟩:WordG).text=l:=by
 show(qbe (chs l) []).1=l
 rw[qvu];rfl
theorem q3v(l:List UInt8)(k:Nat)(h:k<l.length):chs (l.take (k+1))=chs (l.take k)++[.ch l[k]]:=by
 rw[List.take_succ_eq_append_getElem h];unfold chs;rw[List.map_append];rfl
def qcf(st:List StageG)(l:List WordG)(p:Nat):Except Flt (Int×List WordG):=
 if qlv (nth l 0)≠decide (l.length=3) then .error (5,p)
 else if qlv (nth l 0)=false then .ok (-1,l)
 else match qch st ((nth l 0).text.drop 7) false with
  |.error f=> .error (f,(nth l 0).at_)
  |.ok k=>if k=(st.length:Int) - 1 then .error (6,(nth l 0).at_) else .ok (k,l.drop 1)
theorem qou(st:List StageG)(x:WordG)(l:List WordG)(hl:1≤l.length):qgy st (x::l)=qcf st l x.at_:=by
 have h0:nth (x::l) 0=x:=rfl;have h1:nth (x::l) 1=nth l 0:=rfl;unfold qgy qcf;rw[h0,h1,show(x::l).length=l.length+1 from rfl,show decide (l.length+1=4)=decide (l.length=3) by rw[decide_eq_decide];omega];split
 ·rfl
 ·split
  ·rfl
  ·unfold qch
   cases hs:qby ((nth l 0).text.drop 7) with
   |false=>simp
   |true=>
    by_cases hc:qan st ((nth l 0).text.drop 7)<0
    ·simp[hc]
    ·simp[hc]
def ql6(gs:Nat)(kd:Int)(p:Nat)(w w':World)(e:Ending):Except Flt (Int×List WordG)→Prop
 |.error (f,q)=>Thrown w w' e f q
 |.ok (k,l)=>e= .returned (.tuple #[])∧∃A c,SBlk w' gs kd A l.length c k p∧FWordsR w' A l
theorem qd3{r:Except Flt (Int×List WordG)}(h:r= .error (f,q))(ht:Thrown w w' e f q):ql6 gs kd p w w' e r:=by subst h;exact ht
theorem qhn{r:Except Flt (Int×List WordG)}(h:r= .ok (k,l))(hn:n=l.length)(he:e= .returned (.tuple #[]))(hs:SBlk w' gs kd A n c k p)(hw:FWordsR w' A l):ql6 gs kd p w w' e r:=by subst h;subst hn;exact⟨he,A,c,hs,hw⟩
theorem q50(l:List UInt8):TB (qar (chs l) []) (10+l.length):=by
 have:=TB.pieces (l:=[]) (n:=10) ⟨by simp,by simp⟩ (by omega) (chs l) (qud l);rwa [q0t] at this
theorem qgr(st:List StageG)(l:List WordG)(gp gs b o lc p m c kk:Nat)(kd:Int)(ao:Option Addr)(w:World)(hm:st.length=m)(h5:st.length≤5)(h1:1≤st.length)(hp:PB w gp ao m c kk)(hst:FSt w st ao)
 (hs:SBlk w gs kd (some ⟨b,o,none⟩) l.length lc (-1) p)(hw:FWordsR w (some ⟨b,o,none⟩) l)(hg:GoodW l)(hl2:2≤l.length)(hl3:l.length≤3)(hlc:l.length≤lc)(hlm:lc≤maxLen)(hne:gp<gs):
 Calls Tryz.prog 124 #[.pointer (some ⟨gp,0,none⟩),.pointer (some ⟨gs,0,none⟩)] w fun e w'=>ql6 gs kd p w w' e (qcf st l p)∧Below gs w w':=by
 obtain⟨⟨s0,s1,s2,s3⟩,s4,s5,s6⟩:=hs.facts;have HS:=q6q hs;have HW:=q6q hw;obtain⟨fa,fc,hb,m1,m2,ho⟩:=hw.one (k:=0) (by omega);rw[Nat.zero_mul,Nat.add_zero] at m1 m2;have hgx:=hg.nth 0 (by omega);have hbA:Below w.heap.size w (w.alloc (.cells #[.slice fa (nth l 0).pl.length fc,.int .i64 (nth l 0).at_] qbg)):=(Below.refl _ _).alloc (Nat.le_refl _) _;have HF:=q6q (Blk2.new w (.slice fa (nth l 0).pl.length fc) (.int .i64 (nth l 0).at_) qbg)
 have HPl:=q6q (show ∀wx:World,Below w.heap.size w wx→Calls Tryz.prog 80 #[.agg #[.slice fa (nth l 0).pl.length fc,.int .i64 (nth l 0).at_]] wx fun e w'=>e= .returned (.tuple #[.string (S (nth l 0).text),.bool (nth l 0).flat])∧Below wx.heap.size wx w' from
  fun wx hb=>qbu (nth l 0) fa fc 0 _ wx hgx.1 hgx.2 rfl (qac ho hb))
 have HR:=q6q (show qcf st l p=if (qn0.isPrefixOf (nth l 0).text&&(nth l 0).flat)≠decide (l.length=3) then .error (5,p)
  else if (qn0.isPrefixOf (nth l 0).text&&(nth l 0).flat)=false then .ok (-1,l)
  else match qch st ((nth l 0).text.drop 7) false with
   |.error f=> .error (f,(nth l 0).at_)
   |.ok k=>if k=(st.length:Int) - 1 then .error (6,(nth l 0).at_) else .ok (k,l.drop 1) from rfl)
 have HSt:=q6q (show ∀(wx:World) (name:List UInt8) (wa:Option Addr) (wk wn wc q:Nat),Below w.heap.size w wx→name.length≤2000→(qar (chs name) []).length=wn→wx.ownsRow wk qa4 3 (.slice wa (qar (chs name) []).length wc) (qar (chs name) []).length (pcs (qar (chs name) []))→Calls Tryz.prog 151 #[.pointer (some ⟨gp,0,none⟩),.agg #[.slice wa wn wc,.int .i64 q],.bool false] wx fun e w'=>qg5 wx w' e q (qch st name false)∧Below wx.heap.size wx w' from
  fun wx name wa wk wn wc q hb hn hwn how=>by
   have:=qhu st ⟨chs name,q⟩ false gp m c kk wk wn wc ao wa wx hm h5 (hp.after hb) (hst.after hb) (qud name) (by rw[q0t];exact hn) hwn how;rwa [q3u] at this)
 have HPB:=q6q hp;have htl:=Nat.le_trans (nth l 0).text_len hgx.2;have hl0:(0:Int)<(l.length:Int):=by omega
 have HG0:=q6q (show gs≤w.heap.size from Nat.le_of_lt s6);have HM:=q6q hm;have hm1:1≤m:=by omega
 have hm5:m≤5:=by omega
 clear hs hw ho hgx hg hp hst hm;generalize (nth l 0).text=t at*;generalize (nth l 0).pl.length=n at*;generalize (nth l 0).at_=pa at*;generalize (nth l 0).flat=fl at*;obtain⟨pf,hpf⟩:∃b,qn0.isPrefixOf t=b:=⟨_,rfl⟩;have HC:=q6q (show[45,45,102,114,111,109,61].isPrefixOf t=pf from hpf);rw[hpf] at HR;clear hpf;cases pf
 ·by_cases hl:l.length=3
  ·have Y:=q6q (show qcf st l p= .error (5,p) by rw[HR.out,if_pos (by rw[Bool.false_and];simp[hl])])
   have hl3':((l.length:Int)==3)=true:=by rw[beq_iff_eq];omega
   clear HR HSt hl;go_enter Tryz.func124,Tryz.ntmps124;go_wp2_with (first
    |(go_at_call 80;refine(HPl.out _ hbA).mono ?_;rintro e1 w1 ⟨rfl,hb1⟩;have hb2:=hbA.trans (hb1.mono hbA.size);obtain⟨⟨s0,s1,s2,s3⟩,s4,s5,s6⟩:=(HS.out.after hb2).facts;obtain⟨f0,f1,f2,f3⟩:=(HF.out.after hb1).facts;have hfl:=(HF.out.after hb1).lt)
    |(go_at_call 148;refine(qen t [45,45,102,114,111,109,61] _ HC.out).mono ?_;rintro e2 w2 ⟨rfl,rfl⟩)
    |(go_at_call 43;refine(qaf 5 p _).mono ?_;rintro e5 w5 ⟨rfl,rfl⟩))
   refine⟨rfl,qd3 Y.out ⟨_,rfl,hb2.size,heap_alloc_new _ _⟩,(hb2.mono (by omega)).alloc (by have:=hb2.size;omega) _⟩
  ·have Y:=q6q (show qcf st l p= .ok (-1,l) by rw[HR.out,if_neg (by rw[Bool.false_and];simp[hl]),if_pos (by rw[Bool.false_and])])
   have hl3':((l.length:Int)==3)=false:=by rw[beq_eq_false_iff_ne];omega
   clear HR HSt hl;go_enter Tryz.func124,Tryz.ntmps124;go_wp2_with (first
    |(go_at_call 80;refine(HPl.out _ hbA).mono ?_;rintro e1 w1 ⟨rfl,hb1⟩;have hb2:=hbA.trans (hb1.mono hbA.size);obtain⟨⟨s0,s1,s2,s3⟩,s4,s5,s6⟩:=(HS.out.after hb2).facts;obtain⟨f0,f1,f2,f3⟩:=(HF.out.after hb1).facts;have hfl:=(HF.out.after hb1).lt)
    |(go_at_call 148;refine(qen t [45,45,102,114,111,109,61] _ HC.out).mono ?_;rintro e2 w2 ⟨rfl,rfl⟩)
    |(go_at_call 43;refine(qaf 5 p _).mono ?_;rintro e5 w5 ⟨rfl,rfl⟩))
   first|go_end0|refine bodyPost_ret (results_none rfl _ _ _) rfl ?_
   exact⟨qhn Y.out rfl rfl (HS.out.after hb2) (HW.out.after hb2),hb2.mono (by omega)⟩
 ·cases fl
  ·by_cases hl:l.length=3
   ·have Y:=q6q (show qcf st l p= .error (5,p) by rw[HR.out,if_pos (by rw[Bool.and_false];simp[hl])])
    have hl3':((l.length:Int)==3)=true:=by rw[beq_iff_eq];omega
    clear HR HSt hl;go_enter Tryz.func124,Tryz.ntmps124;go_wp2_with (first
     |(go_at_call 80;refine(HPl.out _ hbA).mono ?_;rintro e1 w1 ⟨rfl,hb1⟩;have hb2:=hbA.trans (hb1.mono hbA.size);obtain⟨⟨s0,s1,s2,s3⟩,s4,s5,s6⟩:=(HS.out.after hb2).facts;obtain⟨f0,f1,f2,f3⟩:=(HF.out.after hb1).facts;have hfl:=(HF.out.after hb1).lt)
     |(go_at_call 148;refine(qb5 t [45,45,102,114,111,109,61] _ HC.out).mono ?_;rintro e2 w2 ⟨rfl,rfl⟩)
     |(go_at_call 43;refine(qaf 5 p _).mono ?_;rintro e5 w5 ⟨rfl,rfl⟩))
    refine⟨rfl,qd3 Y.out ⟨_,rfl,hb2.size,heap_alloc_new _ _⟩,(hb2.mono (by omega)).alloc (by have:=hb2.size;omega) _⟩
   ·have Y:=q6q (show qcf st l p= .ok (-1,l) by rw[HR.out,if_neg (by rw[Bool.and_false];simp[hl]),if_pos (by rw[Bool.and_false])])
    have hl3':((l.length:Int)==3)=false:=by rw[beq_eq_false_iff_ne];omega
    clear HR HSt hl;go_enter Tryz.func124,Tryz.ntmps124;go_wp2_with (first
     |(go_at_call 80;refine(HPl.out _ hbA).mono ?_;rintro e1 w1 ⟨rfl,hb1⟩;have hb2:=hbA.trans (hb1.mono hbA.size);obtain⟨⟨s0,s1,s2,s3⟩,s4,s5,s6⟩:=(HS.out.after hb2).facts;obtain⟨f0,f1,f2,f3⟩:=(HF.out.after hb1).facts;have hfl:=(HF.out.after hb1).lt)
     |(go_at_call 148;refine(qb5 t [45,45,102,114,111,109,61] _ HC.out).mono ?_;rintro e2 w2 ⟨rfl,rfl⟩)
     |(go_at_call 43;refine(qaf 5 p _).mono ?_;rintro e5 w5 ⟨rfl,rfl⟩))
    first|go_end0|refine bodyPost_ret (results_none rfl _ _ _) rfl ?_
    exact⟨qhn Y.out rfl rfl (HS.out.after hb2) (HW.out.after hb2),hb2.mono (by omega)⟩
  ·by_cases hl:l.length=3
   ·have HR2:=q6q (show qcf st l p=(match qch st (t.drop 7) false with
     |.error f=> .error (f,pa)
     |.ok k=>if k=(st.length:Int) - 1 then .error (6,pa) else .ok (k,l.drop 1)) by rw[HR.out,if_neg (by simp[hl]),if_neg (by simp)])
    have hl3':((l.length:Int)==3)=true:=by rw[beq_iff_eq];omega
    have hln:=q6q hl;clear HR hl;go_enter Tryz.func124,Tryz.ntmps124;go_wp2_with (first
     |(go_at_call 80;refine(HPl.out _ hbA).mono ?_;rintro e1 w1 ⟨rfl,hb1⟩;have hb2:=hbA.trans (hb1.mono hbA.size);obtain⟨⟨s0,s1,s2,s3⟩,s4,s5,s6⟩:=(HS.out.after hb2).facts;obtain⟨f0,f1,f2,f3⟩:=(HF.out.after hb1).facts;have hfl:=(HF.out.after hb1).lt)
     |(go_at_call 148;refine(qb5 t [45,45,102,114,111,109,61] _ HC.out).mono ?_;rintro e2 w2 ⟨rfl,rfl⟩)
     |(go_at_call 43;refine(qaf 5 p _).mono ?_;rintro e5 w5 ⟨rfl,rfl⟩))
    have hgs2:gs<w2.heap.size:=s6;go_loopw [50] (fun i wr=>∃(k:Nat) (aw:Option Addr) (cw:Nat),k≤t.length - 7∧i= .int .i64 k∧Hid (Wd (w2.heap.size+1) w2.heap.size wr (qar (chs ((t.drop 7).take k)) []) pa aw cw)∧Below w2.heap.size w2 wr) (fun i _=>t.length - 7 - (intOf i).toNat)
    case atStart=>exact⟨0,none,0,by omega,rfl,Wd.nil (heap_alloc_new _ _) (by simp) (by omega),(Below.refl _ _).alloc (Nat.le_refl _) _⟩
    case round=>
     obtain⟨k,aw,cw,hk,rfl,HWd,hbel⟩:=hrel;by_cases hlt:k<t.length - 7
     ·have hlt':(k:Int)<((t.length - 7:Nat):Int):=by omega
      have hkd:k<(t.drop 7).length:=by rw[List.length_drop];exact hlt
      have htb:=q50 ((t.drop 7).take k);have htl2:((t.drop 7).take k).length≤2000:=by rw[List.length_take];omega
      have HT:=q6q htb;clear htb;go_wp2_with (go_at_call 122;refine(qjm (w2.heap.size+1) w2.heap.size _ _ pa cw aw _ HWd.out (by have:=HT.out.1;omega) (fun q hq=>by have:=HT.out.2 q hq;omega)).mono ?_;rintro e6 w6 ⟨rfl,⟨aw',cw',hwd⟩,hf6⟩;have HW6:=q6q hwd;have hb6:=hf6.toBelow (B:=w2.heap.size) hbel.size (by rintro x (rfl|h) <;> omega);clear hwd hf6)
      go_roundw
      case rel=>exact⟨k+1,aw',cw',by omega,by go_num,by have:=HW6.out;rw[q3v _ _ hkd,qbz];simp only[List.getElem_drop];exact this,hbel.trans hb6⟩
      case measure=>simp[intOf];omega
     ·have hke:k=t.length - 7:=by omega
      rw[List.take_of_length_le (by rw[List.length_drop];omega)] at HWd;have hbW:Below w.heap.size w wr:=hb2.trans (hbel.mono hb2.size);obtain⟨d0,d1,d2,d3⟩:=HWd.out.blk2.facts;have hdl:=HWd.out.blk2.lt;have HSW:=q6q ((HS.out.after hb2).after hbel);have hlt':decide ((k:Int)<((t.length - 7:Nat):Int))=false:=by rw[decide_eq_false_iff_not];omega
      clear hke;cases hr:qch st (t.drop 7) false with
      |error f=>
       have Y:=q6q (show qcf st l p= .error (f,pa) by rw[HR2.out,hr]);have HV:=q6q hr;clear hr HR2;go_wp2_with (go_at_call 151;refine(HSt.out _ (t.drop 7) aw _ _ cw pa hbW (by rw[List.length_drop];omega) rfl HWd.out.own).mono ?_;rintro e7 w7 ⟨ho7,hb7⟩;rw[HV.out] at ho7;obtain⟨n7,rfl,h71,h72⟩:=ho7)
       refine⟨rfl,qd3 Y.out ⟨n7,rfl,Nat.le_trans hbW.size h71,h72⟩,(hbW.trans (hb7.mono hbW.size)).mono (by omega)⟩
      |ok kq=>
       have HV:=q6q hr;have HR3:=q6q (show qcf st l p=if kq=(st.length:Int) - 1 then .error (6,pa) else .ok (kq,l.drop 1) by rw[HR2.out,hr]);clear hr HR2;go_wp2_with (go_at_call 151;refine(HSt.out _ (t.drop 7) aw _ _ cw pa hbW (by rw[List.length_drop];omega) rfl HWd.out.own).mono ?_;rintro e7 w7 ⟨ho7,hb7⟩;rw[HV.out] at ho7;obtain rfl:=ho7;obtain⟨⟨x0,x1,x2,x3⟩,x4,x5,x6⟩:=(HSW.out.after hb7).facts)
       have hbz7:Below w.heap.size w w7:=hbW.trans (hb7.mono hbW.size);have HZ:=q6q ((HSW.out.after hb7).set2 kq);have HPZ:=q6q (show PB (w7.setCell ⟨gs,2,none⟩ (.int .i64 kq)) gp ao m c kk from(heap_setCell_other w7 ⟨gs,2,none⟩ gp _ (by show gp≠gs;omega)).trans (HPB.out.after hbz7));have HDZ:=q6q ((HWd.out.blk2.after hb7).far (g':=gs) (o:=2) (.int .i64 kq) (Nat.ne_of_gt hgs2));have hbT:BlkT w7 gs qai:=⟨_,(HSW.out.after hb7).blk⟩;have HWZ:=q6q ((HW.out.after hbz7).keep (KeepT.setT hbT (by decide) 2 (.int .i64 kq)) (KeepT.setT hbT (by decide) 2 (.int .i64 kq)))
       have hbZ:Below gs w (w7.setCell ⟨gs,2,none⟩ (.int .i64 kq)):=Below.setCell (hbz7.mono HG0.out) (Nat.le_refl _) _;have hsZ:w.heap.size≤(w7.setCell ⟨gs,2,none⟩ (.int .i64 kq)).heap.size:=by rw[World.size_setCell];exact hbz7.size
       clear x0 x1 x2 x3 x4 x5 x6 hbz7 hbT hb7 d0 d1 d2 d3 hdl;generalize hW:w7.setCell ⟨gs,2,none⟩ (.int .i64 kq)=wz at*;clear hW;obtain⟨⟨x0,x1,x2,x3⟩,x4,x5,x6⟩:=HZ.out.facts;obtain⟨p1,p2,p3,p4⟩:=HPZ.out.blk2.facts;obtain⟨d0,d1,d2,d3⟩:=HDZ.out.facts;have hdl:=HDZ.out.lt;have hmi:(1:Int)≤(m:Int):=by omega
       by_cases hq:kq=(m:Int) - 1
       ·have Y:=q6q (show qcf st l p= .error (6,pa) by rw[HR3.out,if_pos (by rw[HM.out];exact hq)])
        have hq':(kq==(m:Int) - 1)=true:=by rw[beq_iff_eq];exact hq
        clear HR3 hq;go_quiet (fail);go_wp2_with (go_at_call 43;refine(qaf 6 pa _).mono ?_;rintro e5 w5 ⟨rfl,rfl⟩)
        refine⟨rfl,qd3 Y.out ⟨_,rfl,hsZ,heap_alloc_new _ _⟩,(qeg hbZ _).alloc (Nat.le_trans HG0.out hsZ) _⟩
       ·have Y:=q6q (show qcf st l p= .ok (kq,l.drop 1) by rw[HR3.out,if_neg (by rw[HM.out];exact hq)])
        have hq':(kq==(m:Int) - 1)=false:=by rw[beq_eq_false_iff_ne];exact hq
        have hl1:(1:Int)≤(l.length:Int):=by omega
        have hlc':(l.length:Int)≤(lc:Int):=by omega
        clear HR3 hq;go_quiet (fail);go_wp2
        first|go_end0|refine bodyPost_ret (results_none rfl _ _ _) rfl ?_
        have HZd:SBlk (wz.drewN nq) gs kd (some ⟨b,o,none⟩) l.length lc kq p:=⟨HZ.out.blk⟩;have hbT:BlkT (wz.drewN nq) gs qai:=⟨_,HZd.blk⟩;have hWd:FWordsR (wz.drewN nq) (some ⟨b,o+1*2,none⟩) (l.drop 1):=(HWZ.out.after (qeg (Below.refl _ _) nq)).drop 1;refine⟨qhn Y.out (n:=l.length - 1) (by rw[List.length_drop]) rfl (HZd.set1 _ _ _) (hWd.keep (KeepT.setT hbT (by decide) _ _) (KeepT.setT hbT (by decide) _ _)),Below.setCell (qeg hbZ _) (Nat.le_refl _) _⟩
   ·have Y:=q6q (show qcf st l p= .error (5,p) by rw[HR.out,if_pos (by simp[hl])])
    have hl3':((l.length:Int)==3)=false:=by rw[beq_eq_false_iff_ne];omega
    clear HR HSt hl;go_enter Tryz.func124,Tryz.ntmps124;go_wp2_with (first
     |(go_at_call 80;refine(HPl.out _ hbA).mono ?_;rintro e1 w1 ⟨rfl,hb1⟩;have hb2:=hbA.trans (hb1.mono hbA.size);obtain⟨⟨s0,s1,s2,s3⟩,s4,s5,s6⟩:=(HS.out.after hb2).facts;obtain⟨f0,f1,f2,f3⟩:=(HF.out.after hb1).facts;have hfl:=(HF.out.after hb1).lt)
     |(go_at_call 148;refine(qb5 t [45,45,102,114,111,109,61] _ HC.out).mono ?_;rintro e2 w2 ⟨rfl,rfl⟩)
     |(go_at_call 43;refine(qaf 5 p _).mono ?_;rintro e5 w5 ⟨rfl,rfl⟩))
    refine⟨rfl,qd3 Y.out ⟨_,rfl,hb2.size,heap_alloc_new _ _⟩,(hb2.mono (by omega)).alloc (by have:=hb2.size;omega) _⟩
theorem qne(h:GoodW ws)(k:Nat):GoodW (ws.drop k):=fun x hx=>h x (List.mem_of_mem_drop hx)
def envR(vars:List (List UInt8))(l:List WordG):Except Flt (List UInt8):=
 if (nth l 0).flat=false∨qhl (nth l 0).text=false then .error (5,(nth l 0).at_)
 else match qbn vars (l.drop 1) with
  |some p=> .error (7,p)
  |none=> .ok (nth l 0).text
theorem qre(h:w.ownsRow B qas 4 (.slice (some ⟨gb,0,none⟩) (m+1) c) (m+1) (cs0++[a,b,sv,vv]))(hl:cs0.length=m*4):
 gb<w.heap.size∧w.cell? ⟨gb,m*4+2,none⟩=some sv∧w.cell? ⟨gb,m*4+3,none⟩=some vv∧w.frozen? ⟨gb,m*4+2,none⟩=false∧w.frozen? ⟨gb,m*4+3,none⟩=false:=by
 have hc:=h.cells (g:=gb) rfl;have ha:∀j,(⟨gb,0,none⟩:Addr).add j=⟨gb,j,none⟩:=fun j=>by unfold Addr.add;split <;> simp_all
 have h2:=hc (m*4+2) sv (by rw[List.getElem?_append_right (by omega),hl];simp);have h3:=hc (m*4+3) vv (by rw[List.getElem?_append_right (by omega),hl];simp);rw[ha] at h2 h3;rcases h.2 with⟨e,_⟩|⟨gb',cap,cur,e,hg,hh,r⟩
 ·simp at e
 ·simp only[Value.slice.injEq,Option.some.injEq,Addr.mk.injEq] at e
  obtain⟨⟨rfl,-,-⟩,-,-⟩:=e;exact⟨(q6s hh).1,h2,h3,frozen_of_row w gb _ _ _ hh,frozen_of_row w gb _ _ _ hh⟩
theorem PB.keep{k:Nat}(h:PB w gp ao n c k)(hk:KeepT qd7 w w'):PB w' gp ao n c k:=hk gp _ h
theorem SBlk.keep(h:SBlk w gs kd A n c k p)(hk:KeepT qai w w'):SBlk w' gs kd A n c k p:=⟨hk gs _ h.blk⟩
theorem q5k{init:List StageG}{vv':Value}{x:List UInt8}(h:FLastR B H w init y gb c cs0 sv vv scs)
 (hp:PB w gp (some ⟨gb,0,none⟩) (init.length+1) c kk)(hs:SBlk w gs kd A n lc k p)(hw:FWordsR w A l)
 (hg:w.grownBy w2 vv.ownBlock)(hown:w2.ownsRow H qbl 1 vv' (y.vars.length+1) (strs y.vars++[.string (S x)])):
 (FLastR B H (w2.setCell ⟨gb,init.length*4+3,none⟩ vv') init ⟨y.name,y.base,y.steps,y.vars++[x]⟩ gb c cs0 sv vv' scs∧FKeepX w (w2.setCell ⟨gb,init.length*4+3,none⟩ vv')∧Below B w (w2.setCell ⟨gb,init.length*4+3,none⟩ vv')
   ∧PB (w2.setCell ⟨gb,init.length*4+3,none⟩ vv') gp (some ⟨gb,0,none⟩) (init.length+1) c kk∧SBlk (w2.setCell ⟨gb,init.length*4+3,none⟩ vv') gs kd A n lc k p∧FWordsR (w2.setCell ⟨gb,init.length*4+3,none⟩ vv') A l)∧
 (gb<w2.heap.size∧w2.cell? ⟨gb,init.length*4+2,none⟩=some sv∧w2.cell? ⟨gb,init.length*4+3,none⟩=some vv∧w2.frozen? ⟨gb,init.length*4+2,none⟩=false∧w2.frozen? ⟨gb,init.length*4+3,none⟩=false)∧PB w2 gp (some ⟨gb,0,none⟩) (init.length+1) c kk:=by
 obtain⟨h1,h2,h3⟩:=h.pushVar hg hown;have hT:∀T,T≠qbl→KeepT T w w2:=fun T hne=>KeepT.grown hg h.vars (fun e=>hne e.symm)
 obtain⟨⟨cs,hbt⟩,_⟩:=h.blkT;have hb1:BlkT w2 gb qas:=⟨cs,hT qas (by decide) gb cs hbt⟩;have hS:KeepT qai w (w2.setCell ⟨gb,init.length*4+3,none⟩ vv'):=(hT _ (by decide)).trans (KeepT.setT hb1 (by decide) _ _);exact⟨⟨h1,h2,h3,hp.keep (h2 _ (by decide) (by decide) (by decide)),hs.keep hS,hw.keep (h2 _ (by decide) (by decide) (by decide)) (h2 _ (by decide) (by decide) (by decide))⟩,qre (qao h.own (hT _ (by decide))) h.ini.len,hp.keep (hT _ (by decide))⟩
theorem FLastR.dN{init:List StageG}(h:FLastR B H w init y gb c cs0 sv vv scs)(n:Nat):FLastR B H (w.drewN n) init y gb c cs0 sv vv scs:=h.after (qeg (Below.refl _ _) n)
def q58(B H gb c gp gs kk lc p:Nat)(kd k:Int)(A:Option Addr)(l:List WordG)(init:List StageG)(y:StageG)(cs0:List Value)(sv:Value)(scs:List Value)(w w':World)(e:Ending):Except Flt (List UInt8)→Prop
 |.error (f,q)=>Thrown w w' e f q
 |.ok x=>e= .returned (.tuple #[])∧∃vv',FLastR B H w' init ⟨y.name,y.base,y.steps,y.vars++[x]⟩ gb c cs0 sv vv' scs∧PB w' gp (some ⟨gb,0,none⟩) (init.length+1) c kk∧SBlk w' gs kd A l.length lc k p∧FWordsR w' A l
theorem qz6(h:qhl s=false)(w:World)(hl:s.length≤1000000):Calls Tryz.prog 155 #[.string (S s)] w fun e w'=>e= .returned (.bool false)∧w'=w:=
 (qfx s w hl).mono fun e w' ⟨a,b⟩=>⟨by rw[a,h],b.symm⟩
theorem qm9(h:qhl s=true)(w:World)(hl:s.length≤1000000):Calls Tryz.prog 155 #[.string (S s)] w fun e w'=>e= .returned (.bool true)∧w'=w:=
 (qfx s w hl).mono fun e w' ⟨a,b⟩=>⟨by rw[a,h],b.symm⟩
theorem qor(init:List StageG)(y:StageG)(B H gb c gp gs kk b o lc p vc m:Nat)(kd k:Int)(va:Option Addr)(l:List WordG)(cs0:List Value)(sv:Value)(scs:List Value)(w:World)
 (hL:FLastR B H w init y gb c cs0 sv (.slice va y.vars.length vc) scs)(hm:init.length=m)(hi:init.length≤4)(hv:y.vars.length≤100)(hp:PB w gp (some ⟨gb,0,none⟩) (m+1) c kk)(hs:SBlk w gs kd (some ⟨b,o,none⟩) l.length lc k p)
 (hw:FWordsR w (some ⟨b,o,none⟩) l)(hg:GoodW l)(hl1:2≤l.length)(hl3:l.length≤3)(hlc:l.length≤lc)(hlm:lc≤maxLen):
 Calls Tryz.prog 126 #[.pointer (some ⟨gp,0,none⟩),.pointer (some ⟨gs,0,none⟩)] w fun e w'=>q58 B H gb c gp gs kk lc p kd k (some ⟨b,o,none⟩) l init y cs0 sv scs w w' e (envR y.vars l)∧Below B w w'∧FKeepX w w':=by
 subst hm;obtain⟨⟨s0,s1,s2,s3⟩,s4,s5,s6⟩:=hs.facts;have HS:=q6q hs;have HW:=q6q hw;have HL:=q6q hL;have HPB:=q6q hp;obtain⟨fa,fc,hb,m1,m2,ho⟩:=hw.one (k:=0) (by omega);rw[Nat.zero_mul,Nat.add_zero] at m1 m2;have hgx:=hg.nth 0 (by omega);have HPl:=q6q (show ∀wx:World,Below w.heap.size w wx→Calls Tryz.prog 80 #[.agg #[.slice fa (nth l 0).pl.length fc,.int .i64 (nth l 0).at_]] wx fun e w'=>e= .returned (.tuple #[.string (S (nth l 0).text),.bool (nth l 0).flat])∧Below wx.heap.size wx w' from
  fun wx hb=>qbu (nth l 0) fa fc 0 _ wx hgx.1 hgx.2 rfl (qac ho hb))
 have HKn:=q6q (show ∀wx:World,Below w.heap.size w wx→Calls Tryz.prog 83 #[.pointer (some ⟨gp,0,none⟩),.slice (some ⟨b,o+2,none⟩) (l.length - 1) (lc - 1)] wx fun e w'=>qtz wx w' e (qbn y.vars (l.drop 1))∧Below wx.heap.size wx w' from
  fun wx hb=>qct gp gb init.length c kk y.vars va _ vc _ (lc - 1) (l.drop 1) wx hi ((hL.after hb).varsAt (hp.after hb)) (by omega) ((hw.after hb).drop 1) (qne hg 1) (by rw[List.length_drop]) (by rw[List.length_drop];omega))
 have HR:=q6q (show envR y.vars l=if (nth l 0).flat=false∨qhl (nth l 0).text=false then .error (5,(nth l 0).at_)
  else match qbn y.vars (l.drop 1) with
   |some p=> .error (7,p)
   |none=> .ok (nth l 0).text from rfl)
 have htl:=Nat.le_trans (nth l 0).text_len hgx.2;have hl0:(0:Int)<(l.length:Int):=by omega
 have hl1':(1:Int)≤(l.length:Int):=by omega
 have hlc':(l.length:Int)≤(lc:Int):=by omega
 have hlcn:¬lc=1:=by omega
 obtain⟨i1,hi1,hz1,hz2,hz4⟩:=info_parts (show(Tryz.prog.info? 9).map (fun i=>(i.zero,i.size,i.bytes))=some (some (.string ByteArray.empty),1,16) by kernel_rfl);have HB:=q6q hL.hB;have HH:=q6q hL.hH;have hBw:B≤w.heap.size:=Nat.le_trans hL.hB hL.hH;clear hs hw ho hgx hg hp hL;generalize (nth l 0).text=t at*;generalize (nth l 0).pl.length=n at*;generalize (nth l 0).at_=pa at*;generalize (nth l 0).flat=fl at*;cases fl
 ·have Y:=q6q (show envR y.vars l= .error (5,pa) by rw[HR.out,if_pos (.inl rfl)])
  clear HR HKn;go_enter Tryz.func126,Tryz.ntmps126;go_wp2_with (first
   |(go_at_call 80;refine(HPl.out _ (Below.refl _ _)).mono ?_;rintro e1 w1 ⟨rfl,hb1⟩;obtain⟨⟨s0,s1,s2,s3⟩,s4,s5,s6⟩:=(HS.out.after hb1).facts;have n2:=Below.cellAt hb1 hb m2)
   |(go_at_call 43;refine(qaf 5 pa _).mono ?_;rintro e5 w5 ⟨rfl,rfl⟩))
  refine⟨rfl,?_,(hb1.mono hBw).alloc (by have:=hb1.size;omega) _,FKeepX.below (hb1.alloc hb1.size _)⟩;rw[Y.out];exact⟨_,rfl,hb1.size,heap_alloc_new _ _⟩
 ·cases hv':qhl t
  ·have Y:=q6q (show envR y.vars l= .error (5,pa) by rw[HR.out,if_pos (.inr hv')])
   have HV:=q6q hv';clear HR hv' HKn;go_enter Tryz.func126,Tryz.ntmps126;go_wp2_with (first
    |(go_at_call 80;refine(HPl.out _ (Below.refl _ _)).mono ?_;rintro e1 w1 ⟨rfl,hb1⟩;obtain⟨⟨s0,s1,s2,s3⟩,s4,s5,s6⟩:=(HS.out.after hb1).facts;have n2:=Below.cellAt hb1 hb m2)
    |(go_at_call 155;refine(qz6 HV.out _ (by omega)).mono ?_;rintro e2 w2 ⟨rfl,rfl⟩)
    |(go_at_call 43;refine(qaf 5 pa _).mono ?_;rintro e5 w5 ⟨rfl,rfl⟩))
   refine⟨rfl,?_,(hb1.mono hBw).alloc (by have:=hb1.size;omega) _,FKeepX.below (hb1.alloc hb1.size _)⟩;rw[Y.out];exact⟨_,rfl,hb1.size,heap_alloc_new _ _⟩
  ·have HV:=q6q hv'
   cases hu:qbn y.vars (l.drop 1) with
   |some q=>
    have Y:=q6q (show envR y.vars l= .error (7,q) by rw[HR.out,if_neg (by simp[hv']),hu]);have HU:=q6q hu;clear HR hv' hu;go_enter Tryz.func126,Tryz.ntmps126;go_wp2_with (first
     |(go_at_call 80;refine(HPl.out _ (Below.refl _ _)).mono ?_;rintro e1 w1 ⟨rfl,hb1⟩;obtain⟨⟨s0,s1,s2,s3⟩,s4,s5,s6⟩:=(HS.out.after hb1).facts;have n2:=Below.cellAt hb1 hb m2)
     |(go_at_call 155;refine(qm9 HV.out _ (by omega)).mono ?_;rintro e2 w2 ⟨rfl,rfl⟩)
     |(go_at_call 83;refine(HKn.out _ hb1).mono ?_;rintro e3 w3 ⟨ho3,hb3⟩;rw[HU.out] at ho3;obtain⟨n3,rfl,h31,h32⟩:=ho3))
    refine⟨rfl,?_,(hb1.trans (hb3.mono hb1.size)).mono hBw,FKeepX.below (hb1.trans (hb3.mono hb1.size))⟩;rw[Y.out];exact⟨n3,rfl,Nat.le_trans hb1.size h31,h32⟩
   |none=>
    have Y:=q6q (show envR y.vars l= .ok t by rw[HR.out,if_neg (by simp[hv']),hu]);have HU:=q6q hu;clear HR hv' hu;go_enter Tryz.func126,Tryz.ntmps126;go_wp2_with (first
     |(go_at_call 80;refine(HPl.out _ (Below.refl _ _)).mono ?_;rintro e1 w1 ⟨rfl,hb1⟩;obtain⟨⟨s0,s1,s2,s3⟩,s4,s5,s6⟩:=(HS.out.after hb1).facts;have n2:=Below.cellAt hb1 hb m2)
     |(go_at_call 155;refine(qm9 HV.out _ (by omega)).mono ?_;rintro e2 w2 ⟨rfl,rfl⟩)
     |(go_at_call 83;refine(HKn.out _ hb1).mono ?_;rintro e3 w3 ⟨ho3,hb3⟩;rw[HU.out] at ho3;obtain rfl:=ho3;have hb13:=hb1.trans (hb3.mono hb1.size);have LR3:=q6q (HL.out.after hb13);have HP3:=q6q (HPB.out.after hb13);have HS3:=q6q (HS.out.after hb13);have HW3:=q6q (HW.out.after hb13);obtain⟨x1,x2,x3,x4,x5⟩:=LR3.out.facts;have hz3:=hb13.size)
     |(go_at_call 84;refine(qfd gp gb init.length c kk _ hi (by exact HP3.out)).mono ?_;rintro e4 w4 ⟨rfl,q4,rfl⟩)
     |(at_builtin;refine wpList_append_own _ rfl _ _ 26 rfl H qbl i1 (.string ByteArray.empty) 1 16 Tryz.underlying26 hi1 hz1 hz2 hz4 rfl (by decide) _ _ _ rfl ((LR3.out.dN _).alloc (.cells #[.string (S t)] qbl)).vars ⟨_,0,none⟩ 1 1 [.string (S t)] rfl rfl (cell_one_new _ _ _) (by simp[Value.oneCell']) (by unfold maxLen;omega) (by omega) (by simp;have:=LR3.out.hH;omega) ?_;intro v' w7 hown7 hgr7 _;obtain⟨g',c',rfl⟩:=qad hown7;obtain⟨PS,⟨y1,y2,y3,y4,y5⟩,PP⟩:=q5k ((LR3.out.dN _).alloc (.cells #[.string (S t)] qbl)) ((HP3.out.after (qeg (Below.refl _ _) _)).after (Below.alloc (Below.refl _ _) (Nat.le_refl _) _)) ((HS3.out.after (qeg (Below.refl _ _) _)).after (Below.alloc (Below.refl _ _) (Nat.le_refl _) _)) ((HW3.out.after (qeg (Below.refl _ _) _)).after (Below.alloc (Below.refl _ _) (Nat.le_refl _) _)) hgr7 hown7;have PS:=q6q PS;clear hown7 hgr7 PP))
    first|go_end0|refine bodyPost_ret (results_none rfl _ _ _) rfl ?_
    obtain⟨P1,P2,P3,P4,P5,P6⟩:=PS.out;refine⟨?_,Below.trans (Below.alloc (qeg (hb13.mono hBw) _) (Nat.le_trans hBw hb13.size) _) P3,FKeepX.trans (FKeepX.below (Below.alloc (qeg hb13 _) hb13.size _)) P2⟩;rw[Y.out];exact⟨rfl,_,P1,P4,P5,P6⟩
def qhg(l:List WordG)(p:Nat):Except Flt (List UInt8):=
 if l.length=2∨l.length=3 then
  if (nth l 1).text≠wAS then .error (5,(nth l 1).at_)
  else if l.length=2 then .error (5,p)
  else if qby (nth l 2).text=false then .error (5,(nth l 2).at_)
  else .ok (nth l 2).text
 else .ok []
def qdf(st:List StageG)(l:List WordG)(p:Nat):Except Flt (List StageG):=
 match qhg l p with
 |.error f=> .error f
 |.ok name=>match qch st (nth l 0).text true with
  |.error f=> .error (f,(nth l 0).at_)
  |.ok k=>if name≠[]∧(name=qcb∨0≤qan st name) then .error (6,(nth l 2).at_)
   else if st.length=5 then .error (10,p)
   else .ok (st++[⟨name,k,[],qfw st k⟩])
theorem qv6(x:WordG)(l:List WordG):qh5 (x::l)=qhg l x.at_:=by
 unfold qh5 qhg;have h0:nth (x::l) 0=x:=rfl;have h2:nth (x::l) 2=nth l 1:=rfl;have h3:nth (x::l) 3=nth l 2:=rfl;rw[h0,h2,h3,show(x::l).length=l.length+1 from rfl];have e3:(l.length+1=4)=(l.length=3):=by rw[eq_iff_iff];omega
 have e2:(l.length+1=3)=(l.length=2):=by rw[eq_iff_iff];omega
 simp only[e2,e3]
theorem qwr(st:List StageG)(x:WordG)(l:List WordG):qg2 st (x::l)=qdf st l x.at_:=by
 unfold qg2 qdf;rw[qv6];cases qhg l x.at_ with
 |error f=>rfl
 |ok name=>
  have h0:nth (x::l) 0=x:=rfl;have h1:nth (x::l) 1=nth l 0:=rfl;have h3:nth (x::l) 3=nth l 2:=rfl;simp only[h0,h1,h3];unfold qch;by_cases hs:qby (nth l 0).text=false
  ·simp[hs]
  ·rw[if_neg hs,if_neg hs]
   by_cases hc:qan st (nth l 0).text<0∧(nth l 0).text≠qcb
   ·rw[if_pos hc,if_pos ⟨hc.1,fun h=>hc.2 h.2⟩]
   ·have e:¬(qan st (nth l 0).text<0∧¬(true=true∧(nth l 0).text=qcb)):=fun h=>hc ⟨h.1,fun e=>h.2 ⟨rfl,e⟩⟩
    rw[if_neg hc,if_neg e]
theorem qpo{st:List StageG}{s:Bool}(h:qch st t s= .ok k):k=qan st t:=by
 unfold qch at h;split at h
 ·cases h
 ·split at h
  ·cases h
  ·cases h;rfl
theorem qws{st:List StageG}{f:Flt}(h:qhg l p= .error f):qdf st l p= .error f:=by unfold qdf;rw[h]
theorem qng{st:List StageG}(h:qhg l p= .ok name)(hs:qch st (nth l 0).text true= .error f):qdf st l p= .error (f,(nth l 0).at_):=by unfold qdf;rw[h];simp only;rw[hs]
theorem qqp{st:List StageG}(h:qhg l p= .ok name)(hs:qch st (nth l 0).text true= .ok k):qdf st l p=if name≠[]∧(name=qcb∨0≤qan st name) then .error (6,(nth l 2).at_) else if st.length=5 then .error (10,p) else .ok (st++[⟨name,k,[],qfw st k⟩]):=by unfold qdf;rw[h];simp only;rw[hs]
def KeepY(w w':World):Prop:=∀T,T≠qas→T≠qai→T≠qbl→T≠qd7→KeepT T w w'
theorem KeepY.of(w w':World)(h:FKeepX w w'):KeepY w w':=fun T h1 h2 h3 _=>h T h1 h2 h3
theorem qab(h:Below B w w'):Below B w w'.drew:=⟨h.os,h.tape,h.output,h.size,h.block⟩
theorem KeepY.below(h:Below w.heap.size w w'):KeepY w w':=fun _ _ _ _ _=>KeepT.below h
theorem KeepY.trans{a b c:World}(h:KeepY a b)(k:KeepY b c):KeepY a c:=fun T h1 h2 h3 h4=>(h T h1 h2 h3 h4).trans (k T h1 h2 h3 h4)
theorem qnp(l:List (List UInt8))(A:Option Addr)(n c k:Nat)(w:World)(hn:l.length=n)(hl:l.length≤1000)(ho:w.ownsRow k qbl 1 (.slice A l.length c) l.length (strs l)):
 Calls Tryz.prog 154 #[.slice A n c] w fun e w'=>(∃A' c',e= .returned (.slice A' n c')∧w'.ownsRow w.heap.size qbl 1 (.slice A' n c') n (strs l))∧Below w.heap.size w w':=by
 subst hn;have ho':=ho;rcases ho.2 with⟨e,e2⟩|⟨g,cap,cur,e,hg,hh,r⟩
 ·simp only[Value.slice.injEq] at e
  obtain⟨rfl,-,rfl⟩:=e;have h0:l=[]:=List.eq_nil_of_length_eq_zero e2;subst h0;exact(Tryz.slices_Clone_string_nil _ _ w).mono fun e w' ⟨h1,h2⟩=>by
   subst h2;exact⟨⟨none,0,h1,World.ownsRow_nil _ _ _ _⟩,Below.refl _ _⟩
 ·simp only[Value.slice.injEq] at e
  obtain⟨rfl,-,rfl⟩:=e;rcases Nat.eq_zero_or_pos l.length with h0|h0
  ·have h0':l=[]:=List.eq_nil_of_length_eq_zero h0
   subst h0';exact(Tryz.slices_Clone_string_zero ⟨g,0,none⟩ c w).mono fun e w' ⟨v',h1,h2,h3,h4⟩=>by
    obtain⟨A',c',rfl⟩:=qad h2;exact⟨⟨A',c',h1,h2⟩,h4⟩
  ·have hc:=ho'.cells (g:=g) rfl
   have ha:∀j,(⟨g,0,none⟩:Addr).add j=⟨g,j,none⟩:=fun j=>by unfold Addr.add;split <;> simp_all
   refine(Tryz.slices_Clone_string g 0 l.length c (l.map S) w (by simp) (by omega) ?_).mono fun e w' ⟨v',h1,h2,h3,h4⟩=>?_
   ·intro j hj
    have hj':j<l.length:=by simpa using hj
    have:=hc j (.string (S l[j])) (by simp[strs,hj']);rw[ha] at this;rw[Nat.zero_add,this];simp[hj']
   ·obtain⟨A',c',rfl⟩:=qad h2
    refine⟨⟨A',c',h1,?_⟩,h4⟩;rw[List.take_of_length_le (by simp),List.map_map] at h2;exact h2
theorem qkm{c':Nat}{kq:Int}{st:List StageG}{ao':Option Addr}{cs:List Value}{vs:List (List UInt8)}
 (hown:w.ownsRow B qas 4 (.slice ao st.length c) st.length cs)(hsc:FStageCells B w.heap.size w st cs)(hp:PB w gp ao st.length c kk)(hs:SBlk w gs kd A n lc k p)(hb:Below w.heap.size w wx)(hg:wx.grownBy w2 (Value.slice ao st.length c).ownBlock)
 (hvv:wx.ownsRow w.heap.size qbl 1 vv vs.length (strs vs))(hown2:w2.ownsRow B qas 4 (.slice ao' (st.length+1) c') (st.length+1) (cs++[.string (S name),.int .i64 kq,.slice none 0 0,vv]))(hB:B≤w.heap.size)(hgp:B≤gp):
 (FStagesR B (w2.setCell ⟨gp,0,none⟩ (.slice ao' (st.length+1) c')) (st++[⟨name,kq,[],vs⟩]) ao' c'∧PB (w2.setCell ⟨gp,0,none⟩ (.slice ao' (st.length+1) c')) gp ao' (st.length+1) c' kk∧SBlk (w2.setCell ⟨gp,0,none⟩ (.slice ao' (st.length+1) c')) gs kd A n lc k p∧KeepY w (w2.setCell ⟨gp,0,none⟩ (.slice ao' (st.length+1) c'))∧Below B w (w2.setCell ⟨gp,0,none⟩ (.slice ao' (st.length+1) c')))∧PB w2 gp ao st.length c kk:=by
 have hownx:=qac hown hb;have hT:∀T,T≠qas→KeepT T w w2:=fun T h=>(KeepT.below hb).trans (KeepT.grown hg hownx (fun e=>h e.symm))
 have hp2:PB w2 gp ao st.length c kk:=hp.keep (hT _ (by decide));have hbT:BlkT w2 gp qd7:=⟨_,hp2⟩;have hS:∀T,T≠qd7→KeepT T w2 (w2.setCell ⟨gp,0,none⟩ (.slice ao' (st.length+1) c')):=fun T h=>KeepT.setT hbT (fun e=>h e.symm) _ _
 have hx:FStageAt w.heap.size wx.heap.size wx ⟨name,kq,[],vs⟩ (.slice none 0 0) vv:=⟨⟨[],World.ownsRow_nil _ _ _ _,rfl⟩,hvv,(fun g e=>by cases e),fun g e=>qtt hvv g e⟩;obtain⟨h1,h2⟩:=FStagesR.push (x:=⟨name,kq,[],vs⟩) hown hsc hb hg hx hown2 hB;refine⟨⟨h1.keep (hS _ (by decide)) (hS _ (by decide)) (hS _ (by decide)) (hS _ (by decide)) (hS _ (by decide)) (by simp),heap_setCell_same w2 gp 0 _ _ _ hp2,hs.keep ((hT _ (by decide)).trans (hS _ (by decide))),fun T a1 a2 a3 a4=>(hT T a1).trans (hS T a4),?_⟩,hp2⟩;exact Below.setCell ((hb.mono hB).grown hg (Nat.le_trans hB hb.size) (fun z hz=>qek hownx z hz)) hgp _
def qls(B gp gs kk n lc p:Nat)(kd k:Int)(A:Option Addr)(w w':World)(e:Ending):Except Flt (List StageG)→Prop
 |.error (f,q)=>Thrown w w' e f q
 |.ok st'=>e= .returned (.tuple #[])∧SBlk w' gs kd A n lc k p∧∃ao c,PB w' gp ao st'.length c kk∧FStagesR B w' st' ao c
theorem FStagesR.cellsAt{st:List StageG}(h:FStagesR B w st ao c){k:Nat}(hk:k<st.length):
 ∃b o va vc,ao=some ⟨b,o,none⟩∧b<w.heap.size∧w.cell? ⟨b,o+k*4+3,none⟩=some (.slice va st[k].vars.length vc)∧w.ownsRow 0 qbl 1 (.slice va st[k].vars.length vc) st[k].vars.length (strs st[k].vars):=by
 obtain⟨b,o,sa,sc,va,vc,e,hb,_,_,_,m4,_,ho⟩:=h.st.get hk;exact⟨b,o,va,vc,e,hb,m4,ho⟩
theorem Blk4.four{c:Value}(h:Blk4 w g a b c d)(x0 x1 x2 x3:Value):Blk4 ((((w.setCell ⟨g,0,none⟩ x0).setCell ⟨g,1,none⟩ x1).setCell ⟨g,2,none⟩ x2).setCell ⟨g,3,none⟩ x3) g x0 x1 x2 x3:=by
 obtain⟨t,h⟩:=h;have h0:Blk4 (w.setCell ⟨g,0,none⟩ x0) g x0 b c d:=⟨t,by rw[heap_setCell_same w g _ _ t x0 h];rfl⟩;exact((h0.set1 x1).set2 x2).set3 x3
theorem qrb(h:Below B w wr)(hg:B≤g)(x0 x1 x2 x3:Value):Below B w ((((wr.setCell ⟨g,0,none⟩ x0).setCell ⟨g,1,none⟩ x1).setCell ⟨g,2,none⟩ x2).setCell ⟨g,3,none⟩ x3):=
 Below.setCell (Below.setCell (Below.setCell (Below.setCell h hg _) hg _) hg _) hg _
theorem qcl(h:r= .error (f,q))(ht:Thrown w w' e f q):qls B gp gs kk n lc p kd k A w w' e r:=by subst h;exact ht
def qfn(t:List UInt8)(lo hi:Nat)(fv:Value)(kd:Int):Prop:=
 qip t= .tuple #[.agg #[.string (S t),.int .i64 lo,.int .i64 hi,fv],.bool true]∧qde t=kd∧qbc t=some (lo,hi)∧fv.oneCell'=true∧kd≠-1
theorem qqq(h:qbc t=none):qip t= .tuple #[.agg #[.string (S []),.int .i64 0,.int .i64 0,.nilFunc],.bool false]∧qde t= -1:=by
 unfold qbc at h;by_cases h0:t=qcq
 ·subst h0;simp at h
 by_cases h1:t=qfv
 ·subst h1;rw[if_neg h0] at h;simp at h
 by_cases h2:t=wADD
 ·subst h2;rw[if_neg h0,if_neg h1] at h;simp at h
 by_cases h5:t=qjo
 ·subst h5;rw[if_neg h0,if_neg h1,if_neg h2] at h;simp at h
 by_cases h6:t=wENV
 ·subst h6;rw[if_neg h0,if_neg h1,if_neg h2,if_neg h5] at h;simp at h
 by_cases h3:t=wRM
 ·subst h3;rw[if_neg h0,if_neg h1,if_neg h2,if_neg h5,if_neg h6] at h;simp at h
 by_cases h7:t=qc4
 ·subst h7;rw[if_neg h0,if_neg h1,if_neg h2,if_neg h5,if_neg h6,if_neg h3] at h;simp at h
 by_cases h4:t=qdk
 ·subst h4;rw[if_neg h0,if_neg h1,if_neg h2,if_neg h5,if_neg h6,if_neg h3,if_neg h7] at h;simp at h
 refine⟨qj8 ?_,by unfold qde;rw[if_neg h0,if_neg h1,if_neg h2,if_neg h3,if_neg h4,if_neg h5,if_neg h6,if_neg h7]⟩;intro j hj _;have hj8:j<8:=hj;have hc:j=0∨j=1∨j=2∨j=3∨j=4∨j=5∨j=6∨j=7:=by omega
 rcases hc with rfl|rfl|rfl|rfl|rfl|rfl|rfl|rfl
 ·exact fun e=>h0 e.symm
 ·exact fun e=>h1 e.symm
 ·exact fun e=>h2 e.symm
 ·exact fun e=>h3 e.symm
 ·exact fun e=>h4 e.symm
 ·exact fun e=>h5 e.symm
 ·exact fun e=>h6 e.symm
 ·exact fun e=>h7 e.symm
theorem qqs:qfn qcq 1 3 (.func (Fn.func 123) #[] #[]) 0:=⟨by kernel_rfl,by decide,by decide,rfl,by decide⟩
theorem qqt:qfn qfv 2 3 (.func (Fn.func 124) #[] #[]) 1:=⟨by kernel_rfl,by decide,by decide,rfl,by decide⟩
theorem qt6:qfn wADD 2 2 .nilFunc 2:=⟨by kernel_rfl,by decide,by decide,rfl,by decide⟩
theorem q0d:qfn wRM 1 1 .nilFunc 3:=⟨by kernel_rfl,by decide,by decide,rfl,by decide⟩
theorem qni:qfn qdk 1 2 (.func (Fn.func 125) #[] #[]) 4:=⟨by kernel_rfl,by decide,by decide,rfl,by decide⟩
theorem qqr:qfn qjo 2 2 .nilFunc 5:=⟨by kernel_rfl,by decide,by decide,rfl,by decide⟩
theorem qt5:qfn wENV 2 2 (.func (Fn.func 126) #[] #[]) 6:=⟨by kernel_rfl,by decide,by decide,rfl,by decide⟩
theorem qj7:qfn qc4 1 1 .nilFunc 7:=⟨by kernel_rfl,by decide,by decide,rfl,by decide⟩
theorem qwv(h:qbc t=some (lo,hi)):t=qcq∨t=qfv∨t=wADD∨t=wRM∨t=qdk∨t=qjo∨t=wENV∨t=qc4:=by
 unfold qbc at h;repeat' split at h
 all_goals first
  |(cases h;done)
  |simp_all
def qay(st:List StageG)(ws:List WordG)(n:Nat):Except Flt (List StageG):=
 match qce st ws with
 |.error f=> .error f
 |.ok st'=>if 24<n+1 then .error (10,(nth ws 0).at_) else .ok st'
theorem qwj{st:List StageG}(h:qbc (nth ws 0).text=none):qay st ws n= .error (5,(nth ws 0).at_):=by unfold qay qce;rw[h]
theorem qnb{st:List StageG}(h:qbc (nth ws 0).text=some (lo,hi))(hb:(st=[]∧(nth ws 0).text≠qcq)∨ws.length<lo+1∨hi+1<ws.length):qay st ws n= .error (5,(nth ws 0).at_):=by unfold qay qce;rw[h];simp only;rw[if_pos hb]
theorem qsp{st:List StageG}(h:qbc (nth ws 0).text=some (lo,hi))(hb:¬((st=[]∧(nth ws 0).text≠qcq)∨ws.length<lo+1∨hi+1<ws.length))(hf:(nth ws 0).text=qcq):qay st ws n=(match qg2 st ws with|.error f=> .error f|.ok st'=>if 24<n+1 then .error (10,(nth ws 0).at_) else .ok st'):=by unfold qay qce;rw[h];simp only;rw[if_neg hb,if_pos hf]
theorem qgn{st:List StageG}(h:qbc (nth ws 0).text=some (lo,hi))(hb:¬((st=[]∧(nth ws 0).text≠qcq)∨ws.length<lo+1∨hi+1<ws.length))(hf:(nth ws 0).text≠qcq):qay st ws n=(match qfy st (nth ws 0).text ws with|.error f=> .error f|.ok st'=>if 24<n+1 then .error (10,(nth ws 0).at_) else .ok st'):=by unfold qay qce;rw[h];simp only;rw[if_neg hb,if_neg hf]
def qdz(B gp n:Nat)(w w':World)(e:Ending):Except Flt (List StageG)→Prop
 |.error (f,q)=>Thrown w w' e f q
 |.ok st'=>e= .returned (.tuple #[])∧∃ao c,PB w' gp ao st'.length c (n+1)∧FStagesR B w' st' ao c
theorem qah(h:r= .error (f,q))(ht:Thrown w w' e f q):qdz B gp n w w' e r:=by subst h;exact ht
theorem qee{st':List StageG}(h:r= .ok st')(he:e= .returned (.tuple #[]))(hm:m=st'.length)(hp:PB w' gp ao m c (n+1))(hs:FStagesR B w' st' ao c):qdz B gp n w w' e r:=by subst h;subst hm;exact⟨he,ao,c,hp,hs⟩
end Go.Proofs.YtikdblkfjchjbaaGreatDoor
