import Derived.Deep.Cut
import Derived.Test.YtikdblkfjchjbaaGreatDoorY01
import Derived.Test.YtikdblkfjchjbaaGreatDoorY03
set_option linter.unusedVariables false
set_option linter.unusedSimpArgs false
set_option maxHeartbeats 16000000
set_option maxRecDepth 100000
namespace Go.Proofs.YtikdblkfjchjbaaGreatDoor
open Go.RowKit
theorem qnv{B:Nat}{a w:World}(h:Below B a w):Below B a w.drew:=⟨h.os,h.tape,h.output,h.size,h.block⟩
theorem qyu(l:List Ent)(A B:Option Addr)(capA capB:Nat)(w:World)(ha:Rd w A (ents l))(hb:Rd w B (ents l))(hl:l.length≤9223372036854775807):
 Calls Tryz.prog 25 #[.slice A l.length capA,.slice B l.length capB] w fun e w'=>e= .returned (.bool true)∧Below w.heap.size w w':=by
 have HA:=q6q ha;have HBb:=q6q hb;clear ha hb;go_enter Tryz.func25,Tryz.ntmps25;go_wp2;go_loopw [5] (fun i wr=>∃k:Nat,k≤l.length∧i= .int .i64 k∧Hid (Below w.heap.size w wr)) (fun i _=>l.length - (intOf i).toNat)
 case atStart=>exact⟨0,Nat.zero_le _,rfl,q6q (Below.refl _ _)⟩
 case round=>
  obtain⟨k,hk,rfl,HB⟩:=hrel;by_cases hlt:k<l.length
  ·obtain⟨b,o,hBe,hbb,g0,g1,g2,g3⟩:=qgq HA.out HB.out k hlt
   obtain⟨b2,o2,hBe2,hbb2,e0,e1,e2,e3⟩:=qgq HBb.out HB.out k hlt;subst hBe hBe2;obtain⟨c,hcc⟩:∃c,l[k]=c:=⟨_,rfl⟩;rw[hcc] at g0 g1 g2 g3 e0 e1 e2 e3;have hkl:(k:Int)<(l.length:Int):=by omega
   clear hcc;go_upto_region 6 with fail;go_region
   go_wp2;go_roundw
   case rel=>exact⟨k+1,by omega,by go_num,q6q (qnv HB.out)⟩
   case measure=>simp[intOf];omega
  ·obtain rfl:k=l.length:=by omega
   go_wp2;go_ret;exact⟨rfl,HB.out⟩
theorem qv0{l:List Ent}(h:First (qcw l) l.length (-1)):l.length≤40∧Lists l (qav l):=by
 obtain h|⟨_,h⟩:=h
 ·obtain⟨i,_,h1,_⟩:=h;omega
 refine⟨Classical.byContradiction fun hn=>?_,?_⟩
 ·have h40:=h 40 (by omega)
  have hc:l[40]? =some l[40]:=List.getElem?_eq_getElem (by omega);rw[qco hc] at h40;simp at h40
 ·have:=qjy (k:=l.length) (Nat.le_refl _) h
  rwa [List.take_length] at this
end Go.Proofs.YtikdblkfjchjbaaGreatDoor
