import Derived.Deep.RegionHeld3
import Derived.Test.YtikdblkfjchjbaaGreatDoorY08
set_option linter.unusedVariables false
set_option linter.unusedSimpArgs false
set_option maxHeartbeats 16000000
set_option maxRecDepth 100000
namespace Go.Proofs.YtikdblkfjchjbaaGreatDoor
open Go.RowKit
variable{w:World}{B N fuel:Nat}{α:Type}{a m:Pth→Nat}{F:qag}{P:Program}{ops:Array Oper}{Q:Exit→Act→World→Prop}{md:Region.Mode}{op:Op}{ty:TypeId}{ps:String}{af:Array Edge}{gd:Option (Nat×Bool)}{li:Array Bool}
theorem qb7{w':World}(h:Below B w w'):Below B w w'.drew:=⟨h.os,h.tape,h.output,h.size,h.block⟩
def q6o(l:List Ent)(W:World)(e:Ending)(w':World):Prop:=
 ∃r,First (qcw l) l.length r∧Below W.heap.size W w'∧
  ((r= -1∧∃t a m,e= .returned (.tuple #[.pointer (some ⟨t,0,none⟩),.int .i64 (-1)])∧TreeAt w' W.heap.size l.length a m (qav l)∧TreeV w' t a)∨(∃k:Nat,r=k∧e= .returned (.tuple #[.pointer none,.int .i64 k])))
theorem q39(hT:TreeAt w B N a m F)(t:Nat)(ht:TreeV w t a)(x:Ent)(hp:qa5 x.path=true)(hne:x.path≠[])(hN:N+1<4294967290)(hB:B≤w.heap.size)(hS:Std w)(hd:qaw F (qaa x.path).dropLast=false):
 Calls Tryz.prog 65 #[.pointer (some ⟨t,0,none⟩),.agg #[.string (S x.path),.int .i64 x.kind,.int .i64 x.mode,.string (S x.data)]] w fun e w'=>e= .returned (.bool false)∧Below w.heap.size w w':=by
 refine(qy4 hT t ht x hp hne hN hB hS).mono ?_;rintro e w' (⟨_,h,hb,_⟩|⟨h,_⟩)
 ·exact⟨h,hb⟩
 ·rw[hd] at h;cases h
theorem qy3(hT:TreeAt w B N a m F)(t:Nat)(ht:TreeV w t a)(x:Ent)(hp:qa5 x.path=true)(hne:x.path≠[])(hN:N+1<4294967290)(hB:B≤w.heap.size)(hS:Std w)(hd:qaw F (qaa x.path).dropLast=true):
 Calls Tryz.prog 65 #[.pointer (some ⟨t,0,none⟩),.agg #[.string (S x.path),.int .i64 x.kind,.int .i64 x.mode,.string (S x.data)]] w fun e w'=>e= .returned (.bool true)∧(∃a' m',TreeAt w' B (N+1) a' m' (putF F (qaa x.path) (ndOf x))∧TreeV w' t a')∧Below B w w'∧KeepC w w':=by
 refine(qy4 hT t ht x hp hne hN hB hS).mono ?_;rintro e w' (⟨h,_⟩|⟨_,h,a',m',h1,h2,h3,h4⟩)
 ·rw[hd] at h;cases h
 ·exact⟨h,⟨a',m',h1,h2⟩,h3,h4⟩
theorem qth{l:List Ent}{k:Nat}{c:Ent}(h:l[k]? =some c)(h1:¬k=40)(h2:c.path.isEmpty=false)(h3:qa5 c.path=true)(h4:qbh c=true)(h5:k=0∨∃x,l[k - 1]? =some x∧qaq (qaa x.path) (qaa c.path)<0)(h6:qaw (qav (l.take k)) (qaa c.path).dropLast=true):qcw l k=false:=by
 rw[qco h,decide_eq_false h1,h2,h3,h4,h6];rcases h5 with rfl|⟨x,hx,hc⟩
 ·cases hx:l[0 - 1]? with
  |none=>simp
  |some x=>simp
 ·rw[hx]
  show(false ||false ||!true ||!true ||(decide (0<k)&&decide (0≤qaq (qaa x.path) (qaa c.path))) ||!true)=false
  rw[decide_eq_false (by omega:¬0≤qaq (qaa x.path) (qaa c.path))];simp
theorem qa(l:List α)(i:Nat)(a:α):l.toArray.setIfInBounds i a=(l.set i a).toArray:=by simp
theorem qb(x a:α)(xs:List α):(x::xs).set 0 a=a::xs:=rfl
theorem qc(x a:α)(xs:List α)(n:Nat):(x::xs).set (n+1) a=x::xs.set n a:=rfl
theorem tkY(i d:Nat)(v:Value){S:World→Prop}{a:Act}
 (hi:ops[i]? =some ⟨some d,op,ty,ps,af,gd⟩)(hy:∀w,S w→(execOp a.eval ⟨some d,op,ty,ps,af,gd⟩).run P w= .ok (.value v) w)(h:wpAnyH P md ops Q S fuel (li.setIfInBounds i true) (a.put (some d) v) w)
 (hs:Region.noSelect ops=true:=by kernel_rfl)(hf:Region.free md ops li i=true:=by kernel_rfl)(hr:(Region.ready md ops li).contains i=true:=by kernel_rfl)
 (hQ:∀c a w,Q (.panic c) (a.put (some d) v) w→Q (.panic c) a w:=by exact fun _ _ _ h=>h)(hw:Region.wanted ⟨some d,op,ty,ps,af,gd⟩ (yielded ops a.tmps)=true:=by rfl)(hS:S w:=by assumption):wpAnyH P md ops Q S (fuel+1) li a w:=
 wpAnyH_take hi hs hf hr hQ (Or.inl ⟨hw,hy⟩) hS h
theorem tnY(i d:Nat){S:World→Prop}{a:Act}
 (hi:ops[i]? =some ⟨some d,op,ty,ps,af,gd⟩)(h:wpAnyH P md ops Q S fuel (li.setIfInBounds i true) (a.put (some d) undef) w)
 (hs:Region.noSelect ops=true:=by kernel_rfl)(hf:Region.free md ops li i=true:=by kernel_rfl)(hr:(Region.ready md ops li).contains i=true:=by kernel_rfl)
 (hQ:∀c a w,Q (.panic c) (a.put (some d) undef) w→Q (.panic c) a w:=by exact fun _ _ _ h=>h)(hw:Region.wanted ⟨some d,op,ty,ps,af,gd⟩ (yielded ops a.tmps)=false:=by rfl)(hS:S w:=by assumption):wpAnyH P md ops Q S (fuel+1) li a w:=
 wpAnyH_take hi hs hf hr hQ (Or.inr ⟨hw,rfl⟩) hS h
theorem q54(l:List Ent)(A:Option Addr)(cap:Nat)(w:World)(hS:Std w)(hr:Rd w A (ents l))(hl:l.length≤2000000000)(hs:∀e∈l,e.path.length≤2000000000∧e.data.length≤2000000000):
 Calls Tryz.prog 35 #[.slice A l.length cap] w (q6o l w):=by
 have HS:=q6q hS;have HR:=q6q hr;have Hs:=q6q hs;clear hS hr hs;go_enter Tryz.func35,Tryz.ntmps35;go_wp2_with fail;refine(qlx _).mono ?_;rintro e w1 ⟨t,a0,m0,rfl,hT0,hV0,hb0,_⟩;have HT0:=q6q hT0;have HV0:=q6q hV0;have HB0:=q6q hb0;clear hT0 hV0 hb0;go_wp2;go_loopw [10] (fun i wr=>∃(k:Nat),k≤l.length∧i= .int .i64 k∧Hid (∀j,j<k→qcw l j=false)∧Hid (∃a m,TreeAt wr w.heap.size k a m (qav (l.take k))∧TreeV wr t a)∧Hid (Below w.heap.size w wr)) (fun i _=>l.length - (intOf i).toNat)
 case atStart=>exact⟨0,Nat.zero_le _,rfl,fun j hj=>by omega,⟨a0,m0,HT0.out,HV0.out⟩,HB0.out⟩
 case round=>
  obtain⟨k,hk,rfl,hpre,hTr,hB⟩:=hrel;by_cases hlt:k<l.length
  ·obtain⟨b,o,rfl,hbb,g0,g1,g2,g3⟩:=qgq HR.out hB.out k hlt
   obtain⟨c,hcc⟩:∃c,l[k]=c:=⟨_,rfl⟩;obtain⟨hsp,hsd⟩:=Hs.out c (hcc▸List.getElem_mem hlt);have HK:=q6q (show l[k]? =some c by rw[List.getElem?_eq_getElem hlt,hcc]);have HTk:=q6q (show qav (l.take (k+1))=putF (qav (l.take k)) (qaa c.path) (ndOf c) by rw[qid l k hlt,hcc]);rw[hcc] at g0 g1 g2 g3;have Q0:=q6q (Cell4.new wr c 47);have hkl:(k:Int)<(l.length:Int):=by omega
   have FX:=q6q (fun (q:Nat) (hq:q<l.length) (wx:World) (hb:Below w.heap.size w wx)=>qgq HR.out hb q hq);clear hcc;obtain⟨gx,hgx⟩:∃g,g=wr.heap.size:=⟨_,rfl⟩;rw[←hgx] at Q0;go_upto_region 5 with fail;rw[←hgx];generalize hwz:wr.alloc (.cells #[.string (S c.path),.int .i64 c.kind,.int .i64 c.mode,.string (S c.data)] 47)=wz at*;have HBz:=q6q (show Below w.heap.size w wz by rw[←hwz];exact hB.out.alloc hB.out.size _);have HBr:=q6q (show Below wr.heap.size wr wz by rw[←hwz];exact(Below.refl _ _).alloc (Nat.le_refl _) _);obtain⟨a,m,hTz,hVz⟩:=hTr.out;have HTz:=q6q (hTz.below HBr.out);have HVz:=q6q (hVz.below HBr.out)
   clear hwz hgx hTz hVz hTr HBr hB g0 g1 g2 g3 hkl;obtain⟨q0,q1,q2,q3⟩:=Q0.out;clear Q0;by_cases h40:k=40
   ·have f40:((k:Int)==40)=true:=by simp;omega
    have X:=q6q (show qcw l k=true by rw[qco HK.out,decide_eq_true h40];simp);clear h40;go_quiet (fail);go_wp2;go_ret2;exact⟨k,.inl ⟨k,hlt,rfl,X.out,hpre.out⟩,below_drewN HBz.out _,.inr ⟨k,rfl,rfl⟩⟩
   have f40:((k:Int)==40)=false:=by simp;omega
   have H40:=q6q h40;clear h40;by_cases hpe:c.path=[]
   ·have fe:c.path.isEmpty=true:=by rw[hpe];rfl
    have X:=q6q (show qcw l k=true by rw[qco HK.out,fe];simp);clear hpe;go_quiet (fail);go_wp2;go_ret2;exact⟨k,.inl ⟨k,hlt,rfl,X.out,hpre.out⟩,below_drewN HBz.out _,.inr ⟨k,rfl,rfl⟩⟩
   have fe:c.path.isEmpty=false:=by cases hh:c.path <;> simp_all
   have HPE:=q6q hpe;clear hpe;have hPC:=q6q (fun (wx:World) (hb:Below w.heap.size w wx)=>qhe c.path wx (HS.out.below hb) (by omega));have hGC:=q6q (fun (wx:World)=>qqn c wx (by omega));rw[show Ent.agg c= .agg #[.string (S c.path),.int .i64 c.kind,.int .i64 c.mode,.string (S c.data)] from rfl] at hGC;cases hPb:qa5 c.path with
   |false=>
    have X:=q6q (show qcw l k=true by rw[qco HK.out,hPb];simp);rw[hPb] at hPC;clear hPb;refine wp_region_noPanic ?_;refine wp_region_held_drew (S:=(fun w'=>w'.cell? ⟨gx,0,none⟩=some (.string (S c.path))∧w'.cell? ⟨gx,1,none⟩=some (.int .i64 c.kind)∧w'.cell? ⟨gx,2,none⟩=some (.int .i64 c.mode)∧w'.cell? ⟨gx,3,none⟩=some (.string (S c.data)))) (by kernel_rfl) ?_ (fun hHeld=>?_)
    ·exact⟨q0,q1,q2,q3⟩
    refine tkY 0 15 ?_ rfl ?_ ?_;rotate_left
    ·(intro w hSw;(try dsimp only at hSw);go_simp;first|done|(with_reducible rfl))
    simp only[Act.put,qa,qb,qc];refine tkY 1 16 ?_ rfl ?_ ?_;rotate_left
    ·(intro w hSw;(try dsimp only at hSw);go_simp;first|done|(with_reducible rfl))
    simp only[Act.put,qa,qb,qc];refine tkY 2 17 ?_ rfl ?_ ?_;rotate_left
    ·(intro w hSw;(try dsimp only at hSw);go_simp;first|done|(with_reducible rfl))
    simp only[Act.put,qa,qb,qc];refine tkY 3 18 ?_ rfl ?_ ?_;rotate_left
    ·(intro w hSw;(try dsimp only at hSw);go_simp;first|done|(with_reducible rfl))
    simp only[Act.put,qa,qb,qc];refine tkY 4 19 ?_ rfl ?_ ?_;rotate_left
    ·(intro w hSw;(try dsimp only at hSw);go_simp;first|done|(with_reducible rfl))
    simp only[Act.put,qa,qb,qc];refine tkY 5 20 ?_ rfl ?_ ?_;rotate_left
    ·(intro w hSw;(try dsimp only at hSw);go_simp;first|done|(with_reducible rfl))
    simp only[Act.put,qa,qb,qc];refine tkY 6 21 ?_ rfl ?_ ?_;rotate_left
    ·(intro w hSw;(try dsimp only at hSw);go_simp;first|done|(with_reducible rfl))
    simp only[Act.put,qa,qb,qc];refine tkY 7 22 ?_ rfl ?_ ?_;rotate_left
    ·(intro w hSw;(try dsimp only at hSw);go_simp;first|done|(with_reducible rfl))
    simp only[Act.put,qa,qb,qc];refine tkY 8 23 ?_ rfl ?_ ?_;rotate_left
    ·(intro w hSw;(try dsimp only at hSw);go_simp;first|done|(with_reducible rfl))
    simp only[Act.put,qa,qb,qc];refine tkY 9 24 ?_ rfl ?_ ?_;rotate_left
    ·(intro w hSw;(try dsimp only at hSw);go_simp;first|done|(with_reducible rfl))
    simp only[Act.put,qa,qb,qc];refine wpAnyH_ready (rs:=[10]) (by kernel_rfl) (by simp) ?_;refine AllReadyH.cons (o:=⟨some 25,_,_,_,_,_⟩) rfl (fun K hK=>?_) AllReadyH.nil;go_simp;refine(hPC.out _ (qb7 HBz.out)).mono ?_;rintro e w3 ⟨rfl,hb3⟩;have HB3:=q6q ((qb7 HBz.out).trans (hb3.mono (qb7 HBz.out).size));have HT3:=q6q ((TreeAt.below (w:=wz.drew) (HTz.out.keep fun _ _ _=>rfl)) hb3);have HV3:=q6q (TreeV.below (w:=wz.drew) HVz.out hb3);try go_wp2_with fail
    refine hK.out _ _ ?_ (fun hHeld=>?_)
    ·exact⟨(KeepC.below hb3) _ _ hHeld.1,(KeepC.below hb3) _ _ hHeld.2.1,(KeepC.below hb3) _ _ hHeld.2.2.1,(KeepC.below hb3) _ _ hHeld.2.2.2⟩
    clear hK K;try simp only[Act.put,qa,qb,qc]
    refine tkY 11 26 ?_ rfl ?_ ?_;rotate_left
    ·(intro w hSw;(try dsimp only at hSw);go_simp;first|done|(with_reducible rfl))
    simp only[Act.put,qa,qb,qc];refine tkY 12 27 ?_ rfl ?_ ?_;rotate_left
    ·(intro w hSw;(try dsimp only at hSw);go_simp;first|done|(with_reducible rfl))
    simp only[Act.put,qa,qb,qc];refine tkY 13 28 ?_ rfl ?_ ?_;rotate_left
    ·(intro w hSw;(try dsimp only at hSw);go_simp;first|done|(with_reducible rfl))
    simp only[Act.put,qa,qb,qc];refine tnY 14 29 rfl ?_;simp only[Act.put,qa,qb,qc];refine tnY 15 30 rfl ?_;simp only[Act.put,qa,qb,qc];refine tnY 16 31 rfl ?_;simp only[Act.put,qa,qb,qc];refine tkY 17 32 ?_ rfl ?_ ?_;rotate_left
    ·(intro w hSw;(try dsimp only at hSw);go_simp;first|done|(with_reducible rfl))
    simp only[Act.put,qa,qb,qc];refine tkY 18 33 ?_ rfl ?_ ?_;rotate_left
    ·(intro w hSw;(try dsimp only at hSw);go_simp;first|done|(with_reducible rfl))
    simp only[Act.put,qa,qb,qc];refine tnY 19 34 rfl ?_;simp only[Act.put,qa,qb,qc];refine tnY 20 35 rfl ?_;simp only[Act.put,qa,qb,qc];refine tnY 21 36 rfl ?_;simp only[Act.put,qa,qb,qc];refine tnY 22 37 rfl ?_;simp only[Act.put,qa,qb,qc];refine tnY 23 38 rfl ?_;simp only[Act.put,qa,qb,qc];refine tnY 24 39 rfl ?_;simp only[Act.put,qa,qb,qc];refine tnY 25 40 rfl ?_;simp only[Act.put,qa,qb,qc];refine tnY 26 41 rfl ?_;simp only[Act.put,qa,qb,qc];refine tnY 27 42 rfl ?_;simp only[Act.put,qa,qb,qc];refine tnY 28 43 rfl ?_;simp only[Act.put,qa,qb,qc];refine tnY 29 44 rfl ?_;simp only[Act.put,qa,qb,qc];refine tnY 30 45 rfl ?_
    simp only[Act.put,qa,qb,qc];refine tnY 31 46 rfl ?_;simp only[Act.put,qa,qb,qc];refine tnY 32 47 rfl ?_;simp only[Act.put,qa,qb,qc];refine tkY 33 48 ?_ rfl ?_ ?_;rotate_left
    ·(intro w hSw;(try dsimp only at hSw);go_simp;first|done|(with_reducible rfl))
    simp only[Act.put,qa,qb,qc];refine tkY 34 49 ?_ rfl ?_ ?_;rotate_left
    ·(intro w hSw;(try dsimp only at hSw);go_simp;first|done|(with_reducible rfl))
    simp only[Act.put,qa,qb,qc];refine tnY 35 50 rfl ?_;simp only[Act.put,qa,qb,qc];refine tnY 36 51 rfl ?_;simp only[Act.put,qa,qb,qc];refine tnY 37 52 rfl ?_;simp only[Act.put,qa,qb,qc];refine tnY 38 53 rfl ?_;simp only[Act.put,qa,qb,qc];refine tkY 39 54 ?_ rfl ?_ ?_;rotate_left
    ·(intro w hSw;(try dsimp only at hSw);go_simp;first|done|(with_reducible rfl))
    simp only[Act.put,qa,qb,qc];refine wpAnyH_done (by kernel_rfl) ?_ _;refine NoPanic.normal ?_;go_wp2;go_ret2;exact⟨k,.inl ⟨k,hlt,rfl,X.out,hpre.out⟩,HB3.out,.inr ⟨k,rfl,rfl⟩⟩
   |true=>
    have HP:=q6q hPb;rw[hPb] at hPC;clear hPb;cases hGb:qbh c with
    |false=>
     have X:=q6q (show qcw l k=true by rw[qco HK.out,hGb];simp);rw[hGb] at hGC;clear hGb;refine wp_region_noPanic ?_;refine wp_region_held_drew (S:=(fun w'=>w'.cell? ⟨gx,0,none⟩=some (.string (S c.path))∧w'.cell? ⟨gx,1,none⟩=some (.int .i64 c.kind)∧w'.cell? ⟨gx,2,none⟩=some (.int .i64 c.mode)∧w'.cell? ⟨gx,3,none⟩=some (.string (S c.data)))) (by kernel_rfl) ?_ (fun hHeld=>?_)
     ·exact⟨q0,q1,q2,q3⟩
     refine tkY 0 15 ?_ rfl ?_ ?_;rotate_left
     ·(intro w hSw;(try dsimp only at hSw);go_simp;first|done|(with_reducible rfl))
     simp only[Act.put,qa,qb,qc];refine tkY 1 16 ?_ rfl ?_ ?_;rotate_left
     ·(intro w hSw;(try dsimp only at hSw);go_simp;first|done|(with_reducible rfl))
     simp only[Act.put,qa,qb,qc];refine tkY 2 17 ?_ rfl ?_ ?_;rotate_left
     ·(intro w hSw;(try dsimp only at hSw);go_simp;first|done|(with_reducible rfl))
     simp only[Act.put,qa,qb,qc];refine tkY 3 18 ?_ rfl ?_ ?_;rotate_left
     ·(intro w hSw;(try dsimp only at hSw);go_simp;first|done|(with_reducible rfl))
     simp only[Act.put,qa,qb,qc];refine tkY 4 19 ?_ rfl ?_ ?_;rotate_left
     ·(intro w hSw;(try dsimp only at hSw);go_simp;first|done|(with_reducible rfl))
     simp only[Act.put,qa,qb,qc];refine tkY 5 20 ?_ rfl ?_ ?_;rotate_left
     ·(intro w hSw;(try dsimp only at hSw);go_simp;first|done|(with_reducible rfl))
     simp only[Act.put,qa,qb,qc];refine tkY 6 21 ?_ rfl ?_ ?_;rotate_left
     ·(intro w hSw;(try dsimp only at hSw);go_simp;first|done|(with_reducible rfl))
     simp only[Act.put,qa,qb,qc];refine tkY 7 22 ?_ rfl ?_ ?_;rotate_left
     ·(intro w hSw;(try dsimp only at hSw);go_simp;first|done|(with_reducible rfl))
     simp only[Act.put,qa,qb,qc];refine tkY 8 23 ?_ rfl ?_ ?_;rotate_left
     ·(intro w hSw;(try dsimp only at hSw);go_simp;first|done|(with_reducible rfl))
     simp only[Act.put,qa,qb,qc];refine tkY 9 24 ?_ rfl ?_ ?_;rotate_left
     ·(intro w hSw;(try dsimp only at hSw);go_simp;first|done|(with_reducible rfl))
     simp only[Act.put,qa,qb,qc];refine wpAnyH_ready (rs:=[10]) (by kernel_rfl) (by simp) ?_;refine AllReadyH.cons (o:=⟨some 25,_,_,_,_,_⟩) rfl (fun K hK=>?_) AllReadyH.nil;go_simp;refine(hPC.out _ (qb7 HBz.out)).mono ?_;rintro e w3 ⟨rfl,hb3⟩;have HB3:=q6q ((qb7 HBz.out).trans (hb3.mono (qb7 HBz.out).size));have HT3:=q6q ((TreeAt.below (w:=wz.drew) (HTz.out.keep fun _ _ _=>rfl)) hb3);have HV3:=q6q (TreeV.below (w:=wz.drew) HVz.out hb3);try go_wp2_with fail
     refine hK.out _ _ ?_ (fun hHeld=>?_)
     ·exact⟨(KeepC.below hb3) _ _ hHeld.1,(KeepC.below hb3) _ _ hHeld.2.1,(KeepC.below hb3) _ _ hHeld.2.2.1,(KeepC.below hb3) _ _ hHeld.2.2.2⟩
     clear hK K;try simp only[Act.put,qa,qb,qc]
     refine tkY 11 26 ?_ rfl ?_ ?_;rotate_left
     ·(intro w hSw;(try dsimp only at hSw);go_simp;first|done|(with_reducible rfl))
     simp only[Act.put,qa,qb,qc];refine tkY 12 27 ?_ rfl ?_ ?_;rotate_left
     ·(intro w hSw;(try dsimp only at hSw);go_simp;first|done|(with_reducible rfl))
     simp only[Act.put,qa,qb,qc];refine tkY 13 28 ?_ rfl ?_ ?_;rotate_left
     ·(intro w hSw;(try dsimp only at hSw);go_simp;first|done|(with_reducible rfl))
     simp only[Act.put,qa,qb,qc];refine tkY 14 29 ?_ rfl ?_ ?_;rotate_left
     ·(intro w hSw;(try dsimp only at hSw);go_simp;first|done|(with_reducible rfl))
     simp only[Act.put,qa,qb,qc];refine wpAnyH_ready (rs:=[15]) (by kernel_rfl) (by simp) ?_;refine AllReadyH.cons (o:=⟨some 30,_,_,_,_,_⟩) rfl (fun K hK=>?_) AllReadyH.nil;go_simp;refine(hGC.out _).mono ?_;rintro e w4 ⟨rfl,hb4⟩;have HB4:=q6q (HB3.out.trans (hb4.mono HB3.out.size));have HT4:=q6q (HT3.out.below hb4);have HV4:=q6q (HV3.out.below hb4);try go_wp2_with fail
     refine hK.out _ _ ?_ (fun hHeld=>?_)
     ·exact⟨(KeepC.below hb4) _ _ hHeld.1,(KeepC.below hb4) _ _ hHeld.2.1,(KeepC.below hb4) _ _ hHeld.2.2.1,(KeepC.below hb4) _ _ hHeld.2.2.2⟩
     clear hK K;try simp only[Act.put,qa,qb,qc]
     refine tkY 16 31 ?_ rfl ?_ ?_;rotate_left
     ·(intro w hSw;(try dsimp only at hSw);go_simp;first|done|(with_reducible rfl))
     simp only[Act.put,qa,qb,qc];refine tkY 17 32 ?_ rfl ?_ ?_;rotate_left
     ·(intro w hSw;(try dsimp only at hSw);go_simp;first|done|(with_reducible rfl))
     simp only[Act.put,qa,qb,qc];refine tkY 18 33 ?_ rfl ?_ ?_;rotate_left
     ·(intro w hSw;(try dsimp only at hSw);go_simp;first|done|(with_reducible rfl))
     simp only[Act.put,qa,qb,qc];refine tnY 19 34 rfl ?_;simp only[Act.put,qa,qb,qc];refine tnY 20 35 rfl ?_;simp only[Act.put,qa,qb,qc];refine tnY 21 36 rfl ?_;simp only[Act.put,qa,qb,qc];refine tnY 22 37 rfl ?_;simp only[Act.put,qa,qb,qc];refine tnY 23 38 rfl ?_;simp only[Act.put,qa,qb,qc];refine tnY 24 39 rfl ?_;simp only[Act.put,qa,qb,qc];refine tnY 25 40 rfl ?_;simp only[Act.put,qa,qb,qc];refine tnY 26 41 rfl ?_;simp only[Act.put,qa,qb,qc];refine tnY 27 42 rfl ?_;simp only[Act.put,qa,qb,qc];refine tnY 28 43 rfl ?_;simp only[Act.put,qa,qb,qc];refine tnY 29 44 rfl ?_;simp only[Act.put,qa,qb,qc];refine tnY 30 45 rfl ?_
     simp only[Act.put,qa,qb,qc];refine tnY 31 46 rfl ?_;simp only[Act.put,qa,qb,qc];refine tnY 32 47 rfl ?_;simp only[Act.put,qa,qb,qc];refine tkY 33 48 ?_ rfl ?_ ?_;rotate_left
     ·(intro w hSw;(try dsimp only at hSw);go_simp;first|done|(with_reducible rfl))
     simp only[Act.put,qa,qb,qc];refine tkY 34 49 ?_ rfl ?_ ?_;rotate_left
     ·(intro w hSw;(try dsimp only at hSw);go_simp;first|done|(with_reducible rfl))
     simp only[Act.put,qa,qb,qc];refine tnY 35 50 rfl ?_;simp only[Act.put,qa,qb,qc];refine tnY 36 51 rfl ?_;simp only[Act.put,qa,qb,qc];refine tnY 37 52 rfl ?_;simp only[Act.put,qa,qb,qc];refine tnY 38 53 rfl ?_;simp only[Act.put,qa,qb,qc];refine tkY 39 54 ?_ rfl ?_ ?_;rotate_left
     ·(intro w hSw;(try dsimp only at hSw);go_simp;first|done|(with_reducible rfl))
     simp only[Act.put,qa,qb,qc];refine wpAnyH_done (by kernel_rfl) ?_ _;refine NoPanic.normal ?_;go_wp2;go_ret2;exact⟨k,.inl ⟨k,hlt,rfl,X.out,hpre.out⟩,HB4.out,.inr ⟨k,rfl,rfl⟩⟩
    |true=>
     have HG:=q6q hGb;rw[hGb] at hGC;clear hGb;by_cases hk0:k=0
     ·subst hk0
      have HD0:∃d,qaw (qav (l.take 0)) (qaa c.path).dropLast=d:=⟨_,rfl⟩;obtain⟨d,HD0⟩:=HD0;cases d with
      |false=>
       have HD:=q6q HD0;have X:=q6q (show qcw l 0=true by rw[qco HK.out,HD0];simp);clear HD0;refine wp_region_noPanic ?_;refine wp_region_held_drew (S:=(fun w'=>w'.cell? ⟨gx,0,none⟩=some (.string (S c.path))∧w'.cell? ⟨gx,1,none⟩=some (.int .i64 c.kind)∧w'.cell? ⟨gx,2,none⟩=some (.int .i64 c.mode)∧w'.cell? ⟨gx,3,none⟩=some (.string (S c.data)))) (by kernel_rfl) ?_ (fun hHeld=>?_)
       ·exact⟨q0,q1,q2,q3⟩
       refine tkY 0 15 ?_ rfl ?_ ?_;rotate_left
       ·(intro w hSw;(try dsimp only at hSw);go_simp;first|done|(with_reducible rfl))
       simp only[Act.put,qa,qb,qc];refine tkY 1 16 ?_ rfl ?_ ?_;rotate_left
       ·(intro w hSw;(try dsimp only at hSw);go_simp;first|done|(with_reducible rfl))
       simp only[Act.put,qa,qb,qc];refine tkY 2 17 ?_ rfl ?_ ?_;rotate_left
       ·(intro w hSw;(try dsimp only at hSw);go_simp;first|done|(with_reducible rfl))
       simp only[Act.put,qa,qb,qc];refine tkY 3 18 ?_ rfl ?_ ?_;rotate_left
       ·(intro w hSw;(try dsimp only at hSw);go_simp;first|done|(with_reducible rfl))
       simp only[Act.put,qa,qb,qc];refine tkY 4 19 ?_ rfl ?_ ?_;rotate_left
       ·(intro w hSw;(try dsimp only at hSw);go_simp;first|done|(with_reducible rfl))
       simp only[Act.put,qa,qb,qc];refine tkY 5 20 ?_ rfl ?_ ?_;rotate_left
       ·(intro w hSw;(try dsimp only at hSw);go_simp;first|done|(with_reducible rfl))
       simp only[Act.put,qa,qb,qc];refine tkY 6 21 ?_ rfl ?_ ?_;rotate_left
       ·(intro w hSw;(try dsimp only at hSw);go_simp;first|done|(with_reducible rfl))
       simp only[Act.put,qa,qb,qc];refine tkY 7 22 ?_ rfl ?_ ?_;rotate_left
       ·(intro w hSw;(try dsimp only at hSw);go_simp;first|done|(with_reducible rfl))
       simp only[Act.put,qa,qb,qc];refine tkY 8 23 ?_ rfl ?_ ?_;rotate_left
       ·(intro w hSw;(try dsimp only at hSw);go_simp;first|done|(with_reducible rfl))
       simp only[Act.put,qa,qb,qc];refine tkY 9 24 ?_ rfl ?_ ?_;rotate_left
       ·(intro w hSw;(try dsimp only at hSw);go_simp;first|done|(with_reducible rfl))
       simp only[Act.put,qa,qb,qc];refine wpAnyH_ready (rs:=[10]) (by kernel_rfl) (by simp) ?_;refine AllReadyH.cons (o:=⟨some 25,_,_,_,_,_⟩) rfl (fun K hK=>?_) AllReadyH.nil;go_simp;refine(hPC.out _ (qb7 HBz.out)).mono ?_;rintro e w3 ⟨rfl,hb3⟩;have HB3:=q6q ((qb7 HBz.out).trans (hb3.mono (qb7 HBz.out).size));have HT3:=q6q ((TreeAt.below (w:=wz.drew) (HTz.out.keep fun _ _ _=>rfl)) hb3);have HV3:=q6q (TreeV.below (w:=wz.drew) HVz.out hb3);try go_wp2_with fail
       refine hK.out _ _ ?_ (fun hHeld=>?_)
       ·exact⟨(KeepC.below hb3) _ _ hHeld.1,(KeepC.below hb3) _ _ hHeld.2.1,(KeepC.below hb3) _ _ hHeld.2.2.1,(KeepC.below hb3) _ _ hHeld.2.2.2⟩
       clear hK K;try simp only[Act.put,qa,qb,qc]
       refine tkY 11 26 ?_ rfl ?_ ?_;rotate_left
       ·(intro w hSw;(try dsimp only at hSw);go_simp;first|done|(with_reducible rfl))
       simp only[Act.put,qa,qb,qc];refine tkY 12 27 ?_ rfl ?_ ?_;rotate_left
       ·(intro w hSw;(try dsimp only at hSw);go_simp;first|done|(with_reducible rfl))
       simp only[Act.put,qa,qb,qc];refine tkY 13 28 ?_ rfl ?_ ?_;rotate_left
       ·(intro w hSw;(try dsimp only at hSw);go_simp;first|done|(with_reducible rfl))
       simp only[Act.put,qa,qb,qc];refine tkY 14 29 ?_ rfl ?_ ?_;rotate_left
       ·(intro w hSw;(try dsimp only at hSw);go_simp;first|done|(with_reducible rfl))
       simp only[Act.put,qa,qb,qc];refine wpAnyH_ready (rs:=[15]) (by kernel_rfl) (by simp) ?_;refine AllReadyH.cons (o:=⟨some 30,_,_,_,_,_⟩) rfl (fun K hK=>?_) AllReadyH.nil;go_simp;refine(hGC.out _).mono ?_;rintro e w4 ⟨rfl,hb4⟩;have HB4:=q6q (HB3.out.trans (hb4.mono HB3.out.size));have HT4:=q6q (HT3.out.below hb4);have HV4:=q6q (HV3.out.below hb4);try go_wp2_with fail
       refine hK.out _ _ ?_ (fun hHeld=>?_)
       ·exact⟨(KeepC.below hb4) _ _ hHeld.1,(KeepC.below hb4) _ _ hHeld.2.1,(KeepC.below hb4) _ _ hHeld.2.2.1,(KeepC.below hb4) _ _ hHeld.2.2.2⟩
       clear hK K;try simp only[Act.put,qa,qb,qc]
       refine tkY 16 31 ?_ rfl ?_ ?_;rotate_left
       ·(intro w hSw;(try dsimp only at hSw);go_simp;first|done|(with_reducible rfl))
       simp only[Act.put,qa,qb,qc];refine tkY 17 32 ?_ rfl ?_ ?_;rotate_left
       ·(intro w hSw;(try dsimp only at hSw);go_simp;first|done|(with_reducible rfl))
       simp only[Act.put,qa,qb,qc];refine tkY 18 33 ?_ rfl ?_ ?_;rotate_left
       ·(intro w hSw;(try dsimp only at hSw);go_simp;first|done|(with_reducible rfl))
       simp only[Act.put,qa,qb,qc];refine tkY 19 34 ?_ rfl ?_ ?_;rotate_left
       ·(intro w hSw;(try dsimp only at hSw);go_simp;first|done|(with_reducible rfl))
       simp only[Act.put,qa,qb,qc];refine tkY 20 35 ?_ rfl ?_ ?_;rotate_left
       ·(intro w hSw;(try dsimp only at hSw);go_simp;first|done|(with_reducible rfl))
       simp only[Act.put,qa,qb,qc];refine tkY 21 36 ?_ rfl ?_ ?_;rotate_left
       ·(intro w hSw;(try dsimp only at hSw);go_simp;first|done|(with_reducible rfl))
       simp only[Act.put,qa,qb,qc];refine tnY 22 37 rfl ?_;simp only[Act.put,qa,qb,qc];refine tnY 23 38 rfl ?_;simp only[Act.put,qa,qb,qc];refine tnY 24 39 rfl ?_;simp only[Act.put,qa,qb,qc];refine tnY 25 40 rfl ?_;simp only[Act.put,qa,qb,qc];refine tnY 26 41 rfl ?_;simp only[Act.put,qa,qb,qc];refine tnY 27 42 rfl ?_;simp only[Act.put,qa,qb,qc];refine tnY 28 43 rfl ?_;simp only[Act.put,qa,qb,qc];refine tnY 29 44 rfl ?_;simp only[Act.put,qa,qb,qc];refine tnY 30 45 rfl ?_;simp only[Act.put,qa,qb,qc];refine tnY 31 46 rfl ?_;simp only[Act.put,qa,qb,qc];refine tkY 32 47 ?_ rfl ?_ ?_;rotate_left
       ·(intro w hSw;(try dsimp only at hSw);go_simp;first|done|(with_reducible rfl))
       simp only[Act.put,qa,qb,qc];refine tkY 33 48 ?_ rfl ?_ ?_;rotate_left
       ·(intro w hSw;(try dsimp only at hSw);go_simp;first|done|(with_reducible rfl))
       simp only[Act.put,qa,qb,qc];refine tkY 34 49 ?_ rfl ?_ ?_;rotate_left
       ·(intro w hSw;(try dsimp only at hSw);go_simp;first|done|(with_reducible rfl))
       simp only[Act.put,qa,qb,qc];refine tkY 35 50 ?_ rfl ?_ ?_;rotate_left
       ·(intro w hSw;(try dsimp only at hSw);go_simp;first|done|(with_reducible rfl))
       simp only[Act.put,qa,qb,qc];refine tkY 36 51 ?_ rfl ?_ ?_;rotate_left
       ·(intro w hSw;(try dsimp only at hSw);go_simp;first|done|(with_reducible rfl))
       simp only[Act.put,qa,qb,qc];refine wpAnyH_ready (rs:=[37]) (by kernel_rfl) (by simp) ?_;refine AllReadyH.cons (o:=⟨some 52,_,_,_,_,_⟩) rfl (fun K hK=>?_) AllReadyH.nil;go_simp;refine(q39 HT4.out t HV4.out c HP.out HPE.out (by omega) HB4.out.size (HS.out.below HB4.out) HD.out).mono ?_;rintro e w6 ⟨rfl,hb6⟩;have HB6:=q6q (HB4.out.trans (hb6.mono HB4.out.size));try go_wp2_with fail
       refine hK.out _ _ ?_ (fun hHeld=>?_)
       ·exact⟨(KeepC.below hb6) _ _ hHeld.1,(KeepC.below hb6) _ _ hHeld.2.1,(KeepC.below hb6) _ _ hHeld.2.2.1,(KeepC.below hb6) _ _ hHeld.2.2.2⟩
       clear hK K;try simp only[Act.put,qa,qb,qc]
       refine tkY 38 53 ?_ rfl ?_ ?_;rotate_left
       ·(intro w hSw;(try dsimp only at hSw);go_simp;first|done|(with_reducible rfl))
       simp only[Act.put,qa,qb,qc];refine tkY 39 54 ?_ rfl ?_ ?_;rotate_left
       ·(intro w hSw;(try dsimp only at hSw);go_simp;first|done|(with_reducible rfl))
       simp only[Act.put,qa,qb,qc];refine wpAnyH_done (by kernel_rfl) ?_ _;refine NoPanic.normal ?_;go_wp2;go_ret2;exact⟨(0:Nat),.inl ⟨0,hlt,rfl,X.out,hpre.out⟩,HB6.out,.inr ⟨0,rfl,rfl⟩⟩
      |true=>
       have HD:=q6q HD0;have X:=q6q (qth HK.out H40.out fe HP.out HG.out (.inl rfl) HD0);clear HD0;refine wp_region_noPanic ?_;refine wp_region_held_drew (S:=(fun w'=>w'.cell? ⟨gx,0,none⟩=some (.string (S c.path))∧w'.cell? ⟨gx,1,none⟩=some (.int .i64 c.kind)∧w'.cell? ⟨gx,2,none⟩=some (.int .i64 c.mode)∧w'.cell? ⟨gx,3,none⟩=some (.string (S c.data)))) (by kernel_rfl) ?_ (fun hHeld=>?_)
       ·exact⟨q0,q1,q2,q3⟩
       refine tkY 0 15 ?_ rfl ?_ ?_;rotate_left
       ·(intro w hSw;(try dsimp only at hSw);go_simp;first|done|(with_reducible rfl))
       simp only[Act.put,qa,qb,qc];refine tkY 1 16 ?_ rfl ?_ ?_;rotate_left
       ·(intro w hSw;(try dsimp only at hSw);go_simp;first|done|(with_reducible rfl))
       simp only[Act.put,qa,qb,qc];refine tkY 2 17 ?_ rfl ?_ ?_;rotate_left
       ·(intro w hSw;(try dsimp only at hSw);go_simp;first|done|(with_reducible rfl))
       simp only[Act.put,qa,qb,qc];refine tkY 3 18 ?_ rfl ?_ ?_;rotate_left
       ·(intro w hSw;(try dsimp only at hSw);go_simp;first|done|(with_reducible rfl))
       simp only[Act.put,qa,qb,qc];refine tkY 4 19 ?_ rfl ?_ ?_;rotate_left
       ·(intro w hSw;(try dsimp only at hSw);go_simp;first|done|(with_reducible rfl))
       simp only[Act.put,qa,qb,qc];refine tkY 5 20 ?_ rfl ?_ ?_;rotate_left
       ·(intro w hSw;(try dsimp only at hSw);go_simp;first|done|(with_reducible rfl))
       simp only[Act.put,qa,qb,qc];refine tkY 6 21 ?_ rfl ?_ ?_;rotate_left
       ·(intro w hSw;(try dsimp only at hSw);go_simp;first|done|(with_reducible rfl))
       simp only[Act.put,qa,qb,qc];refine tkY 7 22 ?_ rfl ?_ ?_;rotate_left
       ·(intro w hSw;(try dsimp only at hSw);go_simp;first|done|(with_reducible rfl))
       simp only[Act.put,qa,qb,qc];refine tkY 8 23 ?_ rfl ?_ ?_;rotate_left
       ·(intro w hSw;(try dsimp only at hSw);go_simp;first|done|(with_reducible rfl))
       simp only[Act.put,qa,qb,qc];refine tkY 9 24 ?_ rfl ?_ ?_;rotate_left
       ·(intro w hSw;(try dsimp only at hSw);go_simp;first|done|(with_reducible rfl))
       simp only[Act.put,qa,qb,qc];refine wpAnyH_ready (rs:=[10]) (by kernel_rfl) (by simp) ?_;refine AllReadyH.cons (o:=⟨some 25,_,_,_,_,_⟩) rfl (fun K hK=>?_) AllReadyH.nil;go_simp;refine(hPC.out _ (qb7 HBz.out)).mono ?_;rintro e w3 ⟨rfl,hb3⟩;have HB3:=q6q ((qb7 HBz.out).trans (hb3.mono (qb7 HBz.out).size));have HT3:=q6q ((TreeAt.below (w:=wz.drew) (HTz.out.keep fun _ _ _=>rfl)) hb3);have HV3:=q6q (TreeV.below (w:=wz.drew) HVz.out hb3);try go_wp2_with fail
       refine hK.out _ _ ?_ (fun hHeld=>?_)
       ·exact⟨(KeepC.below hb3) _ _ hHeld.1,(KeepC.below hb3) _ _ hHeld.2.1,(KeepC.below hb3) _ _ hHeld.2.2.1,(KeepC.below hb3) _ _ hHeld.2.2.2⟩
       clear hK K;try simp only[Act.put,qa,qb,qc]
       refine tkY 11 26 ?_ rfl ?_ ?_;rotate_left
       ·(intro w hSw;(try dsimp only at hSw);go_simp;first|done|(with_reducible rfl))
       simp only[Act.put,qa,qb,qc];refine tkY 12 27 ?_ rfl ?_ ?_;rotate_left
       ·(intro w hSw;(try dsimp only at hSw);go_simp;first|done|(with_reducible rfl))
       simp only[Act.put,qa,qb,qc];refine tkY 13 28 ?_ rfl ?_ ?_;rotate_left
       ·(intro w hSw;(try dsimp only at hSw);go_simp;first|done|(with_reducible rfl))
       simp only[Act.put,qa,qb,qc];refine tkY 14 29 ?_ rfl ?_ ?_;rotate_left
       ·(intro w hSw;(try dsimp only at hSw);go_simp;first|done|(with_reducible rfl))
       simp only[Act.put,qa,qb,qc];refine wpAnyH_ready (rs:=[15]) (by kernel_rfl) (by simp) ?_;refine AllReadyH.cons (o:=⟨some 30,_,_,_,_,_⟩) rfl (fun K hK=>?_) AllReadyH.nil;go_simp;refine(hGC.out _).mono ?_;rintro e w4 ⟨rfl,hb4⟩;have HB4:=q6q (HB3.out.trans (hb4.mono HB3.out.size));have HT4:=q6q (HT3.out.below hb4);have HV4:=q6q (HV3.out.below hb4);try go_wp2_with fail
       refine hK.out _ _ ?_ (fun hHeld=>?_)
       ·exact⟨(KeepC.below hb4) _ _ hHeld.1,(KeepC.below hb4) _ _ hHeld.2.1,(KeepC.below hb4) _ _ hHeld.2.2.1,(KeepC.below hb4) _ _ hHeld.2.2.2⟩
       clear hK K;try simp only[Act.put,qa,qb,qc]
       refine tkY 16 31 ?_ rfl ?_ ?_;rotate_left
       ·(intro w hSw;(try dsimp only at hSw);go_simp;first|done|(with_reducible rfl))
       simp only[Act.put,qa,qb,qc];refine tkY 17 32 ?_ rfl ?_ ?_;rotate_left
       ·(intro w hSw;(try dsimp only at hSw);go_simp;first|done|(with_reducible rfl))
       simp only[Act.put,qa,qb,qc];refine tkY 18 33 ?_ rfl ?_ ?_;rotate_left
       ·(intro w hSw;(try dsimp only at hSw);go_simp;first|done|(with_reducible rfl))
       simp only[Act.put,qa,qb,qc];refine tkY 19 34 ?_ rfl ?_ ?_;rotate_left
       ·(intro w hSw;(try dsimp only at hSw);go_simp;first|done|(with_reducible rfl))
       simp only[Act.put,qa,qb,qc];refine tkY 20 35 ?_ rfl ?_ ?_;rotate_left
       ·(intro w hSw;(try dsimp only at hSw);go_simp;first|done|(with_reducible rfl))
       simp only[Act.put,qa,qb,qc];refine tkY 21 36 ?_ rfl ?_ ?_;rotate_left
       ·(intro w hSw;(try dsimp only at hSw);go_simp;first|done|(with_reducible rfl))
       simp only[Act.put,qa,qb,qc];refine tnY 22 37 rfl ?_;simp only[Act.put,qa,qb,qc];refine tnY 23 38 rfl ?_;simp only[Act.put,qa,qb,qc];refine tnY 24 39 rfl ?_;simp only[Act.put,qa,qb,qc];refine tnY 25 40 rfl ?_;simp only[Act.put,qa,qb,qc];refine tnY 26 41 rfl ?_;simp only[Act.put,qa,qb,qc];refine tnY 27 42 rfl ?_;simp only[Act.put,qa,qb,qc];refine tnY 28 43 rfl ?_;simp only[Act.put,qa,qb,qc];refine tnY 29 44 rfl ?_;simp only[Act.put,qa,qb,qc];refine tnY 30 45 rfl ?_;simp only[Act.put,qa,qb,qc];refine tnY 31 46 rfl ?_;simp only[Act.put,qa,qb,qc];refine tkY 32 47 ?_ rfl ?_ ?_;rotate_left
       ·(intro w hSw;(try dsimp only at hSw);go_simp;first|done|(with_reducible rfl))
       simp only[Act.put,qa,qb,qc];refine tkY 33 48 ?_ rfl ?_ ?_;rotate_left
       ·(intro w hSw;(try dsimp only at hSw);go_simp;first|done|(with_reducible rfl))
       simp only[Act.put,qa,qb,qc];refine tkY 34 49 ?_ rfl ?_ ?_;rotate_left
       ·(intro w hSw;(try dsimp only at hSw);go_simp;first|done|(with_reducible rfl))
       simp only[Act.put,qa,qb,qc];refine tkY 35 50 ?_ rfl ?_ ?_;rotate_left
       ·(intro w hSw;(try dsimp only at hSw);go_simp;first|done|(with_reducible rfl))
       simp only[Act.put,qa,qb,qc];refine tkY 36 51 ?_ rfl ?_ ?_;rotate_left
       ·(intro w hSw;(try dsimp only at hSw);go_simp;first|done|(with_reducible rfl))
       simp only[Act.put,qa,qb,qc];refine wpAnyH_ready (rs:=[37]) (by kernel_rfl) (by simp) ?_;refine AllReadyH.cons (o:=⟨some 52,_,_,_,_,_⟩) rfl (fun K hK=>?_) AllReadyH.nil;go_simp;refine(qy3 HT4.out t HV4.out c HP.out HPE.out (by omega) HB4.out.size (HS.out.below HB4.out) HD.out).mono ?_;rintro e w6 ⟨rfl,hTV6,hb6,hkc6⟩;have HTV6:=q6q hTV6;have HB6:=q6q (HB4.out.trans hb6);try go_wp2_with fail
       refine hK.out _ _ ?_ (fun hHeld=>?_)
       ·exact⟨hkc6 _ _ hHeld.1,hkc6 _ _ hHeld.2.1,hkc6 _ _ hHeld.2.2.1,hkc6 _ _ hHeld.2.2.2⟩
       clear hK K;try simp only[Act.put,qa,qb,qc]
       refine tkY 38 53 ?_ rfl ?_ ?_;rotate_left
       ·(intro w hSw;(try dsimp only at hSw);go_simp;first|done|(with_reducible rfl))
       simp only[Act.put,qa,qb,qc];refine tkY 39 54 ?_ rfl ?_ ?_;rotate_left
       ·(intro w hSw;(try dsimp only at hSw);go_simp;first|done|(with_reducible rfl))
       simp only[Act.put,qa,qb,qc];refine wpAnyH_done (by kernel_rfl) ?_ _;refine NoPanic.normal ?_;go_wp2;go_round
       case rel=>
        refine⟨0+1,by omega,by go_num,fun q hq=>?_,?_,HB6.out⟩
        ·by_cases e:q=0
         ·rw[e];exact X.out
         ·exact hpre.out q (by omega)
        ·obtain⟨a',m',h1,h2⟩:=HTV6.out
         exact⟨a',m',by rw[HTk.out];exact h1,h2⟩
       case measure=>simp[intOf];omega
     ·obtain⟨j,rfl⟩:∃j,k=j+1:=⟨k - 1,by omega⟩
      clear hk0;have f40a:((j:Int)+1==40)=false:=by have:=H40.out;simp;omega
      have f40b:((j:Int)==39)=false:=by have:=H40.out;simp;omega
      obtain⟨b',o',hbo,_,pv0,_,_,_⟩:=FX.out j (by omega) wz HBz.out;obtain⟨rfl,rfl⟩:b=b'∧o=o':=by
       have:=Option.some.inj hbo;injection this with h1 h2;exact⟨h1,h2⟩
      obtain⟨x,hxx⟩:∃x,l[j]'(by omega)=x:=⟨_,rfl⟩;have HX:=q6q (show l[j+1 - 1]? =some x by rw[Nat.add_sub_cancel,List.getElem?_eq_getElem (by omega),hxx]);obtain⟨hxp,_⟩:=Hs.out x (hxx▸List.getElem_mem _);rw[hxx] at pv0;have pv:=pv0;clear hbo hxx pv0;have hCC:=q6q (fun (wx:World) (hb:Below w.heap.size w wx)=>qdm x.path c.path wx (HS.out.below hb) (by omega) (by omega));have hj0:(0:Int)≤(j:Int):=by omega
      have hwr:IntKind.i64.wrap (j:Int)=(j:Int):=by rw[IntKind.wrap_i64];omega
      have hj1:(j:Int)<(l.length:Int):=by omega
      by_cases hcmp:0≤qaq (qaa x.path) (qaa c.path)
      ·have X:=q6q (show qcw l (j+1)=true by
        rw[qco HK.out,HX.out];show(_ ||(decide (0<j+1)&&decide (0≤qaq (qaa x.path) (qaa c.path))) ||_)=true
        rw[decide_eq_true hcmp];simp)
       generalize qaq (qaa x.path) (qaa c.path)=cv at hCC hcmp;refine wp_region_noPanic ?_;refine wp_region_held_drew (S:=(fun w'=>w'.cell? ⟨gx,0,none⟩=some (.string (S c.path))∧w'.cell? ⟨gx,1,none⟩=some (.int .i64 c.kind)∧w'.cell? ⟨gx,2,none⟩=some (.int .i64 c.mode)∧w'.cell? ⟨gx,3,none⟩=some (.string (S c.data))∧w'.cell? ⟨b,o+j*4,none⟩=some (.string (S x.path)))) (by kernel_rfl) ?_ (fun hHeld=>?_)
       ·exact⟨q0,q1,q2,q3,pv⟩
       refine tkY 0 15 ?_ rfl ?_ ?_;rotate_left
       ·(intro w hSw;(try dsimp only at hSw);go_simp;first|done|(with_reducible rfl))
       simp only[Act.put,qa,qb,qc];refine tkY 1 16 ?_ rfl ?_ ?_;rotate_left
       ·(intro w hSw;(try dsimp only at hSw);go_simp;first|done|(with_reducible rfl))
       simp only[Act.put,qa,qb,qc];refine tkY 2 17 ?_ rfl ?_ ?_;rotate_left
       ·(intro w hSw;(try dsimp only at hSw);go_simp;first|done|(with_reducible rfl))
       simp only[Act.put,qa,qb,qc];refine tkY 3 18 ?_ rfl ?_ ?_;rotate_left
       ·(intro w hSw;(try dsimp only at hSw);go_simp;first|done|(with_reducible rfl))
       simp only[Act.put,qa,qb,qc];refine tkY 4 19 ?_ rfl ?_ ?_;rotate_left
       ·(intro w hSw;(try dsimp only at hSw);go_simp;first|done|(with_reducible rfl))
       simp only[Act.put,qa,qb,qc];refine tkY 5 20 ?_ rfl ?_ ?_;rotate_left
       ·(intro w hSw;(try dsimp only at hSw);go_simp;first|done|(with_reducible rfl))
       simp only[Act.put,qa,qb,qc];refine tkY 6 21 ?_ rfl ?_ ?_;rotate_left
       ·(intro w hSw;(try dsimp only at hSw);go_simp;first|done|(with_reducible rfl))
       simp only[Act.put,qa,qb,qc];refine tkY 7 22 ?_ rfl ?_ ?_;rotate_left
       ·(intro w hSw;(try dsimp only at hSw);go_simp;first|done|(with_reducible rfl))
       simp only[Act.put,qa,qb,qc];refine tkY 8 23 ?_ rfl ?_ ?_;rotate_left
       ·(intro w hSw;(try dsimp only at hSw);go_simp;first|done|(with_reducible rfl))
       simp only[Act.put,qa,qb,qc];refine tkY 9 24 ?_ rfl ?_ ?_;rotate_left
       ·(intro w hSw;(try dsimp only at hSw);go_simp;first|done|(with_reducible rfl))
       simp only[Act.put,qa,qb,qc];refine wpAnyH_ready (rs:=[10]) (by kernel_rfl) (by simp) ?_;refine AllReadyH.cons (o:=⟨some 25,_,_,_,_,_⟩) rfl (fun K hK=>?_) AllReadyH.nil;go_simp;refine(hPC.out _ (qb7 HBz.out)).mono ?_;rintro e w3 ⟨rfl,hb3⟩;have HB3:=q6q ((qb7 HBz.out).trans (hb3.mono (qb7 HBz.out).size));have HT3:=q6q ((TreeAt.below (w:=wz.drew) (HTz.out.keep fun _ _ _=>rfl)) hb3);have HV3:=q6q (TreeV.below (w:=wz.drew) HVz.out hb3);try go_wp2_with fail
       refine hK.out _ _ ?_ (fun hHeld=>?_)
       ·exact⟨(KeepC.below hb3) _ _ hHeld.1,(KeepC.below hb3) _ _ hHeld.2.1,(KeepC.below hb3) _ _ hHeld.2.2.1,(KeepC.below hb3) _ _ hHeld.2.2.2.1,(KeepC.below hb3) _ _ hHeld.2.2.2.2⟩
       clear hK K;try simp only[Act.put,qa,qb,qc]
       refine tkY 11 26 ?_ rfl ?_ ?_;rotate_left
       ·(intro w hSw;(try dsimp only at hSw);go_simp;first|done|(with_reducible rfl))
       simp only[Act.put,qa,qb,qc];refine tkY 12 27 ?_ rfl ?_ ?_;rotate_left
       ·(intro w hSw;(try dsimp only at hSw);go_simp;first|done|(with_reducible rfl))
       simp only[Act.put,qa,qb,qc];refine tkY 13 28 ?_ rfl ?_ ?_;rotate_left
       ·(intro w hSw;(try dsimp only at hSw);go_simp;first|done|(with_reducible rfl))
       simp only[Act.put,qa,qb,qc];refine tkY 14 29 ?_ rfl ?_ ?_;rotate_left
       ·(intro w hSw;(try dsimp only at hSw);go_simp;first|done|(with_reducible rfl))
       simp only[Act.put,qa,qb,qc];refine wpAnyH_ready (rs:=[15]) (by kernel_rfl) (by simp) ?_;refine AllReadyH.cons (o:=⟨some 30,_,_,_,_,_⟩) rfl (fun K hK=>?_) AllReadyH.nil;go_simp;refine(hGC.out _).mono ?_;rintro e w4 ⟨rfl,hb4⟩;have HB4:=q6q (HB3.out.trans (hb4.mono HB3.out.size));have HT4:=q6q (HT3.out.below hb4);have HV4:=q6q (HV3.out.below hb4);try go_wp2_with fail
       refine hK.out _ _ ?_ (fun hHeld=>?_)
       ·exact⟨(KeepC.below hb4) _ _ hHeld.1,(KeepC.below hb4) _ _ hHeld.2.1,(KeepC.below hb4) _ _ hHeld.2.2.1,(KeepC.below hb4) _ _ hHeld.2.2.2.1,(KeepC.below hb4) _ _ hHeld.2.2.2.2⟩
       clear hK K;try simp only[Act.put,qa,qb,qc]
       refine tkY 16 31 ?_ rfl ?_ ?_;rotate_left
       ·(intro w hSw;(try dsimp only at hSw);go_simp;first|done|(with_reducible rfl))
       simp only[Act.put,qa,qb,qc];refine tkY 17 32 ?_ rfl ?_ ?_;rotate_left
       ·(intro w hSw;(try dsimp only at hSw);go_simp;first|done|(with_reducible rfl))
       simp only[Act.put,qa,qb,qc];refine tkY 18 33 ?_ rfl ?_ ?_;rotate_left
       ·(intro w hSw;(try dsimp only at hSw);go_simp;first|done|(with_reducible rfl))
       simp only[Act.put,qa,qb,qc];refine tkY 19 34 ?_ rfl ?_ ?_;rotate_left
       ·(intro w hSw;(try dsimp only at hSw);go_simp;first|done|(with_reducible rfl))
       simp only[Act.put,qa,qb,qc];refine tkY 20 35 ?_ rfl ?_ ?_;rotate_left
       ·(intro w hSw;(try dsimp only at hSw);go_simp;first|done|(with_reducible rfl))
       simp only[Act.put,qa,qb,qc];refine tkY 21 36 ?_ rfl ?_ ?_;rotate_left
       ·(intro w hSw;(try dsimp only at hSw);go_simp;first|done|(with_reducible rfl))
       simp only[Act.put,qa,qb,qc];refine tkY 22 37 ?_ rfl ?_ ?_;rotate_left
       ·(intro w hSw;(try dsimp only at hSw);go_simp;first|done|(with_reducible rfl))
       simp only[Act.put,qa,qb,qc];refine tkY 23 38 ?_ rfl ?_ ?_;rotate_left
       ·(intro w hSw;(try dsimp only at hSw);go_simp;first|done|(with_reducible rfl))
       simp only[Act.put,qa,qb,qc];refine tkY 24 39 ?_ rfl ?_ ?_;rotate_left
       ·(intro w hSw;(try dsimp only at hSw);go_simp;first|done|(with_reducible rfl))
       simp only[Act.put,qa,qb,qc];refine tkY 25 40 ?_ rfl ?_ ?_;rotate_left
       ·(intro w hSw;(try dsimp only at hSw);go_simp;first|done|(with_reducible rfl))
       simp only[Act.put,qa,qb,qc];refine tkY 26 41 ?_ rfl ?_ ?_;rotate_left
       ·(intro w hSw;(try dsimp only at hSw);go_simp;first|done|(with_reducible rfl))
       simp only[Act.put,qa,qb,qc];refine tkY 27 42 ?_ rfl ?_ ?_;rotate_left
       ·(intro w hSw;(try dsimp only at hSw);go_simp;first|done|(with_reducible rfl))
       simp only[Act.put,qa,qb,qc];refine tkY 28 43 ?_ rfl ?_ ?_;rotate_left
       ·(intro w hSw;(try dsimp only at hSw);go_simp;first|done|(with_reducible rfl))
       simp only[Act.put,qa,qb,qc];refine tkY 29 44 ?_ rfl ?_ ?_;rotate_left
       ·(intro w hSw;(try dsimp only at hSw);go_simp;first|done|(with_reducible rfl))
       simp only[Act.put,qa,qb,qc];refine wpAnyH_ready (rs:=[30]) (by kernel_rfl) (by simp) ?_;refine AllReadyH.cons (o:=⟨some 45,_,_,_,_,_⟩) rfl (fun K hK=>?_) AllReadyH.nil;go_simp;refine(hCC.out _ HB4.out).mono ?_;rintro e w5 ⟨rfl,hb5⟩;have HB5:=q6q (HB4.out.trans (hb5.mono HB4.out.size));have HT5:=q6q (HT4.out.below hb5);have HV5:=q6q (HV4.out.below hb5);try go_wp2_with fail
       refine hK.out _ _ ?_ (fun hHeld=>?_)
       ·exact⟨(KeepC.below hb5) _ _ hHeld.1,(KeepC.below hb5) _ _ hHeld.2.1,(KeepC.below hb5) _ _ hHeld.2.2.1,(KeepC.below hb5) _ _ hHeld.2.2.2.1,(KeepC.below hb5) _ _ hHeld.2.2.2.2⟩
       clear hK K;try simp only[Act.put,qa,qb,qc]
       refine tkY 31 46 ?_ rfl ?_ ?_;rotate_left
       ·(intro w hSw;(try dsimp only at hSw);go_simp;first|done|(with_reducible rfl))
       simp only[Act.put,qa,qb,qc];refine tkY 32 47 ?_ rfl ?_ ?_;rotate_left
       ·(intro w hSw;(try dsimp only at hSw);go_simp;first|done|(with_reducible rfl))
       simp only[Act.put,qa,qb,qc];refine tkY 33 48 ?_ rfl ?_ ?_;rotate_left
       ·(intro w hSw;(try dsimp only at hSw);go_simp;first|done|(with_reducible rfl))
       simp only[Act.put,qa,qb,qc];refine tkY 34 49 ?_ rfl ?_ ?_;rotate_left
       ·(intro w hSw;(try dsimp only at hSw);go_simp;first|done|(with_reducible rfl))
       simp only[Act.put,qa,qb,qc];refine tnY 35 50 rfl ?_;simp only[Act.put,qa,qb,qc];refine tnY 36 51 rfl ?_;simp only[Act.put,qa,qb,qc];refine tnY 37 52 rfl ?_;simp only[Act.put,qa,qb,qc];refine tnY 38 53 rfl ?_;simp only[Act.put,qa,qb,qc];refine tkY 39 54 ?_ rfl ?_ ?_;rotate_left
       ·(intro w hSw;(try dsimp only at hSw);go_simp;first|done|(with_reducible rfl))
       simp only[Act.put,qa,qb,qc];refine wpAnyH_done (by kernel_rfl) ?_ _;refine NoPanic.normal ?_;go_wp2;go_ret2;exact⟨(j+1:Nat),.inl ⟨j+1,hlt,rfl,X.out,hpre.out⟩,HB5.out,.inr ⟨j+1,rfl,rfl⟩⟩
      ·have hcmp2:qaq (qaa x.path) (qaa c.path)<0:=by omega
       have HX2:=q6q (show ∃x,l[j+1 - 1]? =some x∧qaq (qaa x.path) (qaa c.path)<0 from⟨x,HX.out,hcmp2⟩);clear hcmp;generalize qaq (qaa x.path) (qaa c.path)=cv at hCC hcmp2;have hcd:decide (0≤cv)=false:=decide_eq_false (by omega);have HD0:∃d,qaw (qav (l.take (j+1))) (qaa c.path).dropLast=d:=⟨_,rfl⟩;obtain⟨d,HD0⟩:=HD0;cases d with
       |false=>
        have HD:=q6q HD0;have X:=q6q (show qcw l (j+1)=true by rw[qco HK.out,HD0];simp);clear HD0;refine wp_region_noPanic ?_;refine wp_region_held_drew (S:=(fun w'=>w'.cell? ⟨gx,0,none⟩=some (.string (S c.path))∧w'.cell? ⟨gx,1,none⟩=some (.int .i64 c.kind)∧w'.cell? ⟨gx,2,none⟩=some (.int .i64 c.mode)∧w'.cell? ⟨gx,3,none⟩=some (.string (S c.data))∧w'.cell? ⟨b,o+j*4,none⟩=some (.string (S x.path)))) (by kernel_rfl) ?_ (fun hHeld=>?_)
        ·exact⟨q0,q1,q2,q3,pv⟩
        refine tkY 0 15 ?_ rfl ?_ ?_;rotate_left
        ·(intro w hSw;(try dsimp only at hSw);go_simp;first|done|(with_reducible rfl))
        simp only[Act.put,qa,qb,qc];refine tkY 1 16 ?_ rfl ?_ ?_;rotate_left
        ·(intro w hSw;(try dsimp only at hSw);go_simp;first|done|(with_reducible rfl))
        simp only[Act.put,qa,qb,qc];refine tkY 2 17 ?_ rfl ?_ ?_;rotate_left
        ·(intro w hSw;(try dsimp only at hSw);go_simp;first|done|(with_reducible rfl))
        simp only[Act.put,qa,qb,qc];refine tkY 3 18 ?_ rfl ?_ ?_;rotate_left
        ·(intro w hSw;(try dsimp only at hSw);go_simp;first|done|(with_reducible rfl))
        simp only[Act.put,qa,qb,qc];refine tkY 4 19 ?_ rfl ?_ ?_;rotate_left
        ·(intro w hSw;(try dsimp only at hSw);go_simp;first|done|(with_reducible rfl))
        simp only[Act.put,qa,qb,qc];refine tkY 5 20 ?_ rfl ?_ ?_;rotate_left
        ·(intro w hSw;(try dsimp only at hSw);go_simp;first|done|(with_reducible rfl))
        simp only[Act.put,qa,qb,qc];refine tkY 6 21 ?_ rfl ?_ ?_;rotate_left
        ·(intro w hSw;(try dsimp only at hSw);go_simp;first|done|(with_reducible rfl))
        simp only[Act.put,qa,qb,qc];refine tkY 7 22 ?_ rfl ?_ ?_;rotate_left
        ·(intro w hSw;(try dsimp only at hSw);go_simp;first|done|(with_reducible rfl))
        simp only[Act.put,qa,qb,qc];refine tkY 8 23 ?_ rfl ?_ ?_;rotate_left
        ·(intro w hSw;(try dsimp only at hSw);go_simp;first|done|(with_reducible rfl))
        simp only[Act.put,qa,qb,qc];refine tkY 9 24 ?_ rfl ?_ ?_;rotate_left
        ·(intro w hSw;(try dsimp only at hSw);go_simp;first|done|(with_reducible rfl))
        simp only[Act.put,qa,qb,qc];refine wpAnyH_ready (rs:=[10]) (by kernel_rfl) (by simp) ?_;refine AllReadyH.cons (o:=⟨some 25,_,_,_,_,_⟩) rfl (fun K hK=>?_) AllReadyH.nil;go_simp;refine(hPC.out _ (qb7 HBz.out)).mono ?_;rintro e w3 ⟨rfl,hb3⟩;have HB3:=q6q ((qb7 HBz.out).trans (hb3.mono (qb7 HBz.out).size));have HT3:=q6q ((TreeAt.below (w:=wz.drew) (HTz.out.keep fun _ _ _=>rfl)) hb3);have HV3:=q6q (TreeV.below (w:=wz.drew) HVz.out hb3);try go_wp2_with fail
        refine hK.out _ _ ?_ (fun hHeld=>?_)
        ·exact⟨(KeepC.below hb3) _ _ hHeld.1,(KeepC.below hb3) _ _ hHeld.2.1,(KeepC.below hb3) _ _ hHeld.2.2.1,(KeepC.below hb3) _ _ hHeld.2.2.2.1,(KeepC.below hb3) _ _ hHeld.2.2.2.2⟩
        clear hK K;try simp only[Act.put,qa,qb,qc]
        refine tkY 11 26 ?_ rfl ?_ ?_;rotate_left
        ·(intro w hSw;(try dsimp only at hSw);go_simp;first|done|(with_reducible rfl))
        simp only[Act.put,qa,qb,qc];refine tkY 12 27 ?_ rfl ?_ ?_;rotate_left
        ·(intro w hSw;(try dsimp only at hSw);go_simp;first|done|(with_reducible rfl))
        simp only[Act.put,qa,qb,qc];refine tkY 13 28 ?_ rfl ?_ ?_;rotate_left
        ·(intro w hSw;(try dsimp only at hSw);go_simp;first|done|(with_reducible rfl))
        simp only[Act.put,qa,qb,qc];refine tkY 14 29 ?_ rfl ?_ ?_;rotate_left
        ·(intro w hSw;(try dsimp only at hSw);go_simp;first|done|(with_reducible rfl))
        simp only[Act.put,qa,qb,qc];refine wpAnyH_ready (rs:=[15]) (by kernel_rfl) (by simp) ?_;refine AllReadyH.cons (o:=⟨some 30,_,_,_,_,_⟩) rfl (fun K hK=>?_) AllReadyH.nil;go_simp;refine(hGC.out _).mono ?_;rintro e w4 ⟨rfl,hb4⟩;have HB4:=q6q (HB3.out.trans (hb4.mono HB3.out.size));have HT4:=q6q (HT3.out.below hb4);have HV4:=q6q (HV3.out.below hb4);try go_wp2_with fail
        refine hK.out _ _ ?_ (fun hHeld=>?_)
        ·exact⟨(KeepC.below hb4) _ _ hHeld.1,(KeepC.below hb4) _ _ hHeld.2.1,(KeepC.below hb4) _ _ hHeld.2.2.1,(KeepC.below hb4) _ _ hHeld.2.2.2.1,(KeepC.below hb4) _ _ hHeld.2.2.2.2⟩
        clear hK K;try simp only[Act.put,qa,qb,qc]
        refine tkY 16 31 ?_ rfl ?_ ?_;rotate_left
        ·(intro w hSw;(try dsimp only at hSw);go_simp;first|done|(with_reducible rfl))
        simp only[Act.put,qa,qb,qc];refine tkY 17 32 ?_ rfl ?_ ?_;rotate_left
        ·(intro w hSw;(try dsimp only at hSw);go_simp;first|done|(with_reducible rfl))
        simp only[Act.put,qa,qb,qc];refine tkY 18 33 ?_ rfl ?_ ?_;rotate_left
        ·(intro w hSw;(try dsimp only at hSw);go_simp;first|done|(with_reducible rfl))
        simp only[Act.put,qa,qb,qc];refine tkY 19 34 ?_ rfl ?_ ?_;rotate_left
        ·(intro w hSw;(try dsimp only at hSw);go_simp;first|done|(with_reducible rfl))
        simp only[Act.put,qa,qb,qc];refine tkY 20 35 ?_ rfl ?_ ?_;rotate_left
        ·(intro w hSw;(try dsimp only at hSw);go_simp;first|done|(with_reducible rfl))
        simp only[Act.put,qa,qb,qc];refine tkY 21 36 ?_ rfl ?_ ?_;rotate_left
        ·(intro w hSw;(try dsimp only at hSw);go_simp;first|done|(with_reducible rfl))
        simp only[Act.put,qa,qb,qc];refine tkY 22 37 ?_ rfl ?_ ?_;rotate_left
        ·(intro w hSw;(try dsimp only at hSw);go_simp;first|done|(with_reducible rfl))
        simp only[Act.put,qa,qb,qc];refine tkY 23 38 ?_ rfl ?_ ?_;rotate_left
        ·(intro w hSw;(try dsimp only at hSw);go_simp;first|done|(with_reducible rfl))
        simp only[Act.put,qa,qb,qc];refine tkY 24 39 ?_ rfl ?_ ?_;rotate_left
        ·(intro w hSw;(try dsimp only at hSw);go_simp;first|done|(with_reducible rfl))
        simp only[Act.put,qa,qb,qc];refine tkY 25 40 ?_ rfl ?_ ?_;rotate_left
        ·(intro w hSw;(try dsimp only at hSw);go_simp;first|done|(with_reducible rfl))
        simp only[Act.put,qa,qb,qc];refine tkY 26 41 ?_ rfl ?_ ?_;rotate_left
        ·(intro w hSw;(try dsimp only at hSw);go_simp;first|done|(with_reducible rfl))
        simp only[Act.put,qa,qb,qc];refine tkY 27 42 ?_ rfl ?_ ?_;rotate_left
        ·(intro w hSw;(try dsimp only at hSw);go_simp;first|done|(with_reducible rfl))
        simp only[Act.put,qa,qb,qc];refine tkY 28 43 ?_ rfl ?_ ?_;rotate_left
        ·(intro w hSw;(try dsimp only at hSw);go_simp;first|done|(with_reducible rfl))
        simp only[Act.put,qa,qb,qc];refine tkY 29 44 ?_ rfl ?_ ?_;rotate_left
        ·(intro w hSw;(try dsimp only at hSw);go_simp;first|done|(with_reducible rfl))
        simp only[Act.put,qa,qb,qc];refine wpAnyH_ready (rs:=[30]) (by kernel_rfl) (by simp) ?_;refine AllReadyH.cons (o:=⟨some 45,_,_,_,_,_⟩) rfl (fun K hK=>?_) AllReadyH.nil;go_simp;refine(hCC.out _ HB4.out).mono ?_;rintro e w5 ⟨rfl,hb5⟩;have HB5:=q6q (HB4.out.trans (hb5.mono HB4.out.size));have HT5:=q6q (HT4.out.below hb5);have HV5:=q6q (HV4.out.below hb5);try go_wp2_with fail
        refine hK.out _ _ ?_ (fun hHeld=>?_)
        ·exact⟨(KeepC.below hb5) _ _ hHeld.1,(KeepC.below hb5) _ _ hHeld.2.1,(KeepC.below hb5) _ _ hHeld.2.2.1,(KeepC.below hb5) _ _ hHeld.2.2.2.1,(KeepC.below hb5) _ _ hHeld.2.2.2.2⟩
        clear hK K;try simp only[Act.put,qa,qb,qc]
        refine tkY 31 46 ?_ rfl ?_ ?_;rotate_left
        ·(intro w hSw;(try dsimp only at hSw);go_simp;first|done|(with_reducible rfl))
        simp only[Act.put,qa,qb,qc];refine tkY 32 47 ?_ rfl ?_ ?_;rotate_left
        ·(intro w hSw;(try dsimp only at hSw);go_simp;first|done|(with_reducible rfl))
        simp only[Act.put,qa,qb,qc];refine tkY 33 48 ?_ rfl ?_ ?_;rotate_left
        ·(intro w hSw;(try dsimp only at hSw);go_simp;first|done|(with_reducible rfl))
        simp only[Act.put,qa,qb,qc];refine tkY 34 49 ?_ rfl ?_ ?_;rotate_left
        ·(intro w hSw;(try dsimp only at hSw);go_simp;first|done|(with_reducible rfl))
        simp only[Act.put,qa,qb,qc];refine tkY 35 50 ?_ rfl ?_ ?_;rotate_left
        ·(intro w hSw;(try dsimp only at hSw);go_simp;first|done|(with_reducible rfl))
        simp only[Act.put,qa,qb,qc];refine tkY 36 51 ?_ rfl ?_ ?_;rotate_left
        ·(intro w hSw;(try dsimp only at hSw);go_simp;first|done|(with_reducible rfl))
        simp only[Act.put,qa,qb,qc];refine wpAnyH_ready (rs:=[37]) (by kernel_rfl) (by simp) ?_;refine AllReadyH.cons (o:=⟨some 52,_,_,_,_,_⟩) rfl (fun K hK=>?_) AllReadyH.nil;go_simp;refine(q39 HT5.out t HV5.out c HP.out HPE.out (by omega) HB5.out.size (HS.out.below HB5.out) HD.out).mono ?_;rintro e w6 ⟨rfl,hb6⟩;have HB6:=q6q (HB5.out.trans (hb6.mono HB5.out.size));try go_wp2_with fail
        refine hK.out _ _ ?_ (fun hHeld=>?_)
        ·exact⟨(KeepC.below hb6) _ _ hHeld.1,(KeepC.below hb6) _ _ hHeld.2.1,(KeepC.below hb6) _ _ hHeld.2.2.1,(KeepC.below hb6) _ _ hHeld.2.2.2.1,(KeepC.below hb6) _ _ hHeld.2.2.2.2⟩
        clear hK K;try simp only[Act.put,qa,qb,qc]
        refine tkY 38 53 ?_ rfl ?_ ?_;rotate_left
        ·(intro w hSw;(try dsimp only at hSw);go_simp;first|done|(with_reducible rfl))
        simp only[Act.put,qa,qb,qc];refine tkY 39 54 ?_ rfl ?_ ?_;rotate_left
        ·(intro w hSw;(try dsimp only at hSw);go_simp;first|done|(with_reducible rfl))
        simp only[Act.put,qa,qb,qc];refine wpAnyH_done (by kernel_rfl) ?_ _;refine NoPanic.normal ?_;go_wp2;go_ret2;exact⟨(j+1:Nat),.inl ⟨j+1,hlt,rfl,X.out,hpre.out⟩,HB6.out,.inr ⟨j+1,rfl,rfl⟩⟩
       |true=>
        have HD:=q6q HD0;have X:=q6q (qth HK.out H40.out fe HP.out HG.out (.inr HX2.out) HD0);clear HD0;refine wp_region_noPanic ?_;refine wp_region_held_drew (S:=(fun w'=>w'.cell? ⟨gx,0,none⟩=some (.string (S c.path))∧w'.cell? ⟨gx,1,none⟩=some (.int .i64 c.kind)∧w'.cell? ⟨gx,2,none⟩=some (.int .i64 c.mode)∧w'.cell? ⟨gx,3,none⟩=some (.string (S c.data))∧w'.cell? ⟨b,o+j*4,none⟩=some (.string (S x.path)))) (by kernel_rfl) ?_ (fun hHeld=>?_)
        ·exact⟨q0,q1,q2,q3,pv⟩
        refine tkY 0 15 ?_ rfl ?_ ?_;rotate_left
        ·(intro w hSw;(try dsimp only at hSw);go_simp;first|done|(with_reducible rfl))
        simp only[Act.put,qa,qb,qc];refine tkY 1 16 ?_ rfl ?_ ?_;rotate_left
        ·(intro w hSw;(try dsimp only at hSw);go_simp;first|done|(with_reducible rfl))
        simp only[Act.put,qa,qb,qc];refine tkY 2 17 ?_ rfl ?_ ?_;rotate_left
        ·(intro w hSw;(try dsimp only at hSw);go_simp;first|done|(with_reducible rfl))
        simp only[Act.put,qa,qb,qc];refine tkY 3 18 ?_ rfl ?_ ?_;rotate_left
        ·(intro w hSw;(try dsimp only at hSw);go_simp;first|done|(with_reducible rfl))
        simp only[Act.put,qa,qb,qc];refine tkY 4 19 ?_ rfl ?_ ?_;rotate_left
        ·(intro w hSw;(try dsimp only at hSw);go_simp;first|done|(with_reducible rfl))
        simp only[Act.put,qa,qb,qc];refine tkY 5 20 ?_ rfl ?_ ?_;rotate_left
        ·(intro w hSw;(try dsimp only at hSw);go_simp;first|done|(with_reducible rfl))
        simp only[Act.put,qa,qb,qc];refine tkY 6 21 ?_ rfl ?_ ?_;rotate_left
        ·(intro w hSw;(try dsimp only at hSw);go_simp;first|done|(with_reducible rfl))
        simp only[Act.put,qa,qb,qc];refine tkY 7 22 ?_ rfl ?_ ?_;rotate_left
        ·(intro w hSw;(try dsimp only at hSw);go_simp;first|done|(with_reducible rfl))
        simp only[Act.put,qa,qb,qc];refine tkY 8 23 ?_ rfl ?_ ?_;rotate_left
        ·(intro w hSw;(try dsimp only at hSw);go_simp;first|done|(with_reducible rfl))
        simp only[Act.put,qa,qb,qc];refine tkY 9 24 ?_ rfl ?_ ?_;rotate_left
        ·(intro w hSw;(try dsimp only at hSw);go_simp;first|done|(with_reducible rfl))
        simp only[Act.put,qa,qb,qc];refine wpAnyH_ready (rs:=[10]) (by kernel_rfl) (by simp) ?_;refine AllReadyH.cons (o:=⟨some 25,_,_,_,_,_⟩) rfl (fun K hK=>?_) AllReadyH.nil;go_simp;refine(hPC.out _ (qb7 HBz.out)).mono ?_;rintro e w3 ⟨rfl,hb3⟩;have HB3:=q6q ((qb7 HBz.out).trans (hb3.mono (qb7 HBz.out).size));have HT3:=q6q ((TreeAt.below (w:=wz.drew) (HTz.out.keep fun _ _ _=>rfl)) hb3);have HV3:=q6q (TreeV.below (w:=wz.drew) HVz.out hb3);try go_wp2_with fail
        refine hK.out _ _ ?_ (fun hHeld=>?_)
        ·exact⟨(KeepC.below hb3) _ _ hHeld.1,(KeepC.below hb3) _ _ hHeld.2.1,(KeepC.below hb3) _ _ hHeld.2.2.1,(KeepC.below hb3) _ _ hHeld.2.2.2.1,(KeepC.below hb3) _ _ hHeld.2.2.2.2⟩
        clear hK K;try simp only[Act.put,qa,qb,qc]
        refine tkY 11 26 ?_ rfl ?_ ?_;rotate_left
        ·(intro w hSw;(try dsimp only at hSw);go_simp;first|done|(with_reducible rfl))
        simp only[Act.put,qa,qb,qc];refine tkY 12 27 ?_ rfl ?_ ?_;rotate_left
        ·(intro w hSw;(try dsimp only at hSw);go_simp;first|done|(with_reducible rfl))
        simp only[Act.put,qa,qb,qc];refine tkY 13 28 ?_ rfl ?_ ?_;rotate_left
        ·(intro w hSw;(try dsimp only at hSw);go_simp;first|done|(with_reducible rfl))
        simp only[Act.put,qa,qb,qc];refine tkY 14 29 ?_ rfl ?_ ?_;rotate_left
        ·(intro w hSw;(try dsimp only at hSw);go_simp;first|done|(with_reducible rfl))
        simp only[Act.put,qa,qb,qc];refine wpAnyH_ready (rs:=[15]) (by kernel_rfl) (by simp) ?_;refine AllReadyH.cons (o:=⟨some 30,_,_,_,_,_⟩) rfl (fun K hK=>?_) AllReadyH.nil;go_simp;refine(hGC.out _).mono ?_;rintro e w4 ⟨rfl,hb4⟩;have HB4:=q6q (HB3.out.trans (hb4.mono HB3.out.size));have HT4:=q6q (HT3.out.below hb4);have HV4:=q6q (HV3.out.below hb4);try go_wp2_with fail
        refine hK.out _ _ ?_ (fun hHeld=>?_)
        ·exact⟨(KeepC.below hb4) _ _ hHeld.1,(KeepC.below hb4) _ _ hHeld.2.1,(KeepC.below hb4) _ _ hHeld.2.2.1,(KeepC.below hb4) _ _ hHeld.2.2.2.1,(KeepC.below hb4) _ _ hHeld.2.2.2.2⟩
        clear hK K;try simp only[Act.put,qa,qb,qc]
        refine tkY 16 31 ?_ rfl ?_ ?_;rotate_left
        ·(intro w hSw;(try dsimp only at hSw);go_simp;first|done|(with_reducible rfl))
        simp only[Act.put,qa,qb,qc];refine tkY 17 32 ?_ rfl ?_ ?_;rotate_left
        ·(intro w hSw;(try dsimp only at hSw);go_simp;first|done|(with_reducible rfl))
        simp only[Act.put,qa,qb,qc];refine tkY 18 33 ?_ rfl ?_ ?_;rotate_left
        ·(intro w hSw;(try dsimp only at hSw);go_simp;first|done|(with_reducible rfl))
        simp only[Act.put,qa,qb,qc];refine tkY 19 34 ?_ rfl ?_ ?_;rotate_left
        ·(intro w hSw;(try dsimp only at hSw);go_simp;first|done|(with_reducible rfl))
        simp only[Act.put,qa,qb,qc];refine tkY 20 35 ?_ rfl ?_ ?_;rotate_left
        ·(intro w hSw;(try dsimp only at hSw);go_simp;first|done|(with_reducible rfl))
        simp only[Act.put,qa,qb,qc];refine tkY 21 36 ?_ rfl ?_ ?_;rotate_left
        ·(intro w hSw;(try dsimp only at hSw);go_simp;first|done|(with_reducible rfl))
        simp only[Act.put,qa,qb,qc];refine tkY 22 37 ?_ rfl ?_ ?_;rotate_left
        ·(intro w hSw;(try dsimp only at hSw);go_simp;first|done|(with_reducible rfl))
        simp only[Act.put,qa,qb,qc];refine tkY 23 38 ?_ rfl ?_ ?_;rotate_left
        ·(intro w hSw;(try dsimp only at hSw);go_simp;first|done|(with_reducible rfl))
        simp only[Act.put,qa,qb,qc];refine tkY 24 39 ?_ rfl ?_ ?_;rotate_left
        ·(intro w hSw;(try dsimp only at hSw);go_simp;first|done|(with_reducible rfl))
        simp only[Act.put,qa,qb,qc];refine tkY 25 40 ?_ rfl ?_ ?_;rotate_left
        ·(intro w hSw;(try dsimp only at hSw);go_simp;first|done|(with_reducible rfl))
        simp only[Act.put,qa,qb,qc];refine tkY 26 41 ?_ rfl ?_ ?_;rotate_left
        ·(intro w hSw;(try dsimp only at hSw);go_simp;first|done|(with_reducible rfl))
        simp only[Act.put,qa,qb,qc];refine tkY 27 42 ?_ rfl ?_ ?_;rotate_left
        ·(intro w hSw;(try dsimp only at hSw);go_simp;first|done|(with_reducible rfl))
        simp only[Act.put,qa,qb,qc];refine tkY 28 43 ?_ rfl ?_ ?_;rotate_left
        ·(intro w hSw;(try dsimp only at hSw);go_simp;first|done|(with_reducible rfl))
        simp only[Act.put,qa,qb,qc];refine tkY 29 44 ?_ rfl ?_ ?_;rotate_left
        ·(intro w hSw;(try dsimp only at hSw);go_simp;first|done|(with_reducible rfl))
        simp only[Act.put,qa,qb,qc];refine wpAnyH_ready (rs:=[30]) (by kernel_rfl) (by simp) ?_;refine AllReadyH.cons (o:=⟨some 45,_,_,_,_,_⟩) rfl (fun K hK=>?_) AllReadyH.nil;go_simp;refine(hCC.out _ HB4.out).mono ?_;rintro e w5 ⟨rfl,hb5⟩;have HB5:=q6q (HB4.out.trans (hb5.mono HB4.out.size));have HT5:=q6q (HT4.out.below hb5);have HV5:=q6q (HV4.out.below hb5);try go_wp2_with fail
        refine hK.out _ _ ?_ (fun hHeld=>?_)
        ·exact⟨(KeepC.below hb5) _ _ hHeld.1,(KeepC.below hb5) _ _ hHeld.2.1,(KeepC.below hb5) _ _ hHeld.2.2.1,(KeepC.below hb5) _ _ hHeld.2.2.2.1,(KeepC.below hb5) _ _ hHeld.2.2.2.2⟩
        clear hK K;try simp only[Act.put,qa,qb,qc]
        refine tkY 31 46 ?_ rfl ?_ ?_;rotate_left
        ·(intro w hSw;(try dsimp only at hSw);go_simp;first|done|(with_reducible rfl))
        simp only[Act.put,qa,qb,qc];refine tkY 32 47 ?_ rfl ?_ ?_;rotate_left
        ·(intro w hSw;(try dsimp only at hSw);go_simp;first|done|(with_reducible rfl))
        simp only[Act.put,qa,qb,qc];refine tkY 33 48 ?_ rfl ?_ ?_;rotate_left
        ·(intro w hSw;(try dsimp only at hSw);go_simp;first|done|(with_reducible rfl))
        simp only[Act.put,qa,qb,qc];refine tkY 34 49 ?_ rfl ?_ ?_;rotate_left
        ·(intro w hSw;(try dsimp only at hSw);go_simp;first|done|(with_reducible rfl))
        simp only[Act.put,qa,qb,qc];refine tkY 35 50 ?_ rfl ?_ ?_;rotate_left
        ·(intro w hSw;(try dsimp only at hSw);go_simp;first|done|(with_reducible rfl))
        simp only[Act.put,qa,qb,qc];refine tkY 36 51 ?_ rfl ?_ ?_;rotate_left
        ·(intro w hSw;(try dsimp only at hSw);go_simp;first|done|(with_reducible rfl))
        simp only[Act.put,qa,qb,qc];refine wpAnyH_ready (rs:=[37]) (by kernel_rfl) (by simp) ?_;refine AllReadyH.cons (o:=⟨some 52,_,_,_,_,_⟩) rfl (fun K hK=>?_) AllReadyH.nil;go_simp;refine(qy3 HT5.out t HV5.out c HP.out HPE.out (by omega) HB5.out.size (HS.out.below HB5.out) HD.out).mono ?_;rintro e w6 ⟨rfl,hTV6,hb6,hkc6⟩;have HTV6:=q6q hTV6;have HB6:=q6q (HB5.out.trans hb6);try go_wp2_with fail
        refine hK.out _ _ ?_ (fun hHeld=>?_)
        ·exact⟨hkc6 _ _ hHeld.1,hkc6 _ _ hHeld.2.1,hkc6 _ _ hHeld.2.2.1,hkc6 _ _ hHeld.2.2.2.1,hkc6 _ _ hHeld.2.2.2.2⟩
        clear hK K;try simp only[Act.put,qa,qb,qc]
        refine tkY 38 53 ?_ rfl ?_ ?_;rotate_left
        ·(intro w hSw;(try dsimp only at hSw);go_simp;first|done|(with_reducible rfl))
        simp only[Act.put,qa,qb,qc];refine tkY 39 54 ?_ rfl ?_ ?_;rotate_left
        ·(intro w hSw;(try dsimp only at hSw);go_simp;first|done|(with_reducible rfl))
        simp only[Act.put,qa,qb,qc];refine wpAnyH_done (by kernel_rfl) ?_ _;refine NoPanic.normal ?_;go_wp2;go_round
        case rel=>
         refine⟨(j+1)+1,by omega,by go_num,fun q hq=>?_,?_,HB6.out⟩
         ·by_cases e:q=(j+1)
          ·rw[e];exact X.out
          ·exact hpre.out q (by omega)
         ·obtain⟨a',m',h1,h2⟩:=HTV6.out
          exact⟨a',m',by rw[HTk.out];exact h1,h2⟩
        case measure=>simp[intOf];omega
  ·obtain rfl:k=l.length:=by omega
   obtain⟨a,m,h1,h2⟩:=hTr.out;rw[List.take_length] at h1;have H1:=q6q h1;have H2:=q6q h2;clear h1 h2;go_wp2;go_ret2;exact⟨-1,.inr ⟨rfl,hpre.out⟩,hB.out,.inl ⟨rfl,t,a,m,rfl,H1.out,H2.out⟩⟩
end Go.Proofs.YtikdblkfjchjbaaGreatDoor
