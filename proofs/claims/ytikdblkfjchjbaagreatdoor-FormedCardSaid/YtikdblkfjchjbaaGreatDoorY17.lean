import Derived.StillTailTactics
import Derived.RegionDies
import Derived.Test.YtikdblkfjchjbaaGreatDoorY16
set_option linter.unusedVariables false
set_option linter.unusedSimpArgs false
set_option maxHeartbeats 16000000
set_option maxRecDepth 100000
namespace Go.Proofs.YtikdblkfjchjbaaGreatDoor
open Go.RowKit
variable{w w0 w' wr w6 w7:World}{c B g j p gw k n c' gp m gb vc gr:Nat}{s x:List UInt8}{l:List PieceG}{ao ao' A va:Option Addr}{vars:List (List UInt8)}{v:Int}
def TB(l:List PieceG)(n:Nat):Prop:=l.length≤n∧∀q∈l,q.text.length≤n
theorem TB.mono(h:TB l n)(hm:n≤m):TB l m:=⟨Nat.le_trans h.1 hm,fun q hq=>Nat.le_trans (h.2 q hq) hm⟩
theorem TB.add(h:TB l n)(c:UInt8):TB (addP l c) (n+1):=by
 refine⟨Nat.le_trans (qui l c) (by have:=h.1;omega),?_⟩;rcases List.eq_nil_or_concat l with rfl|⟨init,q,rfl⟩
 ·intro q hq
  rw[qks] at hq;simp at hq;subst hq;simp
 ·rw[List.concat_eq_append] at*
  have hq:=h.2 q (by simp);cases hv:q.var
  ·rw[qgw init q c hv]
   intro r hr;rcases List.mem_append.1 hr with hr|hr
   ·have:=h.2 r (List.mem_append.2 (.inl hr));omega
   ·simp at hr;subst hr;simp;omega
  ·rw[qgv init q c hv]
   intro r hr;rcases List.mem_append.1 hr with hr|hr
   ·have:=h.2 r hr;omega
   ·simp at hr;subst hr;simp
theorem TB.var(h:TB l n)(hx:x.length≤n+1)(p:Nat):TB (l++[⟨x,true,p⟩]) (n+1):=by
 refine⟨by simp;exact h.1,?_⟩;intro r hr;rcases List.mem_append.1 hr with hr|hr
 ·have:=h.2 r hr;omega
 ·simp at hr;subst hr;exact hx
def qvh(B gw g p:Nat)(s:List UInt8)(l:List PieceG)(w w':World)(e:Ending):Except Nat (List Atm×Nat)→Prop
 |.error q=>Thrown w w' e 5 q
 |.ok (m,n)=>e= .returned (.tuple #[])∧Lex w' g s n∧∃ao c,Wd B gw w' (qar m l) p ao c
structure QInv(B gw g p:Nat)(s:List UInt8)(w0 w:World)(l:List PieceG)(j:Nat)(ao:Option Addr)(c:Nat):Prop where
 lex:Lex w g s j
 wd:Wd B gw w l p ao c
 fr:Fr (fun b=>b=g∨b=gw∨B≤b) w0 w
 tb:TB l (j+10)
 hg:g<B
 ne:g≠gw
theorem QInv.drewN(h:QInv B gw g p s w0 w l j ao c)(n:Nat):QInv B gw g p s w0 (w.drewN n) l j ao c:=
 ⟨h.lex,⟨h.wd.own,h.wd.blk,h.wd.hB,h.wd.hgw⟩,h.fr.drewN n,h.tb,h.hg,h.ne⟩
theorem QInv.drew(h:QInv B gw g p s w0 w l j ao c):QInv B gw g p s w0 w.drew l j ao c:=
 ⟨h.lex,h.wd.drew,h.fr.drew,h.tb,h.hg,h.ne⟩
theorem QInv.go(h:QInv B gw g p s w0 w l j ao c)(m:Nat)(hm:j≤m):QInv B gw g p s w0 (w.setCell ⟨g,1,none⟩ (.int .i64 m)) l m ao c:=by
 have hg:=h.hg;have hne:=h.ne;refine⟨h.lex.set m,⟨ownsRow_setCell_below h.wd.own (a:=⟨g,1,none⟩) hg _,?_,by rw[World.size_setCell];exact h.wd.hB,h.wd.hgw⟩,h.fr.setCell (fun _=> .inl rfl) _ _,h.tb.mono (by omega),hg,hne⟩;rw[heap_setCell_other w ⟨g,1,none⟩ gw _ (by show gw≠g;omega)];exact h.wd.blk
theorem QInv.added(h:QInv B gw g p s w0 w l j ao c)(x:UInt8)(hw:Wd B gw w' (addP l x) p ao' c')(hf:Fr (fun b=>b=gw∨B≤b) w w'):
 Lex w' g s j∧Wd B gw w' (addP l x) p ao' c'∧Fr (fun b=>b=g∨b=gw∨B≤b) w0 w'∧TB (addP l x) (j+1+10):=by
 have hg:=h.hg;have hne:=h.ne;refine⟨h.lex.fr hf (by omega),hw,h.fr.trans (hf.mono (fun k _ hk=> .inr hk)),?_⟩;have:=h.tb.add x;rwa [show j+10+1=j+1+10 by omega] at this
theorem QInv.addedGo(h:QInv B gw g p s w0 w l j ao c)(x:UInt8)(hw:Wd B gw w' (addP l x) p ao' c')(hf:Fr (fun b=>b=gw∨B≤b) w w')(n:Nat):
 QInv B gw g p s w0 ((w'.drewN n).setCell ⟨g,1,none⟩ (.int .i64 ((j:Int)+1))) (addP l x) (j+1) ao' c':=by
 obtain⟨h1,h2,h3,h4⟩:=h.added x hw hf;have hg:=h.hg;have hne:=h.ne;have hc:((j:Int)+1)=((j+1:Nat):Int):=by omega
 rw[hc];refine⟨(h1.drewN n).set (j+1),⟨ownsRow_setCell_below (w:=w'.drewN n) h2.own (a:=⟨g,1,none⟩) hg _,?_,by rw[World.size_setCell];exact h2.hB,h2.hgw⟩,(h3.drewN n).setCell (fun _=> .inl rfl) _ _,h4,hg,hne⟩;rw[heap_setCell_other (w'.drewN n) ⟨g,1,none⟩ gw _ (by show gw≠g;omega)];exact h2.blk
theorem QInv.facts(h:QInv B gw g p s w0 w l j ao c):w.cell? ⟨g,0,none⟩=some (.string (S s))∧w.cell? ⟨g,1,none⟩=some (.int .i64 j)∧w.frozen? ⟨g,0,none⟩=false∧w.frozen? ⟨g,1,none⟩=false:=h.lex.blk2.facts
theorem QInv.goV(h:QInv B gw g p s w0 w l j ao c)(m:Nat)(hm:j≤m)(hv:v=(m:Int)):QInv B gw g p s w0 (w.setCell ⟨g,1,none⟩ (.int .i64 v)) l m ao c:=by
 subst hv;exact h.go m hm
theorem QInv.addedGoV(h:QInv B gw g p s w0 w l j ao c)(x:UInt8)(hw:Wd B gw w' (addP l x) p ao' c')(hf:Fr (fun b=>b=gw∨B≤b) w w')(hv:v=(j:Int)+1):
 QInv B gw g p s w0 (w'.setCell ⟨g,1,none⟩ (.int .i64 v)) (addP l x) (j+1) ao' c':=by
 subst hv;exact h.addedGo x hw hf 0
theorem Wd.lexed(h:Wd B gw w l p ao c)(hx:Lex w g s j)(hf:Fr (fun b=>b=g) w w')(hne:g≠gw):Wd B gw w' l p ao c:=by
 refine⟨qao h.own (hf.keepT ?_),(hf.block gw (q6s h.blk).1 (fun e=>hne e.symm)).trans h.blk,Nat.le_trans h.hB hf.size,h.hgw⟩;intro b cur fz e1 e2;have h1:=hx;unfold Lex at h1;rw[e1,h1] at e2;simp only[Option.some.injEq,Obj.cells.injEq] at e2;exact absurd e2.2.1 (by decide)
theorem QInv.varied(h:QInv B gw g p s w0 w l j ao c)(hf:Fr (fun b=>b=g) w w'):Wd B gw w' l p ao c:=h.wd.lexed h.lex hf h.ne
theorem QInv.pushed(h:QInv B gw g p s w0 w l j ao c)(hf:Fr (fun b=>b=g) w w6)(hl6:Lex w6 g s (j+n))(o:Obj)
 (hgr:(w6.alloc o).grownBy w7 (Value.slice ao l.length c).ownBlock)(hown:w7.ownsRow B qa4 3 (.slice ao' (l.length+1) c') (l.length+1) (pcs l++[.string (S x),.bool true,.int .i64 j]))(hx:x.length≤10)(hn:0<n):
 QInv B gw g p s w0 (w7.setCell ⟨gw,0,none⟩ (.slice ao' (l.length+1) c')) (l++[⟨x,true,j⟩]) (j+n) ao' c':=by
 have hwd:=(h.varied hf).alloc o;have hg:=h.hg;have hne:=h.ne;refine⟨?_,hwd.push ⟨x,true,j⟩ hown hgr,?_,(h.tb.var (x:=x) (by omega) j).mono (by omega),hg,hne⟩
 ·have hlx:=hl6.alloc o
  have:Lex w7 g s (j+n):=(hgr.block g (q6s hlx).1 (qm4 hwd.own hg)).trans hlx;exact this.far 0 _ hne
 ·exact(((h.fr.trans (hf.mono (fun _ _ e=> .inl e))).alloc o).grown hgr (fun k hk _=> .inr (.inr (qek hwd.own k hk)))).setCell (fun _=> .inr (.inl rfl)) _ _
theorem qr8{c:UInt8}(h:c=34∨c=92∨c=36):∃i:Nat,Lib.indexByte [34,92,36] c=(i:Int):=by
 rcases h with rfl|rfl|rfl
 ·exact⟨0,rfl⟩
 ·exact⟨1,rfl⟩
 ·exact⟨2,rfl⟩
theorem qpy{c:UInt8}(h:¬(c=34∨c=92∨c=36)):Lib.indexByte [34,92,36] c= -1:=by
 have h1:¬c=34:=fun e=>h (.inl e)
 have h2:¬c=92:=fun e=>h (.inr (.inl e))
 have h3:¬c=36:=fun e=>h (.inr (.inr e))
 have e1:((34:UInt8)==c)=false:=by rw[beq_eq_false_iff_ne];exact fun e=>h1 e.symm
 have e2:((92:UInt8)==c)=false:=by rw[beq_eq_false_iff_ne];exact fun e=>h2 e.symm
 have e3:((36:UInt8)==c)=false:=by rw[beq_eq_false_iff_ne];exact fun e=>h3 e.symm
 rw[Lib.indexByte,e1,Lib.indexByte,e2,Lib.indexByte,e3,Lib.indexByte];rfl
theorem qn8(c:UInt8)(h:¬(c=34∨c=92∨c=36))(w:World):
 Calls Tryz.prog 147 #[.string (S [34,92,36]),.int .u8 c.toNat] w fun e w'=>e= .returned (.int .i64 (-1))∧w'=w:=
 (Tryz.strings_IndexByte (S [34,92,36]) c.toNat w).mono fun e w' ⟨he,hw⟩=>⟨by rw[he,qc7,←qpy h];simp,hw⟩
theorem qn7(c:UInt8)(h:c=34∨c=92∨c=36):∃i:Nat,∀w:World,
 Calls Tryz.prog 147 #[.string (S [34,92,36]),.int .u8 c.toNat] w fun e w'=>e= .returned (.int .i64 (i:Int))∧w'=w:=by
 obtain⟨i,hi⟩:=qr8 h;exact⟨i,fun w=>(Tryz.strings_IndexByte (S [34,92,36]) c.toNat w).mono fun e w' ⟨he,hw⟩=>⟨by rw[he,qc7,←hi];simp,hw⟩⟩
theorem qk9(s:List UInt8)(g k B gw p c:Nat)(ao:Option Addr)(l:List PieceG)(w:World)(hs:s.length≤100000)(hk:k<s.length)(hx:Lex w g s k)(hw:Wd B gw w l p ao c)(hg:g<B)(hne:g≠gw)(ht:TB l (k+10)):
 Calls Tryz.prog 120 #[.pointer (some ⟨g,0,none⟩),.pointer (some ⟨gw,0,none⟩)] w fun e w'=>qvh B gw g p s l w w' e (qat s k (k+1) [])∧Fr (fun b=>b=g∨b=gw∨B≤b) w w':=by
 obtain⟨c1,c2,c3,c4⟩:=hx.blk2.facts;have Q0:=q6q ((⟨hx,hw,Fr.refl _ _,ht,hg,hne⟩:QInv B gw g p s w w l k ao c).go (k+1) (by omega));clear hx hw ht;go_enter Tryz.func120,Tryz.ntmps120;go_wp2;go_loopw [5] (fun _ wr=>∃(acc:List Atm) (j:Nat) (ao:Option Addr) (c:Nat),k<j∧j≤s.length∧Hid (qat s k (k+1) []=qat s k j acc)∧Hid (QInv B gw g p s w wr (qar acc l) j ao c)) (fun _ wr=>s.length - atOf wr g)
 case atStart=>exact⟨[],k+1,ao,c,by omega,by omega,rfl,Q0⟩
 case round=>
  obtain⟨acc,j,ao,c,hkj,hj,HQ,QI⟩:=hrel;clear Q0;obtain⟨c1,c2,c3,c4⟩:=QI.out.lex.blk2.facts;have hat:=q6q QI.out.lex.atOf;have hfs:=q6q QI.out.fr.size;by_cases hst:qa2 s j=true
  ·have Y:=q6q (show qat s k (k+1) []= .error k by
    rw[HQ.out];by_cases h:j<s.length
    ·exact qvj h (by simpa[qa2,h] using hst)
    ·exact qr7 (by omega))
   have HS:=q6q hst;clear hst HQ;go_wp2_with (first
    |(go_at_call 78;refine(qaz s g j _ (by omega) hj QI.out.lex).mono ?_;rintro e2 w2 ⟨rfl,m2,rfl⟩;rw[HS.out])
    |(go_at_call 43;refine(qaf 5 k _).mono ?_;rintro e5 w5 ⟨rfl,rfl⟩))
   refine⟨rfl,?_,?_⟩
   ·rw[Y.out]
    exact⟨_,rfl,hfs.out,heap_alloc_new _ _⟩
   ·exact((QI.out.fr.drewN _).alloc _)
  ·have hst':qa2 s j=false:=by simpa using hst
   obtain⟨hlt,n10⟩:=qbo hst';have HS:=q6q hst';have hj1:(j:Int)<(s.length:Int):=by omega
   have hj0:(0:Int)≤(j:Int):=by omega
   clear hst hst';by_cases e34:s[j]=34
   ·have Y:=q6q (show qat s k (k+1) []= .ok (acc,j+1) by rw[HQ.out];exact qpx hlt e34)
    have h34:((s[j].toNat:Int)==34)=true:=by rw[e34];rfl
    clear e34 n10 HQ;go_wp2_with (go_at_call 78;refine(qaz s g j _ (by omega) hj QI.out.lex).mono ?_;rintro e2 w2 ⟨rfl,m2,rfl⟩;rw[HS.out])
    go_quiet (fail);go_wp2
    first|go_end0|refine bodyPost_ret (results_none rfl _ _ _) rfl ?_
    have QG:=(QI.out.drewN (m2+nq)).go (j+1) (by omega);refine⟨?_,QG.fr⟩;rw[Y.out];exact⟨rfl,QG.lex,_,_,QG.wd⟩
   have h34:((s[j].toNat:Int)==34)=false:=qpd e34;by_cases e36:s[j]=36
   ·have h36:((s[j].toNat:Int)==36)=true:=by rw[e36];rfl
    cases hv:varB s j with
    |none=>
     have Y:=q6q (show qat s k (k+1) []= .error j by rw[HQ.out];exact qpw hlt e36 hv);have HV:=q6q hv;clear n10 hv HQ e34 e36;go_wp2_with (go_at_call 78;refine(qaz s g j _ (by omega) hj QI.out.lex).mono ?_;rintro e2 w2 ⟨rfl,m2,rfl⟩;rw[HS.out])
     go_quiet (fail);go_wp2_with fail;have QN:=q6q (QI.out.drewN (m2+nq));clear c1 c2 c3 c4 hat QI;generalize hW:wr.drewN (m2+nq)=wz at*;clear hW;obtain⟨b1,b2,b3,b4⟩:=QN.out.wd.blk2.facts;have hfz:=q6q QN.out.fr.size;go_region_dies
     all_goals
      go_at_call 121
      refine(qev s g j _ (by omega) hlt QN.out.drew.lex).mono ?_;rintro e6 w6 ⟨ho6,hf6⟩;rw[HV.out] at ho6;obtain⟨n6,rfl,h6,h7⟩:=ho6;go_wp2;refine⟨rfl,?_,?_⟩
      ·rw[Y.out]
       exact⟨n6,rfl,Nat.le_trans hfz.out h6,h7⟩
      ·exact QN.out.fr.drew.trans (hf6.mono (fun _ _ e=> .inl e))
    |some xn=>
     obtain⟨x,n⟩:=xn;have Y:=q6q (show qat s k (k+1) []=qat s k (j+n) (acc++[.var x j]) by rw[HQ.out];exact qr5 hlt e36 hv);obtain⟨v1,v2,v3,v4⟩:=qds hv;have HV:=q6q hv;clear n10 hv HQ e34 e36;go_wp2_with (go_at_call 78;refine(qaz s g j _ (by omega) hj QI.out.lex).mono ?_;rintro e2 w2 ⟨rfl,m2,rfl⟩;rw[HS.out])
     go_quiet (fail);go_wp2_with fail;have QN:=q6q (QI.out.drewN (m2+nq));have HA:=q6q (show atOf wr g=j from hat.out);clear c1 c2 c3 c4 hat QI;generalize hW:wr.drewN (m2+nq)=wz at*;clear hW;obtain⟨b1,b2,b3,b4⟩:=QN.out.wd.blk2.facts;have htb:=QN.out.tb;have HT:=q6q htb;clear htb;obtain⟨i0,hi0,hz0,hz1,hz2⟩:=info_parts (show(Tryz.prog.info? 186).map (fun i=>(i.zero,i.size,i.bytes))=some (some (.agg #[.string ByteArray.empty,.bool false,.int .i64 0]),3,32) by kernel_rfl);go_region_law (first
      |(refine step_append_lies _ (by rfl) (.tmp 48) (.tmp 51) 125 (by rfl) B qa4 i0 (.agg #[.string ByteArray.empty,.bool false,.int .i64 0]) 3 32 Tryz.underlying125 hi0 hz0 hz1 hz2 (by rfl) (by decide) (.slice ao (qar acc l).length c) (qar acc l).length (pcs (qar acc l)) (by rfl) (WD6.out.alloc _).own ⟨_,0,none⟩ 1 1 [.string (S x),.bool true,.int .i64 j] (by rfl) (by rfl) (qjj _ _ _ _ _ _ (by simp)) (by simp[Value.oneCell']) (by decide) (by have:=HT.out.1;unfold maxLen;omega) (by have:=HT.out.1;omega) (by simp;have:=WD6.out.hB;omega) _ (by rfl) ?_;intro g' c' w7 hown7 hgr7 _ _;obtain⟨k1,k2,k3,k4⟩:=((WD6.out.alloc _).kept hgr7).facts)
      |(go_simp;go_at_call 121;refine(qev s g j _ (by omega) hlt QN.out.drew.lex).mono ?_;rintro e6 w6 ⟨ho6,hf6⟩;rw[HV.out] at ho6;obtain⟨rfl,hlx6⟩:=ho6;obtain⟨b61,b62,b63,b64⟩:=(QN.out.drew.varied hf6).blk2.facts;have hgs6:=(QN.out.drew.varied hf6).blk2.lt;have WD6:=q6q (QN.out.drew.varied hf6);have HF6:=q6q hf6;have HL6:=q6q hlx6;clear hf6 hlx6))
     all_goals
      have PQ:=q6q (QN.out.drew.pushed HF6.out HL6.out _ hgr7 hown7 v4 v1);clear hgr7 hown7 k1 k2 k3 k4;go_wp2;go_roundw
      case rel=>exact⟨acc++[.var x j],j+n,_,_,by omega,v2,Y,by rw[qbz];exact PQ.out⟩
      case measure=>
       rw[HA.out,PQ.out.lex.atOf];omega
   have h36:((s[j].toNat:Int)==36)=false:=qpd e36;by_cases e92:s[j]=92
   ·have h92:((s[j].toNat:Int)==92)=true:=by rw[e92];rfl
    have hw1:IntKind.i64.wrap ((j:Int)+1)=(j:Int)+1:=by rw[IntKind.wrap_i64];omega
    have hw2:(0:Int)≤(j:Int)+1:=by omega
    have hw4:((j:Int)+1).toNat=j+1:=by omega
    by_cases hl1:j+1<s.length
    ·have hne1:((j:Int)+1==(s.length:Int))=false:=by rw[beq_eq_false_iff_ne];omega
     have hw3:(j:Int)+1<(s.length:Int):=by omega
     by_cases hd:s[j+1]=34∨s[j+1]=92∨s[j+1]=36
     ·have Y:=q6q (show qat s k (k+1) []=qat s k (j+2) (acc++[.ch s[j+1]]) by rw[HQ.out];exact qr6 hl1 e92 hd)
      obtain⟨ix,hix⟩:=qn7 s[j+1] hd;have HD:=q6q hix;have hix0:(0:Int)≤(ix:Int):=by omega
      clear e34 e36 e92 n10 HQ hd hix;go_wp2_with (go_at_call 78;refine(qaz s g j _ (by omega) hj QI.out.lex).mono ?_;rintro e2 w2 ⟨rfl,m2,rfl⟩;rw[HS.out])
      go_quiet (fail);go_wp2_with fail;have QN:=q6q (QI.out.drewN (m2+nq));have HA:=q6q (show atOf wr g=j from hat.out);clear c1 c2 c3 c4 hat QI;generalize hW:wr.drewN (m2+nq)=wz at*;clear hW;obtain⟨c1,c2,c3,c4⟩:=QN.out.facts;go_quiet (exact Calls.quiet_of_same (HD.out _));go_wp2_with fail;have QM:=q6q ((QN.out.drewN nq).goV (j+1) (by omega) (v:=(j:Int)+1) (by omega));clear c1 c2 c3 c4 QN;generalize hW:(wz.drewN nq).setCell ⟨g,1,none⟩ (.int .i64 ((j:Int)+1))=wy at*;clear hW;obtain⟨c1,c2,c3,c4⟩:=QM.out.facts;rw[show((j+1:Nat):Int)=(j:Int)+1 by omega] at c2;have htb:=QM.out.tb;have HT:=q6q htb;clear htb
      go_still_tail 10,(by kernel_rfl)
      go_wp2_with (go_at_call 122;refine(qjm B gw _ s[j+1] p c ao _ QM.out.wd.drew (by have:=HT.out.1;omega) (fun q hq=>by have:=HT.out.2 q hq;omega)).mono ?_;rintro e6 w6 ⟨rfl,⟨ao',c',hwd⟩,hf6⟩;have HW6:=q6q hwd;have HF6:=q6q hf6;obtain⟨c1,c2,c3,c4⟩:=((QM.out.drew).added s[j+1] hwd hf6).1.blk2.facts;rw[show((j+1:Nat):Int)=(j:Int)+1 by omega] at c2;clear hwd hf6)
      go_roundw
      case rel=>exact⟨acc++[.ch s[j+1]],j+2,ao',c',by omega,by omega,Y,by rw[qbz];exact(QM.out.drew).addedGoV s[j+1] HW6.out HF6.out (by omega)⟩
      case measure=>
       rw[HA.out,((QM.out.drew).added s[j+1] HW6.out HF6.out).1.atSet (j+2) (by omega)];omega
     ·have Y:=q6q (show qat s k (k+1) []= .error j by rw[HQ.out];exact qj6 hlt e92 (fun _ h=>hd h))
      have HD:=q6q (fun w=>qn8 s[j+1] hd w);clear e34 e36 e92 n10 HQ hd;go_wp2_with (go_at_call 78;refine(qaz s g j _ (by omega) hj QI.out.lex).mono ?_;rintro e2 w2 ⟨rfl,m2,rfl⟩;rw[HS.out])
      go_quiet (fail);go_wp2_with fail;have QN:=q6q (QI.out.drewN (m2+nq));have HA:=q6q (show atOf wr g=j from hat.out);clear c1 c2 c3 c4 hat QI;generalize hW:wr.drewN (m2+nq)=wz at*;clear hW;obtain⟨c1,c2,c3,c4⟩:=QN.out.facts;have hfz:=q6q QN.out.fr.size;go_quiet (exact Calls.quiet_of_same (HD.out _));go_wp2_with (go_at_call 43;refine(qaf 5 j _).mono ?_;rintro e5 w5 ⟨rfl,rfl⟩)
      refine⟨rfl,?_,?_⟩
      ·rw[Y.out]
       exact⟨_,rfl,hfz.out,heap_alloc_new _ _⟩
      ·exact((QN.out.fr.drewN _).alloc _)
    ·have hne1:((j:Int)+1==(s.length:Int))=true:=by rw[beq_iff_eq];omega
     have Y:=q6q (show qat s k (k+1) []= .error j by rw[HQ.out];exact qj6 hlt e92 (fun h1 _=>hl1 h1));clear e34 e36 e92 n10 HQ;go_wp2_with (go_at_call 78;refine(qaz s g j _ (by omega) hj QI.out.lex).mono ?_;rintro e2 w2 ⟨rfl,m2,rfl⟩;rw[HS.out])
     go_quiet (fail);go_wp2_with fail;have QN:=q6q (QI.out.drewN (m2+nq));have HA:=q6q (show atOf wr g=j from hat.out);clear c1 c2 c3 c4 hat QI;generalize hW:wr.drewN (m2+nq)=wz at*;clear hW;obtain⟨c1,c2,c3,c4⟩:=QN.out.facts;have hfz:=q6q QN.out.fr.size;go_quiet (fail);go_wp2_with (go_at_call 43;refine(qaf 5 j _).mono ?_;rintro e5 w5 ⟨rfl,rfl⟩)
     refine⟨rfl,?_,?_⟩
     ·rw[Y.out]
      exact⟨_,rfl,hfz.out,heap_alloc_new _ _⟩
     ·exact((QN.out.fr.drewN _).alloc _)
   have h92:((s[j].toNat:Int)==92)=false:=qpd e92;have Y:=q6q (show qat s k (k+1) []=qat s k (j+1) (acc++[.ch s[j]]) by rw[HQ.out];exact qvk hlt n10 e34 e36 e92);clear e34 e36 e92 n10 HQ;go_wp2_with (go_at_call 78;refine(qaz s g j _ (by omega) hj QI.out.lex).mono ?_;rintro e2 w2 ⟨rfl,m2,rfl⟩;rw[HS.out])
   go_quiet (fail);go_wp2_with fail;have QN:=q6q (QI.out.drewN (m2+nq));have HA:=q6q (show atOf wr g=j from hat.out);clear c1 c2 c3 c4 hat QI;generalize hW:wr.drewN (m2+nq)=wz at*;clear hW;obtain⟨c1,c2,c3,c4⟩:=QN.out.facts;have htb:=QN.out.tb;have HT:=q6q htb;clear htb;go_still_tail 10,(by kernel_rfl)
   go_wp2_with (go_at_call 122;refine(qjm B gw _ s[j] p c ao _ QN.out.wd.drew (by have:=HT.out.1;omega) (fun q hq=>by have:=HT.out.2 q hq;omega)).mono ?_;rintro e6 w6 ⟨rfl,⟨ao',c',hwd⟩,hf6⟩;have HW6:=q6q hwd;have HF6:=q6q hf6;obtain⟨c1,c2,c3,c4⟩:=((QN.out.drew).added s[j] hwd hf6).1.blk2.facts;clear hwd hf6)
   go_roundw
   case rel=>exact⟨acc++[.ch s[j]],j+1,ao',c',by omega,by omega,Y,by rw[qbz];exact(QN.out.drew).addedGo s[j] HW6.out HF6.out 0⟩
   case measure=>
    rw[HA.out,((QN.out.drew).added s[j] HW6.out HF6.out).1.atSet (j+1) (by omega)];omega
def q08(B g i:Nat)(s:List UInt8)(w w':World)(e:Ending):Except Nat (List Atm×Nat)→Prop
 |.error q=>Thrown w w' e 5 q
 |.ok (m,n)=>∃ao c,e= .returned (.agg #[.slice ao (qar m []).length c,.int .i64 i])∧Lex w' g s n∧w'.ownsRow B qa4 3 (.slice ao (qar m []).length c) (qar m []).length (pcs (qar m []))
theorem TB.pieces{l:List PieceG}{n:Nat}(h:TB l n)(hn:10≤n):∀m:List Atm,GoodA m→TB (qar m l) (n+m.length)
 |[],_=>h
 |.ch c::r,g=>by
  have h1:=TB.pieces (h.add c) (by omega) r (fun x p hx=>g x p (List.mem_cons_of_mem _ hx));rw[show n+1+r.length=n+(Atm.ch c::r).length by simp;omega] at h1;exact h1
 |.var x p::r,g=>by
  have h1:=TB.pieces (h.var (x:=x) (by have:=(g x p (by simp)).2;omega) p) (by omega) r (fun x p hx=>g x p (List.mem_cons_of_mem _ hx));rw[show n+1+r.length=n+(Atm.var x p::r).length by simp;omega] at h1;exact h1
theorem Wd.nil(hb:w.heap[gw]? =some (Obj.cells #[.slice none 0 0,.int .i64 p] qbg (0,0)))(hB:B≤w.heap.size)(hg:gw<B):Wd B gw w [] p none 0:=
 ⟨World.ownsRow_nil _ _ _ _,hb,hB,hg⟩
theorem QInv.quoted{m:List Atm}(h:QInv B gw g p s w0 w l j ao c)(hq:qat s j (j+1) []= .ok (m,n))(hl:Lex w' g s n)(hw:Wd B gw w' (qar m l) p ao' c')(hf:Fr (fun b=>b=g∨b=gw∨B≤b) w w'):
 QInv B gw g p s w0 w' (qar m l) n ao' c':=by
 have h1:=qd9 _ _ _ _ _ _ hq;simp only[List.length_nil] at h1;exact⟨hl,hw,h.fr.trans hf,(h.tb.pieces (by omega) m (qj5 _ _ _ _ _ _ hq GoodA.nil)).mono (by omega),h.hg,h.ne⟩
theorem QInv.ends(h:QInv B gw g p s w0 wr l j ao c)(hfr:Fr (fun b=>b=g) w w0)(hg:g<w.heap.size)(hgw:w.heap.size≤gw)(hgr:w.heap.size≤gr)(hB:w.heap.size≤B)(hrB:gr<B)(u v:Value):
 Lex ((wr.setCell ⟨gr,0,none⟩ u).setCell ⟨gr,1,none⟩ v) g s j∧((wr.setCell ⟨gr,0,none⟩ u).setCell ⟨gr,1,none⟩ v).ownsRow w.heap.size qa4 3 (.slice ao l.length c) l.length (pcs l)∧Fr (fun b=>b=g) w ((wr.setCell ⟨gr,0,none⟩ u).setCell ⟨gr,1,none⟩ v):=by
 refine⟨(h.lex.far 0 u (by omega)).far 1 v (by omega),qak (ownsRow_setCell_below (ownsRow_setCell_below h.wd.own (a:=⟨gr,0,none⟩) hrB u) (a:=⟨gr,1,none⟩) hrB v) hB,?_⟩;have h1:Fr (fun b=>b=g) w wr:=⟨h.fr.os.trans hfr.os,h.fr.tape.trans hfr.tape,h.fr.output.trans hfr.output,Nat.le_trans hfr.size h.fr.size,fun k hk hn=>(h.fr.block k (Nat.lt_of_lt_of_le hk hfr.size) (by rintro(e|e|e) <;> first|exact hn e|omega)).trans (hfr.block k hk hn)⟩;exact(h1.setCell (fun e=>by omega) 0 u).setCell (fun e=>by omega) 1 v
theorem QInv.thrown(h:QInv B gw g p s w0 wr l j ao c)(hfr:Fr (fun b=>b=g) w w0)(hgw:w.heap.size≤gw)(hB:w.heap.size≤B):Fr (fun b=>b=g) w wr∧w.heap.size≤wr.heap.size:=
 ⟨⟨h.fr.os.trans hfr.os,h.fr.tape.trans hfr.tape,h.fr.output.trans hfr.output,Nat.le_trans hfr.size h.fr.size,fun k hk hn=>(h.fr.block k (Nat.lt_of_lt_of_le hk hfr.size) (by rintro(e|e|e) <;> first|exact hn e|omega)).trans (hfr.block k hk hn)⟩,Nat.le_trans hfr.size h.fr.size⟩
theorem Fr.transNew{G G':Nat→Prop}{a b c:World}(h:Fr G a b)(k:Fr G' b c)(hG:∀i,i<a.heap.size→G' i→G i):Fr G a c:=
 ⟨k.os.trans h.os,k.tape.trans h.tape,k.output.trans h.output,Nat.le_trans h.size k.size,fun i hi hg=>(k.block i (Nat.lt_of_lt_of_le hi h.size) (fun e=>hg (hG i hi e))).trans (h.block i hi hg)⟩
theorem QInv.resBlk{a b:Value}(h:QInv B gw g p s w0 wr l j ao c)(hb:Blk2 w0 gr a b)(h1:gr≠g)(h2:gr≠gw)(h3:gr<B):Blk2 wr gr a b:=by
 obtain⟨t,hb⟩:=hb;exact⟨t,(h.fr.block gr (q6s hb).1 (by rintro(e|e|e) <;> omega)).trans hb⟩
theorem qix(s:List UInt8)(g i:Nat)(w:World)(hs:s.length≤100000)(hi:i≤s.length)(hx:Lex w g s i):
 Calls Tryz.prog 79 #[.pointer (some ⟨g,0,none⟩)] w fun e w'=>q08 w.heap.size g i s w w' e (qbf s i [])∧Fr (fun b=>b=g) w w':=by
 obtain⟨c1,c2,c3,c4⟩:=hx.blk2.facts;have hgl:=hx.lt;have HX:=q6q hx;have Q0:=q6q (show QInv (w.heap.size+2) (w.heap.size+1) g i s ((w.alloc (.cells #[.slice none 0 0,.int .i64 0] qbg)).alloc (.cells #[.slice none 0 0,.int .i64 i] qbg)) ((w.alloc (.cells #[.slice none 0 0,.int .i64 0] qbg)).alloc (.cells #[.slice none 0 0,.int .i64 i] qbg)) [] i none 0 from
  ⟨(hx.alloc _).alloc _,Wd.nil (qae _ _ _ (by simp)) (by simp) (by omega),Fr.refl _ _,⟨by simp,by simp⟩,by omega,by omega⟩)
 have HR:=q6q ((Blk2.new w (.slice none 0 0) (.int .i64 0) qbg).alloc (.cells #[.slice none 0 0,.int .i64 i] qbg));have HF1:=q6q (((Fr.refl (fun b=>b=g) w).alloc (.cells #[.slice none 0 0,.int .i64 0] qbg)).alloc (.cells #[.slice none 0 0,.int .i64 i] qbg));clear hx;go_enter Tryz.func79,Tryz.ntmps79;go_wp2;generalize hW:(w.alloc (.cells #[.slice none 0 0,.int .i64 0] qbg)).alloc (.cells #[.slice none 0 0,.int .i64 i] qbg)=w1 at*;clear hW c1 c2 c3 c4
 go_loopw [4] (fun _ wr=>∃(acc:List Atm) (j:Nat) (ao:Option Addr) (c:Nat),i≤j∧j≤s.length∧Hid (qbf s i []=qbf s j acc)∧Hid (QInv (w.heap.size+2) (w.heap.size+1) g i s w1 wr (qar acc []) j ao c)) (fun _ wr=>s.length - atOf wr g)
 case atStart=>exact⟨[],i,none,0,by omega,hi,rfl,Q0⟩
 case round=>
  obtain⟨acc,j,ao,c,hij,hj,HQ,QI⟩:=hrel;clear Q0;obtain⟨c1,c2,c3,c4⟩:=QI.out.lex.blk2.facts;have hat:=q6q QI.out.lex.atOf;have hws:w.heap.size+2≤wr.heap.size:=QI.out.wd.hB;by_cases hst:qa2 s j=true
  ·have Y:=q6q (show qbf s i []= .ok (acc,j) by
    rw[HQ.out];by_cases h:j<s.length
    ·exact qft h (.inl (by simpa[qa2,h] using hst))
    ·exact qxp (by omega))
   have HS:=q6q hst;obtain⟨b1,b2,b3,b4⟩:=QI.out.wd.blk2.facts;obtain⟨r1,r2,r3,r4⟩:=(QI.out.resBlk HR.out (by omega) (by omega) (by omega)).facts;clear hst HQ;go_wp2_with (go_at_call 78;refine(qaz s g j _ (by omega) hj QI.out.lex).mono ?_;rintro e2 w2 ⟨rfl,m2,rfl⟩;rw[HS.out])
   have QX:=q6q (QI.out.drewN m2)
   first|go_end0|refine bodyPost_ret (by simp[results,Tryz.results79,go_sem,r1,r2];try rfl) rfl ?_
   obtain⟨x1,x2,x3⟩:=QX.out.ends HF1.out hgl (gr:=w.heap.size) (by omega) (by omega) (by omega) (by omega) (.slice ao (qar acc []).length c) (.int .i64 i);refine⟨?_,x3⟩;rw[Y.out];exact⟨ao,c,rfl,x1,x2⟩
  ·have hst':qa2 s j=false:=by simpa using hst
   obtain⟨hlt,n10⟩:=qbo hst';have HS:=q6q hst';have hj1:(j:Int)<(s.length:Int):=by omega
   have hj0:(0:Int)≤(j:Int):=by omega
   clear hst hst';by_cases hg:qb0 s j=true
   ·have Y:=q6q (show qbf s i []= .ok (acc,j) by rw[HQ.out];exact qft hlt (.inr (.inl hg)))
    have HG:=q6q hg;obtain⟨b1,b2,b3,b4⟩:=QI.out.wd.blk2.facts;obtain⟨r1,r2,r3,r4⟩:=(QI.out.resBlk HR.out (by omega) (by omega) (by omega)).facts;clear hg HQ n10;go_wp2_with (first|(go_at_call 78;refine(qaz s g j _ (by omega) hj QI.out.lex).mono ?_;rintro e2 w2 ⟨rfl,m2,rfl⟩;rw[HS.out])|(go_at_call 119;refine(qbw s g j _ (by omega) hj (QI.out.lex.drewN _)).mono ?_;rintro e3 w3 ⟨rfl,m3,rfl⟩;rw[HG.out]))
    have QX:=q6q (QI.out.drewN (m2+m3))
    first|go_end0|refine bodyPost_ret (by simp[results,Tryz.results79,go_sem,r1,r2];try rfl) rfl ?_
    obtain⟨x1,x2,x3⟩:=QX.out.ends HF1.out hgl (gr:=w.heap.size) (by omega) (by omega) (by omega) (by omega) (.slice ao (qar acc []).length c) (.int .i64 i);refine⟨?_,x3⟩;rw[Y.out];exact⟨ao,c,rfl,x1,x2⟩
   have hg':qb0 s j=false:=by simpa using hg
   have HG:=q6q hg';by_cases e32:s[j]=32
   ·have Y:=q6q (show qbf s i []= .ok (acc,j) by rw[HQ.out];exact qft hlt (.inr (.inr e32)))
    have h32:((s[j].toNat:Int)==32)=true:=by rw[e32];rfl
    clear hg hg' HQ n10 e32;obtain⟨b1,b2,b3,b4⟩:=QI.out.wd.blk2.facts;obtain⟨r1,r2,r3,r4⟩:=(QI.out.resBlk HR.out (by omega) (by omega) (by omega)).facts;go_wp2_with (first|(go_at_call 78;refine(qaz s g j _ (by omega) hj QI.out.lex).mono ?_;rintro e2 w2 ⟨rfl,m2,rfl⟩;rw[HS.out])|(go_at_call 119;refine(qbw s g j _ (by omega) hj (QI.out.lex.drewN _)).mono ?_;rintro e3 w3 ⟨rfl,m3,rfl⟩;rw[HG.out]))
    go_quiet (fail);go_wp2_with fail;have QX:=q6q (QI.out.drewN (m2+m3+nq))
    first|go_end0|refine bodyPost_ret (by simp[results,Tryz.results79,go_sem,r1,r2];try rfl) rfl ?_
    obtain⟨x1,x2,x3⟩:=QX.out.ends HF1.out hgl (gr:=w.heap.size) (by omega) (by omega) (by omega) (by omega) (.slice ao (qar acc []).length c) (.int .i64 i);refine⟨?_,x3⟩;rw[Y.out];exact⟨ao,c,rfl,x1,x2⟩
   have h32:((s[j].toNat:Int)==32)=false:=qpd e32;by_cases e34:s[j]=34
   ·have h34:((s[j].toNat:Int)==34)=true:=by rw[e34];rfl
    cases hq:qat s j (j+1) [] with
    |error q=>
     have Y:=q6q (show qbf s i []= .error q by rw[HQ.out];exact q09 hlt e34 hg' hq);have HV:=q6q hq;clear hg hg' HQ n10 e32 e34 hq;go_wp2_with (first|(go_at_call 78;refine(qaz s g j _ (by omega) hj QI.out.lex).mono ?_;rintro e2 w2 ⟨rfl,m2,rfl⟩;rw[HS.out])|(go_at_call 119;refine(qbw s g j _ (by omega) hj (QI.out.lex.drewN _)).mono ?_;rintro e3 w3 ⟨rfl,m3,rfl⟩;rw[HG.out]))
     go_quiet (fail);go_wp2_with fail;have QN:=q6q (QI.out.drewN (m2+m3+nq));have HA:=q6q (show atOf wr g=j from hat.out);clear c1 c2 c3 c4 hat QI;generalize hW:wr.drewN (m2+m3+nq)=wz at*;clear hW;obtain⟨c1,c2,c3,c4⟩:=QN.out.facts;go_wp2_with (go_at_call 120;refine(qk9 s g j (w.heap.size+2) (w.heap.size+1) i c ao (qar acc []) _ hs hlt QN.out.lex QN.out.wd (by omega) (by omega) QN.out.tb).mono ?_;rintro e6 w6 ⟨ho6,hf6⟩;rw[HV.out] at ho6;obtain⟨n6,rfl,h6,h7⟩:=ho6)
     have hth:=QN.out.thrown HF1.out (by omega) (by omega);refine⟨rfl,?_,?_⟩
     ·rw[Y.out]
      exact⟨n6,rfl,Nat.le_trans hth.2 h6,h7⟩
     ·exact hth.1.transNew hf6 (fun k hk e=>by rcases e with e|e|e <;> first|exact e|omega)
    |ok mn=>
     obtain⟨m,n⟩:=mn;have Y:=q6q (show qbf s i []=qbf s n (acc++m) by rw[HQ.out];exact qxo hlt e34 hg' hq);have HV:=q6q hq;have hql:=qd9 _ _ _ _ _ _ hq;obtain⟨ql1,ql2,_⟩:=hql;clear hg hg' HQ n10 e32 e34 hq;go_wp2_with (first|(go_at_call 78;refine(qaz s g j _ (by omega) hj QI.out.lex).mono ?_;rintro e2 w2 ⟨rfl,m2,rfl⟩;rw[HS.out])|(go_at_call 119;refine(qbw s g j _ (by omega) hj (QI.out.lex.drewN _)).mono ?_;rintro e3 w3 ⟨rfl,m3,rfl⟩;rw[HG.out]))
     go_quiet (fail);go_wp2_with fail;have QN:=q6q (QI.out.drewN (m2+m3+nq));have HA:=q6q (show atOf wr g=j from hat.out);clear c1 c2 c3 c4 hat QI;generalize hW:wr.drewN (m2+m3+nq)=wz at*;clear hW;obtain⟨c1,c2,c3,c4⟩:=QN.out.facts;go_wp2_with (go_at_call 120;refine(qk9 s g j (w.heap.size+2) (w.heap.size+1) i c ao (qar acc []) _ hs hlt QN.out.lex QN.out.wd (by omega) (by omega) QN.out.tb).mono ?_;rintro e6 w6 ⟨ho6,hf6⟩;rw[HV.out] at ho6;obtain⟨rfl,hl6,ao6,c6,hw6⟩:=ho6;have PQ:=q6q (QN.out.quoted HV.out hl6 hw6 hf6);clear hl6 hw6 hf6)
     go_roundw
     case rel=>exact⟨acc++m,n,ao6,c6,by omega,ql2,Y,by rw[qsd];exact PQ.out⟩
     case measure=>
      rw[HA.out,PQ.out.lex.atOf];omega
   have h34:((s[j].toNat:Int)==34)=false:=qpd e34;by_cases e36:s[j]=36
   ·have h36:((s[j].toNat:Int)==36)=true:=by rw[e36];rfl
    cases hv:varB s j with
    |none=>
     have Y:=q6q (show qbf s i []= .error j by rw[HQ.out];exact quq hlt e36 hg' hv);have HV:=q6q hv;clear hg hg' HQ n10 e32 e34 e36 hv;go_wp2_with (first|(go_at_call 78;refine(qaz s g j _ (by omega) hj QI.out.lex).mono ?_;rintro e2 w2 ⟨rfl,m2,rfl⟩;rw[HS.out])|(go_at_call 119;refine(qbw s g j _ (by omega) hj (QI.out.lex.drewN _)).mono ?_;rintro e3 w3 ⟨rfl,m3,rfl⟩;rw[HG.out]))
     go_quiet (fail);go_wp2_with fail;have QN:=q6q (QI.out.drewN (m2+m3+nq));have HA:=q6q (show atOf wr g=j from hat.out);clear c1 c2 c3 c4 hat QI;generalize hW:wr.drewN (m2+m3+nq)=wz at*;clear hW;obtain⟨c1,c2,c3,c4⟩:=QN.out.facts;obtain⟨b1,b2,b3,b4⟩:=QN.out.wd.blk2.facts;have hth:=q6q (QN.out.thrown HF1.out (by omega) (by omega));go_region_dies
     all_goals
      go_at_call 121
      refine(qev s g j _ (by omega) hlt QN.out.drew.lex).mono ?_;rintro e6 w6 ⟨ho6,hf6⟩;rw[HV.out] at ho6;obtain⟨n6,rfl,h6,h7⟩:=ho6;go_wp2;refine⟨rfl,?_,?_⟩
      ·rw[Y.out]
       exact⟨n6,rfl,Nat.le_trans hth.out.2 h6,h7⟩
      ·exact hth.out.1.drew.trans hf6
    |some xn=>
     obtain⟨x,n⟩:=xn;have Y:=q6q (show qbf s i []=qbf s (j+n) (acc++[.var x j]) by rw[HQ.out];exact qo9 hlt e36 hg' hv);obtain⟨v1,v2,v3,v4⟩:=qds hv;have HV:=q6q hv;clear hg hg' HQ n10 e32 e34 e36 hv;go_wp2_with (first|(go_at_call 78;refine(qaz s g j _ (by omega) hj QI.out.lex).mono ?_;rintro e2 w2 ⟨rfl,m2,rfl⟩;rw[HS.out])|(go_at_call 119;refine(qbw s g j _ (by omega) hj (QI.out.lex.drewN _)).mono ?_;rintro e3 w3 ⟨rfl,m3,rfl⟩;rw[HG.out]))
     go_quiet (fail);go_wp2_with fail;have QN:=q6q (QI.out.drewN (m2+m3+nq));have HA:=q6q (show atOf wr g=j from hat.out);clear c1 c2 c3 c4 hat QI;generalize hW:wr.drewN (m2+m3+nq)=wz at*;clear hW;obtain⟨c1,c2,c3,c4⟩:=QN.out.facts;obtain⟨b1,b2,b3,b4⟩:=QN.out.wd.blk2.facts;have htb:=QN.out.tb;have HT:=q6q htb;clear htb;obtain⟨i0,hi0,hz0,hz1,hz2⟩:=info_parts (show(Tryz.prog.info? 186).map (fun i=>(i.zero,i.size,i.bytes))=some (some (.agg #[.string ByteArray.empty,.bool false,.int .i64 0]),3,32) by kernel_rfl);go_region_law (first
      |(refine step_append_lies _ (by rfl) (.tmp 40) (.tmp 43) 125 (by rfl) (w.heap.size+2) qa4 i0 (.agg #[.string ByteArray.empty,.bool false,.int .i64 0]) 3 32 Tryz.underlying125 hi0 hz0 hz1 hz2 (by rfl) (by decide) (.slice ao (qar acc []).length c) (qar acc []).length (pcs (qar acc [])) (by rfl) (WD6.out.alloc _).own ⟨_,0,none⟩ 1 1 [.string (S x),.bool true,.int .i64 j] (by rfl) (by rfl) (qjj _ _ _ _ _ _ (by simp)) (by simp[Value.oneCell']) (by decide) (by have:=HT.out.1;unfold maxLen;omega) (by have:=HT.out.1;omega) (by simp;have:=WD6.out.hB;omega) _ (by rfl) ?_;intro g' c' w7 hown7 hgr7 _ _;obtain⟨k1,k2,k3,k4⟩:=((WD6.out.alloc _).kept hgr7).facts)
      |(go_simp;go_at_call 121;refine(qev s g j _ (by omega) hlt QN.out.drew.lex).mono ?_;rintro e6 w6 ⟨ho6,hf6⟩;rw[HV.out] at ho6;obtain⟨rfl,hlx6⟩:=ho6;obtain⟨b61,b62,b63,b64⟩:=(QN.out.drew.varied hf6).blk2.facts;have hgs6:=(QN.out.drew.varied hf6).blk2.lt;have WD6:=q6q (QN.out.drew.varied hf6);have HF6:=q6q hf6;have HL6:=q6q hlx6;clear hf6 hlx6))
     all_goals
      have PQ:=q6q (QN.out.drew.pushed HF6.out HL6.out _ hgr7 hown7 v4 v1);clear hgr7 hown7 k1 k2 k3 k4;go_wp2;go_roundw
      case rel=>exact⟨acc++[.var x j],j+n,_,_,by omega,v2,Y,by rw[qbz];exact PQ.out⟩
      case measure=>
       rw[HA.out,PQ.out.lex.atOf];omega
   have h36:((s[j].toNat:Int)==36)=false:=qpd e36;by_cases e92:s[j]=92
   ·have h92:((s[j].toNat:Int)==92)=true:=by rw[e92];rfl
    have hw1:IntKind.i64.wrap ((j:Int)+1)=(j:Int)+1:=by rw[IntKind.wrap_i64];omega
    by_cases hl1:j+1<s.length
    ·have n10':s[j+1]≠10:=by
      intro e;apply hg;simp[qb0,List.getElem?_eq_getElem hlt,List.getElem?_eq_getElem hl1,e92,e]
     have Y:=q6q (show qbf s i []=qbf s (j+2) (acc++[.ch s[j+1]]) by rw[HQ.out];exact qpa hl1 e92 hg');have HS1:=q6q (show qa2 s (j+1)=false by simp[qa2,hl1,n10']);have hw2:(0:Int)≤(j:Int)+1:=by omega
     have hw3:(j:Int)+1<(s.length:Int):=by omega
     have hw4:((j:Int)+1).toNat=j+1:=by omega
     clear hg hg' HQ n10 n10' e32 e34 e36 e92;go_wp2_with (first|(go_at_call 78;refine(qaz s g j _ (by omega) hj QI.out.lex).mono ?_;rintro e2 w2 ⟨rfl,m2,rfl⟩;rw[HS.out])|(go_at_call 119;refine(qbw s g j _ (by omega) hj (QI.out.lex.drewN _)).mono ?_;rintro e3 w3 ⟨rfl,m3,rfl⟩;rw[HG.out]))
     go_quiet (fail);go_wp2_with fail;have QN:=q6q (QI.out.drewN (m2+m3+nq));have HA:=q6q (show atOf wr g=j from hat.out);clear c1 c2 c3 c4 hat QI;generalize hW:wr.drewN (m2+m3+nq)=wz at*;clear hW;obtain⟨c1,c2,c3,c4⟩:=QN.out.facts;have QM:=q6q (QN.out.goV (j+1) (by omega) (v:=(j:Int)+1) (by omega));go_wp2_with (go_at_call 78;refine(qaz s g (j+1) _ (by omega) (by omega) QM.out.lex).mono ?_;rintro e8 w8 ⟨rfl,m8,rfl⟩;rw[HS1.out])
     have QP:=q6q (QM.out.drewN m8);clear c1 c2 c3 c4 QM QN;generalize hW:(wz.setCell ⟨g,1,none⟩ (.int .i64 ((j:Int)+1))).drewN m8=wy at*;clear hW;obtain⟨c1,c2,c3,c4⟩:=QP.out.facts;rw[show((j+1:Nat):Int)=(j:Int)+1 by omega] at c2;have htb:=QP.out.tb;have HT:=q6q htb;clear htb;go_still_tail 9,(by kernel_rfl)
     go_wp2_with (go_at_call 122;refine(qjm (w.heap.size+2) (w.heap.size+1) _ s[j+1] i c ao _ QP.out.wd.drew (by have:=HT.out.1;omega) (fun q hq=>by have:=HT.out.2 q hq;omega)).mono ?_;rintro e6 w6 ⟨rfl,⟨ao',c',hwd⟩,hf6⟩;have HW6:=q6q hwd;have HF6:=q6q hf6;obtain⟨c1,c2,c3,c4⟩:=((QP.out.drew).added s[j+1] hwd hf6).1.blk2.facts;rw[show((j+1:Nat):Int)=(j:Int)+1 by omega] at c2;clear hwd hf6)
     go_roundw
     case rel=>exact⟨acc++[.ch s[j+1]],j+2,ao',c',by omega,by omega,Y,by rw[qbz];exact(QP.out.drew).addedGoV s[j+1] HW6.out HF6.out (by omega)⟩
     case measure=>
      rw[HA.out,((QP.out.drew).added s[j+1] HW6.out HF6.out).1.atSet (j+2) (by omega)];omega
    ·have Y:=q6q (show qbf s i []= .error j by rw[HQ.out];exact qus hlt e92 hg' (by omega))
     have HS1:=q6q (show qa2 s (j+1)=true by simp[qa2,hl1]);clear hg hg' HQ n10 e32 e34 e36 e92;go_wp2_with (first|(go_at_call 78;refine(qaz s g j _ (by omega) hj QI.out.lex).mono ?_;rintro e2 w2 ⟨rfl,m2,rfl⟩;rw[HS.out])|(go_at_call 119;refine(qbw s g j _ (by omega) hj (QI.out.lex.drewN _)).mono ?_;rintro e3 w3 ⟨rfl,m3,rfl⟩;rw[HG.out]))
     go_quiet (fail);go_wp2_with fail;have QN:=q6q (QI.out.drewN (m2+m3+nq));have HA:=q6q (show atOf wr g=j from hat.out);clear c1 c2 c3 c4 hat QI;generalize hW:wr.drewN (m2+m3+nq)=wz at*;clear hW;obtain⟨c1,c2,c3,c4⟩:=QN.out.facts;have QM:=q6q (QN.out.goV (j+1) (by omega) (v:=(j:Int)+1) (by omega));go_wp2_with (first|(go_at_call 78;refine(qaz s g (j+1) _ (by omega) (by omega) QM.out.lex).mono ?_;rintro e8 w8 ⟨rfl,m8,rfl⟩;rw[HS1.out])|(go_at_call 43;refine(qaf 5 j _).mono ?_;rintro e5 w5 ⟨rfl,rfl⟩))
     have hth:=QN.out.thrown HF1.out (by omega) (by omega);refine⟨rfl,?_,?_⟩
     ·rw[Y.out]
      exact⟨_,rfl,hth.2,qae _ _ _ (by simp)⟩
     ·exact(((hth.1.setCell (fun _=>rfl) _ _).drewN _).alloc _)
   have h92:((s[j].toNat:Int)==92)=false:=qpd e92;have Y:=q6q (show qbf s i []=qbf s (j+1) (acc++[.ch s[j]]) by rw[HQ.out];exact qti hlt n10 e32 hg' e34 e36 e92);clear hg hg' HQ n10 e32 e34 e36 e92;go_wp2_with (first|(go_at_call 78;refine(qaz s g j _ (by omega) hj QI.out.lex).mono ?_;rintro e2 w2 ⟨rfl,m2,rfl⟩;rw[HS.out])|(go_at_call 119;refine(qbw s g j _ (by omega) hj (QI.out.lex.drewN _)).mono ?_;rintro e3 w3 ⟨rfl,m3,rfl⟩;rw[HG.out]))
   go_quiet (fail);go_wp2_with fail;have QN:=q6q (QI.out.drewN (m2+m3+nq));have HA:=q6q (show atOf wr g=j from hat.out);clear c1 c2 c3 c4 hat QI;generalize hW:wr.drewN (m2+m3+nq)=wz at*;clear hW;obtain⟨c1,c2,c3,c4⟩:=QN.out.facts;have htb:=QN.out.tb;have HT:=q6q htb;clear htb;go_still_tail 9,(by kernel_rfl)
   go_wp2_with (go_at_call 122;refine(qjm (w.heap.size+2) (w.heap.size+1) _ s[j] i c ao _ QN.out.wd.drew (by have:=HT.out.1;omega) (fun q hq=>by have:=HT.out.2 q hq;omega)).mono ?_;rintro e6 w6 ⟨rfl,⟨ao',c',hwd⟩,hf6⟩;have HW6:=q6q hwd;have HF6:=q6q hf6;obtain⟨c1,c2,c3,c4⟩:=((QN.out.drew).added s[j] hwd hf6).1.blk2.facts;clear hwd hf6)
   go_roundw
   case rel=>exact⟨acc++[.ch s[j]],j+1,ao',c',by omega,by omega,Y,by rw[qbz];exact(QN.out.drew).addedGo s[j] HW6.out HF6.out 0⟩
   case measure=>
    rw[HA.out,((QN.out.drew).added s[j] HW6.out HF6.out).1.atSet (j+1) (by omega)];omega
theorem qj1(s:List UInt8)(k:Nat)(hk:k≤s.length):k≤qbk s k∧qbk s k≤s.length∧s[qbk s k]?≠some 32∧qb0 s (qbk s k)=false:=by
 induction hm:s.length - k using Nat.strongRecOn generalizing k with
 |ind m ih=>
  by_cases h:k<s.length
  ·by_cases c:s[k]=32
   ·rw[qgs h c]
    have:=ih (s.length - (k+1)) (by omega) (k+1) (by omega) rfl;exact⟨by omega,this.2⟩
   ·cases g:qb0 s k
    ·have hne:s[k]?≠some 32:=by rw[List.getElem?_eq_getElem h];intro e;exact c (Option.some.inj e)
     rw[qdo hne g];exact⟨Nat.le_refl _,hk,hne,g⟩
    ·obtain⟨g1,_⟩:=qgo g
     rw[qhq g];have:=ih (s.length - (k+2)) (by omega) (k+2) (by omega) rfl;exact⟨by omega,this.2⟩
  ·have hn:s[k]? =none:=List.getElem?_eq_none (by omega)
   have g:qb0 s k=false:=by simp[qb0,hn]
   rw[qdo (by rw[hn];simp) g];exact⟨Nat.le_refl _,hk,by rw[hn];simp,g⟩
theorem qhj(s:List UInt8)(k:Nat)(hk:k≤s.length)(acc:List WordG):qbq s k acc=qbq s (qbk s k) acc:=by
 induction hm:s.length - k using Nat.strongRecOn generalizing k with
 |ind m ih=>
  by_cases h:k<s.length
  ·by_cases c:s[k]=32
   ·have hst:qa2 s k=false:=by simp[qa2,h,c]
    have g:qb0 s k=false:=by simp[qb0,h,c]
    rw[qgs h c,qfb hst g (by rw[List.getElem?_eq_getElem h,c])];exact ih (s.length - (k+1)) (by omega) (k+1) (by omega) rfl
   ·cases g:qb0 s k
    ·have hne:s[k]?≠some 32:=by rw[List.getElem?_eq_getElem h];intro e;exact c (Option.some.inj e)
     rw[qdo hne g]
    ·obtain⟨g1,g2,_⟩:=qgo g
     have hst:qa2 s k=false:=by simp[qa2,g2]
     rw[qhq g,qhz hst g];exact ih (s.length - (k+2)) (by omega) (k+2) (by omega) rfl
  ·have hn:s[k]? =none:=List.getElem?_eq_none (by omega)
   rw[qdo (by rw[hn];simp) (by simp[qb0,hn])]
def q2t(B g:Nat)(s:List UInt8)(w w':World)(e:Ending):Except Nat (List WordG×Nat)→Prop
 |.error q=>Thrown w w' e 5 q
 |.ok (ws,n)=>∃A c cs,e= .returned (.slice A ws.length c)∧Lex w' g s n∧w'.ownsRow B qbg 2 (.slice A ws.length c) ws.length cs∧FWordCells w' ws cs
structure LGInv(B g:Nat)(s:List UInt8)(w0 w:World)(acc:List WordG)(j:Nat)(A:Option Addr)(c:Nat):Prop where
 lex:Lex w g s j
 row:∃cs,w.ownsRow B qbg 2 (.slice A acc.length c) acc.length cs∧FWordCells w acc cs
 fr:Fr (fun b=>b=g∨B≤b) w0 w
 hg:g<B
 hB:B≤w.heap.size
theorem Fr.keepLex(hf:Fr (fun b=>b=g) w w')(hx:Lex w g s j){T:TypeId}(hT:T≠tLex):KeepT T w w':=by
 refine hf.keepT (fun b cur fz e1 e2=>?_);have h1:=hx;unfold Lex at h1;rw[e1,h1] at e2;simp only[Option.some.injEq,Obj.cells.injEq] at e2;exact hT e2.2.1.symm
theorem LGInv.lexed{acc:List WordG}(h:LGInv B g s w0 w acc j A c)(hf:Fr (fun b=>b=g) w w')(hx:Lex w' g s n):LGInv B g s w0 w' acc n A c:=by
 obtain⟨cs,h1,h2⟩:=h.row;exact⟨hx,⟨cs,qao h1 (hf.keepLex h.lex (by decide)),h2.keep (hf.keepLex h.lex (by decide))⟩,h.fr.trans (hf.mono (fun _ _ e=> .inl e)),h.hg,Nat.le_trans h.hB hf.size⟩
theorem LGInv.drewN{acc:List WordG}(h:LGInv B g s w0 w acc j A c)(n:Nat):LGInv B g s w0 (w.drewN n) acc j A c:=
 h.lexed ((Fr.refl _ w).drewN n) (h.lex.drewN n)
theorem LGInv.go{acc:List WordG}(h:LGInv B g s w0 w acc j A c)(m:Nat)(hv:v=(m:Int)):LGInv B g s w0 (w.setCell ⟨g,1,none⟩ (.int .i64 v)) acc m A c:=by
 subst hv;exact h.lexed ((Fr.refl (fun b=>b=g) w).setCell (fun _=>rfl) _ _) (h.lex.set m)
theorem LGInv.push{acc:List WordG}{A' a:Option Addr}{d:Nat}{y:WordG}{cs:List Value}(h:LGInv B g s w0 w acc j A c)(hf:Fr (fun b=>b=g) w w6)(hl:Lex w6 g s n)
 (hy:w6.ownsRow k qa4 3 (.slice a y.pl.length d) y.pl.length (pcs y.pl))(o:Obj)(hcs:w.ownsRow B qbg 2 (.slice A acc.length c) acc.length cs)(hwc:FWordCells w acc cs)
 (hgr:(w6.alloc o).grownBy w7 (Value.slice A acc.length c).ownBlock)(hown:w7.ownsRow B qbg 2 (.slice A' (acc.length+1) c') (acc.length+1) (cs++[.slice a y.pl.length d,.int .i64 y.at_])):
 LGInv B g s w0 w7 (acc++[y]) n A' c':=by
 have hb:Below w6.heap.size w6 (w6.alloc o):=(Below.refl _ _).alloc (Nat.le_refl _) o;have h6:=(h.lexed hf hl);have hcs6:=qao hcs (hf.keepLex h.lex (by decide));have hwc6:=hwc.keep (hf.keepLex h.lex (by decide));have hown6:=qac hcs6 hb;have hk:KeepT qa4 w6 w7:=(KeepT.below hb).trans (KeepT.grown hgr hown6 (by decide));have hg:=h.hg;refine⟨?_,⟨cs++[.slice a y.pl.length d,.int .i64 y.at_],?_,(hwc6.keep hk).app (qak (qao hy hk) (Nat.zero_le _))⟩,?_,hg,Nat.le_trans h6.hB (Nat.le_trans hb.size hgr.size)⟩
 ·have hlx:=hl.alloc o
  exact(hgr.block g (q6s hlx).1 (qm4 hown6 hg)).trans hlx
 ·rw[List.length_append];exact hown
 ·exact(h6.fr.alloc o).grown hgr (fun k hk _=> .inr (qek hown6 k hk))
theorem qi7(s:List UInt8)(g i:Nat)(w:World)(hs:s.length≤100000)(hi:i≤s.length)(hx:Lex w g s i):
 Calls Tryz.prog 44 #[.pointer (some ⟨g,0,none⟩)] w fun e w'=>q2t w.heap.size g s w w' e (qbq s i [])∧Fr (fun b=>b=g) w w':=by
 have hgl:=hx.lt;have HX:=q6q hx;have L0:=q6q (show LGInv w.heap.size g s w w [] i none 0 from⟨hx,⟨[],World.ownsRow_nil _ _ _ _,rfl⟩,Fr.refl _ _,hgl,Nat.le_refl _⟩);clear hx;go_enter Tryz.func44,Tryz.ntmps44;go_wp2_with (go_at_call 77;refine(qit s g i _ (by omega) hi HX.out).mono ?_;rintro e1 w1 ⟨rfl,hl1,hf1⟩;have L1:=q6q (L0.out.lexed hf1 hl1);clear hl1 hf1)
 have hbl:=qj1 s i hi;have HLB:=q6q (qhj s i hi []);obtain⟨bl1,bl2,bl3,bl4⟩:=hbl;go_loopw [2] (fun v wr=>∃(acc:List WordG) (j:Nat) (A:Option Addr) (c:Nat),v= .slice A acc.length c∧j≤s.length∧acc.length≤j∧Hid (s[j]?≠some 32∧qb0 s j=false)∧Hid (qbq s i []=qbq s j acc)∧Hid (LGInv w.heap.size g s w wr acc j A c)) (fun _ wr=>s.length - atOf wr g)
 case atStart=>exact⟨[],_,none,0,rfl,bl2,by simp,⟨bl3,bl4⟩,HLB,L1⟩
 case round=>
  obtain⟨acc,j,A,c,rfl,hj,haj,HB,HQ,LI⟩:=hrel;clear L0 L1 HLB bl1 bl2 bl3 bl4;have hat:=q6q LI.out.lex.atOf;obtain⟨c1,c2,c3,c4⟩:=LI.out.lex.blk2.facts;by_cases hst:qa2 s j=true
  ·have Y:=q6q (show qbq s i []= .ok (acc,j+1) by rw[HQ.out];exact qf6 hst)
   have HS:=q6q hst;clear hst HQ;go_wp2_with (go_at_call 78;refine(qaz s g j _ (by omega) hj LI.out.lex).mono ?_;rintro e2 w2 ⟨rfl,m2,rfl⟩;rw[HS.out])
   have LX:=(LI.out.drewN m2).go (j+1) (v:=(j:Int)+1) (by omega);go_ret;refine⟨?_,(LX.fr.mono (fun k hk e=>by rcases e with e|e <;> first|exact e|omega))⟩;rw[Y.out];obtain⟨cs,h1,h2⟩:=LX.row;exact⟨A,c,cs,rfl,LX.lex,h1,h2⟩
  ·have hst':qa2 s j=false:=by simpa using hst
   obtain⟨hlt,n10⟩:=qbo hst';have HS:=q6q hst';have hj1:(j:Int)<(s.length:Int):=by omega
   have hj0:(0:Int)≤(j:Int):=by omega
   clear hst;by_cases h0:acc=[]
   ·subst h0
    by_cases e35:s[j]=35
    ·have Y:=q6q (show qbq s i []= .ok ([],qb6 s j+1) by rw[HQ.out];exact qex hst' HB.out.2 (by rw[List.getElem?_eq_getElem hlt,e35]))
     have h35:((s[j].toNat:Int)==35)=true:=by rw[e35];rfl
     clear e35 n10 hst' HQ;go_wp2_with (go_at_call 78;refine(qaz s g j _ (by omega) hj LI.out.lex).mono ?_;rintro e2 w2 ⟨rfl,m2,rfl⟩;rw[HS.out])
     go_quiet (fail);go_wp2_with fail;have LN:=q6q ((LI.out.drewN m2).drewN nq);have HA:=q6q (show atOf wr g=j from hat.out);clear c1 c2 c3 c4 hat LI;generalize hW:(wr.drewN m2).drewN nq=wz at*;clear hW;go_loopw [25] (fun _ wr=>∃j2:Nat,j2≤s.length∧Hid (qb6 s j=qb6 s j2)∧Hid (LGInv w.heap.size g s w wr [] j2 A c)) (fun _ wr=>s.length - atOf wr g)
     case atStart=>exact⟨j,hj,rfl,LN⟩
     case round=>
      obtain⟨j2,hj2,HC,LI2⟩:=hrel;clear LN HA;obtain⟨c1,c2,c3,c4⟩:=LI2.out.lex.blk2.facts;have hat:=q6q LI2.out.lex.atOf;by_cases hst:qa2 s j2=true
      ·have HS:=q6q hst
       have Y2:=q6q (show qb6 s j=j2 by rw[HC.out];exact qjh hst);clear hst;go_wp2_with (go_at_call 78;refine(qaz s g j2 _ (by omega) hj2 LI2.out.lex).mono ?_;rintro e2 w2 ⟨rfl,m2,rfl⟩;rw[HS.out])
       have LX:=(LI2.out.drewN m2).go (j2+1) (v:=(j2:Int)+1) (by omega);go_ret;refine⟨?_,(LX.fr.mono (fun k hk e=>by rcases e with e|e <;> first|exact e|omega))⟩;rw[Y.out,Y2.out];obtain⟨cs,h1,h2⟩:=LX.row;exact⟨A,c,cs,rfl,LX.lex,h1,h2⟩
      ·have hst':qa2 s j2=false:=by simpa using hst
       obtain⟨hlt2,_⟩:=qbo hst';have HS:=q6q hst';have Y2:=q6q (show qb6 s j=qb6 s (j2+1) by rw[HC.out];exact ql8 hst');clear hst hst';go_wp2_with (go_at_call 78;refine(qaz s g j2 _ (by omega) hj2 LI2.out.lex).mono ?_;rintro e2 w2 ⟨rfl,m2,rfl⟩;rw[HS.out])
       have LX:=q6q ((LI2.out.drewN m2).go (j2+1) (v:=(j2:Int)+1) (by omega));go_roundw
       case rel=>exact⟨j2+1,by omega,Y2,LX⟩
       case measure=>
        rw[hat.out,LX.out.lex.atOf];omega
    ·have h35:((s[j].toNat:Int)==35)=false:=qpd e35
     have HD:=q6q e35;clear e35;cases hw:qbf s j [] with
     |error p=>
      have Y:=q6q (show qbq s i []= .error p by rw[HQ.out];exact qfa hst' HB.out.2 HB.out.1 (by rintro⟨e,_⟩;rw[List.getElem?_eq_getElem hlt] at e;exact HD.out (Option.some.inj e)) hw);have HV:=q6q hw;clear HQ n10 hst' hw;go_wp2_with (go_at_call 78;refine(qaz s g j _ (by omega) hj LI.out.lex).mono ?_;rintro e2 w2 ⟨rfl,m2,rfl⟩;rw[HS.out])
      go_quiet (fail);go_wp2_with fail;have LN:=q6q (LI.out.drewN (m2+nq));have HA:=q6q (show atOf wr g=j from hat.out);clear c1 c2 c3 c4 hat LI;generalize hW:wr.drewN (m2+nq)=wz at*;clear hW;have hsz:=LN.out.hB;go_wp2_with (go_at_call 79;refine(qix s g j _ hs hj LN.out.lex).mono ?_;rintro e6 w6 ⟨ho6,hf6⟩;rw[HV.out] at ho6;obtain⟨n6,rfl,h6,h7⟩:=ho6)
      refine⟨rfl,?_,?_⟩
      ·rw[Y.out]
       exact⟨n6,rfl,Nat.le_trans hsz h6,h7⟩
      ·exact(LN.out.fr.mono (fun k hk e=>by rcases e with e|e <;> first|exact e|omega)).trans hf6
     |ok ln=>
      obtain⟨l,n⟩:=ln;have hwm:=qd6 s j [] l n hw hlt n10 (by intro e;apply HB.out.1;rw[List.getElem?_eq_getElem hlt,e]) HB.out.2;have hwl:=qfh s j [] l n hw hj;have hnl:n≤s.length:=hwl.2.1;have hbl:=qj1 s n hnl;have HBL:=q6q hbl;have hbn:=hbl.1;have hbs:=hbl.2.1;have Y:=q6q (show qbq s i []=qbq s (qbk s n) ([]++[⟨l,j⟩]) by rw[HQ.out,qed hst' HB.out.2 HB.out.1 (by rintro⟨e,_⟩;rw[List.getElem?_eq_getElem hlt] at e;exact HD.out (Option.some.inj e)) hw];exact qhj s n hnl _);have HV:=q6q hw;clear HQ n10 hst' hw hbl hwl;go_wp2_with (go_at_call 78;refine(qaz s g j _ (by omega) hj LI.out.lex).mono ?_;rintro e2 w2 ⟨rfl,m2,rfl⟩;rw[HS.out])
      go_quiet (fail);go_wp2_with fail;have LN:=q6q (LI.out.drewN (m2+nq));have HA:=q6q (show atOf wr g=j from hat.out);clear c1 c2 c3 c4 hat LI;generalize hW:wr.drewN (m2+nq)=wz at*;clear hW;obtain⟨cs,hcs,hwc⟩:=LN.out.row;have HCS:=q6q hcs;have HWC:=q6q hwc;have hsz:=LN.out.hB;clear hcs hwc;obtain⟨i0,hi0,hz0,hz1,hz2⟩:=info_parts (show(Tryz.prog.info? 127).map (fun i=>(i.zero,i.size,i.bytes))=some (some (.agg #[.slice none 0 0,.int .i64 0]),2,32) by kernel_rfl);go_wp2_with (first
       |(go_at_call 79;refine(qix s g j _ hs hj LN.out.lex).mono ?_;rintro e6 w6 ⟨ho6,hf6⟩;rw[HV.out] at ho6;obtain⟨aw,cw,rfl,hl6,hw6⟩:=ho6;have hs6:=hf6.size;have HR6:=q6q (qao HCS.out (hf6.keepLex LN.out.lex (by decide)));have HF6:=q6q hf6;have HL6:=q6q hl6;have HW6:=q6q hw6;clear hf6 hl6 hw6)
       |(at_builtin;refine wpList_append_own _ rfl _ _ 109 rfl w.heap.size qbg i0 (.agg #[.slice none 0 0,.int .i64 0]) 2 32 Tryz.underlying109 hi0 hz0 hz1 hz2 rfl (by decide) _ _ _ rfl (qac HR6.out ((Below.refl _ _).alloc (Nat.le_refl _) _)) ⟨_,0,none⟩ 1 1 [.slice aw (qar l []).length cw,.int .i64 j] rfl rfl (qq6 _ _ _ _ _ (by simp)) (by simp[Value.oneCell']) (by unfold maxLen;omega) (by omega) (by simp;omega) ?_;intro v' w7 hown7 hgr7 _;obtain⟨A',c',rfl⟩:=qad hown7;have PL:=q6q (LN.out.push (y:=⟨l,j⟩) HF6.out HL6.out HW6.out _ HCS.out HWC.out hgr7 hown7);clear hown7 hgr7)
       |(go_at_call 77;refine(qit s g n _ (by omega) hnl PL.out.lex).mono ?_;rintro e8 w8 ⟨rfl,hl8,hf8⟩;have PL8:=q6q (PL.out.lexed hf8 hl8);clear hl8 hf8))
      go_roundw
      case rel=>exact⟨[]++[⟨l,j⟩],qbk s n,A',c',by rw[List.length_append];rfl,hbs,by rw[List.length_append,List.length_singleton];omega,⟨HBL.out.2.2.1,HBL.out.2.2.2⟩,Y,PL8⟩
      case measure=>
       rw[HA.out,PL8.out.lex.atOf];omega
   ·have hl0:((acc.length:Int)==0)=false:=by
     rw[beq_eq_false_iff_ne];intro e;exact h0 (List.eq_nil_of_length_eq_zero (by omega))
    have HD:=q6q h0;clear h0;cases hw:qbf s j [] with
    |error p=>
     have Y:=q6q (show qbq s i []= .error p by rw[HQ.out];exact qfa hst' HB.out.2 HB.out.1 (by rintro⟨_,e⟩;exact HD.out e) hw);have HV:=q6q hw;clear HQ n10 hst' hw;go_wp2_with (go_at_call 78;refine(qaz s g j _ (by omega) hj LI.out.lex).mono ?_;rintro e2 w2 ⟨rfl,m2,rfl⟩;rw[HS.out])
     go_quiet (fail);go_wp2_with fail;have LN:=q6q (LI.out.drewN (m2+nq));have HA:=q6q (show atOf wr g=j from hat.out);clear c1 c2 c3 c4 hat LI;generalize hW:wr.drewN (m2+nq)=wz at*;clear hW;have hsz:=LN.out.hB;go_wp2_with (go_at_call 79;refine(qix s g j _ hs hj LN.out.lex).mono ?_;rintro e6 w6 ⟨ho6,hf6⟩;rw[HV.out] at ho6;obtain⟨n6,rfl,h6,h7⟩:=ho6)
     refine⟨rfl,?_,?_⟩
     ·rw[Y.out]
      exact⟨n6,rfl,Nat.le_trans hsz h6,h7⟩
     ·exact(LN.out.fr.mono (fun k hk e=>by rcases e with e|e <;> first|exact e|omega)).trans hf6
    |ok ln=>
     obtain⟨l,n⟩:=ln;have hwm:=qd6 s j [] l n hw hlt n10 (by intro e;apply HB.out.1;rw[List.getElem?_eq_getElem hlt,e]) HB.out.2;have hwl:=qfh s j [] l n hw hj;have hnl:n≤s.length:=hwl.2.1;have hbl:=qj1 s n hnl;have HBL:=q6q hbl;have hbn:=hbl.1;have hbs:=hbl.2.1;have Y:=q6q (show qbq s i []=qbq s (qbk s n) (acc++[⟨l,j⟩]) by rw[HQ.out,qed hst' HB.out.2 HB.out.1 (by rintro⟨_,e⟩;exact HD.out e) hw];exact qhj s n hnl _);have HV:=q6q hw;clear HQ n10 hst' hw hbl hwl;go_wp2_with (go_at_call 78;refine(qaz s g j _ (by omega) hj LI.out.lex).mono ?_;rintro e2 w2 ⟨rfl,m2,rfl⟩;rw[HS.out])
     go_quiet (fail);go_wp2_with fail;have LN:=q6q (LI.out.drewN (m2+nq));have HA:=q6q (show atOf wr g=j from hat.out);clear c1 c2 c3 c4 hat LI;generalize hW:wr.drewN (m2+nq)=wz at*;clear hW;obtain⟨cs,hcs,hwc⟩:=LN.out.row;have HCS:=q6q hcs;have HWC:=q6q hwc;have hsz:=LN.out.hB;clear hcs hwc;obtain⟨i0,hi0,hz0,hz1,hz2⟩:=info_parts (show(Tryz.prog.info? 127).map (fun i=>(i.zero,i.size,i.bytes))=some (some (.agg #[.slice none 0 0,.int .i64 0]),2,32) by kernel_rfl);go_wp2_with (first
      |(go_at_call 79;refine(qix s g j _ hs hj LN.out.lex).mono ?_;rintro e6 w6 ⟨ho6,hf6⟩;rw[HV.out] at ho6;obtain⟨aw,cw,rfl,hl6,hw6⟩:=ho6;have hs6:=hf6.size;have HR6:=q6q (qao HCS.out (hf6.keepLex LN.out.lex (by decide)));have HF6:=q6q hf6;have HL6:=q6q hl6;have HW6:=q6q hw6;clear hf6 hl6 hw6)
      |(at_builtin;refine wpList_append_own _ rfl _ _ 109 rfl w.heap.size qbg i0 (.agg #[.slice none 0 0,.int .i64 0]) 2 32 Tryz.underlying109 hi0 hz0 hz1 hz2 rfl (by decide) _ _ _ rfl (qac HR6.out ((Below.refl _ _).alloc (Nat.le_refl _) _)) ⟨_,0,none⟩ 1 1 [.slice aw (qar l []).length cw,.int .i64 j] rfl rfl (qq6 _ _ _ _ _ (by simp)) (by simp[Value.oneCell']) (by unfold maxLen;omega) (by omega) (by simp;omega) ?_;intro v' w7 hown7 hgr7 _;obtain⟨A',c',rfl⟩:=qad hown7;have PL:=q6q (LN.out.push (y:=⟨l,j⟩) HF6.out HL6.out HW6.out _ HCS.out HWC.out hgr7 hown7);clear hown7 hgr7)
      |(go_at_call 77;refine(qit s g n _ (by omega) hnl PL.out.lex).mono ?_;rintro e8 w8 ⟨rfl,hl8,hf8⟩;have PL8:=q6q (PL.out.lexed hf8 hl8);clear hl8 hf8))
     go_roundw
     case rel=>exact⟨acc++[⟨l,j⟩],qbk s n,A',c',by rw[List.length_append];rfl,hbs,by rw[List.length_append,List.length_singleton];omega,⟨HBL.out.2.2.1,HBL.out.2.2.2⟩,Y,PL8⟩
     case measure=>
      rw[HA.out,PL8.out.lex.atOf];omega
theorem WordG.tb(x:WordG)(hg:GoodA x.l):TB x.pl (10+x.l.length):=TB.pieces ⟨by simp,by simp⟩ (by omega) x.l hg
theorem WordG.plain_pl(x:WordG):qcz x.pl []=(x.text,x.flat):=qvp x.l
theorem qbu(x:WordG)(ao:Option Addr)(c k n:Nat)(w:World)(hg:GoodA x.l)(hl:x.l.length≤2000)(hn:x.pl.length=n)(ho:w.ownsRow k qa4 3 (.slice ao x.pl.length c) x.pl.length (pcs x.pl)):
 Calls Tryz.prog 80 #[.agg #[.slice ao n c,.int .i64 x.at_]] w fun e w'=>e= .returned (.tuple #[.string (S x.text),.bool x.flat])∧Below w.heap.size w w':=by
 subst hn;have ht:=x.tb hg;refine(qvs x.pl x.at_ c ao w (by have:=ht.1;omega) (fun q hq=>by have:=ht.2 q hq;omega) (RdT.of_own ho).rd).mono fun e w' ⟨h1,h2⟩=>⟨?_,h2⟩
 rw[h1,x.plain_pl]
theorem WordG.text_var(x:WordG)(h:x.flat=false):x.text=[]:=by
 have:=qvv x.l [] h;show(qbe x.l []).1=[]
 rw[this]
def snB(s:List UInt8):List UInt8:=if qby s=true then s else []
theorem qhv:qby []=false:=by simp[qby]
theorem qrr(h:10<s.length):qby s=false:=by
 unfold qby;rw[show decide (s.length≤10)=false by rw[decide_eq_false_iff_not];omega];simp
theorem qk5(h:qby s=false):snB s=[]:=by simp[snB,h]
theorem qru(h:qby s=true):snB s=s:=by simp[snB,h]
theorem qfp(x:WordG)(ao:Option Addr)(c k n:Nat)(w:World)(hg:GoodA x.l)(hl:x.l.length≤2000)(hn:x.pl.length=n)(ho:w.ownsRow k qa4 3 (.slice ao x.pl.length c) x.pl.length (pcs x.pl)):
 Calls Tryz.prog 150 #[.agg #[.slice ao n c,.int .i64 x.at_]] w fun e w'=>e= .returned (.string (S (snB x.text)))∧Below w.heap.size w w':=by
 have HP:=q6q (show ∀wx:World,Below w.heap.size w wx→Calls Tryz.prog 80 #[.agg #[.slice ao n c,.int .i64 x.at_]] wx fun e w'=>e= .returned (.tuple #[.string (S x.text),.bool x.flat])∧Below wx.heap.size wx w' from
  fun wx hb=>qbu x ao c k n wx hg hl hn (qac ho hb))
 have htl:x.text.length≤2000:=Nat.le_trans x.text_len hl;have htv:=x.text_var;have hb0:Below w.heap.size w (w.alloc (.cells #[.slice ao n c,.int .i64 x.at_] qbg)):=(Below.refl _ _).alloc (Nat.le_refl _) _;generalize x.text=t at*;generalize x.flat=f at*;clear ho hg hn;cases f
 ·obtain rfl:=htv rfl
  have Y:=q6q (qk5 qhv);clear htv;go_enter Tryz.func150,Tryz.ntmps150;go_wp2_with (go_at_call 80;refine(HP.out _ hb0).mono ?_;rintro e1 w1 ⟨rfl,hb1⟩)
  go_ret;exact⟨qdu (by rw[Y.out]),hb0.trans (hb1.mono hb0.size)⟩
 clear htv;by_cases h0:t=[]
 ·subst h0
  have Y:=q6q (qk5 qhv);go_enter Tryz.func150,Tryz.ntmps150;go_wp2_with (go_at_call 80;refine(HP.out _ hb0).mono ?_;rintro e1 w1 ⟨rfl,hb1⟩)
  go_ret;exact⟨qdu (by rw[Y.out]),hb0.trans (hb1.mono hb0.size)⟩
 have hne:(t==[])=false:=by simpa using h0
 have hie:t.isEmpty=false:=by cases t <;> simp_all
 by_cases h10:10<t.length
 ·have Y:=q6q (qk5 (qrr h10))
  have h10':(10:Int)<(t.length:Int):=by omega
  clear h0;go_enter Tryz.func150,Tryz.ntmps150;go_wp2_with (go_at_call 80;refine(HP.out _ hb0).mono ?_;rintro e1 w1 ⟨rfl,hb1⟩)
  go_ret;exact⟨qdu (by rw[Y.out]),hb0.trans (hb1.mono hb0.size)⟩
 have h10':decide ((10:Int)<(t.length:Int))=false:=by rw[decide_eq_false_iff_not];omega
 have hpos:0<t.length:=by cases t <;> simp_all
 have hpos':(0:Int)<(t.length:Int):=by omega
 by_cases h97:(t[0].toNat:Int)<97
 ·have Y:=q6q (show snB t=[] from qk5 (qmu hpos (by
   rw[q4d hpos];have hs:qi1 t[0]=false:=by rw[Bool.eq_false_iff];intro e;have:=(qjt _).1 e;omega
   simp[hs])))
  clear h0;go_enter Tryz.func150,Tryz.ntmps150;go_wp2_with (go_at_call 80;refine(HP.out _ hb0).mono ?_;rintro e1 w1 ⟨rfl,hb1⟩)
  go_ret;exact⟨qdu (by rw[Y.out]),hb0.trans (hb1.mono hb0.size)⟩
 have h97':decide ((t[0].toNat:Int)<97)=false:=by rw[decide_eq_false_iff_not];exact h97
 have HF:=q6q h97;have HL:=q6q (show t.length≤10 by omega);have HE:=q6q hie;clear h0;go_enter Tryz.func150,Tryz.ntmps150;go_wp2_with (go_at_call 80;refine(HP.out _ hb0).mono ?_;rintro e1 w1 ⟨rfl,hb1⟩)
 have HW:=q6q (hb0.trans (hb1.mono hb0.size));clear hb1 hb0;go_loop [30] (fun i=>∃k:Nat,k≤t.length∧i= .int .i64 k∧Hid (∀j,j<k→okS t j=true)) (fun i=>t.length - (intOf i).toNat)
 case atStart=>exact⟨0,by omega,rfl,by intro j hj;omega⟩
 case round=>
  obtain⟨k,hk,rfl,hall⟩:=hrel;by_cases hlt:k<t.length
  ·have hS:=qjt t[k]
   have hD:=qnm t[k];have ho:=q4d hlt;have hf:=HF.out;cases hok:okS t k
   ·have Y:=q6q (qk5 (qmu hlt hok))
    rw[hok] at ho;have hn:¬(97≤(t[k].toNat:Int)∧(t[k].toNat:Int)≤122)∧¬(48≤(t[k].toNat:Int)∧(t[k].toNat:Int)≤57):=by
     have hs:qi1 t[k]=false:=by
      cases h:qi1 t[k] with
      |false=>rfl
      |true=>rw[h,Bool.true_or] at ho;cases ho
     refine⟨fun h=>(by rw[hS.2 h] at hs;cases hs),fun h=>?_⟩;have hd:=hD.2 h;by_cases k0:k=0
     ·subst k0;omega
     ·simp[hd,k0] at ho
    obtain⟨n1,n2⟩:=hn;clear hok ho hS hD hall hf;go_wp2
    all_goals first
     |(go_ret;exact⟨qdu (by rw[Y.out]),HW.out⟩)
     |(exfalso;simp only[Bool.not_eq_true',Bool.not_eq_false',bne_iff_ne,bne_eq_false_iff_eq,beq_iff_eq,beq_eq_false_iff_ne,decide_eq_true_eq,decide_eq_false_iff_not,ne_eq] at*;omega)
   ·have HA:=q6q (show ∀j,j<k+1→okS t j=true by
     intro j hj;rcases Nat.lt_or_ge j k with h|h
     ·exact hall.out j h
     ·obtain rfl:j=k:=by omega
      exact hok)
    rw[hok] at ho;have hn:(97≤(t[k].toNat:Int)∧(t[k].toNat:Int)≤122)∨(48≤(t[k].toNat:Int)∧(t[k].toNat:Int)≤57):=by
     cases hs:qi1 t[k]
     ·have hd:qnn t[k]=true:=by
       rw[hs,Bool.false_or] at ho;exact(Bool.and_eq_true_iff.1 ho.symm).1
      exact .inr (hD.1 hd)
     ·exact .inl (hS.1 hs)
    clear hok ho hS hD hall hf;go_wp2
    all_goals first
     |(go_round;(case rel=>exact⟨k+1,by omega,by go_num,HA⟩);(case measure=>simp[intOf];omega))
     |(exfalso;simp only[Bool.not_eq_true',Bool.not_eq_false',bne_iff_ne,bne_eq_false_iff_eq,beq_iff_eq,beq_eq_false_iff_ne,decide_eq_true_eq,decide_eq_false_iff_not,ne_eq] at*;omega)
  ·obtain rfl:k=t.length:=by omega
   have Y:=q6q (show snB t=t from qru (by rw[qu9 hall.out,HE.out];simp;exact HL.out));clear hall;go_wp2;go_ret;exact⟨qdu (by rw[Y.out]),HW.out⟩
theorem q0s(x n:List UInt8)(b sv vv:Value)(gn:Nat)(w:World)(hn:w.cell? ⟨gn,0,none⟩=some (.string (S n)))(h1:b.oneCell'=true)(h2:sv.oneCell'=true)(h3:vv.oneCell'=true):
 Calls Tryz.prog 181 #[.agg #[.string (S x),b,sv,vv],.pointer (some ⟨gn,0,none⟩)] w fun e w'=>e= .returned (.bool (x==n))∧Below w.heap.size w w':=by
 have hl:=q6r w _ hn;go_enter Tryz.func181,Tryz.ntmps181;go_wp2;go_ret;exact⟨rfl,(Below.refl _ _).alloc (Nat.le_refl _) _⟩
theorem q0r(x n:List UInt8)(b sv vv:Value)(gn:Nat)(w:World)(hn:w.cell? ⟨gn,0,none⟩=some (.string (S n)))(h1:b.oneCell'=true)(h2:sv.oneCell'=true)(h3:vv.oneCell'=true):
 Calls Tryz.prog 153 #[.agg #[.string (S x),b,sv,vv],.pointer (some ⟨gn,0,none⟩)] w fun e w'=>e= .returned (.bool (x==n))∧Below w.heap.size w w':=by
 have hl:=q6r w _ hn;go_enter Tryz.func153,Tryz.ntmps153;go_wp2;go_ret;exact⟨rfl,(Below.refl _ _).alloc (Nat.le_refl _) _⟩
def FSt(w:World)(st:List StageG)(ao:Option Addr):Prop:=∃cs lo hi,RdT qas w ao cs∧FStageCells lo hi w st cs
theorem FStagesR.st{l:List StageG}(h:FStagesR B w l ao c):FSt w l ao:=by
 obtain⟨cs,h1,h2⟩:=h.all;exact⟨cs,B,w.heap.size,RdT.of_own h1,h2⟩
theorem FSt.get{st:List StageG}(h:FSt w st ao)(hk:k<st.length):
 ∃b o sa sc va vc,ao=some ⟨b,o,none⟩∧b<w.heap.size∧w.cell? ⟨b,o+k*4,none⟩=some (.string (S st[k].name))∧w.cell? ⟨b,o+k*4+1,none⟩=some (.int .i64 st[k].base)∧w.cell? ⟨b,o+k*4+2,none⟩=some (.slice sa st[k].steps.length sc)∧w.cell? ⟨b,o+k*4+3,none⟩=some (.slice va st[k].vars.length vc)∧(∃scs,w.ownsRow 0 qai 4 (.slice sa st[k].steps.length sc) st[k].steps.length scs∧FStepCells w st[k].steps scs)∧w.ownsRow 0 qbl 1 (.slice va st[k].vars.length vc) st[k].vars.length (strs st[k].vars):=by
 obtain⟨cs,lo,hi,h1,h2⟩:=h;obtain⟨sv,vv,g1,g2,g3,g4,g5⟩:=h2.get k hk;obtain⟨b,o,rfl,hb,hc⟩:=h1.rd.at (k*4) (by rw[h2.len];omega);obtain⟨scs,s1,s2⟩:=g5.steps;obtain⟨sa,sc,rfl⟩:=qad s1;obtain⟨va,vc,rfl⟩:=qad g5.vars;exact⟨b,o,sa,sc,va,vc,rfl,hb,hc _ _ g1,hc _ _ g2,hc _ _ g3,hc _ _ g4,⟨scs,qak s1 (Nat.zero_le _),s2⟩,qak g5.vars (Nat.zero_le _)⟩
theorem FSt.after{st:List StageG}(h:FSt w st ao)(hb:Below w.heap.size w w'):FSt w' st ao:=by
 obtain⟨cs,lo,hi,h1,h2⟩:=h;have hT:∀T,KeepT T w w':=fun T=>KeepT.below hb
 exact⟨cs,lo,hi,h1.keep (hT _),h2.stays (hT _) (hT _) (fun g cur _ e=>hT _ g cur e) (fun g cur _ e=>hT _ g cur e)⟩
theorem qmj(st:List StageG)(n:List UInt8)(ao:Option Addr)(m c gn:Nat)(w:World)(hm:st.length=m)(h5:st.length≤5)(hst:FSt w st ao)(hn:w.cell? ⟨gn,0,none⟩=some (.string (S n))):
 Calls Tryz.prog 180 #[.slice ao m c,.func (Fn.func 181) #[] #[.pointer (some ⟨gn,0,none⟩)]] w fun e w'=>e= .returned (.int .i64 (qan st n))∧Below w.heap.size w w':=by
 subst hm;have HS:=q6q hst;have hgn:=q6r w _ hn;have HN:=q6q hn;clear hst hn;go_enter Tryz.func180,Tryz.ntmps180;go_wp2;go_loopw [8] (fun i wr=>∃k:Nat,k≤st.length∧i= .int .i64 k∧Hid (∀j (hj:j<k) (h:j<st.length),st[j].name≠n)∧Below w.heap.size w wr) (fun i _=>st.length - (intOf i).toNat)
 case atStart=>exact⟨0,by omega,rfl,by intro j hj;omega,Below.refl _ _⟩
 case round=>
  obtain⟨k,hk,rfl,hall,hbel⟩:=hrel;by_cases hlt:k<st.length
  ·obtain⟨b,o,sa,sc,va,vc,rfl,hb,m1,m2,m3,m4,_,_⟩:=(HS.out.after hbel).get hlt
   have HC:=q6q (q0s st[k].name n (.int .i64 st[k].base) (.slice sa st[k].steps.length sc) (.slice va st[k].vars.length vc) gn wr ((hbel.cell (p:=⟨gn,0,none⟩) hgn).trans HN.out) rfl rfl rfl);cases he:(st[k].name==n)
   ·have HA:=q6q (show ∀j (hj:j<k+1) (h:j<st.length),st[j].name≠n by
     intro j hj h;rcases Nat.lt_or_ge j k with h'|h'
     ·exact hall.out j h' h
     ·obtain rfl:j=k:=by omega
      simpa using he)
    have HE:=q6q he;clear hall he;go_wp2_with (go_at_call 181;refine HC.out.mono ?_;rintro e2 w2 ⟨rfl,hb2⟩;rw[HE.out])
    go_roundw
    case rel=>exact⟨k+1,by omega,by go_num,HA,hbel.trans (hb2.mono hbel.size)⟩
    case measure=>simp[intOf];omega
   ·have Y:=q6q (show qan st n=(k:Int) from qns hlt (by simpa using he) (fun j hj hjk=>hall.out j hjk hj))
    have HE:=q6q he;clear hall he;go_wp2_with (go_at_call 181;refine HC.out.mono ?_;rintro e2 w2 ⟨rfl,hb2⟩;rw[HE.out])
    go_ret;exact⟨qdv (by rw[Y.out]),hbel.trans (hb2.mono hbel.size)⟩
  ·have Y:=q6q (show qan st n= -1 from qj9 (fun j hj=>hall.out j (by omega) hj))
   clear hall;go_wp2;go_ret;exact⟨qdv (by rw[Y.out]),hbel⟩
theorem qmi(st:List StageG)(n:List UInt8)(ao:Option Addr)(m c gn:Nat)(w:World)(hm:st.length=m)(h5:st.length≤5)(hst:FSt w st ao)(hn:w.cell? ⟨gn,0,none⟩=some (.string (S n))):
 Calls Tryz.prog 180 #[.slice ao m c,.func (Fn.func 153) #[] #[.pointer (some ⟨gn,0,none⟩)]] w fun e w'=>e= .returned (.int .i64 (qan st n))∧Below w.heap.size w w':=by
 subst hm;have HS:=q6q hst;have hgn:=q6r w _ hn;have HN:=q6q hn;clear hst hn;go_enter Tryz.func180,Tryz.ntmps180;go_wp2;go_loopw [8] (fun i wr=>∃k:Nat,k≤st.length∧i= .int .i64 k∧Hid (∀j (hj:j<k) (h:j<st.length),st[j].name≠n)∧Below w.heap.size w wr) (fun i _=>st.length - (intOf i).toNat)
 case atStart=>exact⟨0,by omega,rfl,by intro j hj;omega,Below.refl _ _⟩
 case round=>
  obtain⟨k,hk,rfl,hall,hbel⟩:=hrel;by_cases hlt:k<st.length
  ·obtain⟨b,o,sa,sc,va,vc,rfl,hb,m1,m2,m3,m4,_,_⟩:=(HS.out.after hbel).get hlt
   have HC:=q6q (q0r st[k].name n (.int .i64 st[k].base) (.slice sa st[k].steps.length sc) (.slice va st[k].vars.length vc) gn wr ((hbel.cell (p:=⟨gn,0,none⟩) hgn).trans HN.out) rfl rfl rfl);cases he:(st[k].name==n)
   ·have HA:=q6q (show ∀j (hj:j<k+1) (h:j<st.length),st[j].name≠n by
     intro j hj h;rcases Nat.lt_or_ge j k with h'|h'
     ·exact hall.out j h' h
     ·obtain rfl:j=k:=by omega
      simpa using he)
    have HE:=q6q he;clear hall he;go_wp2_with (go_at_call 153;refine HC.out.mono ?_;rintro e2 w2 ⟨rfl,hb2⟩;rw[HE.out])
    go_roundw
    case rel=>exact⟨k+1,by omega,by go_num,HA,hbel.trans (hb2.mono hbel.size)⟩
    case measure=>simp[intOf];omega
   ·have Y:=q6q (show qan st n=(k:Int) from qns hlt (by simpa using he) (fun j hj hjk=>hall.out j hjk hj))
    have HE:=q6q he;clear hall he;go_wp2_with (go_at_call 153;refine HC.out.mono ?_;rintro e2 w2 ⟨rfl,hb2⟩;rw[HE.out])
    go_ret;exact⟨qdv (by rw[Y.out]),hbel.trans (hb2.mono hbel.size)⟩
  ·have Y:=q6q (show qan st n= -1 from qj9 (fun j hj=>hall.out j (by omega) hj))
   clear hall;go_wp2;go_ret;exact⟨qdv (by rw[Y.out]),hbel⟩
theorem qc6(st:List StageG)(n:List UInt8)(ao:Option Addr)(m c gn:Nat)(w:World)(hm:st.length=m)(h5:st.length≤5)(hst:FSt w st ao)(hn:w.cell? ⟨gn,0,none⟩=some (.string (S n))):
 Calls Tryz.prog 152 #[.slice ao m c,.func (Fn.func 153) #[] #[.pointer (some ⟨gn,0,none⟩)]] w fun e w'=>e= .returned (.bool (decide (0≤qan st n)))∧Below w.heap.size w w':=by
 have HC:=q6q (qmi st n ao m c gn w hm h5 hst hn);clear hn hst hm;go_enter Tryz.func152,Tryz.ntmps152;go_wp2_with (go_at_call 180;refine HC.out.mono ?_;rintro e2 w2 ⟨rfl,hb2⟩)
 go_ret;exact⟨rfl,hb2⟩
abbrev qd7:TypeId:=105
def PB(w:World)(gp:Nat)(ao:Option Addr)(n c k:Nat):Prop:=w.heap[gp]? =some (Obj.cells #[.slice ao n c,.int .i64 k] qd7 (0,0))
theorem PB.blk2(h:PB w gp ao n c k):Blk2 w gp (.slice ao n c) (.int .i64 k):=⟨_,h⟩
theorem PB.after(h:PB w gp ao n c k)(hb:Below w.heap.size w w'):PB w' gp ao n c k:=(hb.block gp (q6s h).1).trans h
theorem PB.lt(h:PB w gp ao n c k):gp<w.heap.size:=(q6s h).1
theorem qfd(gp gb m c k:Nat)(w:World)(hm:m≤4)(hp:PB w gp (some ⟨gb,0,none⟩) (m+1) c k):
 Calls Tryz.prog 84 #[.pointer (some ⟨gp,0,none⟩)] w fun e w'=>e= .returned (.pointer (some ⟨gb,m*4,none⟩))∧∃q,w'=w.drewN q:=by
 obtain⟨c1,c2,c3,c4⟩:=hp.blk2.facts;have hm1:(m:Int)<(m:Int)+1:=by omega
 have hm0:(0:Int)≤(m:Int):=by omega
 clear hp;go_enter Tryz.func84,Tryz.ntmps84;go_wp2;go_quiet (fail);go_wp2;go_ret;exact⟨rfl,_,rfl⟩
def qch(st:List StageG)(t:List UInt8)(scratch:Bool):Except Nat Int:=
 if qby t=false then .error 5 else if qan st t<0∧¬(scratch=true∧t=qcb) then .error 6 else .ok (qan st t)
def qg5(w w':World)(e:Ending)(p:Nat):Except Nat Int→Prop
 |.error f=>Thrown w w' e f p
 |.ok k=>e= .returned (.int .i64 k)
theorem qhu(st:List StageG)(x:WordG)(scratch:Bool)(gp m c k wk wn wc:Nat)(ao wa:Option Addr)(w:World)(hm:st.length=m)(h5:st.length≤5)(hp:PB w gp ao m c k)(hst:FSt w st ao)
 (hg:GoodA x.l)(hl:x.l.length≤2000)(hn:x.pl.length=wn)(ho:w.ownsRow wk qa4 3 (.slice wa x.pl.length wc) x.pl.length (pcs x.pl)):
 Calls Tryz.prog 151 #[.pointer (some ⟨gp,0,none⟩),.agg #[.slice wa wn wc,.int .i64 x.at_],.bool scratch] w fun e w'=>qg5 w w' e x.at_ (qch st x.text scratch)∧Below w.heap.size w w':=by
 have HN:=q6q (show ∀wx:World,Below w.heap.size w wx→Calls Tryz.prog 150 #[.agg #[.slice wa wn wc,.int .i64 x.at_]] wx fun e w'=>e= .returned (.string (S (snB x.text)))∧Below wx.heap.size wx w' from
  fun wx hb=>qfp x wa wc wk wn wx hg hl hn (qac ho hb))
 have HI:=q6q (show ∀(wx:World) (n:List UInt8) (gn:Nat),Below w.heap.size w wx→wx.cell? ⟨gn,0,none⟩=some (.string (S n))→Calls Tryz.prog 180 #[.slice ao m c,.func (Fn.func 181) #[] #[.pointer (some ⟨gn,0,none⟩)]] wx fun e w'=>e= .returned (.int .i64 (qan st n))∧Below wx.heap.size wx w' from
  fun wx n gn hb hc=>qmj st n ao m c gn wx hm h5 (hst.after hb) hc)
 have HP:=q6q hp;have hb0:Below w.heap.size w (w.alloc (.cells #[.slice wa wn wc,.int .i64 x.at_] qbg)):=(Below.refl _ _).alloc (Nat.le_refl _) _;have HX:=q6q (Blk2.new w (.slice wa wn wc) (.int .i64 x.at_) qbg);clear ho hg hn hst hp hm;cases hs:qby x.text
 ·have Y:=q6q (show qch st x.text scratch= .error 5 by simp[qch,hs])
  have HS:=q6q (qk5 hs);clear hs;go_enter Tryz.func151,Tryz.ntmps151;go_wp2_with (first
   |(go_at_call 150;refine(HN.out _ hb0).mono ?_;rintro e1 w1 ⟨rfl,hb1⟩;rw[HS.out];have hb2:=hb0.trans (hb1.mono hb0.size);obtain⟨c1,c2,c3,c4⟩:=(HX.out.after hb1).facts;have hz:=(HX.out.after hb1).lt)
   |(go_at_call 43;refine(qaf 5 x.at_ _).mono ?_;rintro e5 w5 ⟨rfl,rfl⟩))
  refine⟨rfl,?_,(hb2.alloc hb2.size _).alloc (by simp;have:=hb2.size;omega) _⟩;rw[Y.out];exact⟨_,rfl,by have:=hb2.size;first|omega|(simp;omega),qae _ _ _ (by simp)⟩
 ·have HS:=q6q (qru hs)
  have hne:x.text≠[]:=by intro e;rw[e,qhv] at hs;cases hs
  have hne':(x.text==[])=false:=by simpa using hne
  have hie:x.text.isEmpty=false:=by cases h:x.text <;> simp_all
  have HR:=q6q (show qch st x.text scratch=if qan st x.text<0∧¬(scratch=true∧x.text=qcb) then .error 6 else .ok (qan st x.text) by unfold qch;rw[if_neg (by simp[hs])]);clear hs hne;obtain⟨k1,hk1⟩:∃k1,qan st x.text=k1:=⟨_,rfl⟩;have HK:=q6q hk1;rw[hk1] at HR;clear hk1;by_cases h0:k1<0
  ·by_cases h1:x.text=qcb
   ·have h1':(x.text==[115,99,114,97,116,99,104])=true:=by rw[h1];rfl
    cases scratch
    ·have Y:=q6q (show qch st x.text false= .error 6 by rw[HR.out,if_pos ⟨h0,by simp⟩])
     clear HR h1;go_enter Tryz.func151,Tryz.ntmps151;go_wp2_with (first
      |(go_at_call 150;refine(HN.out _ hb0).mono ?_;rintro e1 w1 ⟨rfl,hb1⟩;rw[HS.out];have hb2:=hb0.trans (hb1.mono hb0.size);obtain⟨p1,p2,p3,p4⟩:=(HP.out.after hb2).blk2.facts;have hpz:=(HP.out.after hb2).lt;have hb2a:=hb2.alloc hb2.size (.cells #[.string (S x.text)] qbl))
      |(go_at_call 180;refine(HI.out _ x.text _ hb2a (by simp)).mono ?_;rintro e3 w3 ⟨rfl,hb3⟩;rw[HK.out];have n3:w3.cell? ⟨w1.heap.size,0,none⟩=some (.string (S x.text)):=(hb3.cell (p:=⟨w1.heap.size,0,none⟩) (by simp)).trans (by simp);obtain⟨d1,d2,d3,d4⟩:=(((HX.out.after hb1).alloc (.cells #[.string (S x.text)] qbl)).after hb3).facts;have hz3:=(((HX.out.after hb1).alloc (.cells #[.string (S x.text)] qbl)).after hb3).lt;have hbz:=hb2a.trans (hb3.mono hb2a.size))
      |(go_at_call 43;refine(qaf 6 x.at_ _).mono ?_;rintro e5 w5 ⟨rfl,rfl⟩))
     refine⟨rfl,?_,hbz.alloc hbz.size _⟩;rw[Y.out];exact⟨_,rfl,hbz.size,heap_alloc_new _ _⟩
    ·have Y:=q6q (show qch st x.text true= .ok k1 by rw[HR.out,if_neg (by rintro⟨_,h⟩;exact h ⟨rfl,h1⟩)])
     clear HR h1;go_enter Tryz.func151,Tryz.ntmps151;go_wp2_with (first
      |(go_at_call 150;refine(HN.out _ hb0).mono ?_;rintro e1 w1 ⟨rfl,hb1⟩;rw[HS.out];have hb2:=hb0.trans (hb1.mono hb0.size);obtain⟨p1,p2,p3,p4⟩:=(HP.out.after hb2).blk2.facts;have hpz:=(HP.out.after hb2).lt;have hb2a:=hb2.alloc hb2.size (.cells #[.string (S x.text)] qbl))
      |(go_at_call 180;refine(HI.out _ x.text _ hb2a (by simp)).mono ?_;rintro e3 w3 ⟨rfl,hb3⟩;rw[HK.out];have n3:w3.cell? ⟨w1.heap.size,0,none⟩=some (.string (S x.text)):=(hb3.cell (p:=⟨w1.heap.size,0,none⟩) (by simp)).trans (by simp);obtain⟨d1,d2,d3,d4⟩:=(((HX.out.after hb1).alloc (.cells #[.string (S x.text)] qbl)).after hb3).facts;have hz3:=(((HX.out.after hb1).alloc (.cells #[.string (S x.text)] qbl)).after hb3).lt;have hbz:=hb2a.trans (hb3.mono hb2a.size))
      |(go_at_call 43;refine(qaf 6 x.at_ _).mono ?_;rintro e5 w5 ⟨rfl,rfl⟩))
     go_ret;refine⟨?_,hbz⟩;rw[Y.out];rfl
   ·have h1':(x.text==[115,99,114,97,116,99,104])=false:=by rw[beq_eq_false_iff_ne];exact h1
    have Y:=q6q (show qch st x.text scratch= .error 6 by rw[HR.out,if_pos ⟨h0,fun h=>h1 h.2⟩]);clear HR h1;cases scratch
    ·skip
     go_enter Tryz.func151,Tryz.ntmps151;go_wp2_with (first
      |(go_at_call 150;refine(HN.out _ hb0).mono ?_;rintro e1 w1 ⟨rfl,hb1⟩;rw[HS.out];have hb2:=hb0.trans (hb1.mono hb0.size);obtain⟨p1,p2,p3,p4⟩:=(HP.out.after hb2).blk2.facts;have hpz:=(HP.out.after hb2).lt;have hb2a:=hb2.alloc hb2.size (.cells #[.string (S x.text)] qbl))
      |(go_at_call 180;refine(HI.out _ x.text _ hb2a (by simp)).mono ?_;rintro e3 w3 ⟨rfl,hb3⟩;rw[HK.out];have n3:w3.cell? ⟨w1.heap.size,0,none⟩=some (.string (S x.text)):=(hb3.cell (p:=⟨w1.heap.size,0,none⟩) (by simp)).trans (by simp);obtain⟨d1,d2,d3,d4⟩:=(((HX.out.after hb1).alloc (.cells #[.string (S x.text)] qbl)).after hb3).facts;have hz3:=(((HX.out.after hb1).alloc (.cells #[.string (S x.text)] qbl)).after hb3).lt;have hbz:=hb2a.trans (hb3.mono hb2a.size))
      |(go_at_call 43;refine(qaf 6 x.at_ _).mono ?_;rintro e5 w5 ⟨rfl,rfl⟩))
     refine⟨rfl,?_,hbz.alloc hbz.size _⟩;rw[Y.out];exact⟨_,rfl,hbz.size,heap_alloc_new _ _⟩
    ·skip
     go_enter Tryz.func151,Tryz.ntmps151;go_wp2_with (first
      |(go_at_call 150;refine(HN.out _ hb0).mono ?_;rintro e1 w1 ⟨rfl,hb1⟩;rw[HS.out];have hb2:=hb0.trans (hb1.mono hb0.size);obtain⟨p1,p2,p3,p4⟩:=(HP.out.after hb2).blk2.facts;have hpz:=(HP.out.after hb2).lt;have hb2a:=hb2.alloc hb2.size (.cells #[.string (S x.text)] qbl))
      |(go_at_call 180;refine(HI.out _ x.text _ hb2a (by simp)).mono ?_;rintro e3 w3 ⟨rfl,hb3⟩;rw[HK.out];have n3:w3.cell? ⟨w1.heap.size,0,none⟩=some (.string (S x.text)):=(hb3.cell (p:=⟨w1.heap.size,0,none⟩) (by simp)).trans (by simp);obtain⟨d1,d2,d3,d4⟩:=(((HX.out.after hb1).alloc (.cells #[.string (S x.text)] qbl)).after hb3).facts;have hz3:=(((HX.out.after hb1).alloc (.cells #[.string (S x.text)] qbl)).after hb3).lt;have hbz:=hb2a.trans (hb3.mono hb2a.size))
      |(go_at_call 43;refine(qaf 6 x.at_ _).mono ?_;rintro e5 w5 ⟨rfl,rfl⟩))
     refine⟨rfl,?_,hbz.alloc hbz.size _⟩;rw[Y.out];exact⟨_,rfl,hbz.size,heap_alloc_new _ _⟩
  ·have Y:=q6q (show qch st x.text scratch= .ok k1 by rw[HR.out,if_neg (fun h=>h0 h.1)])
   have h0':decide (k1<0)=false:=by rw[decide_eq_false_iff_not];exact h0
   clear HR h0;go_enter Tryz.func151,Tryz.ntmps151;go_wp2_with (first
    |(go_at_call 150;refine(HN.out _ hb0).mono ?_;rintro e1 w1 ⟨rfl,hb1⟩;rw[HS.out];have hb2:=hb0.trans (hb1.mono hb0.size);obtain⟨p1,p2,p3,p4⟩:=(HP.out.after hb2).blk2.facts;have hpz:=(HP.out.after hb2).lt;have hb2a:=hb2.alloc hb2.size (.cells #[.string (S x.text)] qbl))
    |(go_at_call 180;refine(HI.out _ x.text _ hb2a (by simp)).mono ?_;rintro e3 w3 ⟨rfl,hb3⟩;rw[HK.out];have n3:w3.cell? ⟨w1.heap.size,0,none⟩=some (.string (S x.text)):=(hb3.cell (p:=⟨w1.heap.size,0,none⟩) (by simp)).trans (by simp);obtain⟨d1,d2,d3,d4⟩:=(((HX.out.after hb1).alloc (.cells #[.string (S x.text)] qbl)).after hb3).facts;have hz3:=(((HX.out.after hb1).alloc (.cells #[.string (S x.text)] qbl)).after hb3).lt;have hbz:=hb2a.trans (hb3.mono hb2a.size))
    |(go_at_call 43;refine(qaf 6 x.at_ _).mono ?_;rintro e5 w5 ⟨rfl,rfl⟩))
   go_ret;refine⟨?_,hbz⟩;rw[Y.out];rfl
def qei(vars:List (List UInt8)):List PieceG→Option Nat
 |[]=>none
 |p::r=>if p.var=true∧p.text∉vars then some p.at_ else qei vars r
theorem qhs(vars:List (List UInt8))(l m:List PieceG):qei vars (l++m)=(qei vars l).or (qei vars m):=by
 induction l with
 |nil=>rfl
 |cons p r ih=>
  simp only[List.cons_append,qei];split
  ·rfl
  ·exact ih
theorem qux(vars:List (List UInt8))(l m:List Atm):qb8 vars (l++m)=(qb8 vars l).or (qb8 vars m):=by
 induction l with
 |nil=>rfl
 |cons p r ih=>
  cases p with
  |ch c=>simp only[List.cons_append,qb8];exact ih
  |var x q=>
   simp only[List.cons_append,qb8];split
   ·exact ih
   ·rfl
theorem qut(vars:List (List UInt8))(l:List Atm):qei vars (qar l [])=qb8 vars l:=by
 induction hn:l.length generalizing l with
 |zero=>rw[List.eq_nil_of_length_eq_zero hn];rfl
 |succ n ihn=>
  rcases List.eq_nil_or_concat l with rfl|⟨l,x,rfl⟩
  ·simp at hn
  rw[List.concat_eq_append] at hn ⊢;have ih:=ihn l (by simpa using hn);rw[qbz,qux,←ih];cases x with
  |var n p=>
   simp only[qh9,qhs];congr 1
   simp only[qei,qb8];by_cases h:n∈vars <;> simp[h]
  |ch c=>
   simp only[qh9];rw[show qb8 vars [Atm.ch c]=none from rfl,Option.or_none];generalize qar l []=L;rcases List.eq_nil_or_concat L with rfl|⟨init,q,rfl⟩
   ·rfl
   ·rw[List.concat_eq_append]
    cases hv:q.var
    ·rw[qgw init q c hv,qhs,qhs];simp[qei,hv]
    ·rw[qgv init q c hv,qhs];simp[qei]
theorem q1g(vars:List (List UInt8))(x:WordG):qei vars x.pl=qb8 vars x.l:=qut vars x.l
theorem quu(h:k<l.length)(hv:l[k].var=true)(hm:l[k].text∉vars):qei vars (l.drop k)=some l[k].at_:=by
 rw[List.drop_eq_getElem_cons h,qei,if_pos ⟨hv,hm⟩]
theorem qxy(h:k<l.length)(hv:¬(l[k].var=true∧l[k].text∉vars)):qei vars (l.drop k)=qei vars (l.drop (k+1)):=by
 conv=>lhs;rw[List.drop_eq_getElem_cons h,qei,if_neg hv]
theorem qky{l:List WordG}(h:k<l.length):qbn vars (l.drop k)=(match qb8 vars l[k].l with|some p=>some p|none=>qbn vars (l.drop (k+1))):=by
 rw[List.drop_eq_getElem_cons h,qbn];cases qb8 vars l[k].l <;> rfl
theorem qrh{l:List WordG}(h:k<l.length)(e:qb8 vars l[k].l=some p):qbn vars (l.drop k)=some p:=by rw[qky h,e]
theorem qri{l:List WordG}(h:k<l.length)(e:qb8 vars l[k].l=none):qbn vars (l.drop k)=qbn vars (l.drop (k+1)):=by rw[qky h,e]
theorem ql7(l:List (List UInt8))(x:List UInt8)(A:Option Addr)(n c:Nat)(w:World)(hn:l.length=n)(hrd:Rd w A (strs l))(hl:l.length≤1000):
 Calls Tryz.prog 127 #[.slice A n c,.string (S x)] w fun e w'=>e= .returned (.bool (decide (x∈l)))∧w'=w:=by
 subst hn;rcases hrd with h|⟨b,o,rfl,hc⟩
 ·have:l=[]:=by simpa[strs] using h
  subst this;exact(Tryz.slices_Contains_string_empty A c (S x) w).mono fun e w' ⟨h1,h2⟩=>⟨by rw[h1];simp,h2⟩
 ·have hg:∀j,j<(l.map S).length→w.cell? ⟨b,o+j,none⟩=some (.string ((l.map S).getD j ByteArray.empty)):=by
   intro j hj;rw[hc j (.string ((l.map S).getD j ByteArray.empty)) (by
    have hj':j<l.length:=by simpa using hj
    simp[strs,hj'])]
  refine(Tryz.slices_Contains_string b o l.length c (l.map S) (S x) w (by simp) (by omega) hg).mono fun e w' ⟨h1,h2⟩=>⟨?_,h2⟩
  rw[h1];refine qax ?_;rw[List.take_of_length_le (by simp),Bool.eq_iff_iff,Lib.containsS_iff,decide_eq_true_eq,List.mem_map];exact⟨fun ⟨a,ha,e⟩=>qo1 e▸ha,fun h=>⟨x,h,rfl⟩⟩
theorem qov(l:List (List UInt8))(x:List UInt8)(A:Option Addr)(n c:Nat)(w:World)(hn:l.length=n)(hrd:Rd w A (strs l))(hl:l.length≤1000)(h:x∈l):
 Calls Tryz.prog 127 #[.slice A n c,.string (S x)] w fun e w'=>e= .returned (.bool true)∧w'=w:=by
 have:=ql7 l x A n c w hn hrd hl;simpa[h] using this
theorem qq2(l:List (List UInt8))(x:List UInt8)(A:Option Addr)(n c:Nat)(w:World)(hn:l.length=n)(hrd:Rd w A (strs l))(hl:l.length≤1000)(h:x∉l):
 Calls Tryz.prog 127 #[.slice A n c,.string (S x)] w fun e w'=>e= .returned (.bool false)∧w'=w:=by
 have:=ql7 l x A n c w hn hrd hl;simpa[h] using this
def qtz(w w':World)(e:Ending):Option Nat→Prop
 |none=>e= .returned (.tuple #[])
 |some p=>Thrown w w' e 7 p
def VarsAt(w:World)(gp gb m c k:Nat)(vars:List (List UInt8))(va:Option Addr)(vc:Nat):Prop:=
 PB w gp (some ⟨gb,0,none⟩) (m+1) c k∧gb<w.heap.size∧w.cell? ⟨gb,m*4+3,none⟩=some (.slice va vars.length vc)∧Rd w va (strs vars)
theorem VarsAt.after(h:VarsAt w gp gb m c k vars va vc)(hb:Below w.heap.size w w'):VarsAt w' gp gb m c k vars va vc:=
 ⟨h.1.after hb,Nat.lt_of_lt_of_le h.2.1 hb.size,(hb.cell (p:=⟨gb,m*4+3,none⟩) h.2.1).trans h.2.2.1,h.2.2.2.below hb⟩
theorem FLastR.varsAt{H:Nat}{init:List StageG}{y:StageG}{cs0:List Value}{sv:Value}{scs:List Value}(h:FLastR B H w init y gb c cs0 sv (.slice va y.vars.length vc) scs)(hp:PB w gp (some ⟨gb,0,none⟩) (init.length+1) c k):
 VarsAt w gp gb init.length c k y.vars va vc:=⟨hp,h.facts.1,h.facts.2.2.1,h.varsRd⟩
theorem qeg(h:Below B w w')(n:Nat):Below B w (w'.drewN n):=⟨h.os,h.tape,h.output,h.size,h.block⟩
theorem VarsAt.drewN(h:VarsAt w gp gb m c k vars va vc)(n:Nat):VarsAt (w.drewN n) gp gb m c k vars va vc:=h.after (qeg (Below.refl _ _) n)
theorem qoz(w:World)(a b c:Value)(t:TypeId):(w.alloc (.cells #[a,b,c] t)).cell? ⟨w.heap.size,0,none⟩=some a∧(w.alloc (.cells #[a,b,c] t)).cell? ⟨w.heap.size,1,none⟩=some b∧(w.alloc (.cells #[a,b,c] t)).cell? ⟨w.heap.size,2,none⟩=some c∧w.heap.size<(w.alloc (.cells #[a,b,c] t)).heap.size:=by
 simp
theorem qct(gp gb m c k:Nat)(vars:List (List UInt8))(va A:Option Addr)(vc n lc:Nat)(l:List WordG)(w:World)(hm:m≤4)(hv:VarsAt w gp gb m c k vars va vc)(hvl:vars.length≤1000)(hw:FWordsR w A l)(hg:GoodW l)(hn:l.length=n)(hl:l.length≤1000):
 Calls Tryz.prog 83 #[.pointer (some ⟨gp,0,none⟩),.slice A n lc] w fun e w'=>qtz w w' e (qbn vars l)∧Below w.heap.size w w':=by
 subst hn;obtain⟨cs,hrd,hwc⟩:=hw;have HV:=q6q hv;have HC:=q6q hwc;have HR:=q6q hrd;have HG:=q6q hg;clear hv hwc hrd hg;go_enter Tryz.func83,Tryz.ntmps83;go_wp2;go_loopw [10] (fun i wr=>∃j:Nat,j≤l.length∧i= .int .i64 j∧Hid (qbn vars l=qbn vars (l.drop j))∧Below w.heap.size w wr) (fun i _=>l.length - (intOf i).toNat)
 case atStart=>exact⟨0,by omega,rfl,rfl,Below.refl _ _⟩
 case round=>
  obtain⟨j,hj,rfl,HQ,hbel⟩:=hrel;by_cases hlt:j<l.length
  ·obtain⟨b,o,rfl,hb,hc⟩:=HR.out.rd.at (j*2) (by rw[HC.out.len];omega)
   obtain⟨ao,ac,g1,g2,g3⟩:=HC.out.get j hlt;have m1:wr.cell? ⟨b,o+j*2,none⟩=some (.slice ao l[j].pl.length ac):=(hbel.cell (p:=⟨b,o+j*2,none⟩) hb).trans (hc _ _ g1);have m2:wr.cell? ⟨b,o+j*2+1,none⟩=some (.int .i64 l[j].at_):=(hbel.cell (p:=⟨b,o+j*2+1,none⟩) hb).trans (hc _ _ g2);have HO:=q6q ((RdT.of_own g3).rd);have HU:=q6q (q1g vars l[j]);have htb:=l[j].tb (HG.out _ (List.getElem_mem hlt)).1;have HA1:=q6q (fun p (e:qb8 vars l[j].l=some p)=>HQ.out.trans (qrh hlt e));have HA0:=q6q (fun (e:qb8 vars l[j].l=none)=>HQ.out.trans (qri hlt e))
   have hpl:l[j].pl.length≤3000:=by have:=htb.1;have:=(HG.out _ (List.getElem_mem hlt)).2;omega
   have hbs:=hbel.size;clear hc g1 g2 g3 htb;obtain⟨pl,hpe⟩:∃pl,l[j].pl=pl:=⟨_,rfl⟩;rw[hpe] at m1 HO HU hpl;obtain⟨ua,hue⟩:∃u,qb8 vars l[j].l=u:=⟨_,rfl⟩;rw[hue] at HU HA1 HA0;obtain⟨at_,hat⟩:∃a,l[j].at_=a:=⟨_,rfl⟩;rw[hat] at m2;clear hpe hue hat;go_wp2;have hbw:Below w.heap.size w (wr.alloc (.cells #[.slice ao pl.length ac,.int .i64 at_] qbg)):=hbel.alloc hbs _;go_loopw [17] (fun i2 wr2=>∃q:Nat,q≤pl.length∧i2= .int .i64 q∧Hid (qei vars pl=qei vars (pl.drop q))∧Below w.heap.size w wr2) (fun i2 _=>pl.length - (intOf i2).toNat)
   case atStart=>exact⟨0,by omega,rfl,rfl,hbw⟩
   case round=>
    obtain⟨q,hq,rfl,HQ2,hb2⟩:=hrel;clear hbel hbs hbw m1 m2;have hbs2:=hb2.size;by_cases hql:q<pl.length
    ·obtain⟨b3,o3,rfl,hb3,hc3⟩:=HO.out.at (q*3) (by rw[qfq];omega)
     obtain⟨h1,h2,h3⟩:=qla pl q hql;have m1:wr.cell? ⟨b3,o3+q*3,none⟩=some (.string (S pl[q].text)):=(hb2.cell (p:=⟨b3,o3+q*3,none⟩) hb3).trans (hc3 _ _ h1);have m2:wr.cell? ⟨b3,o3+q*3+1,none⟩=some (.bool pl[q].var):=(hb2.cell (p:=⟨b3,o3+q*3+1,none⟩) hb3).trans (hc3 _ _ h2);have m3:wr.cell? ⟨b3,o3+q*3+2,none⟩=some (.int .i64 pl[q].at_):=(hb2.cell (p:=⟨b3,o3+q*3+2,none⟩) hb3).trans (hc3 _ _ h3);have HX:=q6q (fun (h:pl[q].var=true) (hm:pl[q].text∉vars)=>HQ2.out.trans (quu hql h hm));have HN:=q6q (fun (h:¬(pl[q].var=true∧pl[q].text∉vars))=>HQ2.out.trans (qxy hql h));clear h1 h2 h3 hc3 HQ2
     generalize pl[q].text=tx at*;generalize pl[q].at_=pa at*;cases hvv:pl[q].var
     ·have Y:=q6q (HN.out (by rw[hvv];simp))
      rw[hvv] at m2;clear hvv HX HN;go_wp2;have VZ:=q6q (HV.out.after (hb2.alloc hbs2 (.cells #[.string (S tx),.bool false,.int .i64 pa] qa4)));have hbz:=hb2.alloc hbs2 (.cells #[.string (S tx),.bool false,.int .i64 pa] qa4);have hzz:=hbz.size;obtain⟨n1,n2,n3,n4⟩:=qoz wr (.string (S tx)) (.bool false) (.int .i64 pa) qa4;generalize hW:wr.alloc (.cells #[.string (S tx),.bool false,.int .i64 pa] qa4)=wz at*;generalize wr.heap.size=gz at*;clear hW;obtain⟨p1,p2,p3,p4⟩:=VZ.out.1.blk2.facts;have v3:=VZ.out.2.2.1;go_quiet (fail);go_wp2;go_roundw
      case rel=>exact⟨q+1,by omega,by go_num,Y,qeg hbz _⟩
      case measure=>simp[intOf];omega
     ·rw[hvv] at m2
      by_cases hmem:tx∈vars
      ·have Y:=q6q (HN.out (by rw[hvv];simp[hmem]))
       have HM:=q6q hmem;clear hvv HX HN hmem;go_wp2;have VZ:=q6q (HV.out.after (hb2.alloc hbs2 (.cells #[.string (S tx),.bool true,.int .i64 pa] qa4)));have hbz:=hb2.alloc hbs2 (.cells #[.string (S tx),.bool true,.int .i64 pa] qa4);have hzz:=hbz.size;obtain⟨n1,n2,n3,n4⟩:=qoz wr (.string (S tx)) (.bool true) (.int .i64 pa) qa4;generalize hW:wr.alloc (.cells #[.string (S tx),.bool true,.int .i64 pa] qa4)=wz at*;generalize wr.heap.size=gz at*;clear hW;obtain⟨p1,p2,p3,p4⟩:=VZ.out.1.blk2.facts;have v3:=VZ.out.2.2.1
       go_quiet (first|(go_at_call 84;refine Calls.quiet_of (qfd gp gb m c k _ hm (VZ.out.drewN _).1))|(go_at_call 127;refine Calls.quiet_of_same (qov vars tx va _ vc _ rfl (VZ.out.drewN _).2.2.2 hvl HM.out)));go_wp2;go_roundw
       case rel=>exact⟨q+1,by omega,by go_num,Y,qeg hbz _⟩
       case measure=>simp[intOf];omega
      ·have Y:=q6q (HA1.out pa (HU.out.symm.trans (HX.out hvv hmem)))
       have HM:=q6q hmem;clear hvv HX HN hmem;go_wp2;have VZ:=q6q (HV.out.after (hb2.alloc hbs2 (.cells #[.string (S tx),.bool true,.int .i64 pa] qa4)));have hbz:=hb2.alloc hbs2 (.cells #[.string (S tx),.bool true,.int .i64 pa] qa4);have hzz:=hbz.size;obtain⟨n1,n2,n3,n4⟩:=qoz wr (.string (S tx)) (.bool true) (.int .i64 pa) qa4;generalize hW:wr.alloc (.cells #[.string (S tx),.bool true,.int .i64 pa] qa4)=wz at*;generalize wr.heap.size=gz at*;clear hW;obtain⟨p1,p2,p3,p4⟩:=VZ.out.1.blk2.facts;have v3:=VZ.out.2.2.1
       go_quiet (first|(go_at_call 84;refine Calls.quiet_of (qfd gp gb m c k _ hm (VZ.out.drewN _).1))|(go_at_call 127;refine Calls.quiet_of_same (qq2 vars tx va _ vc _ rfl (VZ.out.drewN _).2.2.2 hvl HM.out)));go_wp2_with (go_at_call 43;refine(qaf 7 pa _).mono ?_;rintro e5 w5 ⟨rfl,rfl⟩)
       refine⟨rfl,?_,(qeg hbz _).alloc hzz _⟩;rw[Y.out];exact⟨_,rfl,hzz,heap_alloc_new _ _⟩
    ·have Y:=q6q (HA0.out (by rw[←HU.out,HQ2.out,List.drop_of_length_le (by omega)];rfl))
     clear HQ2;go_wp2;go_roundw
     case rel=>exact⟨j+1,by omega,by go_num,Y,hb2⟩
     case measure=>simp[intOf];omega
  ·have Y:=q6q (show qbn vars l=none by rw[HQ.out,List.drop_of_length_le (by omega)];rfl)
   clear HQ;go_wp2
   first|go_end0|refine bodyPost_ret (results_none rfl _ _ _) rfl ?_
   exact⟨by rw[Y.out];rfl,hbel⟩
theorem qpr(s:List UInt8):s.length≤(qb9 s).length:=by
 induction s with
 |nil=>simp
 |cons x r ih=>
  have:=(qf0 x).1;simp only[qb9,List.flatMap_cons,List.length_append,List.length_cons] at ih ⊢;omega
theorem qnj(h:k<l.length):qdg (l.take (k+1))=qdg (l.take k)++qgz l[k]:=qel qgz l k h
theorem qt7(l:List PieceG)(k:Nat):(qdg (l.take k)).length≤(qdg l).length:=by
 have h:qdg l=qdg (l.take k)++qdg (l.drop k):=by
  unfold qdg;rw[←List.flatMap_append,List.take_append_drop]
 rw[h,List.length_append];omega
theorem qo8(x:WordG)(ao:Option Addr)(n c p:Nat)(w:World)(hn:x.pl.length=n)(hp:x.at_=p)(hg:GoodA x.l)(hl:x.l.length≤2000)(hx:w.ownsRow 0 qa4 3 (.slice ao n c) n (pcs x.pl))(hpl:x.pl.length≤100000):
 Calls Tryz.prog 49 #[.agg #[.slice ao n c,.int .i64 p]] w fun e w'=>e= .returned (.string (S (qd2 x)))∧Below w.heap.size w w':=by
 have HF:(qbs x.l).length≤26000:=by
  have h3:(qbs x.l).length≤x.l.length*13:=qiq qc9 x.l 13 (qrc hg);omega
 have HB:=q6q (show qd2 x=qdw (qdg x.pl) by unfold qd2;rw[q0c]);rw[←q0c] at HF;generalize x.pl=pl at*;subst hn;have hrd:=q6q (RdT.of_own hx).rd;clear hx hg hl hp;have hbw:Below w.heap.size w (w.alloc (.cells #[.slice ao pl.length c,.int .i64 p] qbg)):=(Below.refl _ _).alloc (Nat.le_refl _) _;go_enter Tryz.func49,Tryz.ntmps49;go_wp2;generalize hW:w.alloc (.cells #[.slice ao pl.length c,.int .i64 p] qbg)=w1 at*;clear hW;rw[show(ByteArray.mk #[])=S [] from rfl];go_loopw [3,9] (fun v y wr=>∃q:Nat,q≤pl.length∧y= .int .i64 q∧v= .string (S (qdg (pl.take q)))∧Below w.heap.size w wr) (fun _ y _=>pl.length - (intOf y).toNat)
 case atStart=>exact⟨0,by omega,by go_num,rfl,hbw⟩
 case round=>
  obtain⟨q,hq,rfl,rfl,hbel⟩:=hrel;have hl0:(qdg (pl.take q)).length≤26000:=Nat.le_trans (qt7 pl q) HF;by_cases hlt:q<pl.length
  ·obtain⟨b,o,rfl,hb,hc⟩:=hrd.out.at (q*3) (by rw[qfq];omega)
   obtain⟨h1,h2,h3⟩:=qla pl q hlt;have m1:=(hbel.cell (p:=⟨b,o+q*3,none⟩) hb).trans (hc _ _ h1);have m2:=(hbel.cell (p:=⟨b,o+q*3+1,none⟩) hb).trans (hc _ _ h2);have m3:=(hbel.cell (p:=⟨b,o+q*3+2,none⟩) hb).trans (hc _ _ h3);have HT:=q6q (qnj hlt);have HL1:=q6q (show(qdg (pl.take q)).length+(qgz pl[q]).length≤26000 by
    have:=Nat.le_trans (qt7 pl (q+1)) HF;rw[qnj hlt,List.length_append] at this;exact this)
   have hql:(q:Int)<(pl.length:Int):=by omega
   clear h1 h2 h3 hc;obtain⟨pc,hpc⟩:∃pc,pc=pl[q]:=⟨_,rfl⟩;rw[←hpc] at m1 m2 m3 HT HL1;have HPC:=q6q hpc;clear hpc;have hba:∀o,Below w.heap.size w (wr.alloc o):=fun o=>hbel.alloc hbel.size o
   have hways:pc.var=true∨(pc.var=false∧pc.text=[])∨(pc.var=false∧pc.text≠[]):=by
    cases pc.var
    ·by_cases h:pc.text=[]
     ·exact .inr (.inl ⟨rfl,h⟩)
     ·exact .inr (.inr ⟨rfl,h⟩)
    ·exact .inl rfl
   rcases hways with hv|⟨hv,ht⟩|⟨hv,ht⟩
   ·have T:=q6q (show qdg (pl.take (q+1))=qdg (pl.take q)++([36,123]++pc.text++[125]) by rw[HT.out];unfold qgz;rw[hv];rfl)
    have htl:(qdg (pl.take q)).length+pc.text.length+3≤26000:=by have:=HL1.out;unfold qgz at this;rw[if_pos hv] at this;simp at this;omega
    rw[hv] at m2;clear hv HT HL1;go_wp2;go_roundw
    case rel=>exact⟨q+1,by omega,by go_num,qms (by rw[T.out];try simp),hba _⟩
    case measure=>simp[intOf];omega
   ·have T:=q6q (show qdg (pl.take (q+1))=qdg (pl.take q) by rw[HT.out];unfold qgz;rw[hv,ht];simp[qb9])
    rw[hv] at m2;rw[ht] at m1;clear hv ht HT HL1;go_wp2;go_roundw
    case rel=>exact⟨q+1,by omega,by go_num,qms (by rw[T.out]),hba _⟩
    case measure=>simp[intOf];omega
   ·have hsn:qb9 pc.text≠[]:=by
     intro e;have h1:=qpr pc.text;rw[e] at h1;exact ht (List.eq_nil_of_length_eq_zero (by simpa using h1))
    have T:=q6q (show qdg (pl.take (q+1))=qdg (pl.take q)++qdw (qb9 pc.text) by rw[HT.out];unfold qgz;rw[hv];unfold qdw;rw[if_neg hsn];rfl);have htl:(qdg (pl.take q)).length+(qdw (qb9 pc.text)).length≤26000:=by
     have h2:=HL1.out;rw[←List.length_append,←HT.out,T.out,List.length_append] at h2;exact h2
    have htt:pc.text.length≤26000:=by
     have h1:=qpr pc.text;unfold qdw at htl;rw[if_neg hsn] at htl;omega
    have hne:(pc.text==[])=false:=by simpa using ht
    have HWr:=q6q (fun wx=>qg3 pc.text wx (by omega));rw[hv] at m2;clear hv ht HT HL1 hsn;generalize qdw (qb9 pc.text)=qt at*;go_wp2_with fail;refine(HWr.out _).mono ?_;rintro e2 w2 ⟨rfl,hb2⟩;have HB2:=q6q ((hba _).trans (hb2.mono (hba _).size));clear hb2;go_wp2;go_roundw
    case rel=>exact⟨q+1,by omega,by go_num,qms (by rw[T.out]),HB2.out⟩
    case measure=>simp[intOf];omega
  ·have hqe:q=pl.length:=by omega
   have HQ:=q6q (show qdg (pl.take q)=qdg pl by rw[hqe,List.take_length]);rw[HQ.out];clear hqe;by_cases he:qdg pl=[]
   ·have Z:=q6q (show qd2 x=[34,34] by rw[HB.out,he];rfl)
    rw[he];have HWr:=q6q (fun wx=>qg3 [] wx (by simp));clear he;go_wp2_with fail;refine(HWr.out _).mono ?_;rintro e2 w2 ⟨rfl,hb2⟩;have HB2:=q6q (hbel.trans (hb2.mono hbel.size));clear hb2;go_wp2;go_ret;exact⟨qdu Z.out.symm,HB2.out⟩
   ·have Z:=q6q (show qd2 x=qdg pl by rw[HB.out];unfold qdw;rw[if_neg he])
    have hne:(qdg pl==[])=false:=by simpa using he
    clear he;go_wp2;go_ret;exact⟨qdu Z.out.symm,hbel⟩
theorem quz{st:List StageG}{k:Int}(h:k<0):qb1 st k=qcb:=by unfold qb1;rw[if_pos h]
theorem qx1{st:List StageG}(h:k<st.length):qb1 st (k:Int)=st[k].name:=by unfold qb1;rw[if_neg (by omega)];simp[h]
theorem qmb(st:List StageG)(B n c gp k0:Nat)(ao:Option Addr)(k:Int)(w:World)(hn:st.length=n)(hp:w.heap[gp]? =some (Obj.cells #[.slice ao n c,.int .i64 k0] 105 (0,0)))(hst:FStagesR B w st ao c)(hk:k<(n:Int)):
 Calls Tryz.prog 47 #[.pointer (some ⟨gp,0,none⟩),.int .i64 k] w fun e w'=>e= .returned (.string (S (qb1 st k)))∧Below w.heap.size w w':=by
 subst hn;obtain⟨c1,c2,c3,c4⟩:=(show Blk2 w gp (.slice ao st.length c) (.int .i64 k0) from⟨_,hp⟩).facts;rcases Int.lt_or_le k 0 with h|h
 ·have Y:=q6q (quz (st:=st) h)
  go_enter Tryz.func47,Tryz.ntmps47;go_wp2;go_ret;exact⟨qdu Y.out.symm,Below.refl _ _⟩
 ·obtain⟨k,rfl⟩:∃m:Nat,k=(m:Int):=⟨k.toNat,by omega⟩
  have hkl:k<st.length:=by omega
  obtain⟨b,o,sa,sc,va,vc,rfl,hb,m1,m2,m3,m4,_,_⟩:=hst.st.get hkl;have Y:=q6q (qx1 hkl);clear hp;go_enter Tryz.func47,Tryz.ntmps47;go_wp2;go_ret;exact⟨qdu Y.out.symm,Below.refl _ _⟩
def setE(f:List UInt8→Option (List UInt8))(l:List PieceG):List UInt8:=l.flatMap fun p=>if p.var=true then (f p.text).getD [] else p.text
theorem qpt{f:List UInt8→Option (List UInt8)}{q:Nat}(h:q<l.length):setE f (l.take (q+1))=setE f (l.take q)++(if l[q].var=true then (f l[q].text).getD [] else l[q].text):=by
 unfold setE;rw[List.take_succ_eq_append_getElem h,List.flatMap_append];simp
theorem qyr(f:List UInt8→Option (List UInt8))(l:List PieceG)(q:Nat):(setE f (l.take q)).length≤(setE f l).length:=by
 conv=>rhs;rw[←List.take_append_drop q l]
 unfold setE;rw[List.flatMap_append,List.length_append];omega
theorem q1x(f:List UInt8→Option (List UInt8))(N:Nat)(pl:List PieceG)(ao:Option Addr)(c p mb:Nat)(w:World)(hx:w.ownsRow 0 qa4 3 (.slice ao pl.length c) pl.length (pcs pl))(hpl:pl.length≤100000)(hv:EnvIs w mb N f)(ht:∀x∈pl,x.text.length≤100000)(hl:(setE f pl).length≤200000):
 Calls Tryz.prog 91 #[.agg #[.slice ao pl.length c,.int .i64 p],.map (some mb)] w fun e w'=>e= .returned (.string (S (setE f pl)))∧Below w.heap.size w w':=by
 have hrd:=q6q (RdT.of_own hx).rd;have HV:=q6q hv;have HT:=q6q ht;clear hx hv ht;have hbw:Below w.heap.size w (w.alloc (.cells #[.slice ao pl.length c,.int .i64 p] qbg)):=(Below.refl _ _).alloc (Nat.le_refl _) _;go_enter Tryz.func91,Tryz.ntmps91;go_wp2;generalize hW:w.alloc (.cells #[.slice ao pl.length c,.int .i64 p] qbg)=w1 at*;clear hW;rw[show(ByteArray.mk #[])=S [] from rfl];go_loopw [5,11] (fun v y wr=>∃q:Nat,q≤pl.length∧y= .int .i64 q∧v= .string (S (setE f (pl.take q)))∧Below w.heap.size w wr) (fun _ y _=>pl.length - (intOf y).toNat)
 case atStart=>exact⟨0,by omega,by go_num,rfl,hbw⟩
 case round=>
  obtain⟨q,hq,rfl,rfl,hbel⟩:=hrel;have hl0:(setE f (pl.take q)).length≤200000:=Nat.le_trans (qyr f pl q) hl;by_cases hlt:q<pl.length
  ·obtain⟨b,o,rfl,hb,hc⟩:=hrd.out.at (q*3) (by rw[qfq];omega)
   obtain⟨h1,h2,h3⟩:=qla pl q hlt;have m1:=(hbel.cell (p:=⟨b,o+q*3,none⟩) hb).trans (hc _ _ h1);have m2:=(hbel.cell (p:=⟨b,o+q*3+1,none⟩) hb).trans (hc _ _ h2);have m3:=(hbel.cell (p:=⟨b,o+q*3+2,none⟩) hb).trans (hc _ _ h3);have T:=q6q (qpt (f:=f) hlt);have htl:(setE f (pl.take q)).length+(if pl[q].var=true then (f pl[q].text).getD [] else pl[q].text).length≤200000:=by
    have:=Nat.le_trans (qyr f pl (q+1)) hl;rw[qpt hlt,List.length_append] at this;exact this
   have hql:(q:Int)<(pl.length:Int):=by omega
   have htx:=HT.out pl[q] (List.getElem_mem hlt);have HE:=q6q (fun (wx:World) (hb:Below w.heap.size w wx)=>(HV.out.below hb).look pl[q].text (by unfold maxLen;omega));clear h1 h2 h3 hc;obtain⟨pc,hpc⟩:∃pc,pl[q]=pc:=⟨_,rfl⟩;rw[hpc] at m1 m2 m3 T htl HE htx;clear hpc;have hba:∀o,Below w.heap.size w (wr.alloc o):=fun o=>hbel.alloc hbel.size o
   have hlk:∀o,(Instr.lookup tEnv (.map (some mb)) (.string (S pc.text)) false).run Tryz.prog (wr.alloc o)= .ok (evV ((f pc.text).getD [])) (wr.alloc o):=fun o=>HE.out _ (hba o)
   cases hpv:pc.var with
   |true=>
    rw[hpv] at m2;rw[if_pos hpv] at htl T;clear hpv HE htx;obtain⟨vt,hvt⟩:∃vt,(f pc.text).getD []=vt:=⟨_,rfl⟩;rw[hvt] at htl T;replace hlk:∀o,(Instr.lookup tEnv (.map (some mb)) (.string (S pc.text)) false).run Tryz.prog (wr.alloc o)= .ok (.agg #[.string (S vt)]) (wr.alloc o):=fun o=>by rw[←hvt];exact hlk o
    clear hvt;have hfl:∀(a:Value) (w:World),(Instr.field tVal (.agg #[a]) 0).run Tryz.prog w= .ok a w:=fun a w=>by kernel_rfl
    go_wp2;go_roundw
    case rel=>exact⟨q+1,by omega,by go_num,qms (by rw[T.out]),hba _⟩
    case measure=>simp[intOf];omega
   |false=>
    rw[hpv] at m2;rw[if_neg (by rw[hpv];decide)] at htl T;clear hpv hlk HE;go_wp2;go_roundw
    case rel=>exact⟨q+1,by omega,by go_num,qms (by rw[T.out]),hba _⟩
    case measure=>simp[intOf];omega
  ·have hqe:q=pl.length:=by omega
   subst hqe;rw[List.take_length] at*;go_wp2;go_ret;exact⟨rfl,hbel⟩
end Go.Proofs.YtikdblkfjchjbaaGreatDoor
