import Derived.Test.YtikdblkfjchjbaaGreatDoorY11
import Derived.Test.YtikdblkfjchjbaaGreatDoorY12
set_option linter.unusedVariables false
set_option linter.unusedSimpArgs false
set_option maxHeartbeats 16000000
set_option maxRecDepth 100000
namespace Go.Proofs.YtikdblkfjchjbaaGreatDoor
open Go.RowKit
variable{w w0 W w' W':World}{D P:Nat→Prop}{t n mb g b N B:Nat}{E:Obj→Prop}{l c l2:List Ent}{wk wk2:List UInt8}{f:List UInt8→Option (List UInt8)}{r:Except Int (List Ent×List UInt8)}{a m:Pth→Nat}{F:qag}{k:Int}
theorem q3l(hT:TreeAt w B N a m F)(t:Nat)(hV:TreeV w t a)(hS:Std w)(p:List UInt8)(hp:p.length≤5000)(x:Nd)(hx:F (qaa p)=some x):
 Calls Tryz.prog 132 #[.pointer (some ⟨t,0,none⟩),.string (S p)] w fun e w'=>e= .returned (Ent.agg ⟨p,x.kind,x.mode,x.data⟩)∧Below w.heap.size w w':=by
 have hb1:Below w.heap.size w (w.alloc (.cells #[.string (S []),.int .i64 0,.int .i64 0,.string (S [])] 47)):=(Below.refl _ _).alloc (Nat.le_refl _) _;have HF:=q6q (qh1 (hT.below hb1) t (hV.below hb1) p (by omega) (hS.below hb1));rw[qgu hx] at HF;have HT:=q6q (hT.below hb1);have HX:=q6q hx;clear hT hV hS hx;go_enter Tryz.func132,Tryz.ntmps132;go_wp2_with fail;refine HF.out.mono ?_;rintro e w2 ⟨rfl,hb2⟩;have hz1:(w.alloc (.cells #[.string (S []),.int .i64 0,.int .i64 0,.string (S [])] 47)).heap.size=w.heap.size+1:=by simp
 have k0:w2.heap[w.heap.size]? =some (.cells #[.string (S []),.int .i64 0,.int .i64 0,.string (S [])] 47 (0,0)):=(hb2.block _ (by rw[hz1];omega)).trans (Go.heap_alloc_new w _);obtain⟨n0,n1,n2,n3,_⟩:=(HT.out.below hb2).cells _ _ HX.out;have hlt:=q6r w2 _ n0;have HB2:=q6q (((Below.refl w.heap.size w).alloc (Nat.le_refl _) (.cells #[.string (S []),.int .i64 0,.int .i64 0,.string (S [])] 47)).trans (hb2.mono (by omega)));have hz2:w.heap.size+1≤w2.heap.size:=by have:=hb2.size;omega
 obtain⟨f0,f1,f2,f3⟩:w2.cell? ⟨w.heap.size,0,none⟩=some (.string (S []))∧w2.cell? ⟨w.heap.size,1,none⟩=some (.int .i64 0)∧w2.cell? ⟨w.heap.size,2,none⟩=some (.int .i64 0)∧w2.cell? ⟨w.heap.size,3,none⟩=some (.string (S [])):=by
  refine⟨?_,?_,?_,?_⟩ <;> rw[cell_of_row w2 _ _ _ _ _ k0] <;> rfl
 have fz:∀o,w2.frozen? ⟨w.heap.size,o,none⟩=false:=fun o=>frozen_of_row _ _ _ _ _ k0
 clear hb2 HF HT HX;generalize hg:w.heap.size=g0 at hz2 f0 f1 f2 f3 fz k0 ⊢;go_upto_region 3 with fail;have hb3:Below w2.heap.size w2 (w2.alloc (.cells #[.string (S p),.int .i64 x.kind,.int .i64 x.mode,.string (S x.data)] 47)):=(Below.refl _ _).alloc (Nat.le_refl _) _;obtain⟨q0,q1,q2,q3⟩:=Cell4.new w2 ⟨p,x.kind,x.mode,x.data⟩ 47;have k3:=(hb3.block g0 (by omega)).trans k0;have HB3:=q6q (HB2.out.trans (hb3.mono (by have:=HB2.out.size;omega)));simp only at q0 q1 q2 q3;generalize w2.alloc (.cells #[.string (S p),.int .i64 x.kind,.int .i64 x.mode,.string (S x.data)] 47)=w3 at q0 q1 q2 q3 k3 HB3 ⊢
 have y0:w3.cell? ⟨g0,0,none⟩=some (.string (S [])):=by rw[cell_of_row w3 _ _ _ _ _ k3];rfl
 have y1:w3.cell? ⟨g0,1,none⟩=some (.int .i64 0):=by rw[cell_of_row w3 _ _ _ _ _ k3];rfl
 have y2:w3.cell? ⟨g0,2,none⟩=some (.int .i64 0):=by rw[cell_of_row w3 _ _ _ _ _ k3];rfl
 have y3:w3.cell? ⟨g0,3,none⟩=some (.string (S [])):=by rw[cell_of_row w3 _ _ _ _ _ k3];rfl
 have z0:∀o,w3.frozen? ⟨g0,o,none⟩=false:=fun o=>frozen_of_row _ _ _ _ _ k3
 have a0:=z0 0;have a1:=z0 1;have a2:=z0 2;have a3:=z0 3;clear f0 f1 f2 f3 fz k0 hb3 n0 n1 n2 n3 z0;go_wp2;have hs4:=set4 k3 ⟨p,x.kind,x.mode,x.data⟩;have hbe:Below w.heap.size w ((((w3.setCell ⟨g0,0,none⟩ (.string (S p))).setCell ⟨g0,1,none⟩ (.int .i64 x.kind)).setCell ⟨g0,2,none⟩ (.int .i64 x.mode)).setCell ⟨g0,3,none⟩ (.string (S x.data))):=
  (((HB3.out.setCell (by show w.heap.size≤g0;omega) _).setCell (by show w.heap.size≤g0;omega) _).setCell (by show w.heap.size≤g0;omega) _).setCell (by show w.heap.size≤g0;omega) _
 obtain⟨v0,v1,v2,v3⟩:=hs4;simp only at v0 v1 v2 v3;refine bodyPost_ret (by simp[results,Tryz.results132,go_sem,v0,v1,v2,v3,Result.andThen];try rfl) rfl ?_;exact⟨rfl,hbe⟩
def CtxT(w:World)(c:List Ent)(t:Nat):Prop:=Lists c (qav c)∧∃B N a m,N≤4294967290∧TreeAt w B N a m (qav c)∧TreeV w t a
theorem CtxT.below(h:CtxT w c t)(hb:Below w.heap.size w w'):CtxT w' c t:=by
 obtain⟨h1,B,N,a,m,h2,h3,h4⟩:=h;exact⟨h1,B,N,a,m,h2,h3.below hb,h4.below hb⟩
theorem CtxT.kind_any(h:CtxT w c t)(hS:Std w)(p:List UInt8)(hp:p.length≤4294967280):
 Calls Tryz.prog 69 #[.pointer (some ⟨t,0,none⟩),.string (S p)] w fun e w'=>e= .returned (.int .i64 (qb3 c p))∧Below w.heap.size w w':=by
 obtain⟨h1,B,N,a,m,_,h3,h4⟩:=h;rw[qj0 h1];exact Go.Proofs.YtikdblkfjchjbaaGreatDoor.kind_any h3 t h4 p hp hS
theorem qlw(h:Lists c (qav c)){p:List UInt8}(hp:p≠[])(hpp:qa5 p=true):qav c (qaa p)=(qh7 c p).map ndOf:=by
 unfold qh7;cases hf:c.find? (fun e=>decide (e.path=p)) with
 |some e=>
  have h1:=List.mem_of_find?_eq_some hf;have h2:=List.find?_some hf;rw[decide_eq_true_eq] at h2;rw[←h2];exact h.mem e h1
 |none=>
  cases hx:qav c (qaa p) with
  |none=>rfl
  |some x=>
   rcases h.only _ x hx with e|⟨e,he,h1,_⟩
   ·exact absurd e (qcs hp)
   ·have:e.path=p:=by rw[←qck e.path,h1,qck]
    have:=List.find?_eq_none.1 hf e he;simp_all
theorem CtxT.entry_any(h:CtxT w c t)(hS:Std w)(p:List UInt8)(hp:p.length≤5000)(hne:p≠[])(hpp:qa5 p=true)(e:Ent)(he:qh7 c p=some e):
 Calls Tryz.prog 132 #[.pointer (some ⟨t,0,none⟩),.string (S p)] w fun r w'=>r= .returned (Ent.agg ⟨p,e.kind,e.mode,e.data⟩)∧Below w.heap.size w w':=by
 obtain⟨h1,B,N,a,m,_,h3,h4⟩:=h;exact q3l h3 t h4 hS p hp (ndOf e) (by rw[qlw h1 hne hpp,he];rfl)
theorem qyq(s:List UInt8)(w:World)(hs:s.length≤5000):Calls Tryz.prog 131 #[.string (S s),.string ⟨#[47]⟩] w fun e w'=>e= .returned (.bool (([47]:List UInt8).isSuffixOf s))∧w=w':=
 (Tryz.strings_HasSuffix (S s) ⟨#[47]⟩ w (by rw[qc0];omega)).mono fun e w' ⟨he,hw⟩=>⟨by rw[he,qc7];rfl,hw.symm⟩
theorem qs4(h:StM w0 w n l t g mb E D wk)(hS:Std w0)(hn:n<2000000000)(c:List Ent)(tc:Nat)(hC:CtxT w0 c tc)
 (src dst:List UInt8)(hs:src.length≤200)(hd:dst.length≤200)(hcase:∀p tp,wayL [] src= .ok p→wayL wk dst= .ok tp→qb3 c p=1→∃k,qdy l tp= .error k):
 Calls Tryz.prog 94 #[.pointer (some ⟨g,0,none⟩),.pointer (some ⟨tc,0,none⟩),.string (S src),.string (S dst)] w fun e w'=>StOut w0 w (n+13) t g mb E D wk (qcv c l wk src dst) e w':=by
 have HM:=q6q h;have HS:=q6q hS;have HC:=q6q hC;have hb1:Below w.heap.size w (w.alloc (.cells #[.pointer (some ⟨g,0,none⟩)] 143)):=(Below.refl _ _).alloc (Nat.le_refl _) _;have cb:(w.alloc (.cells #[.pointer (some ⟨g,0,none⟩)] 143)).cell? ⟨w.heap.size,0,none⟩=some (.pointer (some ⟨g,0,none⟩)):=by
  rw[cell_of_row _ _ _ _ _ _ (Go.heap_alloc_new w _)];rfl
 have hz1:(w.alloc (.cells #[.pointer (some ⟨g,0,none⟩)] 143)).heap.size=w.heap.size+1:=by simp
 have HR:=qfj [] src (w.alloc (.cells #[.pointer (some ⟨g,0,none⟩)] 143)) (hS.below (h.below.trans (hb1.mono h.below.size))) (by simp;omega);rcases qfu [] src with⟨p,e1,e2,e3⟩|⟨q,e1,e2⟩;rotate_left
 ·rw[e2] at HR
  have HR:=q6q HR;have HE:=q6q (show qcv c l wk src dst= .error 1 by unfold qcv;rw[e1]);clear e1 e2 hS hC h hcase cb;go_enter Tryz.func94,Tryz.ntmps94;go_wp2_with fail;refine HR.out.mono ?_;rintro _ w2 ⟨rfl,hb2⟩;have HB2:=q6q (hb1.trans (hb2.mono (by omega)));clear hb2 HR;go_wp2_with fail;refine(qcd 1 _).mono ?_;rintro _ w3 ⟨rfl,rfl⟩;exact⟨rfl,StOut.err HE.out (HM.out.after HB2.out).below (HM.out.stay HB2.out)⟩
 ·rw[e2] at HR
  have HR:=q6q HR;have HP:=q6q e3;have hpl:=(qbb e3).1;have HE1:=q6q e1;clear e1 e2 e3 hS hC h;go_enter Tryz.func94,Tryz.ntmps94;go_wp2_with fail;refine HR.out.mono ?_;rintro _ w2 ⟨rfl,hb2⟩;have HB2:=q6q (hb1.trans (hb2.mono (by omega)));have cb2:=(hb2.cell (p:=⟨w.heap.size,0,none⟩) (by show w.heap.size<_;omega)).trans cb;clear hb2 HR cb hb1 hz1;generalize hbx:w.heap.size=bx at cb2 ⊢;go_wp2_with fail;refine(qbv 1 _).mono ?_;rintro _ w3 ⟨rfl,rfl⟩;go_wp2_with fail;refine(qfl (HM.out.after HB2.out) (HS.out.below (HM.out.after HB2.out).below) dst (by omega)).mono ?_;intro e w4 ⟨ho,hb4⟩;have HB4:=q6q (HB2.out.trans (hb4.mono HB2.out.size))
  have cb4:=(hb4.cell (p:=⟨bx,0,none⟩) (q6r w2 _ cb2)).trans cb2;clear hb4 HB2 cb2;cases hw:wayL wk dst with
  |error k=>
   rw[hw] at ho;obtain rfl:e=qeq k:=ho;have HE:=q6q (show qcv c l wk src dst= .error k by unfold qcv;rw[HE1.out,hw]);exact⟨rfl,StOut.err HE.out (HM.out.after HB4.out).below (HM.out.stay HB4.out)⟩
  |ok tp=>
   rw[hw] at ho;obtain rfl:e= .returned (.string (S tp)):=ho;have HE2:=q6q (show qcv c l wk src dst=if qb3 c p=0 then .error 8 else if qb3 c p=1 then ql3 c l tp p else qkp c l tp dst p by unfold qcv;rw[HE1.out,hw]);have hcs:=hcase p tp HE1.out hw;have HCs:=q6q hcs;have htl:=(qbb (qca hw)).1;have HPt:=q6q (qca hw);clear hcase hcs hw HE1;go_upto_region 4 with fail;have hb5:Below w4.heap.size w4 (w4.alloc (.cells #[.string (S tp)] 9)):=(Below.refl _ _).alloc (Nat.le_refl _) _;have k10:=Go.heap_alloc_new w4 (.cells #[.string (S tp)] 9);have HB5:=q6q (HB4.out.trans (hb5.mono HB4.out.size));have cb5:=(hb5.cell (p:=⟨bx,0,none⟩) (q6r w4 _ cb4)).trans cb4
   have hbt:w.heap.size≤w4.heap.size:=HB4.out.size;have hbl:bx<w4.heap.size:=q6r w4 _ cb4;generalize w4.alloc (.cells #[.string (S tp)] 9)=w5 at k10 HB5 cb5 ⊢;generalize w4.heap.size=bt at k10 hbt hbl ⊢;clear hb5 HB4 cb4;go_wp2_with fail;refine((HC.out.below (HM.out.after HB5.out).below).kind_any (HS.out.below (HM.out.after HB5.out).below) p (by omega)).mono ?_;rintro _ w6 ⟨rfl,hb6⟩;have HB6:=q6q (HB5.out.trans (hb6.mono HB5.out.size));have cb6:=(hb6.cell (p:=⟨bx,0,none⟩) (q6r w5 _ cb5)).trans cb5;have k106:=(hb6.block bt (q6s k10).1).trans k10;clear hb6 HB5 cb5 k10;obtain⟨z,hz⟩:∃z,qb3 c p=z:=⟨_,rfl⟩;rw[hz] at HCs HE2 ⊢;have HZ:=q6q hz;clear hz
   by_cases hz0:z=0
   ·subst hz0
    go_wp2_with fail;refine(qcd 8 _).mono ?_;rintro _ w7 ⟨rfl,rfl⟩;exact⟨rfl,StOut.err HE2.out (HM.out.after HB6.out).below (HM.out.stay HB6.out)⟩
   ·have hf0:(z != 0)=true:=bne_iff_ne.2 hz0
    have HE3:=HE2.out;rw[if_neg hz0] at HE3;go_wp2_with fail;refine(qbv 8 _).mono ?_;rintro _ w7 ⟨rfl,rfl⟩;go_wp2_with fail;refine((HC.out.below (HM.out.after HB6.out).below).kind_any (HS.out.below (HM.out.after HB6.out).below) p (by omega)).mono ?_;rintro _ w8 ⟨rfl,hb8⟩;rw[HZ.out];have HB8:=q6q (HB6.out.trans (hb8.mono HB6.out.size));have cb8:=(hb8.cell (p:=⟨bx,0,none⟩) (q6r w6 _ cb6)).trans cb6;have k108:=(hb8.block bt (q6s k106).1).trans k106;have ct8:w8.cell? ⟨bt,0,none⟩=some (.string (S tp)):=by rw[cell_of_row w8 _ _ _ _ _ k108];rfl
    clear hb8 HB6 cb6 k106;by_cases hz1:z=1
    ·subst hz1
     obtain⟨k,hk⟩:=HCs.out rfl;rw[if_pos rfl] at HE3;have HE4:=q6q (show qcv c l wk src dst= .error k by rw[HE3];unfold ql3;rw[hk]);have hmd:=qew (HM.out.after HB8.out) HS.out tp (by omega) (by omega);rw[hk] at hmd;have HMd:=q6q hmd;clear HE3 hk hmd;go_wp2_with fail;refine HMd.out.mono ?_;rintro e w9 ⟨rfl,hb9,hd9⟩;exact⟨rfl,StOut.err HE4.out hb9 ((HM.out.stay HB8.out).trans hd9)⟩
    ·have hf1:(z==1)=false:=beq_eq_false_iff_ne.2 hz1
     rw[if_neg hz1] at HE3;have HE4:=q6q HE3;clear HE3;go_upto_region 12 with fail;obtain⟨c0,_,_⟩:=(HM.out.after HB8.out).cells;obtain⟨sf,hsf⟩:∃sf,([47]:List UInt8).isSuffixOf dst=sf:=⟨_,rfl⟩;have HSx:=q6q (fun wx=>qyq dst wx (by omega));rw[hsf] at HSx;have HSf:=q6q hsf;clear hsf;go_cut [62] (fun v wx=>v= .bool (sf ||qb3 l tp==1)∧Hid (Below w8.heap.size w8 wx))
     case first=>
      have HKd:=q6q (qln (HM.out.after HB8.out).drew (HS.out.below (HM.out.after HB8.out).drew.below) tp (by omega));have t1:=fun (wx:World) (hb:Below w8.drew.heap.size w8.drew wx)=>(qbi (Below.refl w8.heap.size w8)).trans hb
      cases sf
      ·go_region_with (first
        |(go_at_call 131;refine(HSx.out _).mono ?_;rintro e1 w9 ⟨rfl,rfl⟩)
        |(go_at_call 69;refine HKd.out.mono ?_;rintro e1 w9 ⟨rfl,hb9⟩;have HB9:=q6q (t1 w9 hb9);clear hb9))
       all_goals
        go_wp2;go_meet
        exact⟨rfl,HB9⟩
      ·go_region_with (go_at_call 131;refine(HSx.out _).mono ?_;rintro e1 w9 ⟨rfl,rfl⟩)
       all_goals
        go_wp2;go_meet
        exact⟨rfl,q6q (qbi (Below.refl _ _))⟩
     case rest=>
      obtain⟨rfl,HB9⟩:=hcut;have HB10:=q6q (HB8.out.trans (HB9.out.mono HB8.out.size));have cb9:=(HB9.out.cell (p:=⟨bx,0,none⟩) (q6r w8 _ cb8)).trans cb8;have k109:=(HB9.out.block bt (q6s k108).1).trans k108;have hpn:p≠[]:=fun e=>hz1 (by rw[←HZ.out,e];rfl)
      have HPn:=q6q hpn;obtain⟨en,hen⟩:∃e,qh7 c p=some e:=by
       have hk:=HZ.out;unfold qb3 at hk;rw[if_neg hpn] at hk;unfold qh7;cases hf:c.find? (fun e=>decide (e.path=p)) with
       |some e=>exact⟨e,rfl⟩
       |none=>rw[hf] at hk;exact absurd hk.symm hz0
      have HEn:=q6q hen;have HFt:=q6q (show qnk l tp dst p=if (sf ||qb3 l tp==1)=true then inB tp (upB p).2 else tp by
       unfold qnk;rw[HSf.out];simp only[Bool.or_eq_true,beq_iff_eq])
      have hlast:(upB p).2.length≤60:=(qbx (qf3 HP.out HPn.out).2).2.1;clear HB8 HB9 cb8 k108 ct8 c0 hpn hen;obtain⟨b,hb⟩:∃b,(sf ||qb3 l tp==1)=b:=⟨_,rfl⟩;rw[hb] at HFt ⊢;clear hb;go_upto_if 62 with fail
      go_cut [13,14] (fun v13 v14 wx=>∃tq:List UInt8,Hid (qnk l tp dst p=tq)∧tq.length≤400∧Hid (Below w.heap.size w wx)∧wx.cell? ⟨bx,0,none⟩=some (.pointer (some ⟨g,0,none⟩))∧wx.heap[bt]? =some (.cells #[.string (S tq)] 9 (0,0)))
      case first=>
       cases b
       ·go_wp2
        go_meet
        exact⟨tp,q6q (by rw[HFt.out];rfl),by omega,HB10,cb9,k109⟩
       ·go_wp2_with fail
        refine(qdd p HPn.out (by omega) _).mono ?_;rintro _ w10 ⟨rfl,hb10⟩;have HB11:=q6q (HB10.out.trans (hb10.mono HB10.out.size));have cb10:=(hb10.cell (p:=⟨bx,0,none⟩) (q6r wc _ cb9)).trans cb9;have k1010:=(hb10.block bt (q6s k109).1).trans k109;have ct10:w10.cell? ⟨bt,0,none⟩=some (.string (S tp)):=by rw[cell_of_row w10 _ _ _ _ _ k1010];rfl
        have cf10:w10.frozen? ⟨bt,0,none⟩=false:=frozen_of_row _ _ _ _ _ k1010;clear hb10 HB10 cb9 k109;obtain⟨la,hla⟩:∃la,(upB p).2=la:=⟨_,rfl⟩;rw[hla] at hlast HFt ⊢;clear hla;go_wp2_with fail;refine(qda tp la _ (by omega)).mono ?_;rintro _ w11 ⟨rfl,rfl⟩;go_wp2;go_meet
        exact⟨inB tp la,q6q (by rw[HFt.out,if_pos trivial]),by unfold inB;split <;> simp only[List.length_append,List.length_cons] <;> omega,q6q (HB11.out.setCell (by show w.heap.size≤bt;omega) _),
         (World.cell?_setCell_far _ _ _ _ (by show bt≠bx;omega)).trans cb10,heap_setCell_same w10 bt 0 _ _ _ k1010⟩
      case rest=>
       obtain⟨tq,HTq,htq,HBq,cbq,kq⟩:=hcut;have HE5:=HE4.out;unfold qkp at HE5;rw[HTq.out] at HE5;have ctq:wc.cell? ⟨bt,0,none⟩=some (.string (S tq)):=by rw[cell_of_row _ _ _ _ _ _ kq];rfl
       clear HB10 cb9 k109 HTq HFt HE4;by_cases htn:tq=[]
       ·subst htn
        rw[if_pos rfl] at HE5;have HE6:=q6q HE5;clear HE5;go_wp2_with fail;refine(qcd 9 _).mono ?_;rintro _ w12 ⟨rfl,rfl⟩;exact⟨rfl,StOut.err HE6.out (HM.out.after HBq.out).below (HM.out.stay HBq.out)⟩
       ·rw[if_neg htn] at HE5
        have HE6:=q6q HE5;have htf:tq.isEmpty=false:=List.isEmpty_eq_false_iff.2 htn;have HTn:=q6q htn;clear HE5 htn;go_wp2_with fail;refine(qbv 9 _).mono ?_;rintro _ w12 ⟨rfl,rfl⟩;go_wp2_with fail;refine(qdd tq HTn.out (by omega) _).mono ?_;rintro _ w13 ⟨rfl,hb13⟩;have HB13:=q6q (HBq.out.trans (hb13.mono HBq.out.size));have cb13:=(hb13.cell (p:=⟨bx,0,none⟩) (q6r wc _ cbq)).trans cbq;have ct13:=(hb13.cell (p:=⟨bt,0,none⟩) (q6r wc _ ctq)).trans ctq;have hul:=qgg tq;clear hb13 HBq cbq ctq kq;have hmd:=qew (HM.out.after HB13.out) HS.out (upB tq).1 (by omega) (by omega);have HMd:=q6q hmd;clear hmd;go_wp2_with fail;refine HMd.out.mono ?_;intro e w14 ho
        cases hmk:qdy l (upB tq).1 with
        |error k=>
         rw[hmk] at ho;obtain⟨rfl,hb14,hd14⟩:=ho;exact⟨rfl,StOut.err (by rw[HE6.out,hmk]) hb14 ((HM.out.stay HB13.out).trans hd14)⟩
        |ok l1=>
         rw[hmk] at ho;obtain⟨rfl,hm14,hk14,hd14⟩:=ho;have HM14:=q6q hm14;have HK14:=q6q ((KeepC.below HB13.out).trans hk14);have HD14:=q6q ((HM.out.stay HB13.out).trans hd14);have cb14:=hk14 _ _ cb13;have ct14:=hk14 _ _ ct13;have HE7:=q6q (show qcv c l wk src dst=layE l1 ⟨tq,en.kind,en.mode,en.data⟩ by rw[HE6.out,hmk];simp only[HEn.out]);have hgd:=(HC.out.1.each en (List.mem_of_find?_eq_some HEn.out)).2.2;have HGd:=q6q (show qbh ⟨tq,en.kind,en.mode,en.data⟩=true by unfold qbh at hgd ⊢;exact hgd);clear hm14 hk14 hd14 cb13 ct13 HE6 hmk hgd HMd;go_wp2_with fail
         refine((HC.out.below HM14.out.below).entry_any (HS.out.below HM14.out.below) p (by omega) HPn.out HP.out en HEn.out).mono ?_;rintro _ w15 ⟨rfl,hb15⟩;have HM15:=q6q (HM14.out.after hb15);have HK15:=q6q (HK14.out.trans (KeepC.below hb15));have HD15:=q6q (HD14.out.trans (HM14.out.stay hb15));have cb15:=(hb15.cell (p:=⟨bx,0,none⟩) (q6r _ _ cb14)).trans cb14;have ct15:=(hb15.cell (p:=⟨bt,0,none⟩) (q6r _ _ ct14)).trans ct14;clear hb15 HM14 HK14 HD14 cb14 ct14;rw[show Ent.agg ⟨p,en.kind,en.mode,en.data⟩= .agg #[.string (S p),.int .i64 en.kind,.int .i64 en.mode,.string (S en.data)] from rfl];go_upto_region 19 with fail
         have hb16:Below w15.heap.size w15 (w15.alloc (.cells #[.string (S p),.int .i64 en.kind,.int .i64 en.mode,.string (S en.data)] 47)):=(Below.refl _ _).alloc (Nat.le_refl _) _;have k16:=Go.heap_alloc_new w15 (.cells #[.string (S p),.int .i64 en.kind,.int .i64 en.mode,.string (S en.data)] 47);have cb16:=(hb16.cell (p:=⟨bx,0,none⟩) (q6r _ _ cb15)).trans cb15;have ct16:=(hb16.cell (p:=⟨bt,0,none⟩) (q6r _ _ ct15)).trans ct15;have hbx5:=q6r _ _ cb15;have hz5:w15.heap.size≤w15.heap.size:=Nat.le_refl _;generalize w15.alloc (.cells #[.string (S p),.int .i64 en.kind,.int .i64 en.mode,.string (S en.data)] 47)=w16 at hb16 k16 cb16 ct16 ⊢
         generalize hbe:w15.heap.size=be at k16 hbx5 hz5 ⊢;have e0:w16.cell? ⟨be,0,none⟩=some (.string (S p)):=by rw[cell_of_row _ _ _ _ _ _ k16];rfl
         have e9:w16.frozen? ⟨be,0,none⟩=false:=frozen_of_row _ _ _ _ _ k16;go_upto_region 20 with fail;have k17:=heap_setCell_same w16 be 0 _ _ (.string (S tq)) k16;have hb17:Below w15.heap.size w15 (w16.setCell ⟨be,0,none⟩ (.string (S tq))):=hb16.setCell (by show w15.heap.size≤be;omega) _;have cb17:(w16.setCell ⟨be,0,none⟩ (.string (S tq))).cell? ⟨bx,0,none⟩=some (.pointer (some ⟨g,0,none⟩)):=(World.cell?_setCell_far _ _ _ _ (by show be≠bx;exact fun e=>Nat.lt_irrefl _ (e▸hbx5))).trans cb16;generalize w16.setCell ⟨be,0,none⟩ (.string (S tq))=w17 at k17 hb17 cb17 ⊢
         have q0:w17.cell? ⟨be,0,none⟩=some (.string (S tq)):=by rw[cell_of_row _ _ _ _ _ _ k17];rfl
         have q1:w17.cell? ⟨be,1,none⟩=some (.int .i64 en.kind):=by rw[cell_of_row _ _ _ _ _ _ k17];rfl
         have q2:w17.cell? ⟨be,2,none⟩=some (.int .i64 en.mode):=by rw[cell_of_row _ _ _ _ _ _ k17];rfl
         have q3:w17.cell? ⟨be,3,none⟩=some (.string (S en.data)):=by rw[cell_of_row _ _ _ _ _ _ k17];rfl
         have HM17:=q6q (HM15.out.after hb17);have HK17:=q6q (HK15.out.trans (KeepC.below hb17));have HD17:=q6q (HD15.out.trans (HM15.out.stay hb17));clear hb16 k16 cb16 ct16 e0 e9 k17 hb17 HM15 HK15 HD15 cb15 ct15 hbe;go_wp2_with fail;refine(qom HM17.out HS.out ⟨tq,en.kind,en.mode,en.data⟩ (by show tq.length≤5000;omega) HTn.out HGd.out (by omega)).mono ?_;intro e w18 ho;cases hly:layE l1 ⟨tq,en.kind,en.mode,en.data⟩ with
         |error k=>
          rw[hly] at ho;obtain⟨rfl,hb18,hd18⟩:=ho;exact⟨rfl,StOut.err (by rw[HE7.out,hly]) hb18 (HD17.out.trans hd18)⟩
         |ok l2=>
          rw[hly] at ho;obtain⟨rfl,hm18,hk18,hd18⟩:=ho;have HE8:=q6q (show qcv c l wk src dst= .ok l2 by rw[HE7.out,hly]);have HM18:=q6q hm18;have HK18:=q6q (HK17.out.trans hk18);have HD18:=q6q (HD17.out.trans hd18);clear hm18 hk18 hd18 HM17 HK17 HD17 hly HE7 q0 q1 q2 q3 cb17;go_wp2;go_end0
          exact StOut.ok HE8.out HM18.out HK18.out HD18.out
structure DoorS(D:Nat→Prop)(w W:World)(b:Nat):Prop where
 cell:W.heap[b]? =some (.cells #[.int .i64 0] 27 (0,0))
 low:w.heap.size≤b
 stay:StayD D w W
 dlt:∀k,D k→k<w.heap.size
theorem DoorS.after(h:DoorS D w W b)(hb:Below W.heap.size W W'):DoorS D w W' b:=⟨(hb.block b (q6s h.cell).1).trans h.cell,h.low,h.stay.trans ⟨hb.size,fun k hk=>hb.block k (Nat.lt_of_lt_of_le (h.dlt k hk) h.stay.1)⟩,h.dlt⟩
theorem DoorS.facts(h:DoorS D w W b):W.cell? ⟨b,0,none⟩=some (.int .i64 0)∧W.frozen? ⟨b,0,none⟩=false:=by
 refine⟨?_,frozen_of_row _ _ _ _ _ h.cell⟩;rw[cell_of_row _ _ _ _ _ _ h.cell];rfl
theorem DoorS.poke(h:DoorS D w W b)(v:Value):StayD D w (W.setCell ⟨b,0,none⟩ v):=h.stay.trans ⟨by simp,fun k hk=>heap_setCell_other W ⟨b,0,none⟩ k _ (fun e=>by have h1:=h.dlt k hk;have h2:=h.low;simp only at e;omega)⟩
theorem DoorS.caught(h:DoorS D w W b)(k:Int)(w0:World)(hb:Below w0.heap.size w0 W)(hl:w0.heap.size≤b):
 ((W.alloc (.cells #[.int .i64 k] qfg)).setCell ⟨b,0,none⟩ (.int .i64 k)).cell? ⟨b,0,none⟩=some (.int .i64 k)∧Below w0.heap.size w0 ((W.alloc (.cells #[.int .i64 k] qfg)).setCell ⟨b,0,none⟩ (.int .i64 k))∧StayD D w ((W.alloc (.cells #[.int .i64 k] qfg)).setCell ⟨b,0,none⟩ (.int .i64 k)):=by
 have hbA:Below W.heap.size W (W.alloc (.cells #[.int .i64 k] qfg)):=(Below.refl _ _).alloc (Nat.le_refl _) _;have hc:=(h.after hbA).facts.1;exact⟨World.cell?_setCell_same' _ ⟨b,0,none⟩ _ (by rw[hc];rfl),(hb.trans (hbA.mono hb.size)).setCell hl _,(h.after hbA).poke _⟩
def DoOut(w0 w:World)(n t g mb:Nat)(E:Obj→Prop)(D:Nat→Prop)(r:Except Int (List Ent×List UInt8))(e:Ending)(w':World):Prop:=match r with
 |.ok (l2,wk2)=>e= .returned (.int .i64 0)∧StM w0 w' n l2 t g mb E D wk2∧StayD (fun k=>D k∧k≠g) w w'
 |.error k=>e= .returned (.int .i64 k)∧Below w0.heap.size w0 w'∧StayD (fun k=>D k∧k≠g) w w'
theorem DoOut.err(h:r= .error k)(hb:Below w0.heap.size w0 w'∧StayD (fun k=>D k∧k≠g) w w'):DoOut w0 w n t g mb E D r (.returned (.int .i64 k)) w':=by subst h;exact⟨rfl,hb⟩
theorem DoOut.ok{m:Nat}(h:r= .ok (l2,wk2))(hm:StM w0 w' m l2 t g mb E D wk2∧StayD (fun k=>D k∧k≠g) w w')(hn:m≤n):DoOut w0 w n t g mb E D r (.returned (.int .i64 0)) w':=by subst h;exact⟨rfl,hm.1.mono hn,hm.2⟩
theorem q2v(h:StM w0 w n l t g mb E D wk)(hS:Std w)(hn:n≤2000000000):
 Calls Tryz.prog 72 #[.pointer (some ⟨t,0,none⟩)] w fun e w'=>e= .returned (.int .i64 l.length)∧Below w.heap.size w w':=by
 obtain⟨N,a,m,h1,h2,h3,_⟩:=h.tree;exact q46 h2 h.lst.fine (by omega) hS t h3 l (h.lst.walk h2.tree) (by have:=h.len;omega) _ h.lst.root
theorem DoorS.stayed{D':Nat→Prop}(h:DoorS D w W b)(hd:StayD D' W W')(hD:D' b)(hw:∀k,D k→D' k:=by exact fun k hk=> .inl hk.1):DoorS D w W' b:=⟨(hd.2 b hD).trans h.cell,h.low,h.stay.trans ⟨hd.1,fun k hk=>hd.2 k (hw k hk)⟩,h.dlt⟩
def EnvO(n:Nat)(f:List UInt8→Option (List UInt8))(o:Obj):Prop:=∃(w:World) (b:Nat),w.heap[b]? =some o∧EnvIs w b n f
theorem EnvO.at{o:Obj}(h:EnvO n f o)(hb:w.heap[b]? =some o):EnvIs w b n f:=by
 obtain⟨w1,b1,h1,D,⟨es,clock,h2,r1⟩,r⟩:=h;rw[h1] at h2;exact⟨D,⟨es,clock,by rw[hb,h2],r1⟩,r⟩
theorem EnvIs.obj(h:EnvIs w b n f):∃o,w.heap[b]? =some o∧EnvO n f o:=by
 have h0:=h;obtain⟨D,⟨es,clock,h2,_⟩,_⟩:=h;exact⟨_,h2,w,b,h2,h0⟩
theorem EnvIs.isMap(h:EnvIs w b n f):∃es c,w.heap[b]? =some (.map es c):=by
 obtain⟨D,⟨es,clock,h2,_⟩,_⟩:=h;exact⟨_,_,h2⟩
theorem StM.envIs(h:StM w0 w n l t g mb (EnvO N f) D wk):EnvIs w mb N f:=by
 obtain⟨o,h1,h2⟩:=h.env;exact h2.at h1
theorem StM.envSet{M:Nat}{f':List UInt8→Option (List UInt8)}(h:StM w0 w n l t g mb (EnvO N f) D wk)(he:EnvIs w' mb M f')(hg:w.grownBy w' (some mb)):StM w0 w' n l t g mb (EnvO M f') D wk:=by
 obtain⟨N',a,m,h1,h2,h3,h4,h5⟩:=h.tree;obtain⟨es,c,hm⟩:=h.envIs.isMap;have htl:t<w.heap.size:=q6r w _ h3;have ht:t≠mb:=by
  intro e;unfold TreeV at h3;rw[e] at h3;unfold World.cell? at h3;simp[hm] at h3
 have hw:∀i,i≠mb→i<w.heap.size→w'.heap[i]? =w.heap[i]?:=fun i hi hl=>hg.block i hl (fun e=>hi (Option.some.inj e))
 refine⟨h.below.grown hg h.below.size (fun k hk=>by obtain rfl:=Option.some.inj hk;exact h.own.2.1),h.lst,h.len,⟨N',a,m,h1,⟨h2.tree,fun p x hx=>?_,fun p x hx hd=>?_,h2.base,h2.inj,h2.injm⟩,?_,h4,h5⟩,?_,he.obj,h.own,h.way,h.dmb,fun i hi=>Nat.lt_of_lt_of_le (h.dlt i hi) hg.size,h.mg⟩
 ·exact(hw (a p) (fun e=>h5 p x hx (by rw[e];exact h.dmb)) (h2.lt p x hx).1).trans (h2.node p x hx)
 ·exact(h2.dir p x hx hd).block (hw (m p) (fun e=>h4 p (qaj.2 ⟨x,hx,hd⟩) (by rw[e];exact h.dmb)) ((h2.lt p x hx).2 hd))
 ·unfold TreeV at h3 ⊢
  rw[←h3];exact World.cell?_of_block (hw t ht htl)
 ·exact(hw g (Ne.symm h.mg) (q6s h.blk).1).trans h.blk
def qtf(F:qag)(m:Pth→Nat)(w w':World):Prop:=∀k,k<w.heap.size→(∀q,qaw F q=true→k≠m q)→w'.heap[k]? =w.heap[k]?
theorem qr1(hT:TreeAt w B N a m F)(t:Nat)(ht:TreeV w t a)(p:List UInt8)(hp:qa5 p=true)(hne:p≠[])(hB:B≤w.heap.size)(hS:Std w):
 Calls Tryz.prog 71 #[.pointer (some ⟨t,0,none⟩),.string (S p)] w fun e w'=>e= .returned (.bool (F (qaa p)).isSome)∧q06 B N a m (cutF F (qaa p)) t w w'∧qtf F m w w':=by
 obtain⟨hpl,hel⟩:=qbb hp;have hupl:=qgg p;have hup:=q6q (qkx hp);obtain⟨hLD,hlE⟩:=qf3 hp hne;have hlast:(upB p).2.length≤maxLen:=by have:=(qbx hlE).2.1;unfold maxLen;omega
 have fp:p.isEmpty=false:=by rw[List.isEmpty_eq_false_iff];exact hne
 clear hlE;have HLD:=q6q hLD;have HT:=q6q hT;have HV:=q6q ht;have HS:=q6q hS;clear hT ht hS hel hLD;go_enter Tryz.func71,Tryz.ntmps71;go_wp2_with fail;refine(qdd p hne (by omega) _).mono ?_;rintro e w1 ⟨rfl,hb1⟩;have HB1:=q6q hb1;clear hb1;generalize hq1:(upB p).1=up at hup hupl ⊢;generalize hq2:(upB p).2=last at hlast hupl HLD ⊢;clear hq1 hq2;go_wp2_with fail;refine(qh1 (HT.out.below HB1.out) t (HV.out.below HB1.out) up (by omega) (HS.out.below HB1.out)).mono ?_;rintro e w2 ⟨rfl,hb2⟩;rw[hup.out];have HB2:=q6q (HB1.out.trans (hb2.mono HB1.out.size));clear hb2 HB1 hup hne;generalize hD:(qaa p).dropLast=D at*;have HT2:=q6q (HT.out.below HB2.out)
 have HV2:=q6q (HV.out.below HB2.out);have HX:Hid (F (qaa p)=none→q06 B N a m (cutF F (qaa p)) t w w2∧qtf F m w w2):=q6q fun h=>by
  rw[q0n HT2.out.tree h];exact⟨⟨HT2.out,HV2.out,HB2.out.mono hB,KeepC.below HB2.out⟩,fun k hk _=>HB2.out.block k hk⟩
 cases hF:F D with
 |none=>
  have X:=q6q (HX.out (by rw[HLD.out];exact HT2.out.tree.pre D _ hF));rw[qkq hF];have hpn:=q6q (show F (qaa p)=none by rw[HLD.out];exact HT2.out.tree.pre D _ hF);clear hF HX;go_wp2;go_ret;exact⟨by rw[hpn.out];rfl,X.out⟩
 |some y=>
  rw[qgu hF];obtain⟨_,n1,_,_,n4⟩:=HT2.out.cells D y hF;have hlk:=HT2.out.look D y hF last hlast;rw[←HLD.out] at hlk;cases hW:F (qaa p) with
  |none=>
   have X:=q6q (HX.out hW);rw[hW] at hlk;replace hlk:(Instr.lookup tMap (mapV y (m D)) (.string (S last)) false).run Tryz.prog w2= .ok (.pointer none) w2:=hlk;have hpn:=q6q hW;clear hF hW HX;go_wp2;go_ret;exact⟨by rw[hpn.out];rfl,X.out⟩
  |some z=>
   rw[hW] at hlk;replace hlk:(Instr.lookup tMap (mapV y (m D)) (.string (S last)) false).run Tryz.prog w2= .ok (.pointer (some ⟨a (qaa p),0,none⟩)) w2:=hlk;have hk1:y.kind=1:=by
    obtain⟨y',hy',hk⟩:=HT2.out.tree.up D last (by rw[←HLD.out,hW];rfl);rw[hF] at hy';obtain rfl:=Option.some.inj hy';exact hk
   have hdir:=qaj.2 ⟨y,hF,hk1⟩;rw[show mapV y (m D)= .map (some (m D)) from if_pos hk1] at n4 hlk;obtain⟨w3,hrun,hm3,hg3⟩:=(HT2.out.dir D y hF hk1).del last hlast 0;have hfin:Hid (q06 B N a m (cutF F (qaa p)) t w w3∧qtf F m w w3):=q6q (by
    refine⟨⟨?_,?_,?_,?_⟩,fun k hk hq=>(hg3.block k (by have:=HB2.out.size;omega) (fun e=>hq D hdir (Option.some.inj e))).trans (HB2.out.block k hk)⟩
    ·rw[HLD.out];exact HT2.out.cut D last hdir hm3 hg3
    ·exact(HT2.out.dir D y hF hk1).cell hg3 _ _ HV2.out
    ·exact(HB2.out.mono hB).grown hg3 (by have:=HB2.out.size;omega) (fun k hk2=>by
      have:m D=k:=Option.some.inj hk2;rw[←this];exact(HT2.out.base D y hF).2 hk1)
    ·exact fun q v hq=>(HT2.out.dir D y hF hk1).cell hg3 q v (KeepC.below HB2.out q v hq))
   have hpn:=q6q hW;clear hF hW HX hdir hm3 hg3 hk1;go_wp2;go_ret;exact⟨by rw[hpn.out];rfl,hfin.out⟩
theorem qr2(h:StM w0 w n l t g mb E D wk)(hS:Std w)(p:List UInt8)(hp:qa5 p=true)(hne:p≠[]):
 Calls Tryz.prog 71 #[.pointer (some ⟨t,0,none⟩),.string (S p)] w fun e w'=>e= .returned (.bool (qh7 l p).isSome)∧StM w0 w' n (qfi l p true) t g mb E D wk∧KeepC w w'∧StayD D w w':=by
 obtain⟨N,a,m,h1,h2,h3,h4,h5⟩:=h.tree;refine(qr1 h2 t h3 p hp hne h.below.size hS).mono ?_;rintro e w' ⟨he,⟨c1,c2,c3,c4⟩,ho⟩;have hL:=h.lst.cut p hne;have hF:qav (qfi l p true)=cutF (qav l) (qaa p):=(qhi hL.each hL.rise).uniqF hL;have hsub:∀q x,cutF (qav l) (qaa p) q=some x→qav l q=some x:=fun q x hx=>by
  unfold cutF at hx;split at hx
  ·cases hx
  ·exact hx
 have hdir:∀q,qaw (cutF (qav l) (qaa p)) q=true→qaw (qav l) q=true:=fun q hq=>by
  obtain⟨x,hx,hk⟩:=qaj.1 hq;exact qaj.2 ⟨x,hsub q x hx,hk⟩
 have hgm:∀q,qaw (qav l) q=true→g≠m q:=by
  intro q hq e;obtain⟨es,c,e2⟩:=h2.mapObj hq;rw[←e,h.blk] at e2;cases e2
 obtain⟨o,e1,e2⟩:=h.env;refine⟨by rw[he,qlw h.lst hne hp];cases qh7 l p <;> rfl,⟨h.below.trans c3,by rw[hF];exact hL,Nat.le_trans (List.length_filter_le _ _) h.len,⟨N,a,m,h1,by rw[hF];exact c1,c2,fun q hq hd=>h4 q (hdir q (by rw[←hF];exact hq)) hd,fun q x hx hd=>h5 q x (hsub q x (by rw[←hF];exact hx)) hd⟩,?_,⟨o,?_,e2⟩,h.own,h.way,h.dmb,fun k hk=>Nat.lt_of_lt_of_le (h.dlt k hk) c3.size,h.mg⟩,c4,⟨c3.size,fun k hk=>ho k (h.dlt k hk) fun q hq e=>h4 q hq (e▸hk)⟩⟩
 ·exact(ho g (q6s h.blk).1 hgm).trans h.blk
 ·exact(ho mb (q6s e1).1 (fun q hq e=>h4 q hq (e▸h.dmb))).trans e1
theorem qz1{x:List UInt8}(p:List UInt8)(h:qdt x=true):qbh ⟨p,3,0,x⟩=true:=by
 unfold qbh;simp[h]
def DoOutV(w0 w:World)(n t g mb:Nat)(E:Obj→Prop)(D:Nat→Prop)(r:Except Int (List Ent×List UInt8))(e:Ending)(w':World):Prop:=match r with
 |.ok (l2,wk2)=>e= .returned (.int .i64 0)∧StM w0 w' n l2 t g mb E D wk2∧StayD (fun k=>D k∧k≠g∧k≠mb) w w'
 |.error k=>e= .returned (.int .i64 k)∧Below w0.heap.size w0 w'∧StayD (fun k=>D k∧k≠g∧k≠mb) w w'
theorem DoOutV.err(h:r= .error k)(hb:Below w0.heap.size w0 w'∧StayD (fun k=>D k∧k≠g∧k≠mb) w w'):DoOutV w0 w n t g mb E D r (.returned (.int .i64 k)) w':=by subst h;exact⟨rfl,hb⟩
theorem DoOutV.ok{m:Nat}(h:r= .ok (l2,wk2))(hm:StM w0 w' m l2 t g mb E D wk2∧StayD (fun k=>D k∧k≠g∧k≠mb) w w')(hn:m≤n):DoOutV w0 w n t g mb E D r (.returned (.int .i64 0)) w':=by subst h;exact⟨rfl,hm.1.mono hn,hm.2⟩
theorem StM.finishV{wl:World}{be:Nat}(h:StM w0 wl n l t g mb E (fun k=>D k∨k=be) wk)(hd:DoorS P w wl be)(hg:g≠be)(ht:t≠be)(hm:mb≠be)(hl:w0.heap.size≤be)(hDm:D mb):
 ((wl.setCell ⟨be,0,none⟩ (.int .i64 0)).alloc (.cells #[.int .i64 0] qfg)).cell? ⟨be,0,none⟩=some (.int .i64 0)∧StM w0 ((wl.setCell ⟨be,0,none⟩ (.int .i64 0)).alloc (.cells #[.int .i64 0] qfg)) n l t g mb E D wk∧StayD P w ((wl.setCell ⟨be,0,none⟩ (.int .i64 0)).alloc (.cells #[.int .i64 0] qfg)):=by
 have hb:Below (wl.setCell ⟨be,0,none⟩ (.int .i64 0)).heap.size (wl.setCell ⟨be,0,none⟩ (.int .i64 0)) ((wl.setCell ⟨be,0,none⟩ (.int .i64 0)).alloc (.cells #[.int .i64 0] qfg)):=(Below.refl _ _).alloc (Nat.le_refl _) _;have hc:(wl.setCell ⟨be,0,none⟩ (.int .i64 0)).cell? ⟨be,0,none⟩=some (.int .i64 0):=World.cell?_setCell_same' _ ⟨be,0,none⟩ _ (by rw[hd.facts.1];rfl);have h1:=h.poke be (w':=wl.setCell ⟨be,0,none⟩ (.int .i64 0)) (.inr rfl) hg ht hm (h.below.setCell hl _) (by simp) (fun i hi _=>heap_setCell_other wl ⟨be,0,none⟩ i _ hi)
 exact⟨(hb.cell (q6r _ _ hc)).trans hc,h1.guard hb (fun k hk=> .inl (.inl hk)) hDm,(hd.poke _).trans ⟨hb.size,fun k hk=>hb.block k (by have h1:=hd.dlt k hk;have h2:=hd.stay.1;simp;omega)⟩⟩
theorem DoorS.envSet(h:DoorS P w W b)(hg:W.grownBy W' (some mb))(hb:mb≠b)(hP:∀k,P k→k≠mb):DoorS P w W' b:=
 ⟨(hg.block b (q6s h.cell).1 (fun e=>hb (Option.some.inj e).symm)).trans h.cell,h.low,h.stay.trans ⟨hg.size,fun k hk=>hg.block k (Nat.lt_of_lt_of_le (h.dlt k hk) h.stay.1) (fun e=>hP k hk (Option.some.inj e))⟩,h.dlt⟩
theorem DoorS.drew(h:DoorS D w W b):DoorS D w W.drew b:=h.after (qbi (Below.refl _ _))
end Go.Proofs.YtikdblkfjchjbaaGreatDoor
