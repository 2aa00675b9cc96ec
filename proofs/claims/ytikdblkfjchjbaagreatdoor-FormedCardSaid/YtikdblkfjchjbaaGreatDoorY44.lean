import Derived.Test.YtikdblkfjchjbaaGreatDoorY39
import Derived.Test.YtikdblkfjchjbaaGreatDoorY42
import Derived.Test.YtikdblkfjchjbaaGreatDoorY43
set_option linter.unusedVariables false
set_option linter.unusedSimpArgs false
set_option maxHeartbeats 16000000
set_option maxRecDepth 100000
namespace Go.Proofs.YtikdblkfjchjbaaGreatDoor
open Go.RowKit
variable{w w0 W:World}{n t g mb be:Nat}{l:List Ent}{D P:Nat→Prop}{wk:List UInt8}{E:Obj→Prop}{f:EnvF}{fn:Func}{tmps cap dargs:Array Value}{Q:Ending→World→Prop}
theorem qw9(h:StM w0 w n l t g mb E D wk)(hS:Std w0)(hn:n<1000000000)(c:List Ent)(tc:Nat)(hC:CtxT w0 c tc)(hc1:c.length≤1000)
 (src dst:List UInt8)(hs:src.length≤200)(hd:dst.length≤200):
 Calls Tryz.prog 94 #[.pointer (some ⟨g,0,none⟩),.pointer (some ⟨tc,0,none⟩),.string (S src),.string (S dst)] w fun e w'=>StOut w0 w (n+1900) t g mb E D wk (qcv c l wk src dst) e w':=by
 have hmono:∀{m:Nat} {r:Except Int (List Ent)} {e:Ending} {w':World},m≤n+1900→StOut w0 w m t g mb E D wk r e w'→StOut w0 w (n+1900) t g mb E D wk r e w':=by
  intro m r e w' hm h;cases r with
  |error k=>exact h
  |ok l'=>exact⟨h.1,h.2.1.mono hm,h.2.2⟩
 by_cases hcase:∀p tp,wayL [] src= .ok p→wayL wk dst= .ok tp→qb3 c p=1→∃k,qdy l tp= .error k
 ·exact(qs4 h hS (by omega) c tc hC src dst hs hd hcase).mono fun e w' ho=>hmono (by omega) ho
 ·simp only[Classical.not_forall,not_exists] at hcase
  obtain⟨p,tp,h1,h2,h3,h4⟩:=hcase;cases hm:qdy l tp with
  |error k=>exact absurd hm (h4 k)
  |ok l1=>
   have:=qyc c p;refine(qw8 h hS (by omega) c tc hC hc1 src dst hs hd p tp l1 h1 h2 h3 hm).mono fun e w' ho=>?_
   rw[show qcv c l wk src dst=qcn l1 tp (subL c p) by
    unfold qcv;rw[h1];simp only;rw[h2];simp only;rw[if_neg (by rw[h3];decide),if_pos h3];unfold ql3;rw[hm]]
   exact hmono (by omega) ho
theorem StM.envMono{E':Obj→Prop}(h:StM w0 w n l t g mb E D wk)(hE:∀o,E o→E' o):StM w0 w n l t g mb E' D wk:=by
 obtain⟨o,e1,e2⟩:=h.env;exact⟨h.below,h.lst,h.len,h.tree,h.blk,⟨o,e1,hE o e2⟩,h.own,h.way,h.dmb,h.dlt,h.mg⟩
theorem EnvO.mono{m:Nat}{o:Obj}(h:EnvO n f o)(hm:n≤m):EnvO m f o:=by
 obtain⟨w,b,h1,h2⟩:=h;exact⟨w,b,h1,h2.mono hm⟩
def q36(w0 w:World)(n t g mb N:Nat)(D:Nat→Prop)(r:Except Int (List Ent×EnvF×List UInt8))(e:Ending)(w':World):Prop:=match r with
 |.ok (l2,f2,wk2)=>e= .returned (.int .i64 0)∧StM w0 w' n l2 t g mb (EnvO N f2) D wk2∧StayD (fun k=>D k∧k≠g∧k≠mb) w w'
 |.error k=>e= .returned (.int .i64 k)∧Below w0.heap.size w0 w'∧StayD (fun k=>D k∧k≠g∧k≠mb) w w'
theorem qcm(hfn:fn.results=#[.cell 8 27]){k:Int}(hd:DoorS P w W be)(hB:Below w0.heap.size w0 W)(hbs:w0.heap.size≤be)(ht:tmps[8]?.getD undef= .pointer (some ⟨be,0,none⟩))
 (hi:(invoke (.fn (.func 92) cap) dargs).run Tryz.prog W= .ok (.enter 92 #[.pointer (some ⟨be,0,none⟩)]) W)(hQ:∀w',Below w0.heap.size w0 w'→StayD P w w'→Q (.returned (.int .i64 k)) w'):
 Leaves Tryz.prog fn tmps Q [{target:=.fn (.func 92) cap,args:=dargs}] (.panicking [{v:=.iface qfg (.agg #[.int .i64 k]),recovered:=false}]) W:=by
 obtain⟨d1,d2⟩:=hd.facts;refine leaves_cons (by simp) hi ?_;refine(qro be k [] _ _ d1 d2).mono ?_;rintro e u' w'' ⟨rfl,rfl,rfl⟩;obtain⟨r1,r2,r3⟩:=hd.caught k w0 hB hbs;simp[Leaves,settle,results,hfn,ht,go_sem,r1]
 exact hQ _ r2 r3
theorem qxi(w:World):(Instr.typeAssert q3p 20 208 true).run Tryz.prog w= .ok (.tuple #[.agg #[.int .i64 0],.bool false]) w:=by
 unfold q3p repeatPanic;kernel_rfl
theorem qu4(b:Nat)(w:World):
 CallsD Tryz.prog 92 #[.pointer (some ⟨b,0,none⟩)] (.panicking qml) w fun e u' w'=>e= .returned (.tuple #[])∧u'= .panicking [{v:=q3p,recovered:=true}]∧w'=w.alloc (.cells #[.int .i64 0] qfg):=by
 refine callsD_of_wpS Tryz.func92 rfl fun c₀ cs hu=>?_
 unfold qml at hu;apply wpS_seq;apply wpS_region;simp[wpOpsS,go_sem,recoverD,hu,Tryz.ntmps92,Exit.thenS,qxi]
 apply wpS_seq;apply wpS_region;simp[wpOpsS,go_sem,Exit.thenS,Region.wanted,yielded]
 refine wpS_cond (t:=false) (by simp[Act.eval,Array.replicate]) ?_;simp only[Bool.false_eq_true,if_false];refine wpS_of_wp (wp_skip ?_);simp[bodyPostS,results,Tryz.results92,Array.replicate]
theorem q3n(hfn:fn.results=#[.cell 8 27])(hd:DoorS P w W be)(ht:tmps[8]?.getD undef= .pointer (some ⟨be,0,none⟩))
 (hi:(invoke (.fn (.func 92) cap) dargs).run Tryz.prog W= .ok (.enter 92 #[.pointer (some ⟨be,0,none⟩)]) W)(hQ:Q (.returned (.int .i64 0)) (W.alloc (.cells #[.int .i64 0] qfg))):
 Leaves Tryz.prog fn tmps Q [{target:=.fn (.func 92) cap,args:=dargs}] (.panicking qml) W:=by
 have hb:Below W.heap.size W (W.alloc (.cells #[.int .i64 0] qfg)):=(Below.refl _ _).alloc (Nat.le_refl _) _;have r1:=(hd.after hb).facts.1;refine leaves_cons (by simp) hi ?_;refine(qu4 be _).mono ?_;rintro e u' w'' ⟨rfl,rfl,rfl⟩;simp[Leaves,settle,results,hfn,ht,go_sem,r1]
 exact hQ
theorem q6a{N:Nat}(h:StM w0 w n l t g mb (EnvO N f) D wk)(hS:Std w0)(hE:NumE w0)(hT:Tz w0)(hn:n<900000000)(hN:N≤100000)(kd:Int)(W:List (List UInt8))(hF:q34 kd W)(hW:∀x∈W,x.length≤200000)(A:Option Addr)(cap:Nat)(hA:Rd w A (strs W))(ws:Value)(sg xa:Int)(c:List Ent)(tc:Nat)(hC:CtxT w0 c tc)(hc1:c.length≤1000)(hcd:∀e∈c,e.data.length≤100000):
 Calls Tryz.prog 59 #[.pointer (some ⟨g,0,none⟩),.agg #[.int .i64 kd,ws,.int .i64 sg,.int .i64 xa],.slice A W.length cap,.pointer (some ⟨tc,0,none⟩)] w (q36 w0 w (n+2000) t g mb (N+1) D (qiz c kd W l f wk)):=by
 have hmf:∀(fn:Fn) (first cap:Array Value) (w:World),(Instr.makeFunc fn first cap).run Tryz.prog w= .ok (.func fn first cap) w:=fun _ _ _ _=>rfl
 obtain⟨R,hR⟩:∃R,qiz c kd W l f wk=R:=⟨_,rfl⟩;rw[hR];have HR:=q6q hR;have HQ:=q6q (show ∀r e w',R=r→q36 w0 w (n+2000) t g mb (N+1) D r e w'→q36 w0 w (n+2000) t g mb (N+1) D R e w' from fun r e w' h1 h2=>by rw[h1];exact h2);generalize hQQ:q36 w0 w (n+2000) t g mb (N+1) D R=Q at HQ ⊢;clear hQQ;have HM0:=q6q h;have HS:=q6q hS;have HNe:=q6q hE;have HTz:=q6q hT;have HA:=q6q hA;have HWl:=q6q hW;have HFm:=q6q hF;have HC:=q6q hC;have HCd:=q6q hcd;have hWn:W.length≤2:=by rcases hF with⟨x,rfl,_⟩|⟨x,y,rfl,_⟩ <;> simp
 clear h hS hA hW hR hF hE hT hC hcd;go_enter_defers Tryz.func59,Tryz.ntmps59;go_wp2;have hb2:Below w.heap.size w ((w.alloc (.cells #[.int .i64 kd,ws,.int .i64 sg,.int .i64 xa] 123)).alloc (.cells #[.int .i64 0] 27)):=((Below.refl _ _).alloc (Nat.le_refl _) _).alloc (by simp) _;have hd2:DoorS (fun k=>D k∧k≠g∧k≠mb) w ((w.alloc (.cells #[.int .i64 kd,ws,.int .i64 sg,.int .i64 xa] 123)).alloc (.cells #[.int .i64 0] 27)) (w.heap.size+1):=⟨by
  have:=Go.heap_alloc_new (w.alloc (.cells #[.int .i64 kd,ws,.int .i64 sg,.int .i64 xa] 123)) (.cells #[.int .i64 0] 27);rwa [World.size_alloc] at this,by omega,⟨hb2.size,fun k hk=>hb2.block k (HM0.out.dlt k hk.1)⟩,fun k hk=>HM0.out.dlt k hk.1⟩
 have ck:((w.alloc (.cells #[.int .i64 kd,ws,.int .i64 sg,.int .i64 xa] 123)).alloc (.cells #[.int .i64 0] 27)).cell? ⟨w.heap.size,0,none⟩=some (.int .i64 kd):=by
  rw[cell_of_row _ _ _ _ _ _ ((Below.heap_alloc (w.alloc (.cells #[.int .i64 kd,ws,.int .i64 sg,.int .i64 xa] 123)) _ w.heap.size (by simp)).trans (Go.heap_alloc_new w _))];rfl
 generalize ((w.alloc (.cells #[.int .i64 kd,ws,.int .i64 sg,.int .i64 xa] 123)).alloc (.cells #[.int .i64 0] 27))=w2 at hb2 hd2 ck ⊢;have hbs:w0.heap.size≤w.heap.size+1:=by have:=HM0.out.below.size;omega
 have hgb:g≠w.heap.size+1:=by have:=(q6s HM0.out.blk).1;omega
 have htb:t≠w.heap.size+1:=by obtain⟨_,_,_,_,_,h3,_⟩:=HM0.out.tree;have:=q6r _ _ h3;simp only at this;omega
 have hmb:mb≠w.heap.size+1:=by have:=HM0.out.dlt _ HM0.out.dmb;omega
 have hDm:=HM0.out.dmb;generalize hbe:w.heap.size+1=be at hd2 hbs hgb htb hmb ⊢;generalize hbb:w.heap.size=bb at ck ⊢;have HD:=q6q hd2;have hbe2:=(q6s hd2.cell).1;have HM:=q6q (HM0.out.guard (D':=fun k=>D k∨k=be) hb2 (fun k hk=>hk.elim .inl fun e=> .inr (by omega)) (.inl hDm));have HA2:=q6q (HA.out.below hb2);clear hb2 hd2 HM0 HA hbe2;go_loopw [20] (fun vi wr=>∃q:Nat,q≤W.length∧vi= .int .i64 q∧wr=w2∧Hid (∀j (hj:j<W.length),j<q→W[j].length≤180)) (fun vi _=>W.length - (intOf vi).toNat)
 case atStart=>exact⟨0,Nat.zero_le _,rfl,rfl,q6q fun j _ hj=>by omega⟩
 case round=>
  obtain⟨q,hq,rfl,rfl,HSh⟩:=hrel;by_cases hlt:q<W.length
  ·obtain⟨b,o,hbA,hbb2,hc⟩:=HA2.out.at q (by rw[qcx];exact hlt)
   subst hbA;have c0:=hc q _ (qc5 hlt);have hl1:=HWl.out _ (List.getElem_mem hlt);have hmem:=q6q (List.getElem_mem hlt);obtain⟨x,hx⟩:∃x,W[q]=x:=⟨_,rfl⟩;rw[hx] at c0 hl1 hmem;have HX:=q6q hx;have hql:(q:Int)<(W.length:Int):=by omega
   clear hc hx;by_cases h180:x.length≤180
   ·have hl2:((x.length:Int)≤180):=by omega
    go_wp2_with fail;refine(qbv 10 _).mono ?_;rintro _ w3 ⟨rfl,rfl⟩;go_wp2;go_roundw
    case rel=>exact⟨q+1,by omega,by go_num,trivial,q6q fun j hj hjq=>by
     by_cases e:j=q
     ·subst e;rw[HX.out];exact h180
     ·exact HSh.out j hj (by omega)⟩
    case measure=>simp[intOf];omega
   ·have hl2:decide ((x.length:Int)≤180)=false:=decide_eq_false (by omega)
    have HE:=q6q (show R= .error 10 by rw[←HR.out];unfold qiz;exact if_pos ⟨x,hmem.out,by omega⟩);go_wp2_with fail;refine(qcd 10 _).mono ?_;rintro _ w3 ⟨rfl,rfl⟩;exact qcm rfl HD.out HM.out.below hbs rfl (by simp[go_sem]) (fun w' b s=>HQ.out _ _ _ HE.out ⟨rfl,b,s⟩)
  obtain rfl:q=W.length:=by omega
  have hno:¬∃x∈W,180<x.length:=by
   rintro⟨x,hx,h⟩;obtain⟨j,hj,rfl⟩:=List.getElem_of_mem hx;have:=HSh.out j hj hj;omega
  have HR2:=q6q (show qu6 c kd W l f wk=R by rw[←HR.out];unfold qiz;rw[if_neg hno]);have HWs:=q6q (show ∀x∈W,x.length≤180 from fun x hx=>Nat.le_of_not_lt fun h=>hno ⟨x,hx,h⟩);clear hlt hq HWl HSh hno HR
  have H1:=q6q (show ∀(l2:List Ent) (f2:EnvF) (wk2:List UInt8) (m:Nat) (wz:World),m≤n+2000→lenF f2 l2 wk2=R→StM w0 wz m l2 t g mb (EnvO (N+1) f2) (fun k=>D k∨k=be) wk2→DoorS (fun k=>D k∧k≠g∧k≠mb) w wz be→∃(l2:List Ent) (f2:EnvF) (wk2:List UInt8) (m:Nat),m≤n+2000∧Hid (lenF f2 l2 wk2=R)∧Hid (StM w0 wz m l2 t g mb (EnvO (N+1) f2) (fun k=>D k∨k=be) wk2)∧Hid (DoorS (fun k=>D k∧k≠g∧k≠mb) w wz be) from fun l2 f2 wk2 m wz h1 h2 h3 h4=>⟨l2,f2,wk2,m,h1,q6q h2,q6q h3,q6q h4⟩)
  have hem:=q6q (show ∀(wz:World) (m:Nat) (l2:List Ent) (wk2:List UInt8) (D':Nat→Prop),StM w0 wz m l2 t g mb (EnvO N f) D' wk2→StM w0 wz m l2 t g mb (EnvO (N+1) f) D' wk2 from fun _ _ _ _ _ h=>h.envMono fun o ho=>ho.mono (by omega));go_upto_region 7 with fail;go_cut [30] from 29 to 30 (fun v wx=>v= .int .i64 kd∧wx=wr)
  case first=>
   go_wp2;go_meet
   exact⟨rfl,rfl⟩
  case rest=>
  obtain⟨rfl,hw⟩:=hcut;replace hw:=hw.symm;subst hw;rename_i hKo K2 hK;refine hK _ _ ?_;go_cut [30] from 11 to 153 (fun v wx=>v= .int .i64 kd∧∃(l2:List Ent) (f2:EnvF) (wk2:List UInt8) (m:Nat),m≤n+2000∧Hid (lenF f2 l2 wk2=R)∧Hid (StM w0 wx m l2 t g mb (EnvO (N+1) f2) (fun k=>D k∨k=be) wk2)∧Hid (DoorS (fun k=>D k∧k≠g∧k≠mb) w wx be))
  case first=>
   have hg0:=HM.out.cells;rcases HFm.out with⟨x,rfl,hk⟩|⟨x,y,rfl,hk⟩
   ·have hx180:x.length≤180:=HWs.out x (by simp)
    obtain⟨b,o,hbA,_,hc⟩:=HA2.out.at 0 (by simp[strs]);subst hbA;have c0:wr.cell? ⟨b,o,none⟩=some (.string (S x)):=by simpa using hc 0 _ rfl
    have HE0:=HR2.out;clear hc HR2 HA2 HWs HFm hg0;rcases hk with rfl|rfl|rfl
    ·change qgc (wayL wk x) (fun p=>if p=[] then .error 9 else if qh7 l p=none then .error 8 else lenF f (qfi l p true) wk)=R at HE0
     go_wp2_with fail;refine(qfl HM.out (HS.out.below HM.out.below) x (by omega)).mono ?_;intro e w3 ⟨ho,hb3⟩;have HM3:=q6q (HM.out.after hb3);have HD3:=q6q (HD.out.after hb3);have hk3:=q6q (KeepC.below hb3);clear hb3;cases hw:wayL wk x with
     |error k=>
      rw[hw] at ho HE0;obtain rfl:e=qeq k:=ho;exact qcm rfl HD3.out HM3.out.below hbs rfl (by simp[go_sem]) (fun w' b s=>HQ.out _ _ _ HE0.symm ⟨rfl,b,s⟩)
     |ok p=>
     rw[hw] at ho HE0;obtain rfl:e= .returned (.string (S p)):=ho;have HPp:=q6q (qca hw);have hpl:=(qbb (qca hw)).1;replace HE0:=q6q HE0;clear hw;by_cases hp0:p=[]
     ·have HE:=q6q (show R= .error 9 by rw[←HE0.out];simp only[qgc,hp0,if_true])
      subst hp0;go_wp2_with fail;refine(qcd 9 _).mono ?_;rintro _ w4 ⟨rfl,rfl⟩;exact qcm rfl HD3.out HM3.out.below hbs rfl (by simp[go_sem]) (fun w' b s=>HQ.out _ _ _ HE.out ⟨rfl,b,s⟩)
     have HPn:=q6q hp0;have hpe:p.isEmpty=false:=List.isEmpty_eq_false_iff.2 hp0;have HE1:=q6q (show(if qh7 l p=none then .error 8 else lenF f (qfi l p true) wk)=R by rw[←HE0.out];simp only[qgc,hp0,if_false]);clear hp0 HE0;go_wp2_with fail;refine(qbv 9 _).mono ?_;rintro _ w4 ⟨rfl,rfl⟩;obtain⟨g0,_,_⟩:=HM3.out.cells;go_wp2_with fail;refine(qr2 HM3.out (HS.out.below HM3.out.below) p HPp.out HPn.out).mono ?_;rintro _ w5 ⟨rfl,hm5,_,hd5⟩;have HM4:=q6q hm5;have HD4:=q6q (HD3.out.stayed hd5 (.inr rfl));clear hm5 hd5 HM3 HD3;cases hf:qh7 l p with
     |none=>
      have HE:=q6q (show R= .error 8 by rw[←HE1.out,if_pos hf]);clear hf;go_wp2_with fail;refine(qcd 8 _).mono ?_;rintro _ w6 ⟨rfl,rfl⟩;exact qcm rfl HD4.out HM4.out.below hbs rfl (by simp[go_sem]) (fun w' b s=>HQ.out _ _ _ HE.out ⟨rfl,b,s⟩)
     |some z=>
      have HE:=q6q (show lenF f (qfi l p true) wk=R by rw[←HE1.out,if_neg (by rw[hf];simp)]);clear hf;go_wp2_with fail;refine(qbv 8 _).mono ?_;rintro _ w6 ⟨rfl,rfl⟩;go_wp2;go_meet
      exact⟨rfl,H1.out _ _ _ _ _ (by omega) HE.out (hem.out _ _ _ _ _ HM4.out) HD4.out⟩
    ·change qgc (wayL wk x) (fun p=>qep (qdy l p) fun l2=>lenF f l2 wk)=R at HE0
     go_wp2_with fail;refine(qfl HM.out (HS.out.below HM.out.below) x (by omega)).mono ?_;intro e w3 ⟨ho,hb3⟩;have HM3:=q6q (HM.out.after hb3);have HD3:=q6q (HD.out.after hb3);have hk3:=q6q (KeepC.below hb3);clear hb3;cases hw:wayL wk x with
     |error k=>
      rw[hw] at ho HE0;obtain rfl:e=qeq k:=ho;exact qcm rfl HD3.out HM3.out.below hbs rfl (by simp[go_sem]) (fun w' b s=>HQ.out _ _ _ HE0.symm ⟨rfl,b,s⟩)
     |ok p=>
     rw[hw] at ho HE0;obtain rfl:e= .returned (.string (S p)):=ho;have HPp:=q6q (qca hw);have hpl:=(qbb (qca hw)).1;replace HE0:=q6q HE0;clear hw;go_wp2_with fail;refine(qew HM3.out HS.out p (by omega) (by omega)).mono ?_;intro e w4 ho;have HE1:=HE0.out;cases hmk:qdy l p with
     |error k=>
      rw[hmk] at ho;obtain⟨rfl,hb4,hd4⟩:=ho;have HE2:=q6q (show R= .error k from by rw[←HE1];simp only[qgc,hmk,qep]);exact qcm rfl (HD3.out.stayed hd4 (.inr rfl)) hb4 hbs rfl (by simp[go_sem]) (fun w' b s=>HQ.out _ _ _ HE2.out ⟨rfl,b,s⟩)
     |ok l2=>
     rw[hmk] at ho;obtain⟨rfl,hm4,hk4,hd4⟩:=ho;have HM4:=q6q hm4;have HD4:=q6q (HD3.out.stayed hd4 (.inr rfl));have HMk:=q6q hmk;have HE:=q6q (show lenF f l2 wk=R by rw[←HE1];simp only[qgc,hmk,qep]);clear hm4 hk4 hd4 hmk HE1 HM3 HD3 HE0;go_wp2;go_meet
     exact⟨rfl,H1.out _ _ _ _ _ (by omega) HE.out (hem.out _ _ _ _ _ HM4.out) HD4.out⟩
    ·change qgc (wayL wk x) (fun p=>qep (qdy l p) fun l2=>lenF f l2 p)=R at HE0
     go_wp2_with fail;refine(qfl HM.out (HS.out.below HM.out.below) x (by omega)).mono ?_;intro e w3 ⟨ho,hb3⟩;have HM3:=q6q (HM.out.after hb3);have HD3:=q6q (HD.out.after hb3);have hk3:=q6q (KeepC.below hb3);clear hb3;cases hw:wayL wk x with
     |error k=>
      rw[hw] at ho HE0;obtain rfl:e=qeq k:=ho;exact qcm rfl HD3.out HM3.out.below hbs rfl (by simp[go_sem]) (fun w' b s=>HQ.out _ _ _ HE0.symm ⟨rfl,b,s⟩)
     |ok p=>
     rw[hw] at ho HE0;obtain rfl:e= .returned (.string (S p)):=ho;have HPp:=q6q (qca hw);have hpl:=(qbb (qca hw)).1;replace HE0:=q6q HE0;clear hw;go_wp2_with fail;refine(qew HM3.out HS.out p (by omega) (by omega)).mono ?_;intro e w4 ho;have HE1:=HE0.out;cases hmk:qdy l p with
     |error k=>
      rw[hmk] at ho;obtain⟨rfl,hb4,hd4⟩:=ho;have HE2:=q6q (show R= .error k from by rw[←HE1];simp only[qgc,hmk,qep]);exact qcm rfl (HD3.out.stayed hd4 (.inr rfl)) hb4 hbs rfl (by simp[go_sem]) (fun w' b s=>HQ.out _ _ _ HE2.out ⟨rfl,b,s⟩)
     |ok l2=>
     rw[hmk] at ho;obtain⟨rfl,hm4,hk4,hd4⟩:=ho;have HM4:=q6q hm4;have HD4:=q6q (HD3.out.stayed hd4 (.inr rfl));have HMk:=q6q hmk;have HE:=q6q (show lenF f l2 p=R by rw[←HE1];simp only[qgc,hmk,qep]);clear hm4 hk4 hd4 hmk HE1 HM3 HD3 HE0;obtain⟨y0,y1,y2⟩:=HM4.out.cells;have y9:w4.frozen? ⟨g,2,none⟩=false:=frozen_of_row _ _ _ _ _ HM4.out.blk;have HM5:=q6q (HM4.out.work p hpl)
     have HD5:Hid (DoorS (fun k=>D k∧k≠g∧k≠mb) w (w4.setCell ⟨g,2,none⟩ (.string (S p))) be):=q6q ⟨(heap_setCell_other w4 ⟨g,2,none⟩ be _ (Ne.symm hgb)).trans HD4.out.cell,HD4.out.low,HD4.out.stay.trans ⟨by simp,fun k hk=>heap_setCell_other w4 ⟨g,2,none⟩ k _ hk.2.1⟩,HD4.out.dlt⟩;go_wp2;go_meet
     exact⟨rfl,H1.out _ _ _ _ _ (by omega) HE.out (hem.out _ _ _ _ _ HM5.out) HD5.out⟩
   ·have hx180:x.length≤180:=HWs.out x (by simp)
    have hy180:y.length≤180:=HWs.out y (by simp);obtain⟨b,o,hbA,_,hc⟩:=HA2.out.at 0 (by simp[strs]);subst hbA;have c0:wr.cell? ⟨b,o,none⟩=some (.string (S x)):=by simpa using hc 0 _ rfl
    have c1:wr.cell? ⟨b,o+1,none⟩=some (.string (S y)):=by simpa using hc 1 _ rfl
    have HE0:=HR2.out;clear hc HR2 HA2 HWs HFm hg0;rcases hk with rfl|rfl|⟨rfl,hmy⟩|rfl|rfl
    ·change qep (qcv c l wk x y) (fun l2=>lenF f l2 wk)=R at HE0
     have HCp:=qw9 HM.out.drew HS.out (by omega) c tc HC.out hc1 x y (by omega) (by omega);go_upto_region 9 with fail;go_still_tail 8,(by kernel_rfl)
     cases hcp:qcv c l wk x y with
     |error k=>
      rw[hcp] at HCp HE0;have HCq:=q6q HCp;clear HCp hcp;go_wp2_with fail;refine HCq.out.mono ?_;rintro e w4 ⟨rfl,hb4,hd4⟩;exact qcm rfl ((HD.out.drew).stayed hd4 (.inr rfl)) hb4 hbs rfl (by simp[go_sem]) (fun w' b s=>HQ.out _ _ _ HE0.symm ⟨rfl,b,s⟩)
     |ok l2=>
     rw[hcp] at HCp HE0;have HCq:=q6q HCp;have HE:=q6q HE0;clear HCp hcp HE0;go_wp2_with fail;refine HCq.out.mono ?_;rintro e w4 ⟨rfl,hm4,hk4,hd4⟩;have HM4:=q6q hm4;have HD4:=q6q ((HD.out.drew).stayed hd4 (.inr rfl));clear hm4 hk4 hd4 c0 c1 HCq;go_wp2;go_meet
     exact⟨rfl,H1.out _ _ _ _ _ (by omega) HE.out (hem.out _ _ _ _ _ HM4.out) HD4.out⟩
    ·change (match qjl c l wk x y with
      |none=> .ok (l,f,wk)
      |some r=>qep r fun l2=>lenF f l2 wk)=R at HE0
     have HCp:=q00 HM.out.drew HS.out HNe.out HTz.out (by omega) c tc HC.out x y (by omega) (by omega) HCd.out;go_upto_region 11 with fail;go_still_tail 8,(by kernel_rfl)
     have HCq:=q6q HCp;clear HCp;go_wp2_with fail;refine HCq.out.mono ?_;intro e w4 ho;cases hcp:qjl c l wk x y with
     |none=>
      rw[hcp] at ho HE0;obtain⟨rfl,hm4,hd4⟩:=ho;have HD4:=(HD.out.drew).stayed hd4 (.inr rfl);have hb5:Below w4.heap.size w4 (w4.alloc (.cells #[.int .i64 0] qfg)):=(Below.refl _ _).alloc (Nat.le_refl _) _;exact q3n rfl HD4 rfl (by simp[go_sem]) (HQ.out _ _ _ HE0.symm ⟨rfl,(hem.out _ _ _ _ _ (hm4.guard hb5 (fun k hk=> .inl (.inl hk)) hDm)).mono (by omega),(HD4.after hb5).stay⟩)
     |some r=>
     rw[hcp] at ho HE0;cases r with
     |error k=>
      obtain⟨rfl,hb4,hd4⟩:=ho;exact qcm rfl ((HD.out.drew).stayed hd4 (.inr rfl)) hb4 hbs rfl (by simp[go_sem]) (fun w' b s=>HQ.out _ _ _ HE0.symm ⟨rfl,b,s⟩)
     |ok l2=>
     obtain⟨rfl,hm4,hk4,hd4⟩:=ho;have HE:=q6q HE0;have HM4:=q6q hm4;have HD4:=q6q ((HD.out.drew).stayed hd4 (.inr rfl));clear hm4 hk4 hd4 c0 c1 HCq HE0 hcp;go_wp2;go_meet
     exact⟨rfl,H1.out _ _ _ _ _ (by omega) HE.out (hem.out _ _ _ _ _ HM4.out) HD4.out⟩
    ·change qgc (wayL wk x) (fun p=>qep (qdy l p) fun l2=>if p=[] then .error 9 else lenF f (qmg l2 ⟨p,1,(valM y:Int),[]⟩) wk)=R at HE0
     have HMy:=q6q hmy;clear hmy;go_wp2_with fail;refine(qfl HM.out (HS.out.below HM.out.below) x (by omega)).mono ?_;intro e w3 ⟨ho,hb3⟩;have HM3:=q6q (HM.out.after hb3);have HD3:=q6q (HD.out.after hb3);have hk3:=q6q (KeepC.below hb3);clear hb3;cases hw:wayL wk x with
     |error k=>
      rw[hw] at ho HE0;obtain rfl:e=qeq k:=ho;exact qcm rfl HD3.out HM3.out.below hbs rfl (by simp[go_sem]) (fun w' b s=>HQ.out _ _ _ HE0.symm ⟨rfl,b,s⟩)
     |ok p=>
     rw[hw] at ho HE0;obtain rfl:e= .returned (.string (S p)):=ho;have HPp:=q6q (qca hw);have hpl:=(qbb (qca hw)).1;replace HE0:=q6q HE0;clear hw;have hc3:=hk3.out _ _ c1;go_wp2_with fail;refine(qew HM3.out HS.out p (by omega) (by omega)).mono ?_;intro e w4 ho;have HE1:=HE0.out;cases hmk:qdy l p with
     |error k=>
      rw[hmk] at ho;obtain⟨rfl,hb4,hd4⟩:=ho;have HE2:=q6q (show R= .error k from by rw[←HE1];simp only[qgc,hmk,qep]);exact qcm rfl (HD3.out.stayed hd4 (.inr rfl)) hb4 hbs rfl (by simp[go_sem]) (fun w' b s=>HQ.out _ _ _ HE2.out ⟨rfl,b,s⟩)
     |ok l2=>
     rw[hmk] at ho;obtain⟨rfl,hm4,hk4,hd4⟩:=ho;have HM4:=q6q hm4;have HD4:=q6q (HD3.out.stayed hd4 (.inr rfl));have HMk:=q6q hmk;have HE2:=q6q (show(if p=[] then .error 9 else lenF f (qmg l2 ⟨p,1,(valM y:Int),[]⟩) wk)=R by rw[←HE1];simp only[qgc,hmk,qep]);have hc4:=hk4 _ _ hc3;clear hm4 hk4 hd4 hmk HE1 HM3 HD3 HE0 hc3 c0 c1;by_cases hp0:p=[]
     ·have HE:=q6q (show R= .error 9 by rw[←HE2.out,if_pos hp0])
      subst hp0;go_wp2_with fail;refine(qcd 9 _).mono ?_;rintro _ w5 ⟨rfl,rfl⟩;exact qcm rfl HD4.out HM4.out.below hbs rfl (by simp[go_sem]) (fun w' b s=>HQ.out _ _ _ HE.out ⟨rfl,b,s⟩)
     have HPn:=q6q hp0;have hpe:p.isEmpty=false:=List.isEmpty_eq_false_iff.2 hp0;have HE:=q6q (show lenF f (qmg l2 ⟨p,1,(valM y:Int),[]⟩) wk=R by rw[←HE2.out,if_neg hp0]);clear hp0 HE2;go_wp2_with fail;refine(qbv 9 _).mono ?_;rintro _ w5 ⟨rfl,rfl⟩;obtain⟨g0,_,_⟩:=HM4.out.cells;have hgd:w4.drew.cell? ⟨g,0,none⟩=some (.pointer (some ⟨t,0,none⟩)):=g0;have hcd:w4.drew.cell? ⟨b,o+1,none⟩=some (.string (S y)):=hc4;have HPu:=q6q (qob HM4.out.drew (HS.out.below HM4.out.drew.below) ⟨p,1,(valM y:Int),[]⟩ HPp.out HPn.out (qzt p HMy.out) (by omega))
     have t4:=fun (wz:World) (hd:StayD (fun k=>D k∨k=be) w4.drew wz)=>(HD4.out.after (qbi (Below.refl _ _))).stayed hd (.inr rfl)
     go_upto_region 21 with fail;go_region_held3 (fun wz=>wz.cell? ⟨g,0,none⟩=some (.pointer (some ⟨t,0,none⟩))∧wz.cell? ⟨b,o+1,none⟩=some (.string (S y))) (go_keep) (first
      |(go_at_call 99;refine(qzu y _ HMy.out).mono ?_;rintro e6 w6 ⟨rfl,rfl⟩)
      |(go_at_call 98;refine HPu.out.mono ?_;rintro e7 w7 ⟨⟨bb,rfl⟩,hm7,hk7,hd7⟩;have HM7:=q6q hm7;have HD7:=q6q (t4 w7 hd7);have k1:=hk7 _ _ hgd;have k2:=hk7 _ _ hcd;clear hm7 hk7 hd7))
     clear g0 hc4 hgd hcd HPu t4 HM4 HD4 k1 k2;go_wp2;go_meet
     exact⟨rfl,H1.out _ _ _ _ _ (by omega) HE.out (hem.out _ _ _ _ _ HM7.out) HD7.out⟩
    ·change (if qdt x=false then .error 1 else qgc (wayL wk y) fun p=>if p=[] then .error 9 else qep (qdy l (upB p).1) fun l2=>qep (layE l2 ⟨p,3,0,x⟩) fun l3=>lenF f l3 wk)=R at HE0
     go_wp2_with fail;refine(qk0 x _ (by unfold maxLen;omega)).mono ?_;rintro e wt ⟨rfl,rfl⟩;cases htb:qdt x with
     |false=>
      rw[if_pos htb] at HE0;go_wp2_with fail;refine(qcd 1 _).mono ?_;rintro _ w4 ⟨rfl,rfl⟩;exact qcm rfl HD.out HM.out.below hbs rfl (by simp[go_sem]) (fun w' b s=>HQ.out _ _ _ HE0.symm ⟨rfl,b,s⟩)
     |true=>
     have HTb:=q6q htb;rw[if_neg (by rw[htb];decide)] at HE0;clear htb;go_wp2_with fail;refine(qbv 1 _).mono ?_;rintro _ w4 ⟨rfl,rfl⟩;go_wp2_with fail;refine(qfl HM.out (HS.out.below HM.out.below) y (by omega)).mono ?_;intro e w3 ⟨ho,hb3⟩;have HM3:=q6q (HM.out.after hb3);have HD3:=q6q (HD.out.after hb3);have hk3:=q6q (KeepC.below hb3);clear hb3;cases hw:wayL wk y with
     |error k=>
      rw[hw] at ho HE0;obtain rfl:e=qeq k:=ho;exact qcm rfl HD3.out HM3.out.below hbs rfl (by simp[go_sem]) (fun w' b s=>HQ.out _ _ _ HE0.symm ⟨rfl,b,s⟩)
     |ok p=>
     rw[hw] at ho HE0;obtain rfl:e= .returned (.string (S p)):=ho;have HPp:=q6q (qca hw);have hpl:=(qbb (qca hw)).1;replace HE0:=q6q HE0;clear hw;by_cases hp0:p=[]
     ·have HE:=q6q (show R= .error 9 by rw[←HE0.out];simp only[qgc,hp0,if_true])
      subst hp0;go_wp2_with fail;refine(qcd 9 _).mono ?_;rintro _ w4 ⟨rfl,rfl⟩;exact qcm rfl HD3.out HM3.out.below hbs rfl (by simp[go_sem]) (fun w' b s=>HQ.out _ _ _ HE.out ⟨rfl,b,s⟩)
     have HPn:=q6q hp0;have hpe:p.isEmpty=false:=List.isEmpty_eq_false_iff.2 hp0;replace HE0:=q6q (show qep (qdy l (upB p).1) (fun l2=>qep (layE l2 ⟨p,3,0,x⟩) fun l3=>lenF f l3 wk)=R by rw[←HE0.out];simp only[qgc,hp0,if_false]);clear hp0;go_wp2_with fail;refine(qbv 9 _).mono ?_;rintro _ w4 ⟨rfl,rfl⟩;have hc1:=hk3.out _ _ c0;clear c0 c1 hk3;go_wp2_with fail;refine(qdd p HPn.out (by omega) _).mono ?_;rintro e w5 ⟨rfl,hb5⟩;have HM5:=q6q (HM3.out.after hb5);have HD5:=q6q (HD3.out.after hb5);have hc2:=KeepC.below hb5 _ _ hc1;have hupl:=qgg p;obtain⟨u1,hu1⟩:∃u1,(upB p).1=u1:=⟨_,rfl⟩;obtain⟨u2,hu2⟩:∃u2,(upB p).2=u2:=⟨_,rfl⟩
     rw[hu1,hu2] at hupl ⊢;rw[hu1] at HE0;clear hb5 hc1 HM3 HD3 hu1 hu2;go_wp2_with fail;refine(qew HM5.out HS.out u1 (by omega) (by omega)).mono ?_;intro e w6 ho;have HE1:=HE0.out;cases hmk:qdy l u1 with
     |error k=>
      rw[hmk] at ho;obtain⟨rfl,hb6,hd6⟩:=ho;have HE2:=q6q (show R= .error k from by rw[←HE1];simp only[hmk,qep]);exact qcm rfl (HD5.out.stayed hd6 (.inr rfl)) hb6 hbs rfl (by simp[go_sem]) (fun w' b s=>HQ.out _ _ _ HE2.out ⟨rfl,b,s⟩)
     |ok l2=>
     rw[hmk] at ho;obtain⟨rfl,hm6,hk6,hd6⟩:=ho;have HM6:=q6q hm6;have HD6:=q6q (HD5.out.stayed hd6 (.inr rfl));have HMk:=q6q hmk;have HE2:=q6q (show qep (layE l2 ⟨p,3,0,x⟩) (fun l3=>lenF f l3 wk)=R by rw[←HE1];simp only[hmk,qep]);have hc3:=hk6 _ _ hc2;clear hm6 hk6 hd6 hmk hc2 HM5 HD5 HE0 HE1;have HLy:=q6q (qom HM6.out HS.out ⟨p,3,0,x⟩ (by simp only;omega) HPn.out (qz1 p HTb.out) (by omega));go_wp2_with fail;refine HLy.out.mono ?_;intro e w7 ho;cases hly:layE l2 ⟨p,3,0,x⟩ with
     |error k=>
      rw[hly] at ho;obtain⟨rfl,hb7,hd7⟩:=ho;have HE3:=q6q (show R= .error k by rw[←HE2.out,hly];rfl);exact qcm rfl (HD6.out.stayed hd7 (.inr rfl)) hb7 hbs rfl (by simp[go_sem]) (fun w' b s=>HQ.out _ _ _ HE3.out ⟨rfl,b,s⟩)
     |ok l3=>
     rw[hly] at ho;obtain⟨rfl,hm7,hk7,hd7⟩:=ho;have HE3:=q6q (show lenF f l3 wk=R by rw[←HE2.out,hly];rfl);have HM7:=q6q hm7;have HD7:=q6q (HD6.out.stayed hd7 (.inr rfl));clear hm7 hk7 hd7 hly HE2 HM6 HD6 hc3 HLy;go_wp2;go_meet
     exact⟨rfl,H1.out _ _ _ _ _ (by omega) HE3.out (hem.out _ _ _ _ _ HM7.out) HD7.out⟩
    ·change lenF (updE f x y) l wk=R at HE0
     have HE:=q6q HE0;clear HE0;obtain⟨g0,g1,g2⟩:=HM.out.cells;have HMd:=q6q HM.out.drew;obtain⟨w3,hput,he3,hg3⟩:=HMd.out.envIs.put x (by unfold maxLen;omega) y (by unfold maxLen;omega);unfold evV at hput;have HM4:=q6q (HMd.out.envSet he3 hg3);have HD4:=q6q ((DoorS.after HD.out (qbi (Below.refl _ _))).envSet hg3 hmb (fun k hk=>hk.2.2));have hmo:=HMd.out.envIs.isMap;have hcm:∀(q:Nat) (j:Nat) (v:Value),wr.drew.cell? ⟨q,j,none⟩=some v→w3.cell? ⟨q,j,none⟩=some v:=fun q j v hv=>by
      have hq:q≠mb:=by
       intro e;obtain⟨es,cl,hm⟩:=hmo;rw[e] at hv;unfold World.cell? at hv;simp[hm] at hv
      have hl:=q6r _ _ hv;rw[←hv];exact World.cell?_of_block (hg3.block q hl (fun e=>hq (Option.some.inj e)))
     have e0:=hcm g 1 _ g1;have e1:=hcm b o _ c0;have e2:=hcm b (o+1) _ c1;clear he3 hg3 hmo hcm;go_upto_region 30 with fail;go_region_held3 (fun wz=>wz.cell? ⟨g,1,none⟩=some (.map (some mb))∧wz.cell? ⟨b,o,none⟩=some (.string (S x))∧wz.cell? ⟨b,o+1,none⟩=some (.string (S y))) (go_keep) (fail)
     clear HM HMd HD g0 g1 g2 hput e0 e1 e2;go_wp2;go_meet
     exact⟨rfl,H1.out _ _ _ _ _ (by omega) HE.out HM4.out HD4.out⟩
  case rest=>
  obtain⟨rfl,l2,f2,wk2,m,hm,HL,HM9,HD9⟩:=hcut;clear HM HD HA2 HR2 HWs HFm;obtain⟨y0,_,_⟩:=HM9.out.cells;go_wp2_with fail;refine(q2v HM9.out (HS.out.below HM9.out.below) (by omega)).mono ?_;rintro _ wl ⟨rfl,hbl⟩;have HMl:=q6q (HM9.out.after hbl);have HDl:=q6q (HD9.out.after hbl);clear hbl HM9 HD9 y0;obtain⟨lz,hlz⟩:∃lz,l2.length=lz:=⟨_,rfl⟩;rw[hlz];have HLz:=q6q hlz;clear hlz;by_cases h40:lz≤40
  ·have f40:((lz:Int)≤40):=by omega
   have HE:=q6q (show R= .ok (l2,f2,wk2) by rw[←HL.out];unfold lenF;rw[HLz.out];exact if_pos h40);go_wp2_with fail;refine(qbv 10 _).mono ?_;rintro _ wn ⟨rfl,rfl⟩;obtain⟨d1,d2⟩:=HDl.out.facts;go_wp2;refine leaves_cons (f:=92) (args:=#[.pointer (some ⟨be,0,none⟩)]) (by simp) (by simp[go_sem]) ?_;refine(qyf be _).mono ?_;rintro e u' w'' ⟨rfl,rfl,rfl⟩;obtain⟨r1,r2,r3⟩:=HMl.out.finishV HDl.out hgb htb hmb hbs hDm;simp[Leaves,settle,results,Tryz.results59,go_sem,r1]
   exact HQ.out _ _ _ HE.out ⟨rfl,r2.mono hm,r3⟩
  ·have f40:decide ((lz:Int)≤40)=false:=decide_eq_false (by omega)
   have HE:=q6q (show R= .error 10 by rw[←HL.out];unfold lenF;rw[HLz.out];exact if_neg h40);go_wp2_with fail;refine(qcd 10 _).mono ?_;rintro _ wn ⟨rfl,rfl⟩;exact qcm rfl HDl.out HMl.out.below hbs rfl (by simp[go_sem]) (fun w' b s=>HQ.out _ _ _ HE.out ⟨rfl,b,s⟩)
end Go.Proofs.YtikdblkfjchjbaaGreatDoor
