import Derived.Test.YtikdblkfjchjbaaGreatDoorY13
import Derived.Test.YtikdblkfjchjbaaGreatDoorY41
set_option linter.unusedVariables false
set_option linter.unusedSimpArgs false
set_option maxHeartbeats 16000000
set_option maxRecDepth 100000
namespace Go.Proofs.YtikdblkfjchjbaaGreatDoor
open Go Go.RowKit Go.Shelf
variable{w w0:World}{n g t mb N:Nat}{l:List Ent}{D:Nat→Prop}{wk:List UInt8}{E:Obj→Prop}{T:TypeId}{f:List UInt8→Option (List UInt8)}
attribute [local go_sem] Oper.semAt_some
theorem StM.low(h:StM w0 w n l t g mb E D wk):StM w0 w n l t g mb E (fun k=>D k∨k<w0.heap.size) wk:=by
 obtain⟨N,a,m,h1,h2,h3,h4,h5⟩:=h.tree;refine⟨h.below,h.lst,h.len,⟨N,a,m,h1,h2,h3,fun p hp hd=>?_,fun p x hx hd=>?_⟩,h.blk,h.env,h.own,h.way,.inl h.dmb,fun k hk=>?_,h.mg⟩
 ·rcases hd with hd|hd
  ·exact h4 p hp hd
  ·obtain⟨x,hx,hk⟩:=qaj.1 hp
   have:=(h2.base p x hx).2 hk;omega
 ·rcases hd with hd|hd
  ·exact h5 p x hx hd
  ·have:=(h2.base p x hx).1;omega
 ·rcases hk with hk|hk
  ·exact h.dlt k hk
  ·exact Nat.lt_of_lt_of_le hk h.below.size
structure CopI(w0 w:World)(nn t g mb bx bt:Nat)(E:Obj→Prop)(D:Nat→Prop)(wk tp:List UInt8)(l1 pre:List Ent)(X:Nat→Prop)(W:World)(l':List Ent):Prop where
 all:qcn l1 tp pre= .ok l'
 st:StM w0 W (nn+pre.length) l' t g mb E (fun k=>D k∨X k) wk
 cb:W.cell? ⟨bx,0,none⟩=some (.pointer (some ⟨g,0,none⟩))
 ct:W.cell? ⟨bt,0,none⟩=some (.string (S tp))
 keep:KeepC w W
 lt:∀k,X k→k<W.heap.size
 dm:D mb
 stay:StayD D w W
variable {w0 w:World} {nn t g mb bx bt:Nat} {E:Obj→Prop} {D:Nat→Prop} {wk tp:List UInt8} {l1 pre:List Ent} {X:Nat→Prop} {W W':World} {l':List Ent}
theorem CopI.rely(h:CopI w0 w nn t g mb bx bt E D wk tp l1 pre X W l')(hb:Below W.heap.size W W'):CopI w0 w nn t g mb bx bt E D wk tp l1 pre (qd1 X W W') W' l':=by
 refine⟨h.all,h.st.guard hb (fun k hk=>?_) (.inl h.dm),(hb.cell (q6r _ _ h.cb)).trans h.cb,(hb.cell (q6r _ _ h.ct)).trans h.ct,h.keep.trans (KeepC.below hb),fun k hk=>?_,h.dm,h.stay.trans ⟨hb.size,fun k hk=>hb.block k (h.st.dlt k (.inl hk))⟩⟩
 ·rcases hk with hk|hk|hk
  ·exact .inl (.inl hk)
  ·exact .inl (.inr hk)
  ·exact .inr hk
 ·rcases hk with hk|hk
  ·exact Nat.lt_of_lt_of_le (h.lt k hk) hb.size
  ·exact hk.2
theorem CopI.put(h:CopI w0 w nn t g mb bx bt E D wk tp l1 pre X W l')(k:Nat)(o:Obj)(hk:X k)(M:Nat)(hM:M≤k)(h1:g<M)(h2:t<M)(h3:mb<M)(h4:bx<M)(h5:bt<M)(h6:w0.heap.size≤M)(h7:w.heap.size≤M)(h8:∀i,D i→i<M):CopI w0 w nn t g mb bx bt E D wk tp l1 pre X (W.putObj k o) l':=by
 refine⟨h.all,h.st.poke k (.inr hk) (by omega) (by omega) (by omega) (Below.putObj' h.st.below (by omega) _) (by simp) (fun i hi _=>World.putObj_heap_other hi),qap h.cb (World.putObj_heap_other (by omega)),qap h.ct (World.putObj_heap_other (by omega)),fun p v hv=>?_,fun i hi=>by simpa using h.lt i hi,h.dm,h.stay.trans ⟨by simp,fun i hi=>World.putObj_heap_other (by have:=h8 i hi;omega)⟩⟩;have hp:=q6r _ _ hv;exact(World.cell?_of_block (World.putObj_heap_other (by omega))).trans (h.keep p v hv)
theorem CopI.alloc(h:CopI w0 w nn t g mb bx bt E D wk tp l1 pre X W l')(o:Obj):CopI w0 w nn t g mb bx bt E D wk tp l1 pre X (W.alloc o) l':=by
 have hb:Below W.heap.size W (W.alloc o):=(Below.refl _ _).alloc (Nat.le_refl _) _;exact⟨h.all,h.st.after hb,(hb.cell (q6r _ _ h.cb)).trans h.cb,(hb.cell (q6r _ _ h.ct)).trans h.ct,h.keep.trans (KeepC.below hb),fun k hk=>Nat.lt_of_lt_of_le (h.lt k hk) hb.size,h.dm,h.stay.trans ⟨hb.size,fun k hk=>hb.block k (h.st.dlt k (.inl hk))⟩⟩
theorem ql5(l:List Ent)(tp:List UInt8):∀(pre:List Ent) (x:Ent) (rest:List Ent) (a:List Ent),qcn l tp pre= .ok a→qcn l tp (pre++x::rest)=qcn a tp (x::rest):=by
 intro pre;induction pre generalizing l with
 |nil=>intro x rest a h;rw[qcn] at h;cases h;rfl
 |cons y pre ih=>
  intro x rest a h;rw[qcn] at h;rw[List.cons_append,qcn];split at h
  ·rename_i l3 h3
   exact ih l3 x rest a h
  ·cases h
def CopF(g bx bt gE:Nat)(e:Ent)(a':Act):Prop:=∃u1 u2 u3 u5 u6 u7 u8 u9 u13 u14 u15 u16 u17 u18 u19 u20 u21 u22 u23 u24 u25 u26 u27 u28 u29 u30 u31 u32 u33 u34 u35 u36 u37 u38 u39 u40 u41 u42 u43 u44 u45 u46 u47 u48 u49 u50 u51 u52 u53 u54 u55 u56 u57 u58 u59 u60 u61 u62 u63 u64 u65 u66 u67 u68 u69 u70 u71 u72 u73 u74 u75 u76 u77 u78 u79 u80 u81 u82 u83 u84 u85 u86 u87 u88 u89,a'={tmps:=#[.pointer (some ⟨g,0,none⟩),u1,u2,u3,.pointer (some ⟨bx,0,none⟩),u5,u6,u7,u8,u9,.pointer (some ⟨bt,0,none⟩),.string (S e.path),.pointer (some ⟨gE,0,none⟩),u13,u14,u15,u16,u17,u18,u19,u20,u21,u22,u23,u24,u25,u26,u27,u28,u29,u30,u31,u32,u33,u34,u35,u36,u37,u38,u39,u40,u41,u42,u43,u44,u45,u46,u47,u48,u49,u50,u51,u52,u53,u54,u55,u56,u57,u58,u59,u60,u61,u62,u63,u64,u65,u66,u67,u68,u69,u70,u71,u72,u73,u74,u75,u76,u77,u78,u79,u80,u81,u82,u83,u84,u85,u86,u87,u88,u89],defers:=[]}
theorem qw8(h:StM w0 w n l t g mb E D wk)(hS:Std w0)(hn:n<2000000000)(c:List Ent)(tc:Nat)(hC:CtxT w0 c tc)(hc:c.length≤1000)
 (src dst:List UInt8)(hs:src.length≤200)(hd:dst.length≤200)(p tp:List UInt8)(l1:List Ent)(h1:wayL [] src= .ok p)(h2:wayL wk dst= .ok tp)(h3:qb3 c p=1)(h4:qdy l tp= .ok l1):
 Calls Tryz.prog 94 #[.pointer (some ⟨g,0,none⟩),.pointer (some ⟨tc,0,none⟩),.string (S src),.string (S dst)] w fun e w'=>StOut w0 w (n+12+(subL c p).length) t g mb E D wk (qcn l1 tp (subL c p)) e w':=by
 refine(callsIn_wide (n:=8)).1 ?_;have HM:=q6q h;have HS:=q6q hS;have HC:=q6q hC;have hpp:=qca h1;have hpl:=(qbb hpp).1;have htl:=(qbb (qca h2)).1;have hro:qg8 [] src= .tuple #[.string (S p),.bool true]:=by
  rcases qfu [] src with⟨q,e1,e2,_⟩|⟨q,e1,_⟩
  ·rw[e1] at h1;cases h1;exact e2
  ·rw[e1] at h1;cases h1
 have HR:Hid (∀wx,Below w.heap.size w wx→CallsIn Fence.wide (8 - 1) Tryz.prog 130 #[.string (S []),.string (S src)] wx fun e w'=>e= .returned (.tuple #[.string (S p),.bool true])∧Below wx.heap.size wx w'):=
  q6q fun wx hb=>callsIn_wide.2 (by rw[←hro];exact qfj [] src wx (hS.below (h.after hb).below) (by simp;omega))
 have HNd:Hid (∀(k:Int) (wx:World),CallsIn Fence.wide (8 - 1) Tryz.prog 93 #[.bool true,.int .i64 k] wx fun e w'=>e= .returned (.tuple #[])∧wx=w'):=q6q fun k wx=>callsIn_wide.2 (qbv k wx)
 have HPa:Hid (∀wx,Below w.heap.size w wx→CallsIn Fence.wide (8 - 1) Tryz.prog 96 #[.pointer (some ⟨g,0,none⟩),.string (S dst)] wx fun e w'=>e= .returned (.string (S tp))∧Below wx.heap.size wx w'):=
  q6q fun wx hb=>callsIn_wide.2 (by
   have:=qfl (h.after hb) (hS.below (h.after hb).below) dst (by omega);rw[h2] at this;exact this)
 have HKi:Hid (∀wx,Below w.heap.size w wx→CallsIn Fence.wide (8 - 1) Tryz.prog 69 #[.pointer (some ⟨tc,0,none⟩),.string (S p)] wx fun e w'=>e= .returned (.int .i64 1)∧Below wx.heap.size wx w'):=
  q6q fun wx hb=>callsIn_wide.2 (by
   have:=(hC.below (h.after hb).below).kind_any (hS.below (h.after hb).below) p (by omega);rw[h3] at this;exact this)
 have HMa:Hid (∀wx,Below w.heap.size w wx→CallsIn Fence.wide (8 - 1) Tryz.prog 97 #[.pointer (some ⟨g,0,none⟩),.string (S tp)] wx fun e w'=>e= .returned (.tuple #[])∧StM w0 w' (n+12) l1 t g mb E D wk∧KeepC wx w'∧StayD D wx w'):=
  q6q fun wx hb=>callsIn_wide.2 (by
   have:=qew (h.after hb) hS tp (by omega) (by omega);rw[h4] at this;exact this)
 have HWk:Hid (∀w,CallsIn Fence.wide (8 - 1) Tryz.prog 73 #[.pointer (some ⟨tc,0,none⟩),.string (S p)] w _):=q6q (fun w=>callsIn_wide.2 (qkh tc p w));have HY:=q6q (fun (l':List Ent) (wx:World) (m:Nat) (D':Nat→Prop) (hm:StM w0 wx m l' t g mb E D' wk) (x:Ent) (hp:x.path.length≤5000) (hne:x.path≠[]) (hg:qbh x=true) (hml:m<3000000000)=>qom hm hS x hp hne hg hml);obtain⟨R,hR⟩:∃R,qcn l1 tp (subL c p)=R:=⟨_,rfl⟩;have H5:=q6q hR;rw[hR];have HPp:=q6q hpp;have H3:=q6q h3;clear h hS hC h1 h2 h3 h4 hR hro hpp;refine qmn Tryz.func94 rfl trivial ?_ rfl
 simp only[Tryz.ntmps94,List.size_toArray,List.length_cons,List.length_nil,Nat.reduceAdd,Nat.reduceSub,Array.replicate_succ,Array.replicate_zero,List.push_toArray,List.append_toArray,List.nil_append,List.cons_append];refine qfo (qiw ?_);gi_wp2
 have hb1:Below w.heap.size w (w.alloc (.cells #[.pointer (some ⟨g,0,none⟩)] 143)):=(Below.refl _ _).alloc (Nat.le_refl _) _;have cb:(w.alloc (.cells #[.pointer (some ⟨g,0,none⟩)] 143)).cell? ⟨w.heap.size,0,none⟩=some (.pointer (some ⟨g,0,none⟩)):=by
  rw[cell_of_row _ _ _ _ _ _ (Go.heap_alloc_new w _)];rfl
 have HB1:=q6q hb1;clear hb1;generalize w.alloc (.cells #[.pointer (some ⟨g,0,none⟩)] 143)=w1 at HB1 cb ⊢;generalize hbx:w.heap.size=bx at cb ⊢;refine qfo (qiw ?_);gi_wp2_with ((first|refine⟨trivial,fun h=>(by cases h),?_⟩|refine⟨trivial,?_⟩|refine⟨fun h=>(by cases h),?_⟩|skip);gi_at_call 130;refine(HR.out _ HB1.out).mono ?_;rintro _ w2 ⟨rfl,hb2⟩)
 have HB2:=q6q (HB1.out.trans (hb2.mono HB1.out.size));have cb2:=(hb2.cell (p:=⟨bx,0,none⟩) (q6r _ _ cb)).trans cb;clear hb2 HB1 cb;refine qfo (qiw ?_);gi_wp2_with ((first|refine⟨trivial,fun h=>(by cases h),?_⟩|refine⟨trivial,?_⟩|refine⟨fun h=>(by cases h),?_⟩|skip);gi_at_call 93;refine(HNd.out 1 _).mono ?_;rintro _ w3 ⟨rfl,rfl⟩)
 refine qfo (qiw ?_);gi_wp2_with ((first|refine⟨trivial,fun h=>(by cases h),?_⟩|refine⟨trivial,?_⟩|refine⟨fun h=>(by cases h),?_⟩|skip);gi_at_call 96;refine(HPa.out _ HB2.out).mono ?_;rintro _ w4 ⟨rfl,hb4⟩)
 have hb5:Below w4.heap.size w4 (w4.alloc (.cells #[.string (S tp)] 9)):=(Below.refl _ _).alloc (Nat.le_refl _) _;have k10:=Go.heap_alloc_new w4 (.cells #[.string (S tp)] 9);have HB5:=q6q (HB2.out.trans (hb4.mono HB2.out.size) |>.trans (hb5.mono (by have:=HB2.out.size;have:=hb4.size;omega)));have cb4:=(hb4.cell (p:=⟨bx,0,none⟩) (q6r _ _ cb2)).trans cb2;have cb5:=(hb5.cell (p:=⟨bx,0,none⟩) (q6r w4 _ cb4)).trans cb4;have ct5:(w4.alloc (.cells #[.string (S tp)] 9)).cell? ⟨w4.heap.size,0,none⟩=some (.string (S tp)):=by rw[cell_of_row _ _ _ _ _ _ k10];rfl
 have hbt:w.heap.size≤w4.heap.size:=by have:=HB2.out.size;have:=hb4.size;omega
 generalize w4.alloc (.cells #[.string (S tp)] 9)=w5 at HB5 cb5 ct5 ⊢;generalize w4.heap.size=bt at hbt ct5 ⊢;clear hb5 hb4 HB2 cb4 cb2 k10;refine qfo (qiw ?_);gi_wp2_with fail
 refine⟨trivial,(HKi.out _ HB5.out).mono ?_⟩;rintro _ w6 ⟨rfl,hb6⟩;have HB6:=q6q (HB5.out.trans (hb6.mono HB5.out.size));have cb6:=(hb6.cell (p:=⟨bx,0,none⟩) (q6r _ _ cb5)).trans cb5;have ct6:=(hb6.cell (p:=⟨bt,0,none⟩) (q6r _ _ ct5)).trans ct5;clear hb6 HB5 cb5 ct5;gi_wp2_with fail
 refine⟨trivial,(HNd.out 8 _).mono ?_⟩;rintro _ w7 ⟨rfl,rfl⟩;gi_wp2_with fail
 refine qfo ?_;refine qfo (qiw ?_);gi_wp2_with fail
 refine⟨trivial,(HKi.out _ HB6.out).mono ?_⟩;rintro _ w8 ⟨rfl,hb8⟩;have HB8:=q6q (HB6.out.trans (hb8.mono HB6.out.size));have cb8:=(hb8.cell (p:=⟨bx,0,none⟩) (q6r _ _ cb6)).trans cb6;have ct8:=(hb8.cell (p:=⟨bt,0,none⟩) (q6r _ _ ct6)).trans ct6;clear hb8 HB6 cb6 ct6;gi_wp2_with fail
 refine q07 (t:=true) rfl ?_;simp only[if_true];refine qfo (qiw ?_);gi_wp2_with fail
 refine⟨trivial,(HMa.out _ HB8.out).mono ?_⟩;rintro _ w9 ⟨rfl,hm9,hk9,hd9⟩;have HM9:=q6q hm9;have HK9:=q6q ((KeepC.below HB8.out).trans hk9);have HD9:=q6q ((HM.out.stay HB8.out).trans hd9);have cb9:=hk9 _ _ cb8;have ct9:=hk9 _ _ ct8;clear hm9 hk9 hd9 HB8 cb8 ct8;gi_wp2_with fail
 refine qfo ?_;refine qfo (qiw ?_);gi_wp2_with fail
 refine⟨trivial,(HWk.out _).mono ?_⟩;rintro _ w10 ⟨rfl,hb10,hs10,d1,d2⟩;have HB10:=q6q hb10;have cb10:=(hb10.cell (p:=⟨bx,0,none⟩) (q6r _ _ cb9)).trans cb9;have ct10:=(hb10.cell (p:=⟨bt,0,none⟩) (q6r _ _ ct9)).trans ct9;have HM10:=q6q (HM9.out.after hb10);have HK10:=q6q (HK9.out.trans (KeepC.below hb10));have HD10:=q6q (HD9.out.trans (HM9.out.stay hb10));obtain⟨hLc,B,N,a,m,hN,hT,hV⟩:=HC.out;obtain⟨x,hx,hxk⟩:∃x,qav c (qaa p)=some x∧x.kind=1:=qaj.1 (by rw[←qjb hLc p (Classical.em _),H3.out];rfl);obtain⟨hWl,hFi⟩:=q1p hLc hT.tree HPp.out hx hxk;have hBw:=HM10.out.below;have hTl:=hT.lt;have htc:tc<w0.heap.size:=q6r _ _ hV
 have hSx:StdX (fun k=>k<w0.heap.size∨k=w9.heap.size∨k=w9.heap.size+1):=by
  obtain⟨_,hm⟩:=HS.out.maxlen;exact .inl (q6r w0 _ hm)
 have hseq:=fun n=>qxt (p:=p) (by omega) (hT.below hBw) hFi hN (HS.out.below hBw) tc (hV.below hBw) (fun k=>k<w0.heap.size∨k=w9.heap.size∨k=w9.heap.size+1) (fun q y hy=>⟨.inl (hTl q y hy).1,fun hk=> .inl ((hTl q y hy).2 hk)⟩) hSx (.inl htc)
  w9.heap.size (w9.heap.size+1) (.inr (.inl rfl)) (.inr (.inr rfl)) d1 d2 (subL c p) hWl x hx hxk n
 have HSeq:=q6q hseq;clear hb10 hT hV hWl hFi hSx hTl hseq hx hxk hLc cb9 ct9;gi_wp2
 have hsz10:w9.heap.size+2=w10.heap.size:=hs10.symm;have hg10:g<w10.heap.size:=(q6s HM10.out.blk).1;have ht10:t<w10.heap.size:=by obtain⟨_,_,_,_,_,h3,_⟩:=HM10.out.tree;exact q6r _ _ h3
 have hm10:mb<w10.heap.size:=HM10.out.dlt _ HM10.out.dmb;have hbx10:bx<w10.heap.size:=q6r _ _ cb10;have hbt10:bt<w10.heap.size:=q6r _ _ ct10;have hw010:w0.heap.size≤w10.heap.size:=HM10.out.below.size;have hww10:w.heap.size≤w10.heap.size:=by have:=HB10.out.size;omega
 have HSt0:Hid (StM w0 w10 (n+12) l1 t g mb E (fun k=>D k∨(k<w0.heap.size∨k=w9.heap.size∨k=w9.heap.size+1)) wk):=q6q ((HM9.out.low).guard HB10.out (fun k hk=>by
  rcases hk with hk|hk|hk|hk
  ·exact .inl (.inl hk)
  ·exact .inl (.inr hk)
  ·exact .inr (by omega)
  ·exact .inr (by omega)) (.inl HM9.out.dmb))
 have hDm:=HM9.out.dmb;have hD10:∀i,D i→i<w10.heap.size:=HM10.out.dlt;refine qxm ?_;refine qnz fun hfn=>qmy (xs:=subL c p) hfn (fun ch W=>∃k,R= .error k∧Ending.panicked ch=qeq k∧Below w0.heap.size w0 W∧StayD D w W) (.inl ⟨_,Tryz.func94⟩) (encs:=encE) (X0:=fun k=>k<w0.heap.size∨k=w9.heap.size∨k=w9.heap.size+1) rfl (by omega) (gf:=111) (lb:=#[.pointer (some ⟨w9.heap.size,0,none⟩),.pointer (some ⟨w9.heap.size+1,0,none⟩)]) rfl trivial (enters_of Tryz.func111 (by kernel_rfl) rfl)
  (HSeq.out _) (fun _=>rfl)
  (fun pre X W=>∃l',CopI w0 w (n+12) t g mb bx bt E D wk tp l1 pre X W l')
  (fun pre X W ⟨v,h⟩=>h.lt) (fun pre X W W' ⟨v,h⟩ hb=>⟨v,h.rely hb⟩) (fun pre X W k o' ⟨v,h⟩ hk hle=>⟨v,h.put k o' hk w10.heap.size hle hg10 ht10 hm10 hbx10 hbt10 hw010 hww10 hD10⟩) ?start
  (fun e a' X W=>∃gE,CopF g bx bt gE e a'∧W.heap[gE]? =some (.cells #[.string (S e.path),.int .i64 e.kind,.int .i64 e.mode,.string (S e.data)] 47 (0,0))∧¬X gE∧¬D gE∧(g≠gE∧t≠gE∧mb≠gE∧bx≠gE∧bt≠gE)∧w0.heap.size≤gE∧w.heap.size≤gE)
  ?ax ?assign ?body ?done ?died
 case start=>exact⟨l1,rfl,HSt0.out,cb10,ct10,HK10.out,fun k hk=>by omega,hDm,HD10.out⟩
 case ax=>
  rintro e a' X W k o' ⟨gE,ha,hq,hg,hge⟩ hk _;have hne:gE≠k:=fun e=>hg (e▸hk)
  exact⟨gE,ha,(World.putObj_heap_other hne).trans hq,hg,hge⟩
 case assign=>
  rintro l pre y X W K ⟨v,hi⟩ hK;have HJ:=q6q hi;have HKK:=q6q hK;clear hi hK;obtain⟨yp,kd,md,dt⟩:=y;simp only[encE,Ent.agg];gi_wp2
  have z1:=(q6s HJ.out.st.blk).1;have z2:t<W.heap.size:=by obtain⟨_,_,_,_,_,h3,_⟩:=HJ.out.st.tree;exact q6r _ _ h3
  have z3:=HJ.out.st.dlt _ (.inl HJ.out.dm);have z4:bx<W.heap.size:=q6r _ _ HJ.out.cb;have z5:bt<W.heap.size:=q6r _ _ HJ.out.ct;refine HKK.out _ _ ⟨by simp,fun k hk=>Below.heap_alloc W _ k (HJ.out.lt k hk)⟩ ⟨v,HJ.out.alloc _⟩ ⟨W.heap.size,?_,Go.heap_alloc_new W _,fun hk=>?_,fun hk=>?_,⟨by omega,by omega,by omega,by omega,by omega⟩,HJ.out.st.below.size,by omega⟩
  ·exact⟨_,_,_,_,_,_,_,_,_,_,_,_,_,_,_,_,_,_,_,_,_,_,_,_,_,_,_,_,_,_,_,_,_,_,_,_,_,_,_,_,_,_,_,_,_,_,_,_,_,_,_,_,_,_,_,_,_,_,_,_,_,_,_,_,_,_,_,_,_,_,_,_,_,_,_,_,_,_,_,_,_,_,_,_,_,rfl⟩
  ·have:=HJ.out.lt _ hk;omega
  ·have:=HJ.out.st.dlt _ (.inl hk);omega
 case body=>
  rintro lp pre y rest a' X W hxs ⟨v,hi⟩ ⟨gE,ha,hE,hXg,hDg,⟨n1,n2,n3,n4,n5⟩,hge,hgw⟩;obtain⟨u1,u2,u3,u5,u6,u7,u8,u9,u13,u14,u15,u16,u17,u18,u19,u20,u21,u22,u23,u24,u25,u26,u27,u28,u29,u30,u31,u32,u33,u34,u35,u36,u37,u38,u39,u40,u41,u42,u43,u44,u45,u46,u47,u48,u49,u50,u51,u52,u53,u54,u55,u56,u57,u58,u59,u60,u61,u62,u63,u64,u65,u66,u67,u68,u69,u70,u71,u72,u73,u74,u75,u76,u77,u78,u79,u80,u81,u82,u83,u84,u85,u86,u87,u88,u89,rfl⟩:=ha;have h5x:qcn v tp (y::rest)=R:=by rw[←H5.out,hxs];exact(ql5 _ _ pre y rest v hi.all).symm
  rw[qcn] at h5x;obtain⟨hyp,hyn,hyg⟩:=q4r HC.out.1 HPp.out (y:=y) (by rw[hxs];simp);have hypl:=(qbb hyp).1;have hxl:pre.length+1≤1000:=by have:=qyc c p;have:=congrArg List.length hxs;simp only[List.length_append,List.length_cons] at this;omega
  have HJ:=q6q hi;have cb:=hi.cb;have ct:=hi.ct;have HE:=q6q hE;have q0:W.cell? ⟨gE,0,none⟩=some (.string (S y.path)):=by rw[cell_of_row _ _ _ _ _ _ hE];rfl
  have q9:W.frozen? ⟨gE,0,none⟩=false:=frozen_of_row _ _ _ _ _ hE;obtain⟨q,hq⟩:∃q,inB tp y.path=q:=⟨_,rfl⟩;have hqn:q≠[]:=hq▸q4f tp hyn;have hql:q.length≤5000:=by have:=qt1 tp y.path;rw[hq] at this;omega
  have HJn:Hid (Calls Tryz.prog 109 #[.string (S tp),.string (S y.path)] W fun e w'=>e= .returned (.string (S q))∧W=w'):=q6q (by rw[←hq];exact qda tp y.path W (by omega));rw[hq] at h5x;have HL2:=q6q h5x;have HG:=q6q (show qbh ⟨q,y.kind,y.mode,y.data⟩=true by unfold qbh at hyg ⊢;exact hyg);have HA:=q6q hi.all;have HPy:=q6q (show inB tp y.path=q from hq);have HXG:=q6q hXg;have HDG:=q6q hDg;clear hi hE hyp hyg h5x hxs hq hyn hXg hDg;gi_wp2_with fail
  refine⟨trivial,(CallsIn.inRound lp (callsIn_wide.2 HJn.out)).mono ?_⟩;rintro _ w11 ⟨rfl,rfl⟩;gi_upto_region 11 with fail
  have hk1:=heap_setCell_same W gE 0 _ _ (.string (S q)) HE.out;have hot:∀i,i≠gE→(W.setCell ⟨gE,0,none⟩ (.string (S q))).heap[i]? =W.heap[i]?:=fun i hi=>heap_setCell_other W ⟨gE,0,none⟩ i _ hi
  have hsz1:(W.setCell ⟨gE,0,none⟩ (.string (S q))).heap.size=W.heap.size:=by simp
  have hb1:Below w0.heap.size w0 (W.setCell ⟨gE,0,none⟩ (.string (S q))):=HJ.out.st.below.setCell (by show w0.heap.size≤gE;omega) _;have hM1:=HJ.out.st.pokeC gE HE.out (by decide) n1 n2 n3 hb1 (by rw[hsz1];exact Nat.le_refl _) (fun i hi _=>hot i hi);have HM1:=q6q hM1;have cb1:(W.setCell ⟨gE,0,none⟩ (.string (S q))).cell? ⟨bx,0,none⟩=some (.pointer (some ⟨g,0,none⟩)):=qap cb (hot bx n4);have ct1:(W.setCell ⟨gE,0,none⟩ (.string (S q))).cell? ⟨bt,0,none⟩=some (.string (S tp)):=qap ct (hot bt n5);have HSt1:Hid (∀k,X k→(W.setCell ⟨gE,0,none⟩ (.string (S q))).heap[k]? =W.heap[k]?):=q6q fun k hk=>hot k (fun e=>HXG.out (e▸hk))
  have HK1:Hid (KeepC w (W.setCell ⟨gE,0,none⟩ (.string (S q)))):=q6q fun pa v hv=>by
   have hp:=q6r _ _ hv;exact(World.cell?_of_block (hot pa.block (by omega))).trans (HJ.out.keep pa v hv)
  have hlt1:∀k,X k→k<(W.setCell ⟨gE,0,none⟩ (.string (S q))).heap.size:=fun k hk=>by rw[hsz1];exact HJ.out.lt k hk
  have HLt1:=q6q hlt1;have hsw:W.heap.size≤(W.setCell ⟨gE,0,none⟩ (.string (S q))).heap.size:=by rw[hsz1];exact Nat.le_refl _
  have HDm:=q6q HJ.out.dm;have HDs1:Hid (StayD D w (W.setCell ⟨gE,0,none⟩ (.string (S q)))):=q6q (HJ.out.stay.trans ⟨hsw,fun k hk=>hot k (fun e=>HDG.out (e▸hk))⟩);generalize W.setCell ⟨gE,0,none⟩ (.string (S q))=W1 at hk1 HM1 cb1 ct1 HSt1 HK1 HLt1 hsw HDs1 ⊢;have r0:W1.cell? ⟨gE,0,none⟩=some (.string (S q)):=by rw[cell_of_row _ _ _ _ _ _ hk1];rfl
  have r1:W1.cell? ⟨gE,1,none⟩=some (.int .i64 y.kind):=by rw[cell_of_row _ _ _ _ _ _ hk1];rfl
  have r2:W1.cell? ⟨gE,2,none⟩=some (.int .i64 y.mode):=by rw[cell_of_row _ _ _ _ _ _ hk1];rfl
  have r3:W1.cell? ⟨gE,3,none⟩=some (.string (S y.data)):=by rw[cell_of_row _ _ _ _ _ _ hk1];rfl
  clear hk1 hot hsz1 hb1 hM1 hlt1 cb ct q0 q9 HJn HE;gi_wp2_with fail
  refine⟨trivial,(CallsIn.inRound lp (callsIn_wide.2 (HY.out v W1 _ _ HM1.out ⟨q,y.kind,y.mode,y.data⟩ hql hqn HG.out (by omega)))).mono ?_⟩;intro e w12 ho;have HL3:=HL2.out;cases hly:layE v ⟨q,y.kind,y.mode,y.data⟩ with
  |error k=>
   rw[hly] at ho HL3;obtain⟨rfl,hb12,hd12⟩:=ho;exact⟨rfl,⟨by have:=hd12.1;omega,fun i hi=>(hd12.2 i (.inr hi)).trans (HSt1.out i hi)⟩,k,HL3.symm,rfl,hb12,HDs1.out.trans ⟨hd12.1,fun i hi=>hd12.2 i (.inl hi)⟩⟩
  |ok lb=>
  rw[hly] at ho HL3;obtain⟨rfl,hm12,hk12,hd12⟩:=ho;have HA2:=q6q (show qcn l1 tp (pre++[y])= .ok lb by rw[ql5 _ _ pre y [] v HA.out,qcn,HPy.out,hly];rfl);clear hly HL3;have HM12:=q6q hm12;have HK12:=q6q hk12;have HD12:=q6q hd12;clear hm12 hk12 hd12 HY r0 r1 r2 r3;gi_wp2
  have hs12:=HD12.out.1;refine⟨⟨by omega,fun k hk=>(HD12.out.2 k (.inr hk)).trans (HSt1.out k hk)⟩,lb,HA2.out,?_,HK12.out _ _ cb1,HK12.out _ _ ct1,HK1.out.trans HK12.out,fun k hk=>Nat.lt_of_lt_of_le (HLt1.out k hk) hs12,HDm.out,HDs1.out.trans ⟨hs12,fun k hk=>HD12.out.2 k (.inl hk)⟩⟩;rw[List.length_append,List.length_singleton,←Nat.add_assoc];exact HM12.out
 case done=>
  rintro Dd X W hD hXD ⟨v,hi⟩ hK;have HJ:=q6q hi;clear hi;have hR2:=q6q (show R= .ok v from H5.out.symm.trans HJ.out.all);have HP:=q6q (HJ.out.put Dd (.deferred none) hXD w10.heap.size hD hg10 ht10 hm10 hbx10 hbt10 hw010 hww10 hD10);refine qiw ?_;gi_wp2
  refine⟨by simp,.inl ⟨_,_,rfl,run_takeDeferred hK,?_⟩⟩;refine⟨_,(show(results Tryz.f94 _).run Tryz.prog _= .ok (.tuple #[]) _ from ?_),StOut.ok hR2.out (HP.out.st.guard (Below.refl _ _) (fun k hk=> .inl (.inl hk)) hDm) HP.out.keep HP.out.stay⟩;simp[results,Tryz.f94,go_sem]
 case died=>
  rintro Dd ch W hD ⟨k,hk,hch,hb,hs⟩ hK;cases hch;refine⟨by simp,.inl ⟨_,_,rfl,run_takeDeferred hK,?_⟩⟩;exact StOut.err hk (Below.putObj' hb (by omega) _) (hs.trans ⟨by simp,fun i hi=>World.putObj_heap_other (by have:=hD10 i hi;omega)⟩)
open Go.RowKit
def q6p(o:Obj):Prop:=o= .map #[] 0
theorem qrx(w:World):Calls Tryz.prog 56 #[] w fun e w'=>∃t g mb,e= .returned (.pointer (some ⟨g,0,none⟩))∧StM w w' 0 [] t g mb q6p (fun k=>k<w.heap.size∨k=mb) []:=by
 have hmm:=@run_makeMap Tryz.prog;go_enter Tryz.func56,Tryz.ntmps56;go_wp2_with fail;refine(qlx _).mono ?_;rintro e w1 ⟨t,a,m,rfl,hT,hV,hb1,hr⟩;have HT:=q6q hT;have HV:=q6q hV;have HB:=q6q hb1;have hsz:=hb1.size;clear hT hV hb1;go_wp2;go_ret;have htl:t<w1.heap.size:=q6r _ _ HV.out;have hb2:Below w1.heap.size w1 (w1.alloc (.map #[] 0)):=(Below.refl _ _).alloc (Nat.le_refl _) _;have hb3:Below w1.heap.size w1 ((w1.alloc (.map #[] 0)).alloc (.cells #[.pointer (some ⟨t,0,none⟩),.map (some w1.heap.size),.string (S [])] qpl)):=hb2.alloc (by simp) _
 have hm:((w1.alloc (.map #[] 0)).alloc (.cells #[.pointer (some ⟨t,0,none⟩),.map (some w1.heap.size),.string (S [])] qpl)).heap[w1.heap.size]? =some (.map #[] 0):=(Below.heap_alloc (w1.alloc _) _ w1.heap.size (by simp)).trans (Go.heap_alloc_new w1 _);have hg:=Go.heap_alloc_new (w1.alloc (.map #[] 0)) (.cells #[.pointer (some ⟨t,0,none⟩),.map (some w1.heap.size),.string (S [])] qpl);rw[World.size_alloc] at hg;have hLn:qav ([]:List Ent)=qg0:=rfl
 refine⟨t,w1.heap.size+1,w1.heap.size,rfl,⟨HB.out.trans (hb3.mono HB.out.size),Lists.nil,Nat.le_refl _,⟨0,a,m,Nat.le_refl _,HT.out.below hb3,HV.out.below hb3,fun p hp hd=>?_,fun p x hx hd=>?_⟩,hg,⟨_,hm,rfl⟩,?_,by simp,.inr rfl,fun k hk=>?_,by omega⟩⟩
 ·obtain⟨x,hx,hk⟩:=qaj.1 hp
  have h1:=(HT.out.base p x hx).2 hk;have h2:=(HT.out.lt p x hx).2 hk;omega
 ·have h1:=(HT.out.base p x hx).1
  have h2:=(HT.out.lt p x hx).1;omega
 ·exact⟨by omega,by omega,hr⟩
 ·simp only[World.size_alloc]
  omega
theorem qbj{a b c:Value}(h:w.heap[g]? =some (.cells #[a,b,c] T (0,0))):w.cell? ⟨g,0,none⟩=some a∧w.cell? ⟨g,1,none⟩=some b∧w.cell? ⟨g,2,none⟩=some c∧w.frozen? ⟨g,0,none⟩=false∧w.frozen? ⟨g,1,none⟩=false∧w.frozen? ⟨g,2,none⟩=false:=by
 refine⟨?_,?_,?_,frozen_of_row _ _ _ _ _ h,frozen_of_row _ _ _ _ _ h,frozen_of_row _ _ _ _ _ h⟩ <;> rw[cell_of_row _ _ _ _ _ _ h] <;> rfl
theorem qz0(h:StM w0 w n l t g mb E D wk)(hS:Std w)(hn:n≤1000000000):
 Calls Tryz.prog 40 #[.pointer (some ⟨t,0,none⟩)] w fun e w'=>∃v,e= .returned v∧OwnE w' w.heap.size v l∧Below w.heap.size w w':=by
 obtain⟨N,a,m,h1,h2,h3,_⟩:=h.tree;exact q2q h2 h.lst.fine (by omega) hS t h3 l (h.lst.walk h2.tree) (by have:=h.len;omega) _ h.lst.root
theorem TreeAt.lower{B B':Nat}{a m:Pth→Nat}{F:qag}(h:TreeAt w B N a m F)(hB:B'≤B):TreeAt w B' N a m F:=
 ⟨h.tree,h.node,h.dir,fun p x hx=>⟨Nat.le_trans hB (h.base p x hx).1,fun hk=>Nat.le_trans hB ((h.base p x hx).2 hk)⟩,h.inj,h.injm⟩
theorem StM.copyCall(h:StM w0 w n l t g mb E D wk)(hS:Std w)(hn:n≤1000000000):
 Calls Tryz.prog 68 #[.pointer (some ⟨t,0,none⟩)] w fun e w'=>∃t' a' m',e= .returned (.pointer (some ⟨t',0,none⟩))∧TreeAt w' w.heap.size l.length a' m' (qav l)∧TreeV w' t' a'∧w.heap.size≤t'∧Below w.heap.size w w':=by
 obtain⟨N,a,m,h1,h2,h3,_⟩:=h.tree;exact q3t h2 h.lst.fine (by omega) hS t h3 l (h.lst.walk h2.tree) (by have:=h.len;omega) _ h.lst.root (h.lst.hup h2.tree)
theorem qs5(h:StM w0 w n l t g mb (EnvO N f) D wk)(hS:Std w0)(hn:n≤1000000000)(hN:N≤1000000):
 Calls Tryz.prog 57 #[.pointer (some ⟨g,0,none⟩)] w fun e w'=>∃t2 g2 mb2,e= .returned (.pointer (some ⟨g2,0,none⟩))∧StM w w' n l t2 g2 mb2 (EnvO N f) (fun k=>k<w.heap.size∨k=mb2) wk:=by
 have hmm:=@run_makeMap Tryz.prog;have hb1:Below w.heap.size w (w.alloc (.map #[] 0)):=(Below.refl _ _).alloc (Nat.le_refl _) _;have HM:=q6q (h.after hb1);have HS:=q6q hS;have HL:=q6q h.lst;have hlen:=h.len;have HB1:=q6q hb1;have hsz1:(w.alloc (.map #[] 0)).heap.size=w.heap.size+1:=World.size_alloc _ _;have HE0:=q6q (EnvIs.made w);obtain⟨Dm,hown,hIs,hD⟩:=HM.out.envIs;have hszD:Maps.size Dm≤N:=by
  obtain⟨es,clock,_,_,hs,rfl⟩:=hown;rw[Maps.size_eq,length_sorted];simpa using hs
 have HOw:=q6q hown;have HDm:=q6q hD;have hmw:mb≠w.heap.size:=by
  have:=h.envIs.lt;omega
 have H0:=q6q h;clear hown hD hIs h hS hb1;obtain⟨c0,c1,c2⟩:=HM.out.cells;go_enter Tryz.func57,Tryz.ntmps57;go_wp2_with (at_range;refine wpList_range_own _ rfl _ tEnv rfl tStr tVal strK Tryz.underlying145 evR _ N Dm rfl HOw.out ?_;intro w3 hrg hg3 hs3)
 try go_frame
 have HB3:=q6q ((Below.refl (w.alloc (.map #[] 0)).heap.size (w.alloc (.map #[] 0))).grown hg3 (Nat.le_refl _) (fun k hk=>by cases hk));rw[hsz1] at hrg ⊢;have HRg:=q6q hrg;clear hrg hg3 hs3;go_loopw [5] (fun _ wr=>∃(left:Lit→Bool) (cnt M:Nat) (fd:List UInt8→Option (List UInt8)),Hid (wr.ranges Tryz.prog tStr evR mb (w.heap.size+1) N Dm left cnt)∧Hid (EnvIs wr w.heap.size M fd)∧M+cnt≤N∧Hid (∀k,left (.string k)=true→(f k).isSome=true)∧Hid (∀k,fd k=if left (.string k) then none else f k)∧Hid (Below w.heap.size w wr)) (fun _ wr=>wr.rangeLeft mb (w.heap.size+1))
 case atStart=>exact⟨_,_,0,_,HRg.out,q6q (HE0.out.below HB3.out),by omega,q6q (fun k hk=>(HDm.out k).2.symm.trans hk),q6q (fun k=>by
  by_cases e:Maps.has Dm (.string k)=true
  ·rw[if_pos e]
  ·rw[if_neg e]
   have:=(HDm.out k).2;cases hf:f k with
   |none=>rfl
   |some x=>rw[hf] at this;exact absurd this e),q6q (HB1.out.trans (HB3.out.mono (by omega)))⟩
 case round=>
  obtain⟨left,cnt,M,fd,hrg,hE,hM,hLs,hF,hB⟩:=hrel;go_wp2_with (at_next;refine wpList_next_ranges _ rfl _ rfl tStr strK evR (fun s:List UInt8=>Value.string (S s)) (fun s:List UInt8=>Value.agg #[.string (S s)]) (fun key kl hkey=>by obtain⟨x,h1,_⟩:=Maps.keyOf_str Tryz.underlying9 hkey;exact⟨x,h1⟩) (fun v y hv=>by obtain⟨o,h1,_⟩:=qoq hv;exact⟨o,h1⟩) mb (w.heap.size+1) N Dm left cnt rfl hrg.out ?_ ?_)
  ·intro hc0 hl0
   have hfd:fd=f:=funext fun k=>by rw[hF.out k,hl0];rfl
   subst hfd;have HM2:=q6q (H0.out.after hB.out);have HL:=q6q (fun (wx:World) (hb:Below wr.heap.size wr wx)=>(HM2.out.after hb).copyCall (HS.out.below (HM2.out.after hb).below) hn);clear HM c0 c1 c2;obtain⟨c0,c1,c2⟩:=HM2.out.cells;go_upto_region 6 with fail;have hlw:=hE.out.lt;go_cut [2] (fun v wx=>∃(g2 t2:Nat) (a2 m2:Pth→Nat),v= .pointer (some ⟨g2,0,none⟩)∧wr.heap.size≤g2∧wx.heap[g2]? =some (.cells #[.pointer (some ⟨t2,0,none⟩),.map (some w.heap.size),.string (S wk)] qpl (0,0))∧Hid (TreeAt wx wr.heap.size l.length a2 m2 (qav l))∧Hid (TreeV wx t2 a2)∧wr.heap.size≤t2∧Hid (Below wr.heap.size wr wx))
   case first=>
    have t0:Below wr.heap.size wr wr.drew:=qbi (Below.refl _ _);go_region_held3 (fun w'=>w'.cell? ⟨g,0,none⟩=some (.pointer (some ⟨t,0,none⟩))∧w'.cell? ⟨g,2,none⟩=some (.string (S wk))) (go_keep) (first|(go_at_call 68;refine(HL.out _ t0).mono ?_;rintro e6 w6 ⟨t2,a2,m2,rfl,hT6,hV6,hl6,hb6⟩;have HT6:=q6q hT6;have HV6:=q6q hV6;have hbw:Below wr.heap.size wr w6:=t0.trans (hb6.mono t0.size);have k60:=(hbw.cell (p:=⟨g,0,none⟩) (q6r _ _ c0)).trans c0;have k62:=(hbw.cell (p:=⟨g,2,none⟩) (q6r _ _ c2)).trans c2;have HB6:=q6q hbw;have hz6:=hb6.size;clear hT6 hV6 hb6 hbw))
    all_goals
     go_wp2;go_meet
     have hb7:∀o,Below w6.heap.size w6 (w6.alloc o):=fun o=>(Below.refl _ _).alloc (Nat.le_refl _) o
     have hl7:=t0.size;exact⟨w6.heap.size,t2,a2,m2,rfl,HB6.out.size,Go.heap_alloc_new w6 _,q6q ((HT6.out.lower hl7).below (hb7 _)),q6q (HV6.out.below (hb7 _)),Nat.le_trans hl7 hl6,q6q (HB6.out.alloc HB6.out.size _)⟩
   case rest=>
    obtain⟨g2,t2,a2,m2,rfl,hg2,hk2,HT,HV,ht2,HB⟩:=hcut;go_wp2;go_ret;have hbs:=hB.out.size;have hEc:=(hE.out.mono (show M≤N by omega)).below HB.out;have hTb:=HT.out.lower hbs;have hlt:=HB.out.size;refine⟨t2,g2,w.heap.size,rfl,⟨hB.out.trans (HB.out.mono hbs),H0.out.lst,hlen,⟨_,a2,m2,hlen,hTb,HV.out,fun p hp hd=>?_,fun p x hx hd=>?_⟩,hk2,hEc.obj,⟨by omega,Nat.le_refl _,by omega⟩,H0.out.way,.inr rfl,fun k hk=>by omega,by omega⟩⟩
    ·obtain⟨x,hx,hk⟩:=qaj.1 hp
     have h1:=(HT.out.base p x hx).2 hk;omega
    ·have h1:=(HT.out.base p x hx).1
     omega
  ·intro x tx kl y yb w' cnt' hkey hlk hv hat hrg' hlt hgr hsz' hen
   obtain⟨x',hx1,rfl,hxl⟩:=Maps.keyOf_str Tryz.underlying9 hkey;have hxx:x=x':=by
    have h1:S x=S x':=Value.string.inj hx1;exact qo1 h1
   subst hxx;go_upto_region 5 with fail;have hy:y= .lit (.string tx):=by
    rw[show Value.agg #[Value.string (S tx)]=evV tx from rfl,q3h] at hv;exact(congrArg Prod.fst (Option.some.inj hv)).symm
   have hfx:f x=some tx:=by
    have h1:=(HDm.out x).1;rw[hat,hy] at h1;have h2:tx=(f x).getD []:=by
     injection h1 with h1;injection h1
    obtain⟨z,hz⟩:=Option.isSome_iff_exists.1 (hLs.out x hlk);rw[hz] at h2 ⊢;rw[h2];rfl
   have hmlt:=hE.out.lt;have hne:w.heap.size≠w.heap.size+1:=by omega
   have hE1:EnvIs (w'.alloc (.cells #[.string (S tx)] tVal)) w.heap.size M fd:=(hE.out.kept hgr (fun e=>hne (Option.some.inj e))).kept (World.grownBy_alloc _ _ none) (by simp);obtain⟨w5,hrun,hE5,hg5⟩:=hE1.put x hxl tx (by unfold maxLen;omega);have hrg5:=q6q ((hrg'.alloc (.cells #[.string (S tx)] tVal)).kept hg5 (fun e=>hmw (Option.some.inj e)) (fun e=>hne (Option.some.inj e).symm))
   have hB5:=q6q (((hB.out.grown hgr hB.out.size (fun k hk=>by obtain rfl:=Option.some.inj hk;omega)).alloc (by rw[hsz'];exact hB.out.size) (.cells #[.string (S tx)] tVal)).grown hg5 (by rw[World.size_alloc,hsz'];have:=hB.out.size;omega) (fun k hk=>by obtain rfl:=Option.some.inj hk;exact Nat.le_refl _));have HE5:=q6q hE5;clear hE1 hE5 hg5 hrg' hgr hkey hv hat;rw[show evV tx=Value.agg #[Value.string (S tx)] from rfl,hx1] at hrun;go_wp2;go_roundw
   case rel=>
    refine⟨_,cnt',M+1,_,hrg5,HE5,by omega,q6q (fun k hk=>?_),q6q (fun k=>?_),hB5⟩
    ·simp only[Bool.and_eq_true] at hk
     exact hLs.out k hk.1
    ·unfold updE
     by_cases e:k=x
     ·subst e;simp[hfx,Lit.sameKey]
     ·rw[if_neg e,hF.out k];simp[e,Lit.sameKey]
   case measure=>
    have h1:=hrg5.out.left_eq;have h2:=hrg.out.left_eq;rw[h1,h2];exact hlt
def envS(f:List UInt8→Option (List UInt8))(k:List UInt8):List UInt8:=k++61::(f k).getD []
theorem qrz{base:Nat}{e:TypeId}{size:Nat}{v:Value}{xs:List Value}(h:w.ownsRow base e size v n xs){b:Nat}{cs:Array Value}{fz:Nat×Nat}(hb:w.heap[b]? =some (.cells cs T fz))(hT:T≠e):v.ownBlock≠some b:=fun he=>by
 rcases h.2 with⟨h1,_⟩|⟨g,cap,cur,h1,_,h2,_⟩
 ·subst h1;cases he
 ·subst h1
  obtain rfl:=Option.some.inj he;rw[h2] at hb;injection hb with hb;injection hb with _ hb;exact hT hb.symm
theorem q56(w:World)(b:Nat)(v:Value):w.grownBy (w.setCell ⟨b,0,none⟩ v) (some b):=⟨rfl,rfl,rfl,by simp,fun i _ hne=>heap_setCell_other w ⟨b,0,none⟩ i v (fun e=>hne (by rw[e]))⟩
theorem qwm(h:StM w0 w n l t g mb (EnvO N f) D wk)(hS:Std w0)(hn:n≤1000000000)(hN:N≤1000000)(hfb:∀k t,f k=some t→k.length≤1000000∧t.length≤1000000):
 Calls Tryz.prog 60 #[.pointer (some ⟨g,0,none⟩)] w fun e w'=>∃(v:Value) (A:Option Addr) (c:Nat) (ks:List (List UInt8)),e= .returned (.agg #[.slice A ks.length c,.string (S (47::wk)),v])∧w'.ownsRow w.heap.size tStr 1 (.slice A ks.length c) ks.length (strs (srtO (ks.map (envS f))))∧ks.Nodup∧(∀k,k∈ks↔(f k).isSome=true)∧OwnE w' w.heap.size v l∧Below w.heap.size w w':=by
 obtain⟨ii,hi,hz0,hz1,hz2⟩:=info_parts (show(Tryz.prog.info? tStr).map (fun i=>(i.zero,i.size,i.bytes))=some (some (.string (S [])),1,16) by kernel_rfl);have HFb:=q6q hfb;clear hfb;have hb1:Below w.heap.size w (w.alloc (.cells #[.slice none 0 0,.string (S []),.slice none 0 0] 32)):=(Below.refl _ _).alloc (Nat.le_refl _) _;have k2:=Go.heap_alloc_new w (.cells #[.slice none 0 0,.string (S []),.slice none 0 0] 32);have HM:=q6q (h.after hb1);have HS:=q6q hS;have hmw:=h.envIs.lt;have hwl:=h.way;have hsz:=hb1.size;have hszk:=(q6s k2).1;have HB1:=q6q hb1;clear h hS hb1;go_enter Tryz.func60,Tryz.ntmps60;go_upto_region 1 with fail
 generalize w.alloc (.cells #[.slice none 0 0,.string (S []),.slice none 0 0] 32)=w1 at HM HB1 hsz hszk k2 ⊢;obtain⟨c0,c1,c2⟩:=HM.out.cells;have HL:=q6q (fun (wx:World) (hb:Below w1.heap.size w1 wx)=>qz0 (HM.out.after hb) (HS.out.below (HM.out.after hb).below) hn);go_cut [3] (fun v wx=>∃(gi:Nat) (tv:Value),v= .pointer (some ⟨gi,0,none⟩)∧w1.heap.size≤gi∧wx.heap[gi]? =some (.cells #[.slice none 0 0,.string (S (47::wk)),tv] 32 (0,0))∧Hid (OwnE wx w1.heap.size tv l)∧Hid (Below w1.heap.size w1 wx))
 case first=>
  have t0:Below w1.heap.size w1 w1.drew:=qbi (Below.refl _ _);have t1:∀o,Below w1.heap.size w1 (w1.alloc o).drew:=fun o=>qbi ((Below.refl _ _).alloc (Nat.le_refl _) o)
  have hgl:=q6r _ _ c0;have ne1:g≠w1.heap.size:=by simp only at hgl;omega
  have ne2:w1.heap.size≠g:=Ne.symm ne1;have n1:¬9223372036854775807<1+wk.length:=by omega
  have n2:¬9223372036854775807<wk.length+1:=by omega
  go_region_held3 (fun w'=>w'.cell? ⟨g,0,none⟩=some (.pointer (some ⟨t,0,none⟩))∧w'.cell? ⟨g,2,none⟩=some (.string (S wk))) (go_keep) (first|(go_at_call 40;refine(HL.out _ (by first|exact t0|exact t1 _)).mono ?_;rintro e6 w6 ⟨tv,rfl,hown,hb6⟩;obtain⟨av,ac,rfl⟩:=qad hown;have HO6:=q6q hown;have hbw:Below w1.heap.size w1 w6:=(by first|exact t0.trans (hb6.mono t0.size)|exact(t1 _).trans (hb6.mono (t1 _).size));have k60:=(hbw.cell (p:=⟨g,0,none⟩) (q6r _ _ c0)).trans c0;have k62:=(hbw.cell (p:=⟨g,2,none⟩) (q6r _ _ c2)).trans c2;have HB6:=q6q hbw;(first|(have hk6:w6.heap[w1.heap.size]? =some (.cells #[.slice none 0 0,.string (S []),.slice none 0 0] 32 (0,0)):=(hb6.block _ (by simp)).trans (show(w1.alloc (.cells #[.slice none 0 0,.string (S []),.slice none 0 0] 32)).heap[w1.heap.size]? =_ from Go.heap_alloc_new w1 _);obtain⟨d0,d1,d2,d3,d4,d5⟩:=qbj hk6;have hl6:=(q6s hk6).1)|skip);have hz6:=hb6.size;clear hown hb6 hbw))
  all_goals
   go_wp2;go_meet
   first
    |(exact⟨w6.heap.size,_,rfl,HB6.out.size,Go.heap_alloc_new w6 _,q6q (qak (HO6.out.alloc _) (by simp)),q6q (HB6.out.alloc HB6.out.size _)⟩)
    |(exact⟨w1.heap.size,_,rfl,Nat.le_refl _,heap_setCell_same _ w1.heap.size 2 _ _ _ (heap_setCell_same _ w1.heap.size 1 _ _ _ (heap_setCell_same w6 w1.heap.size 0 _ _ _ hk6)),
        q6q (qak (ownsRow_setCell_below (ownsRow_setCell_below (ownsRow_setCell_below HO6.out (a:=⟨w1.heap.size,0,none⟩) (by simp) _) (a:=⟨w1.heap.size,1,none⟩) (by simp) _) (a:=⟨w1.heap.size,2,none⟩) (by simp) _) (by simp)),
        q6q (((HB6.out.setCell (Nat.le_refl _) _).setCell (Nat.le_refl _) _).setCell (Nat.le_refl _) _)⟩)
 case rest=>
  obtain⟨gi,tv,rfl,hgi,hki,HO,HB⟩:=hcut;obtain⟨tva,tvc,htv⟩:=qad HO.out;subst htv;have HM2:=q6q (HM.out.after HB.out);obtain⟨c0,c1,c2⟩:=HM2.out.cells;have k2':=(HB.out.block _ (q6s k2).1).trans k2;clear HM k2;obtain⟨Dm,hown,hIs,hD⟩:=HM2.out.envIs;have hszD:Maps.size Dm≤N:=by
   obtain⟨es,clock,_,_,hs,rfl⟩:=hown;rw[Maps.size_eq,length_sorted];simpa using hs
  have hsz2:w.heap.size<w1.heap.size:=hszk;have hgiw:w.heap.size≠gi:=by omega
  have hgil:=(q6s hki).1;have HOw:=q6q hown;have HDm:=q6q hD;have HKi:=q6q hki;have HK2:=q6q k2';clear hown hD hIs hki k2';go_wp2_with (at_range;refine wpList_range_own _ rfl _ tEnv rfl tStr tVal strK Tryz.underlying145 evR _ N Dm rfl HOw.out ?_;intro w3 hrg hg3 hs3)
  try go_frame
  have HB3:=q6q ((Below.refl wc.heap.size wc).grown hg3 (Nat.le_refl _) (fun k hk=>by cases hk));have HRg:=q6q hrg;have hs3':=hs3;have HRw:=q6q (fun k hk=>(HO.out.lt k hk).2);clear hrg hg3 hs3
  go_loopw [5] (fun _ wr=>∃(left:Lit→Bool) (cnt:Nat) (ks:List (List UInt8)) (A:Option Addr) (c:Nat),Hid (wr.ranges Tryz.prog tStr evR mb wc.heap.size N Dm left cnt)∧Hid (Collected Dm left ks)∧ks.length+cnt≤N∧Hid (wr.heap[gi]? =some (.cells #[.slice A ks.length c,.string (S (47::wk)),.slice tva l.length tvc] 32 (0,0)))∧Hid (wr.ownsRow (wc.heap.size+1) tStr 1 (.slice A ks.length c) ks.length (strs (ks.map (envS f))))∧Hid (wr.heap[w.heap.size]? =some (.cells #[.slice none 0 0,.string (S []),.slice none 0 0] 32 (0,0)))∧Hid (OwnE wr w1.heap.size (.slice tva l.length tvc) l)∧Hid (Below w1.heap.size w1 wr)∧wc.heap.size+1≤wr.heap.size) (fun _ wr=>wr.rangeLeft mb wc.heap.size)
  case atStart=>
   have hk3:=(HB3.out.block _ (q6s HKi.out).1).trans HKi.out;have hk23:=(HB3.out.block _ (q6s HK2.out).1).trans HK2.out;exact⟨_,_,[],none,0,HRg.out,Collected.start Dm,by simpa using hszD,hk3,World.ownsRow_nil _ _ _ _,hk23,q6q (qac HO.out HB3.out),q6q (HB.out.trans (HB3.out.mono HB.out.size)),by omega⟩
  case round=>
   obtain⟨left,cnt,ks,A,c,hrg,hco,hcn,hkr,hrow,hk2r,hor,hbr,hszr⟩:=hrel;go_wp2_with (at_next;refine wpList_next_ranges _ rfl _ rfl tStr strK evR (fun s:List UInt8=>Value.string (S s)) (fun s:List UInt8=>Value.agg #[.string (S s)]) (fun key kl hkey=>by obtain⟨x,h1,_⟩:=Maps.keyOf_str Tryz.underlying9 hkey;exact⟨x,h1⟩) (fun v y hv=>by obtain⟨o,h1,_⟩:=qoq hv;exact⟨o,h1⟩) mb wc.heap.size N Dm left cnt rfl hrg.out ?_ ?_)
   ·intro hc0 hl0
    obtain⟨i0,i1,i2,_,_,_⟩:=qbj hkr.out;have HSo:=q6q (qyp A c (ks.map (envS f)) _ wr (by have h:=hrow.out;simpa only[List.length_map] using h) (by simp;omega));simp only[List.length_map] at HSo;go_wp2_with fail;refine HSo.out.mono ?_;rintro e w5 ⟨rfl,hs5,hg5⟩;have hgiw0:gi<wc.heap.size+1:=by omega
    have hrl:=hrow.out;have hki5:=(hg5.block gi (q6s hkr.out).1 (row_ne_low hrl (b:=gi) hgiw0)).trans hkr.out;have hk25:=(hg5.block w.heap.size (q6s hk2r.out).1 (row_ne_low hrl (b:=w.heap.size) (by omega))).trans hk2r.out;have hno:(Value.slice tva l.length tvc).ownBlock=none∨(Value.slice tva l.length tvc).ownBlock≠(Value.slice A ks.length c).ownBlock:=by
     cases hq:(Value.slice tva l.length tvc).ownBlock with
     |none=>exact .inl rfl
     |some k=>
      refine .inr (fun he=>?_);have h1:=qek hrl k he.symm;have h2:=HRw.out k hq;omega
    have HOE5:=q6q (hor.out.kept hg5 hno);have HS5:=q6q hs5;have HB5:=q6q (HB1.out.trans ((hbr.out.grown hg5 hbr.out.size (fun k hk=>by have:=qek hrl k hk;omega)).mono hsz));obtain⟨x0,x1,x2,_,_,_⟩:=qbj hki5;obtain⟨j0,j1,j2,f0,f1,f2⟩:=qbj hk25;have HK5:=q6q hk25;have HLE:=q6q (show ∀k,k∈ks↔(f k).isSome=true from fun k=>by
     rw[hco.out.2 k,hl0,(HDm.out k).2];simp)
    have hcsz:=HB.out.size;clear i0 i1 i2 hki5 hk25 hg5 hs5 hl0 hno hrl c0 c1 c2;generalize hg0:w.heap.size=g0 at j0 j1 j2 f0 f1 f2 HK5 ⊢;go_wp2;have h0:=heap_setCell_same w5 g0 0 _ _ (.slice A ks.length c) HK5.out;have h1:=heap_setCell_same _ g0 1 _ _ (.string (S (47::wk))) h0;have h2:=heap_setCell_same _ g0 2 _ _ (.slice tva l.length tvc) h1;obtain⟨v0,v1,v2,_,_,_⟩:=qbj h2;have hbe:=((HB5.out.setCell (p:=⟨g0,0,none⟩) (by show w.heap.size≤g0;omega) (.slice A ks.length c)).setCell (p:=⟨g0,1,none⟩) (by show w.heap.size≤g0;omega) (.string (S (47::wk)))).setCell (p:=⟨g0,2,none⟩) (by show w.heap.size≤g0;omega) (.slice tva l.length tvc)
    have hoe:=ownsRow_setCell_below (ownsRow_setCell_below (ownsRow_setCell_below HOE5.out (a:=⟨g0,0,none⟩) (by show g0<w1.heap.size;omega) (.slice A ks.length c)) (a:=⟨g0,1,none⟩) (by show g0<w1.heap.size;omega) (.string (S (47::wk)))) (a:=⟨g0,2,none⟩) (by show g0<w1.heap.size;omega) (.slice tva l.length tvc);have hse:=ownsRow_setCell_below (ownsRow_setCell_below (ownsRow_setCell_below HS5.out (a:=⟨g0,0,none⟩) (by show g0<wc.heap.size+1;omega) (.slice A ks.length c)) (a:=⟨g0,1,none⟩) (by show g0<wc.heap.size+1;omega) (.string (S (47::wk)))) (a:=⟨g0,2,none⟩) (by show g0<wc.heap.size+1;omega) (.slice tva l.length tvc)
    refine bodyPost_ret (by simp[results,Tryz.results60,go_sem,v0,v1,v2,Result.andThen];try rfl) rfl ?_;exact⟨_,A,c,ks,rfl,qak hse (by omega),hco.out.1,HLE.out,qak hoe (by omega),hbe⟩
   ·intro x tx kl y yb w' cnt' hkey hlk hv hat hrg' hlt hgr hsz' hen
    obtain⟨x',hx1,rfl,hxl⟩:=Maps.keyOf_str Tryz.underlying9 hkey;have hxx:x=x':=by
     have h1:S x=S x':=Value.string.inj hx1;exact qo1 h1
    subst hxx;have hat0:=hat;have hv0:=q6q hv;have HSW:=q6q hsz';clear hat hkey hv hsz';go_upto_region 5 with fail;have hsz':=HSW.out;have hfx:f x=some tx:=by
     have hy:y= .lit (.string tx):=by
      rw[show Value.agg #[Value.string (S tx)]=evV tx from rfl,q3h] at hv0;exact(congrArg Prod.fst (Option.some.inj hv0.out)).symm
     have h0:=HDm.out x;have h1:=h0.1;rw[hat0,hy] at h1;have h2:tx=(f x).getD []:=by
      injection h1 with h1;injection h1
     have h3:(f x).isSome=true:=by
      rw[←h0.2];exact Maps.has_true_of_atKey hat0
     obtain⟨z,hz⟩:=Option.isSome_iff_exists.1 h3;rw[hz] at h2 ⊢;rw[h2];rfl
    obtain⟨hxb,htb⟩:=HFb.out x tx hfx;have hkw:w'.heap[gi]? =some (.cells #[.slice A ks.length c,.string (S (47::wk)),.slice tva l.length tvc] 32 (0,0)):=(hgr.block gi (q6s hkr.out).1 (fun e=>by have:=Option.some.inj e;omega)).trans hkr.out;have hgw:=(q6s hkw).1;have hkw1:∀o,(w'.alloc o).heap[gi]? =some (.cells #[.slice A ks.length c,.string (S (47::wk)),.slice tva l.length tvc] 32 (0,0)):=fun o=>(Below.heap_alloc w' o gi hgw).trans hkw
    obtain⟨i0,i1,i2,i3,i4,i5⟩:=qbj (hkw1 (.cells #[.string (S tx)] tVal));rw[←hx1];clear hx1;have hcol:=q6q (hco.out.step hlk hat0);have hsw:=hsz';have hrow2:=q6q (((hrow.out.kept hgr (.inr (fun he=>row_ne_low hrow.out (b:=wc.heap.size) (by omega) he.symm))).alloc (.cells #[.string (S tx)] tVal)).alloc (.cells #[.string (S (x++61::tx))] tStr));have hrg2:=q6q ((hrg'.alloc (.cells #[.string (S tx)] tVal)).alloc (.cells #[.string (S (x++61::tx))] tStr))
    have hB2:=q6q (((hbr.out.grown hgr hbr.out.size (fun k hk=>by obtain rfl:=Option.some.inj hk;have:=HB.out.size;omega)).alloc (by rw[hsz'];exact hbr.out.size) (.cells #[.string (S tx)] tVal)).alloc (by rw[World.size_alloc,hsz'];have:=hbr.out.size;omega) (.cells #[.string (S (x++61::tx))] tStr));have hk22:=q6q ((hgr.block w.heap.size (q6s hk2r.out).1 (fun e=>by have:=Option.some.inj e;have:=HB.out.size;omega)).trans hk2r.out);have hor2:=q6q (((hor.out.kept hgr (.inr (fun he=>by have:=HRw.out _ he;omega))).alloc (.cells #[.string (S tx)] tVal)).alloc (.cells #[.string (S (x++61::tx))] tStr));have hszw:wc.heap.size+1≤w'.heap.size:=by omega
    have hkn:ks.length+1+cnt'≤N:=by omega
    have hsl:(strs (ks.map (envS f))).length=ks.length:=by rw[qcx,List.length_map]
    have HLT:=q6q hlt;clear hsz' hsw hlk hat0 hrg' hgr hen hlt
    go_wp2_with (at_builtin;refine wpList_append_own _ rfl _ _ 26 rfl (wc.heap.size+1) tStr ii (.string (S [])) 1 16 Tryz.underlying26 hi hz0 hz1 hz2 rfl (by decide) _ _ _ rfl hrow2.out ⟨w'.heap.size+1,0,none⟩ 1 1 [.string (S (x++61::tx))] rfl rfl (by have h:=cell_one_new (w'.alloc (.cells #[.string (S tx)] tVal)) (.string (S (x++61::tx))) tStr;rw[World.size_alloc] at h;exact h) (by simp[Value.oneCell']) (by unfold maxLen;omega) (by omega) (by simp;omega) ?_;intro v' w2 hown2 hgr2 _;obtain⟨av,cv,rfl⟩:=qad hown2;have HO2:=q6q hown2;have HG2:=q6q (show World.grownBy _ w2 (Value.ownBlock (.slice A ks.length c)) from hgr2);have hk3:=(HG2.out.block gi (by simp;omega) (row_ne_low hrow2.out (b:=gi) (by omega))).trans ((Below.heap_alloc _ _ gi (by simp;omega)).trans (hkw1 _));obtain⟨j0,j1,j2,f0,f1,f2⟩:=qbj hk3;have HK3:=q6q hk3;clear hown2 hgr2 hk3)
    have hgl:gi<w2.heap.size:=(q6s HK3.out).1;have hg2s:=HG2.out.size;simp only[World.size_alloc] at hg2s;have hl1:(ks++[x]).length=ks.length+1:=by simp
    have hst:strs ((ks++[x]).map (envS f))=strs (ks.map (envS f))++[.string (S (x++61::tx))]:=by
     rw[List.map_append,List.map_singleton,qtl];unfold envS;rw[hfx];rfl
    have hmg:mb≠gi:=by omega
    have hrg4:=q6q ((hrg2.out.kept HG2.out (row_ne_low hrow2.out (by omega)) (row_ne_low hrow2.out (by omega))).kept (q56 w2 gi (.slice av (ks.length+1) cv)) (fun e=>hmg (Option.some.inj e)) (fun e=>by have:=Option.some.inj e;omega));go_roundw
    case rel=>
     refine⟨_,cnt',ks++[x],av,cv,hrg4,hcol,by rw[hl1];omega,?_,?_,?_,?_,?_,?_⟩
     ·rw[hl1];exact heap_setCell_same w2 gi 0 _ _ _ HK3.out
     ·rw[hl1,hst];exact ownsRow_setCell_below HO2.out (a:=⟨gi,0,none⟩) (by show gi<wc.heap.size+1;omega) _
     ·exact(heap_setCell_other w2 ⟨gi,0,none⟩ _ _ hgiw).trans ((HG2.out.block w.heap.size (by simp;omega) (row_ne_low hrow2.out (by omega))).trans ((Below.heap_alloc _ _ _ (by simp;omega)).trans ((Below.heap_alloc _ _ _ (by omega)).trans hk22.out)))
     ·have hno:(Value.slice tva l.length tvc).ownBlock=none∨(Value.slice tva l.length tvc).ownBlock≠(Value.slice A ks.length c).ownBlock:=by
       cases hq:(Value.slice tva l.length tvc).ownBlock with
       |none=>exact .inl rfl
       |some k=>
        refine .inr (fun he=>?_);have h1:=qek hrow2.out k he.symm;have h2:=HRw.out k hq;omega
      exact(hor2.out.kept HG2.out hno).kept (q56 w2 gi _) (.inr (qrz (hor2.out) ((Below.heap_alloc _ _ gi (by simp;omega)).trans (hkw1 _)) (by decide)))
     ·exact(hB2.out.grown HG2.out (by simp;omega) (fun k hk=>by have:=qek hrow2.out k hk;omega)).setCell hgi _
     ·simp;omega
    case measure=>
     have h1:=hrg4.out.left_eq;have h2:=hrg.out.left_eq;rw[h1,h2];exact HLT.out
end Go.Proofs.YtikdblkfjchjbaaGreatDoor
