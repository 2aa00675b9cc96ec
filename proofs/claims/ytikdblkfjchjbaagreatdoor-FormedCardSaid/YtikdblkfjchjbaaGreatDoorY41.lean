import Derived.Maps.OwnIn
import Derived.Test.YtikdblkfjchjbaaGreatDoorY11
set_option linter.unusedVariables false
set_option linter.unusedSimpArgs false
set_option maxHeartbeats 16000000
set_option maxRecDepth 100000
namespace Go.Proofs.YtikdblkfjchjbaaGreatDoor
open Go Go.RowKit Go.Shelf
variable{w W W':World}{X:Nat→Prop}{a m:Pth→Nat}{v:Value}{bx t B N:Nat}{F:qag}
attribute [local go_sem] Oper.semAt_some
structure ListI(w:World)(pre:List Ent)(X:Nat→Prop)(W:World)(v:Value):Prop where
 box:W.cell? ⟨w.heap.size,0,none⟩=some v
 free:W.frozen? ⟨w.heap.size,0,none⟩=false
 own:OwnE W (w.heap.size+1) v pre
 not:∀q,v.ownBlock=some q→¬X q
 nbox:¬X w.heap.size
 lt:∀k,X k→k<W.heap.size
 below:Below w.heap.size w W
theorem qil{l:List Ent}(h:OwnE W B v l)(q:Nat)(hq:v.ownBlock=some q):q<W.heap.size∧B≤q:=by
 have:=h.lt q hq;exact⟨this.2,this.1⟩
theorem ListI.rely{pre:List Ent}(h:ListI w pre X W v)(hb:Below W.heap.size W W'):ListI w pre (qd1 X W W') W' v:=by
 have hlt:w.heap.size<W.heap.size:=q6r W _ h.box;refine⟨(hb.cell (p:=⟨w.heap.size,0,none⟩) hlt).trans h.box,?_,qac h.own hb,fun q hq hx=>?_,fun hx=>?_,fun k hk=>?_,h.below.trans (hb.mono (by omega))⟩
 ·have:=h.free;unfold World.frozen? at this ⊢;rw[hb.block w.heap.size hlt];exact this
 ·rcases hx with hx|hx
  ·exact h.not q hq hx
  ·have:=(qil h.own q hq).1;omega
 ·rcases hx with hx|hx
  ·exact h.nbox hx
  ·omega
 ·rcases hk with hk|hk
  ·exact Nat.lt_of_lt_of_le (h.lt k hk) hb.size
  ·exact hk.2
theorem ListI.put{pre:List Ent}(h:ListI w pre X W v)(k:Nat)(o:Obj)(hk:X k)(hle:w.heap.size≤k):ListI w pre X (W.putObj k o) v:=by
 have hne:w.heap.size≠k:=fun e=>h.nbox (e▸hk)
 refine⟨qap h.box (World.putObj_heap_other hne),?_,h.own.kept (grownBy_putObj' W k o) (.inr fun e=>h.not k e hk),h.not,h.nbox,fun q hq=>by simpa using h.lt q hq,Below.putObj' h.below hle _⟩;have:=h.free;unfold World.frozen? at this ⊢;rw[World.putObj_heap_other hne];exact this
theorem ListI.alloc{pre:List Ent}(h:ListI w pre X W v)(o:Obj):ListI w pre X (W.alloc o) v:=by
 have hr:=h.rely ((Below.refl W.heap.size W).alloc (Nat.le_refl _) o);exact⟨hr.box,hr.free,hr.own,h.not,h.nbox,fun k hk=>by have:=h.lt k hk;simp;omega,hr.below⟩
theorem q2q(hT:TreeAt w B N a m F)(hF:FineF F)(hN:N≤4294967290)(hS:Std w)(t:Nat)(hV:TreeV w t a)(L:List Ent)(hL:WalkL F [] L)(hl:L.length≤2000000000)(x:Nd)(hx:F []=some x):
 Calls Tryz.prog 40 #[.pointer (some ⟨t,0,none⟩)] w fun e w'=>∃v,e= .returned v∧OwnE w' w.heap.size v L∧Below w.heap.size w w':=by
 refine(callsIn_wide (n:=8)).1 ?_;refine callsIn_of_wp_marks Tryz.func40 rfl trivial ?_ rfl;simp only[Tryz.ntmps40,List.size_toArray,List.length_cons,List.length_nil,Nat.reduceAdd,Nat.reduceSub,Array.replicate_succ,Array.replicate_zero,List.push_toArray,List.append_toArray,List.nil_append,List.cons_append];have HWk:Hid (∀w,CallsIn Fence.wide (8 - 1) Tryz.prog 73 #[.pointer (some ⟨t,0,none⟩),.string (S [])] w _):=q6q (fun w=>callsIn_wide.2 (qkh t [] w));gi_wp2_with ((first|refine⟨trivial,fun h=>(by cases h),?_⟩|refine⟨trivial,?_⟩|refine⟨fun h=>(by cases h),?_⟩|skip);gi_at_call 73;refine(HWk.out _).mono ?_;rintro e w1 ⟨rfl,hb1,hs1,d1,d2⟩)
 have hbx:w1.heap[w.heap.size]? =some (Obj.cells #[.slice none 0 0] 30):=(hb1.block _ (by simp)).trans (Go.heap_alloc_new w _);have hbw:Below w.heap.size w w1:=((Below.refl _ w).alloc (Nat.le_refl _) _).trans (hb1.mono (by simp));simp only[World.size_alloc] at hs1 d1 d2;have hX0:qtd (fun k=>k<w1.heap.size∧k≠w.heap.size) a m F:=fun p y hy=>by
  obtain⟨h1,h2⟩:=hT.lt p y hy;exact⟨⟨by omega,by omega⟩,fun hk=>⟨by have:=h2 hk;omega,by have:=h2 hk;omega⟩⟩
 have hXS:StdX (fun k=>k<w1.heap.size∧k≠w.heap.size):=by
  obtain⟨_,hm⟩:=hS.maxlen;have:=q6r w _ hm;exact⟨by simp at this;omega,by simp at this;omega⟩
 have htl:t<w.heap.size:=q6r w _ hV;have hb1w:Below w.heap.size w w1:=hbw;refine qdr (xs:=L) (encs:=encE) (X0:=fun k=>k<w1.heap.size∧k≠w.heap.size) rfl (by omega) (gf:=111) (lb:=#[.pointer (some ⟨w.heap.size+1,0,none⟩),.pointer (some ⟨w.heap.size+1+1,0,none⟩)]) rfl trivial (enters_of Tryz.func111 (by kernel_rfl) rfl)
  (qkv (hT.below hbw) hF hN (hS.below hbw) t (hV.below hbw) _ hX0 hXS ⟨by omega,by omega⟩ (w.heap.size+1) (w.heap.size+1+1) ⟨by omega,by omega⟩ ⟨by omega,by omega⟩ d1 d2 L hL x hx _) (fun _=>rfl)
  (fun pre X W=>∃v,ListI w pre X W v)
  (fun pre X W ⟨v,h⟩=>h.lt) (fun pre X W W' ⟨v,h⟩ hb=>⟨v,h.rely hb⟩) (fun pre X W k o' ⟨v,h⟩ hk hle=>⟨v,h.put k o' hk (by omega)⟩) ?start
  (fun e a' X W=>∃g,a'={tmps:=#[.pointer (some ⟨t,0,none⟩),undef,.pointer (some ⟨w.heap.size,0,none⟩),undef,.pointer (some ⟨g,0,none⟩),.pointer (some ⟨t,0,none⟩),q1b (w.heap.size+1) (w.heap.size+1+1),.string (S e.path),e.agg,undef,undef,undef,undef,undef],defers:=[]}∧Cell4 W g e∧¬X g)
  ?ax ?assign ?body ?done
 case start=>exact⟨_,⟨by rw[cell_of_row w1 _ _ _ _ _ hbx];rfl,Lib.frozen_of_heap hbx 0,World.ownsRow_nil _ _ _ _,fun q hq=>(by cases hq),fun h=>h.2 rfl,fun k h=>h.1,hbw⟩⟩
 case ax=>
  rintro e a' X W k o' ⟨g,ha,⟨q0,q1,q2,q3⟩,hg⟩ hk _;have hne:g≠k:=fun e=>hg (e▸hk)
  exact⟨g,ha,⟨qap q0 (World.putObj_heap_other hne),qap q1 (World.putObj_heap_other hne),qap q2 (World.putObj_heap_other hne),qap q3 (World.putObj_heap_other hne)⟩,hg⟩
 case assign=>
  rintro l pre y X W K ⟨v,hi⟩ hK;have HJ:=q6q hi;have HKK:=q6q hK;clear hi hK;obtain⟨p,kd,md,dt⟩:=y;simp only[encE,Ent.agg];gi_wp2
  refine HKK.out _ _ ⟨by simp,fun k hk=>Below.heap_alloc W _ k (HJ.out.lt k hk)⟩ ⟨v,HJ.out.alloc _⟩ ⟨W.heap.size,rfl,Cell4.new W ⟨p,kd,md,dt⟩ 47,fun h=>?_⟩;have:=HJ.out.lt _ h;omega
 case body=>
  rintro l pre y rest a' X W hxs ⟨v,hi⟩ ⟨g,rfl,hc4,hg⟩;obtain⟨i0,hi0,hz0,hz1,hz2⟩:=info_parts (show(Tryz.prog.info? 47).map (fun i=>(i.zero,i.size,i.bytes))=some (some entZ,4,48) by kernel_rfl);have hlen:pre.length+1≤2000000000:=by rw[hxs] at hl;simp at hl;omega
  obtain⟨q0,q1,q2,q3⟩:=hc4;have hbx:=hi.box;have hfz:=hi.free;have HJ:=q6q hi;have HO:=q6q (show OwnE W (w.heap.size+1) v pre from hi.own);have hsz:=q6r W _ hbx;have hsz':w.heap.size<W.heap.size:=hsz;obtain⟨av,cv,rfl⟩:=qad HO.out;clear hi
  gi_wp2_with (gi_at_builtin;refine wpListIn_append_own_at _ rfl _ _ 30 rfl (w.heap.size+1) 47 i0 entZ 4 48 Tryz.underlying30 hi0 hz0 hz1 hz2 rfl (by decide) _ _ _ rfl (HO.out.alloc _) ⟨_,0,none⟩ 1 1 [.string (S y.path),.int .i64 y.kind,.int .i64 y.mode,.string (S y.data)] rfl rfl (qji _ _ _ _ _ _ _ (by simp)) (by simp[Value.oneCell']) (by unfold maxLen;omega) (by omega) (by simp;omega) ?_;intro v' w5 hown5 hgr5 _ hob;have hb5:w5.heap[w.heap.size]? =W.heap[w.heap.size]?:=(hgr5.block _ (by simp;omega) (fun e=>by have:=(qil HO.out _ e.symm).2;omega)).trans (Below.heap_alloc W _ _ hsz');have c5:=qap hbx hb5;have f5:w5.frozen? ⟨w.heap.size,0,none⟩=false:=(by unfold World.frozen? at hfz ⊢;rw[hb5];exact hfz);have HO5:=q6q (qof hown5);have HG5:=q6q hgr5;have HOB:=q6q hob;obtain⟨ao,c',rfl⟩:=qad hown5;clear hown5 hgr5 hob)
  have hs5:=HG5.out.size;simp only[World.size_alloc] at hs5;have hsame:∀k,k<W.heap.size→k≠w.heap.size→(Value.slice av pre.length cv).ownBlock≠some k→(w5.setCell ⟨w.heap.size,0,none⟩ (Value.slice ao (pre.length+1) c')).heap[k]? =W.heap[k]?:=fun k hk h1 h2=>
   (Below.heap_setCell w5 _ _ k h1).trans ((HG5.out.block k (by simp;omega) (fun e=>h2 e.symm)).trans (Below.heap_alloc W _ k hk))
  refine⟨⟨by simp;omega,fun k hk=>hsame k (HJ.out.lt k hk) (fun e=>HJ.out.nbox (e▸hk)) (fun e=>HJ.out.not k e hk)⟩,Value.slice ao (pre.length+1) c',?_,?_,?_,fun q hq hx=>?_,HJ.out.nbox,fun k hk=>?_,?_⟩
  ·exact World.cell?_setCell_same' w5 ⟨w.heap.size,0,none⟩ _ (by rw[c5];rfl)
  ·rw[World.frozen?_setCell];exact f5
  ·have h:=ownsRow_setCell_below HO5.out (a:=⟨w.heap.size,0,none⟩) (Nat.lt_succ_self _) (Value.slice ao (pre.length+1) c')
   exact h
  ·rcases HOB.out with e|e
   ·exact HJ.out.not q (e.symm.trans hq) hx
   ·have e2:=e.symm.trans hq
    have:=Option.some.inj e2;have:=HJ.out.lt q hx;simp only[World.size_alloc] at*;omega
  ·have:=HJ.out.lt k hk;simp;omega
  ·refine((HJ.out.below.alloc (by have:=HJ.out.below.size;omega) _).grown HG5.out (by simp;omega) (fun k hk=>?_)).setCell (p:=⟨w.heap.size,0,none⟩) (Nat.le_refl _) _
   have:=(qil HO.out k hk).2;omega
 case done=>
  rintro D X W hD hXD ⟨v,hi⟩ hK;obtain⟨av,cv,hv⟩:=qad hi.own;subst hv;have hbx:=hi.box;have hfz:=hi.free;have HJ:=q6q hi;clear hi;gi_wp2
  have hK2:=(KeepsOthers.setCell W ⟨w.heap.size,0,none⟩ (Value.slice av L.length cv)).same D _ hK rfl;refine⟨by simp,.inl ⟨_,_,rfl,run_takeDeferred hK2,?_⟩⟩;have hneD:w.heap.size≠D:=fun e=>HJ.out.nbox (e▸hXD)
  have hce:((W.setCell ⟨w.heap.size,0,none⟩ (Value.slice av L.length cv)).putObj D (.deferred none)).cell? ⟨w.heap.size,0,none⟩=some (Value.slice av L.length cv):=
   qap (World.cell?_setCell_same' W ⟨w.heap.size,0,none⟩ (Value.slice av L.length cv) (by rw[hbx];rfl)) (World.putObj_heap_other hneD)
  refine⟨_,(show(results Tryz.f40 _).run Tryz.prog _= .ok (Value.slice av L.length cv) _ from ?_),_,rfl,?_,Below.putObj' (HJ.out.below.setCell (p:=⟨w.heap.size,0,none⟩) (Nat.le_refl _) _) (by omega) _⟩
  ·simp[results,Tryz.f40,go_sem,hce]
  ·exact qak (ownsRow_putObj (ownsRow_setCell_below HJ.out.own (a:=⟨w.heap.size,0,none⟩) (Nat.lt_succ_self _) _) _ hK2 rfl) (Nat.le_succ _)
attribute [local go_sem] Oper.semAt_some
structure CopyI(w:World)(bx:Nat)(pre:List Ent)(X:Nat→Prop)(W:World)(t:Nat)(a m:Pth→Nat):Prop where
 box:W.cell? ⟨bx,0,none⟩=some (.pointer (some ⟨t,0,none⟩))
 tree:TreeAt W w.heap.size pre.length a m (qav pre)
 var:TreeV W t a
 off:∀p y,qav pre p=some y→¬X (a p)∧(y.kind=1→¬X (m p))
 nbox:¬X bx
 nt:¬X t
 lt:∀k,X k→k<W.heap.size
 below:Below w.heap.size w W
 std:Std w
theorem CopyI.rely{pre:List Ent}(h:CopyI w bx pre X W t a m)(hb:Below W.heap.size W W'):CopyI w bx pre (qd1 X W W') W' t a m:=by
 have h1:bx<W.heap.size:=q6r W _ h.box;have h2:t<W.heap.size:=q6r W _ h.var;have old:∀k,k<W.heap.size→¬X k→¬qd1 X W W' k:=fun k hk hn hx=>hx.elim hn (fun hx=>by omega)
 refine⟨(hb.cell (p:=⟨bx,0,none⟩) h1).trans h.box,h.tree.below hb,h.var.below hb,fun p y hy=>⟨old _ (h.tree.lt p y hy).1 (h.off p y hy).1,fun hk=>old _ ((h.tree.lt p y hy).2 hk) ((h.off p y hy).2 hk)⟩,old _ h1 h.nbox,old _ h2 h.nt,fun k hk=>hk.elim (fun hk=>Nat.lt_of_lt_of_le (h.lt k hk) hb.size) (fun hk=>hk.2),h.below.trans (hb.mono h.below.size),h.std⟩
theorem CopyI.put{pre:List Ent}(h:CopyI w bx pre X W t a m)(k:Nat)(o:Obj)(hk:X k)(hle:w.heap.size≤k):CopyI w bx pre X (W.putObj k o) t a m:=by
 have n1:bx≠k:=fun e=>h.nbox (e▸hk)
 have n2:t≠k:=fun e=>h.nt (e▸hk)
 refine⟨qap h.box (World.putObj_heap_other n1),h.tree.stayX (X:=fun q=>q≠k) (fun p y hy=>⟨fun e=>(h.off p y hy).1 (e▸hk),fun h1 e=>(h.off p y hy).2 h1 (e▸hk)⟩) (fun q hq=>World.putObj_heap_other hq),qap h.var (World.putObj_heap_other n2),h.off,h.nbox,h.nt,fun q hq=>by simpa using h.lt q hq,Below.putObj' h.below hle _,h.std⟩
theorem CopyI.alloc{pre:List Ent}(h:CopyI w bx pre X W t a m)(o:Obj):CopyI w bx pre X (W.alloc o) t a m:=by
 have hr:=h.rely ((Below.refl W.heap.size W).alloc (Nat.le_refl _) o);exact⟨hr.box,hr.tree,hr.var,h.off,h.nbox,h.nt,fun k hk=>by have:=h.lt k hk;simp;omega,hr.below,h.std⟩
theorem qp0{p q:Pth}{x z:Nd}(h:putF F p x q=some z)(hne:q≠p):F q=some z:=by
 unfold putF at h;rw[if_neg hne] at h;split at h
 ·split at h
  ·exact h
  ·cases h
 ·exact h
theorem qy6(F:qag)(p:Pth)(x:Nd):putF F p x p=some x:=by unfold putF;rw[if_pos rfl]
theorem CopyI.step{pre:List Ent}{w':World}(h:CopyI w bx pre X W t a m){y:Ent}{e:Ending}(hd:qaw (qav pre) (qaa y.path).dropLast=true)
 (hp:PutFull w.heap.size pre.length a m (qav pre) t y W e w'):(∃b,e= .returned b)∧StaysX X W w'∧∃a' m',CopyI w bx (pre++[y]) X w' t a' m':=by
 rcases hp with⟨h1,_⟩|⟨_,rfl,a',m',h3,h4,h5,h6,h7,h8,h9⟩
 ·rw[hd] at h1;cases h1
 have hT:qav (pre++[y])=putF (qav pre) (qaa y.path) (ndOf y):=qlm _ _ _;refine⟨⟨_,rfl⟩,⟨h5.size,fun k hk=>h7 k (h.lt k hk) (fun q hq e=>?_)⟩,a',m',⟨h6 _ _ h.box,by rw[hT,List.length_append];exact h3,h4,fun q z hz=>⟨fun hx=>?_,fun hk hx=>?_⟩,h.nbox,h.nt,fun k hk=>Nat.lt_of_lt_of_le (h.lt k hk) h5.size,h.below.trans h5,h.std⟩⟩
 ·obtain⟨z,hz,hzk⟩:=qaj.1 hq
  exact(h.off q z hz).2 hzk (e▸hk)
 ·rw[hT] at hz
  rcases h8 q with⟨e1,e2⟩|e1
  ·rw[e1] at hx;exact(h.off q z (qp0 hz e2)).1 hx
  ·have:=h.lt _ hx;omega
 ·rw[hT] at hz
  rcases h9 q with⟨e1,e2⟩|e1
  ·rw[e1] at hx
   by_cases hq:q=qaa y.path
   ·subst hq
    rw[qy6] at hz;have hz':=Option.some.inj hz;obtain⟨z2,hz2,hk2⟩:=qaj.1 (e2 (by rw[←hz'] at hk;exact hk) rfl);exact(h.off _ z2 hz2).2 hk2 hx
   ·exact(h.off q z (qp0 hz hq)).2 hk hx
  ·have:=h.lt _ hx;omega
attribute [local go_sem] Oper.semAt_some
theorem q3t(hT:TreeAt w B N a m F)(hF:FineF F)(hN:N≤4294967290)(hS:Std w)(t:Nat)(hV:TreeV w t a)(L:List Ent)(hL:WalkL F [] L)(hl:L.length≤2000000000)(x:Nd)(hx:F []=some x)
 (hup:∀pre y rest,L=pre++y::rest→qa5 y.path=true∧y.path≠[]∧qaw (qav pre) (qaa y.path).dropLast=true):
 Calls Tryz.prog 68 #[.pointer (some ⟨t,0,none⟩)] w fun e w'=>∃t' a' m',e= .returned (.pointer (some ⟨t',0,none⟩))∧TreeAt w' w.heap.size L.length a' m' (qav L)∧TreeV w' t' a'∧w.heap.size≤t'∧Below w.heap.size w w':=by
 refine(callsIn_wide (n:=8)).1 ?_;refine callsIn_of_wp_marks Tryz.func68 rfl trivial ?_ rfl;simp only[Tryz.ntmps68,List.size_toArray,List.length_cons,List.length_nil,Nat.reduceAdd,Nat.reduceSub,Array.replicate_succ,Array.replicate_zero,List.push_toArray,List.append_toArray,List.nil_append,List.cons_append];have HEm:Hid (∀w,CallsIn Fence.wide (8 - 1) Tryz.prog 61 #[] w _):=q6q (fun w=>callsIn_wide.2 (qlx w));have HWk:Hid (∀w,CallsIn Fence.wide (8 - 1) Tryz.prog 73 #[.pointer (some ⟨t,0,none⟩),.string (S [])] w _):=q6q (fun w=>callsIn_wide.2 (qkh t [] w));gi_wp2_with (first
  |((first|refine⟨trivial,fun h=>(by cases h),?_⟩|refine⟨trivial,?_⟩|refine⟨fun h=>(by cases h),?_⟩|skip);gi_at_call 61;refine(HEm.out _).mono ?_;clear HEm;rintro e w0 ⟨t0,a0,m0,rfl,hT0,hV0,hb0,hnt0⟩)
  |((first|refine⟨trivial,fun h=>(by cases h),?_⟩|refine⟨trivial,?_⟩|refine⟨fun h=>(by cases h),?_⟩|skip);gi_at_call 73;refine(HWk.out _).mono ?_;rintro e w1 ⟨rfl,hb1,hs1,d1,d2⟩))
 have hbx:w1.heap[w0.heap.size]? =some (Obj.cells #[.pointer (some ⟨t0,0,none⟩)] 86):=(hb1.block _ (by simp)).trans (Go.heap_alloc_new w0 _);have hb01:Below w0.heap.size w0 w1:=((Below.refl _ w0).alloc (Nat.le_refl _) _).trans (hb1.mono (by simp));have hbw:Below w.heap.size w w1:=hb0.trans (hb01.mono hb0.size);simp only[World.size_alloc] at hs1 d1 d2;have hsz0:=hb0.size;have hX0:qtd (fun k=>k<w.heap.size∨(w0.heap.size<k∧k<w1.heap.size)) a m F:=fun p y hy=>⟨.inl (hT.lt p y hy).1,fun hk=> .inl ((hT.lt p y hy).2 hk)⟩
 have hXS:StdX (fun k=>k<w.heap.size∨(w0.heap.size<k∧k<w1.heap.size)):=by
  obtain⟨_,hm⟩:=hS.maxlen;exact .inl (q6r w _ hm)
 have htl:t<w.heap.size:=q6r w _ hV;have hv0:t0<w0.heap.size:=q6r w0 _ hV0;refine qdr (xs:=L) (encs:=encE) (X0:=fun k=>k<w.heap.size∨(w0.heap.size<k∧k<w1.heap.size)) rfl (by omega) (gf:=111) (lb:=#[.pointer (some ⟨w0.heap.size+1,0,none⟩),.pointer (some ⟨w0.heap.size+1+1,0,none⟩)]) rfl trivial (enters_of Tryz.func111 (by kernel_rfl) rfl)
  (qkv (hT.below hbw) hF hN (hS.below hbw) t (hV.below hbw) _ hX0 hXS (.inl htl) (w0.heap.size+1) (w0.heap.size+1+1) (.inr ⟨by omega,by omega⟩) (.inr ⟨by omega,by omega⟩) d1 d2 L hL x hx _) (fun _=>rfl)
  (fun pre X W=>∃t' a' m',w.heap.size≤t'∧CopyI w w0.heap.size pre X W t' a' m')
  (fun pre X W ⟨_,_,_,_,h⟩=>h.lt) (fun pre X W W' ⟨t',a',m',hl,h⟩ hb=>⟨t',a',m',hl,h.rely hb⟩) (fun pre X W k o' ⟨t',a',m',hl,h⟩ hk hle=>⟨t',a',m',hl,h.put k o' hk (by have:=hbw.size;omega)⟩) ?start
  (fun e a' X W=>∃g,a'={tmps:=#[.pointer (some ⟨t,0,none⟩),undef,.pointer none,.pointer (some ⟨w0.heap.size,0,none⟩),undef,.pointer (some ⟨g,0,none⟩),.pointer (some ⟨t0,0,none⟩),.pointer (some ⟨t,0,none⟩),q1b (w0.heap.size+1) (w0.heap.size+1+1),.string (S e.path),e.agg,undef,undef,undef,undef],defers:=[]}∧Cell4 W g e∧¬X g)
  ?ax ?assign ?body ?done
 case start=>
  have hT1:=hT0.below hb01;refine⟨t0,a0,m0,by omega,⟨by rw[cell_of_row w1 _ _ _ _ _ hbx];rfl,hT1,hV0.below hb01,fun p y hy=>?_,?_,?_,fun k hk=>?_,hbw,hS⟩⟩
  ·have h1:=hT0.lt p y hy
   have h2:=hT0.base p y hy;refine⟨fun h=>?_,fun hk h=>?_⟩
   ·rcases h with h|h <;> omega
   ·have:=h1.2 hk;have:=h2.2 hk;rcases h with h|h <;> omega
  ·intro h;rcases h with h|h <;> omega
  ·intro h
   have h1:=hnt0;rcases h with h|h <;> omega
  ·rcases hk with h|h <;> omega
 case ax=>
  rintro e a' X W k o' ⟨g,ha,⟨q0,q1,q2,q3⟩,hg⟩ hk _;have hne:g≠k:=fun e=>hg (e▸hk)
  exact⟨g,ha,⟨qap q0 (World.putObj_heap_other hne),qap q1 (World.putObj_heap_other hne),qap q2 (World.putObj_heap_other hne),qap q3 (World.putObj_heap_other hne)⟩,hg⟩
 case assign=>
  rintro l pre y X W K ⟨t',a',m',hlo,hi⟩ hK;have HJ:=q6q hi;have HKK:=q6q hK;clear hi hK;obtain⟨p,kd,md,dt⟩:=y;simp only[encE,Ent.agg];gi_wp2
  refine HKK.out _ _ ⟨by simp,fun k hk=>Below.heap_alloc W _ k (HJ.out.lt k hk)⟩ ⟨t',a',m',hlo,HJ.out.alloc _⟩ ⟨W.heap.size,rfl,Cell4.new W ⟨p,kd,md,dt⟩ 47,fun h=>?_⟩;have:=HJ.out.lt _ h;omega
 case body=>
  rintro l pre y rest a' X W hxs ⟨t',a',m',hlo,hi⟩ ⟨g,rfl,hc4,hg⟩;obtain⟨hp1,hp2,hp3⟩:=hup pre y rest hxs;have hlen:pre.length+1≤2000000000:=by rw[hxs] at hl;simp at hl;omega
  obtain⟨q0,q1,q2,q3⟩:=hc4;have hbx:=hi.box;have HJ:=q6q hi;have HPut:Hid (CallsIn Fence.wide (8 - 1 - 1 - 1) Tryz.prog 65 #[.pointer (some ⟨t',0,none⟩),y.agg] W _):=q6q (callsIn_wide.2 (qr9 hi.tree t' hi.var y hp1 hp2 (by omega) hi.below.size (hS.below hi.below)));have HUp:=q6q hp3;clear hi hp1 hp2 hp3;gi_wp2_with ((first|refine⟨trivial,fun h=>(by cases h),?_⟩|refine⟨trivial,?_⟩|refine⟨fun h=>(by cases h),?_⟩|skip);gi_at_call 65;refine(CallsIn.inRound l HPut.out).mono ?_;rintro e w5 hpf;obtain⟨⟨bb,rfl⟩,hst,hnx⟩:=HJ.out.step HUp.out hpf)
  obtain⟨a'',m'',hnx⟩:=hnx;exact⟨hst,_,a'',m'',hlo,hnx⟩
 case done=>
  rintro D X W hD hXD ⟨t',a',m',hlo,hi⟩ hK;have hbx:=hi.box;have HJ:=q6q hi;clear hi;gi_wp2
  refine⟨by simp,.inl ⟨_,_,rfl,run_takeDeferred hK,?_⟩⟩;have hc:=HJ.out.put D (.deferred none) hXD (by have:=hbw.size;omega);exact⟨_,results_tmp rfl _ _ _,t',a',m',rfl,hc.tree,hc.var,hlo,hc.below⟩
end Go.Proofs.YtikdblkfjchjbaaGreatDoor
