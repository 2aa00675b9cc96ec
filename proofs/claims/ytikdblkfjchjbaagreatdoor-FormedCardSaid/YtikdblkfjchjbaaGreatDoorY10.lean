import Derived.Sort.OwnSorted
import Derived.Sort.KeysCollected
import Derived.Test.YtikdblkfjchjbaaGreatDoorY08
import Derived.Test.YtikdblkfjchjbaaGreatDoorY09
set_option linter.unusedVariables false
set_option linter.unusedSimpArgs false
set_option maxHeartbeats 16000000
set_option maxRecDepth 100000
namespace Go.Proofs.YtikdblkfjchjbaaGreatDoor
open Go.RowKit
open Go.Sort (SWO)
variable{w w':World}{v:Value}{B lb N n:Nat}{l:List Ent}{a m:Pth→Nat}{F:qag}{b:List (List UInt8)}{f:List UInt8→Option Nat}
theorem qe9(x y:List UInt8):Go.Proofs.ltOf cmpS x y=decide (x<y):=by
 unfold Go.Proofs.ltOf cmpS;by_cases h1:x<y
 ·simp[h1]
 ·by_cases h2:y<x <;> simp[h1,h2]
theorem q1o:SWO (Go.Proofs.ltOf cmpS) where
 irrefl x:=by rw[qe9];simp[List.lt_irrefl]
 trans x y z h1 h2:=by
  rw[qe9] at*;simp only[decide_eq_true_eq] at*;exact List.lt_trans h1 h2
 ntrans x y z h1 h2:=by
  rw[qe9] at*;simp only[decide_eq_false_iff_not,List.not_lt] at*;exact List.le_trans h2 h1
theorem quy:∀x y:List UInt8,Go.Proofs.ltOf cmpS x y=false→Go.Proofs.ltOf cmpS y x=false→x=y:=by
 intro x y h1 h2;rw[qe9] at*;simp only[decide_eq_false_iff_not,List.not_lt] at*
 exact List.le_antisymm h2 h1
def Rise:List (List UInt8)→Prop:=List.Pairwise (· < ·)
def srt(l:List (List UInt8)):List (List UInt8):=l.mergeSort fun x y=>!(Go.Proofs.ltOf cmpS) y x
theorem qrs(l:List (List UInt8))(x:List UInt8):x∈srt l↔x∈l:=(List.mergeSort_perm _ _).mem_iff
theorem qn2(l:List (List UInt8)):(srt l).length=l.length:=(List.mergeSort_perm _ _).length_eq
theorem qto{l:List (List UInt8)}(h:l.Nodup):Rise (srt l):=by
 have h1:(srt l).Pairwise (fun x y=>(!(Go.Proofs.ltOf cmpS) y x)=true):=List.pairwise_mergeSort (fun a b c hab hbc=>by
  simp only[qe9,Bool.not_eq_true',decide_eq_false_iff_not,List.not_lt] at*;exact List.le_trans hab hbc) (fun a b=>by
  simp only[qe9,Bool.or_eq_true,Bool.not_eq_true',decide_eq_false_iff_not,List.not_lt];exact List.le_total a b) l
 have h2:(srt l).Nodup:=(List.mergeSort_perm _ _).nodup_iff.2 h;refine(h1.and h2).imp fun {x y} ⟨ha,hb⟩=>?_
 simp only[qe9,Bool.not_eq_true',decide_eq_false_iff_not,List.not_lt] at ha;by_cases hlt:x<y
 ·exact hlt
 ·exact absurd (List.le_antisymm ha (List.not_lt.1 hlt)) hb
theorem qyo(g cap:Nat)(ss:List (List UInt8))(base:Nat)(w:World)(hown:w.ownsRow base tStr 1 (.slice (some ⟨g,0,none⟩) ss.length cap) ss.length (strs ss))(hn:ss.length≤4294967290):
 Calls Tryz.prog 140 #[.slice (some ⟨g,0,none⟩) ss.length cap,.func (.func 139) #[] #[]] w fun e w'=>
  e= .returned (.tuple #[])∧w'.ownsRow base tStr 1 (.slice (some ⟨g,0,none⟩) ss.length cap) ss.length (strs (srt ss))∧w.grownBy w' (some g):=by
 obtain⟨h1,h2⟩:=hown;rcases h2 with⟨h2,_⟩|⟨g',cap',cur,hv,hg,hb,hc1,hc2,hc3,ht⟩
 ·cases h2
 ·injection hv with hv1 hv2 hv3
  have hgg:g=g':=by injection hv1 with hv1;injection hv1
  subst hgg;subst hv3;have ht2:cur.toList.take ss.length=ss.map Go.Proofs.encStr:=by rw[Nat.mul_one] at ht;exact ht
  have hH:=holds_of_block hb ht2;have eg:∀args w,(callFunc 139 args).run Tryz.prog w= .ok (.enter 139 args) w:=enters_of Tryz.func139 (by kernel_rfl) rfl;have hcmp:Go.Proofs.CmpReads Tryz.prog 139 #[] Go.Proofs.encStr cmpS g 0 ss.toArray.size w:=fun m os dk _ x y=>
   (quc x y _).mono fun e w' ⟨he,hw⟩=>⟨he,0,hw⟩
  have hcon:=Go.Proofs.Any.slices_SortFunc_total Tryz.sortS Go.Proofs.encStr (fun _=>rfl) cmpS q1o 139 #[] g 0 cap ss.toArray w eg hcmp.lays hH (q6s hb).1 (by simp;omega) quy;refine Calls.mono (show Calls Tryz.prog 140 #[.slice (some ⟨g,0,none⟩) ss.length cap,.func (.func 139) #[] #[]] w _ from hcon) ?_;rintro e w' ⟨rfl,n,os,rfl⟩;refine⟨rfl,?_,grownBy_sorted _⟩;exact ownsRow_sorted (ts:=srt ss) (qn2 ss) hg hb hc1 hc2 hc3
def qo2(F:qag)(p:Pth)(W:World)(e:Ending)(w':World):Prop:=
 ∃ns A cap,e= .returned (.slice A ns.length cap)∧Rd w' A (strs ns)∧Rise ns∧(∀x,x∈ns↔(F (p++[x])).isSome=true)∧(∀x∈ns,x.length≤maxLen)∧Below W.heap.size W w'∧(0<ns.length→∃b o,A=some ⟨b,o,none⟩∧W.heap.size≤b)∧ns.length≤4294967290
def q5v(w:World)(n b N:Nat)(f:List UInt8→Option Nat):Prop:=w.cell? ⟨n,4,none⟩=some (.map (some b))∧MapIs w b N f
def q33(N:Nat)(f:List UInt8→Option Nat)(W:World)(e:Ending)(w':World):Prop:=
 ∃ns A cap,e= .returned (.slice A ns.length cap)∧w'.ownsRow W.heap.size tStr 1 (.slice A ns.length cap) ns.length (strs ns)∧Rise ns∧(∀x,x∈ns↔(f x).isSome=true)∧(∀x∈ns,x.length≤maxLen)∧Below W.heap.size W w'∧ns.length≤N
theorem qtl(l:List (List UInt8))(x:List UInt8):strs (l++[x])=strs l++[.string (S x)]:=by simp[strs]
theorem qzm{b:Nat}(hDir:q5v w n b N f)(hN:N≤4294967290):
 Calls Tryz.prog 107 #[.pointer (some ⟨n,0,none⟩)] w (q33 N f w):=by
 obtain⟨i0,hi,hz0,hz1,hz2⟩:=info_parts (show(Tryz.prog.info? tStr).map (fun i=>(i.zero,i.size,i.bytes))=some (some (.string (S [])),1,16) by kernel_rfl);obtain⟨c4,D,hown,hIs,hD⟩:=hDir;have HD:=q6q hD;have HO:=q6q hown;have hsz:Maps.size D≤N:=by
  obtain⟨es,clock,_,_,hs,rfl⟩:=hown;rw[Maps.size_eq,length_sorted];simpa using hs
 have hmlt:=hown.lt;clear hD hIs hown;go_enter Tryz.func107,Tryz.ntmps107;go_wp2_with (at_range;refine wpList_range_own _ rfl _ tMap rfl tStr tPtr strK Tryz.underlying164 qp8 _ N D rfl HO.out ?_;intro w0 hrg0 hg0 hs0)
 go_frame;have HG0:=q6q hrg0;have HB0:=q6q ((Below.refl w.heap.size w).grown hg0 (Nat.le_refl _) (fun k hk=>by cases hk));have HS0:=q6q hs0;clear hrg0 hg0 hs0;go_loopw [3] (fun v wr=>∃(left:Lit→Bool) (cnt:Nat) (ss:List (List UInt8)),Hid (wr.ranges Tryz.prog tStr qp8 b w.heap.size N D left cnt)∧Hid (Collected D left ss)∧Hid (wr.ownsRow (w.heap.size+1) tStr 1 v ss.length (strs ss))∧Hid (ss.length+cnt≤N)∧Hid (∀x∈ss,x.length≤maxLen)∧Hid (Below w.heap.size w wr)) (fun _ wr=>wr.rangeLeft b w.heap.size)
 case atStart=>exact⟨_,_,[],HG0.out,Collected.start D,World.ownsRow_nil _ _ _ _,by rw[Hid,List.length_nil];omega,by rw[Hid];simp,HB0.out⟩
 case round=>
  obtain⟨left,cnt,ss,hrg,hco,hrow,hle,hlen,hB⟩:=hrel;obtain⟨ao,c,rfl⟩:=qad hrow.out;have hle2:=hle.out;have hbs:=hB.out.size;have hrlt:=hrg.out.lt;clear hsz;go_wp2_with (at_next;refine wpList_next_ranges _ rfl _ rfl tStr strK qp8 (fun s:List UInt8=>Value.string (S s)) qv1 (fun key kl hkey=>by obtain⟨x,h1,_⟩:=Maps.keyOf_str Tryz.underlying9 hkey;exact⟨x,h1⟩) (fun v y hv=>by obtain⟨o,h1,_⟩:=qv2 hv;exact⟨o,h1⟩) b w.heap.size N D left cnt rfl hrg.out ?_ ?_)
  ·intro hc0 hl0
   have HSrt:=q6q (show Calls Tryz.prog 140 #[.slice ao ss.length c,.func (.func 139) #[] #[]] wr (fun e w'=>e= .returned (.tuple #[])∧w'.ownsRow (w.heap.size+1) tStr 1 (.slice ao ss.length c) ss.length (strs (srt ss))∧Below w.heap.size wr w') by
    by_cases hss:ss=[]
    ·subst hss
     have hn:=Go.Proofs.AnyF.slices_SortFunc_none (P:=Tryz.prog) (ρ:=Tryz.sortS_ren) {Tryz.sortS with} ao c (.func (.func 139) #[] #[]) wr;refine Calls.mono (show Calls Tryz.prog 140 #[.slice ao ([]:List (List UInt8)).length c,.func (.func 139) #[] #[]] wr _ from hn) ?_;rintro e w' ⟨rfl,rfl⟩;have h0:=hrow.out;exact⟨rfl,by simpa[srt,strs] using h0,Below.refl _ _⟩
    ·have hpos:0<ss.length:=List.length_pos_iff.2 hss
     have h0:=hrow.out;rcases h0.2 with⟨h1,h2⟩|⟨g,cap,cur,h1,hg,_⟩
     ·omega
     ·injection h1 with h1 _ h3
      subst h1;subst h3;refine(qyo g c ss (w.heap.size+1) wr h0 (by omega)).mono ?_;rintro e w' ⟨rfl,hown,hgr⟩;exact⟨rfl,hown,(Below.refl _ wr).grown hgr hbs (fun k hk=>by have:=Option.some.inj hk;omega)⟩)
   go_wp2_with fail;refine HSrt.out.mono ?_;rintro e w2 ⟨rfl,hrd,hb2⟩;have HR2:=q6q hrd;have HB2:=q6q (hB.out.trans hb2);clear hrd hb2 HSrt;go_wp2_with fail;go_ret;have hco2:=hco.out;refine⟨srt ss,ao,c,by rw[qn2];rfl,by rw[qn2];exact qak HR2.out (by omega),qto hco2.1,fun x=>?_,fun x hx=>hlen.out x ((qrs ss x).1 hx),HB2.out,by have:=hle.out;rw[qn2];omega⟩;rw[qrs,hco2.2 x,hl0,(HD.out x).2];simp
  ·intro x c' kl y yb w' cnt' hkey hlk hv hat hrg' hlt hgr hsz' hen
   obtain⟨x',hx1,rfl,hxl⟩:=Maps.keyOf_str Tryz.underlying9 hkey;have hxx:x=x':=by
    have h1:S x=S x':=Value.string.inj hx1;exact qo1 h1
   subst hxx;have hcol:=q6q (hco.out.step hlk hat);have hne:Value.ownBlock (.slice ao ss.length c)=none∨Value.ownBlock (.slice ao ss.length c)≠some w.heap.size:=.inr (fun he=>row_ne_low hrow.out (b:=w.heap.size) (by omega) he.symm);have hrow2:=q6q ((hrow.out.kept hgr hne).alloc (.cells #[.string (S x)] tStr));have hrg2:=q6q (hrg'.alloc (.cells #[.string (S x)] tStr));have hB2:=q6q ((hB.out.grown hgr hbs (fun k hk=>by have:=Option.some.inj hk;omega)).alloc (by rw[hsz'];exact hbs) (.cells #[.string (S x)] tStr));have hszz:w.heap.size+1≤w'.heap.size:=by rw[hsz'];exact hrlt
   have hsl:(strs ss).length=ss.length:=qcx ss;have HEn:=q6q hen;have HRO:=q6q hrow2.out;have hxlh:=q6q hxl;have HLT:=q6q hlt;clear hkey hlk hv hat hrg' hlt hgr hsz' hx1 hne;go_wp2_with (at_builtin;refine wpList_append_own _ rfl _ _ 26 rfl (w.heap.size+1) tStr i0 (.string (S [])) 1 16 Tryz.underlying26 hi hz0 hz1 hz2 rfl (by decide) _ _ _ rfl hrow2.out ⟨w'.heap.size,0,none⟩ 1 1 [.string (S x)] rfl rfl (cell_one_new _ _ _) (by simp[Value.oneCell']) (by unfold maxLen;omega) (by omega) (by simp;omega) ?_;intro v' w2 hown2 hgr2 _;have HO2:=q6q hown2;have HG2:=q6q (show World.grownBy _ w2 (Value.ownBlock (.slice ao ss.length c)) from hgr2);clear hown2 hgr2)
   go_roundw
   case rel=>
    refine⟨fun z=>left z&&!z.sameKey (.string x),cnt',ss++[x],?_,hcol.out,?_,?_,?_,?_⟩
    ·exact hrg2.out.kept HG2.out (row_ne_low hrow2.out (by omega)) (row_ne_low hrow2.out (by omega))
    ·have h:=HO2.out
     rw[qtl,List.length_append,List.length_singleton];exact h
    ·have:=HLT.out
     rw[Hid,List.length_append,List.length_singleton];omega
    ·intro z hz
     rcases List.mem_append.1 hz with hz|hz
     ·exact hlen.out z hz
     ·rw[List.mem_singleton.1 hz];exact hxlh.out
    ·exact hB2.out.grown HG2.out (by simp;omega) (fun k hk=>by have:=qek hrow2.out k hk;omega)
   case measure=>
    have h1:=(hrg2.out.kept HG2.out (row_ne_low hrow2.out (by omega)) (row_ne_low hrow2.out (by omega))).left_eq;have h2:=hrg.out.left_eq;have:=HLT.out;rw[h1,h2];exact this
theorem TreeAt.dirAt(hT:TreeAt w B N a m F)(p:Pth)(x:Nd)(hx:F p=some x)(hk:x.kind=1):q5v w (a p) (m p) N (qdq F a p):=by
 obtain⟨_,_,_,_,c4⟩:=hT.cells p x hx;rw[show mapV x (m p)= .map (some (m p)) from if_pos hk] at c4;exact⟨c4,hT.dir p x hx hk⟩
theorem qzn(hT:TreeAt w B N a m F)(p:Pth)(x:Nd)(hx:F p=some x)(hk:x.kind=1)(hN:N≤4294967290):
 Calls Tryz.prog 107 #[.pointer (some ⟨a p,0,none⟩)] w (qo2 F p w):=by
 refine(qzm (hT.dirAt p x hx hk) hN).mono ?_;rintro e w' ⟨ns,A,cap,rfl,hown,h1,h2,h3,h4,h5⟩;obtain⟨A',cap',hv,_,_,hrd⟩:=Rd.of_own hown;cases hv;refine⟨ns,A,cap,rfl,hrd,h1,fun x=>?_,h3,h4,fun hp=>?_,by omega⟩
 ·rw[h2 x]
  unfold qdq;split <;> simp_all
 ·rcases hown.2 with⟨g1,g2⟩|⟨g,cap2,cur,g1,hg,_⟩
  ·omega
  ·injection g1 with g1 _ g3
   exact⟨g,0,g1,by omega⟩
theorem qzl(hT:TreeAt w B N a m F)(p:Pth)(x:Nd)(hx:F p=some x)(hk:x.kind≠1):
 Calls Tryz.prog 107 #[.pointer (some ⟨a p,0,none⟩)] w (qo2 F p w):=by
 obtain⟨_,_,_,_,c4⟩:=hT.cells p x hx;rw[show mapV x (m p)= .map none from if_neg hk] at c4;have HF:=q6q (show ∀e,(F (p++[e])).isSome=false by
  intro e;cases hs:(F (p++[e])).isSome with
  |false=>rfl
  |true=>
   obtain⟨y,hy,hk2⟩:=hT.tree.up p e hs;rw[hx] at hy;obtain rfl:=Option.some.inj hy;exact absurd hk2 hk)
 have HS:Hid (∀W:World,Calls Tryz.prog 140 #[.slice none 0 0,.func (.func 139) #[] #[]] W (fun e w'=>e= .returned (.tuple #[])∧w'=W)):=q6q fun W=>by
  have hn:=Go.Proofs.AnyF.slices_SortFunc_none (P:=Tryz.prog) (ρ:=Tryz.sortS_ren) {Tryz.sortS with} none 0 (.func (.func 139) #[] #[]) W;exact hn
 have hrr:=run_range_nilMap (P:=Tryz.prog) w tMap tStr tPtr Tryz.underlying164;have hrn:=fun ty=>run_next_nilMap (P:=Tryz.prog) w ty 0 0 #[]
 clear hT hx hk;go_enter Tryz.func107,Tryz.ntmps107;go_wp2_with fail;go_loopw [3] (fun v wr=>v= .slice none 0 0∧Hid (wr=w.alloc (Obj.mapIter none 0 #[] 0))) (fun _ _=>0)
 case atStart=>exact⟨rfl,rfl⟩
 case round=>
  obtain⟨rfl,hw⟩:=hrel;obtain rfl:=hw.out;clear hw;go_wp2_with (go_at_call 140;refine(HS.out _).mono ?_;rintro e w2 ⟨rfl,rfl⟩)
  go_ret;exact⟨[],none,0,rfl,.inl rfl,List.Pairwise.nil,fun x=>by rw[HF.out x];simp,fun x hx=>by simp at hx,(Below.refl _ _).alloc (Nat.le_refl _) _,fun h=>by simp at h,by simp⟩
theorem qzo(hT:TreeAt w B N a m F)(p:Pth)(x:Nd)(hx:F p=some x)(hN:N≤4294967290):
 Calls Tryz.prog 107 #[.pointer (some ⟨a p,0,none⟩)] w (qo2 F p w):=by
 by_cases hk:x.kind=1
 ·exact qzn hT p x hx hk hN
 ·exact qzl hT p x hx hk
def srtO(l:List (List UInt8)):List (List UInt8):=l.mergeSort fun x y=>decide (x≤y)
theorem qtp(l:List (List UInt8)):(srtO l).length=l.length:=(List.mergeSort_perm _ _).length_eq
theorem qyl(l:List (List UInt8)):(srtO l).Pairwise (· ≤·):=by
 have h:=List.pairwise_mergeSort (le:=fun x y:List UInt8=>decide (x≤y)) (fun a b c hab hbc=>by
  simp only[decide_eq_true_eq] at*;exact List.le_trans hab hbc) (fun a b=>by
  simp only[Bool.or_eq_true,decide_eq_true_eq];exact List.le_total a b) l
 exact h.imp fun h=>by simpa using h
theorem qyp(A:Option Addr)(cap:Nat)(ss:List (List UInt8))(base:Nat)(w:World)(hown:w.ownsRow base tStr 1 (.slice A ss.length cap) ss.length (strs ss))(hn:ss.length≤4294967290):
 Calls Tryz.prog 103 #[.slice A ss.length cap] w fun e w'=>
  e= .returned (.tuple #[])∧w'.ownsRow base tStr 1 (.slice A ss.length cap) ss.length (strs (srtO ss))∧w.grownBy w' (Value.slice A ss.length cap).ownBlock:=by
 have hown0:=hown;obtain⟨h1,h2⟩:=hown;rcases h2 with⟨h2,h3⟩|⟨g',cap',cur,hv,hg,hb,hc1,hc2,hc3,ht⟩
 ·injection h2 with h2 h4 h5
  have hs:ss=[]:=List.eq_nil_of_length_eq_zero h4;subst hs;subst h2;subst h5;refine Calls.mono (Tryz.slices_Sort_string_none none 0 w) ?_;rintro e w' ⟨rfl,rfl⟩;exact⟨rfl,by simpa[srtO] using hown0,rfl,rfl,rfl,Nat.le_refl _,fun _ _ _=>rfl⟩
 ·injection hv with hv1 hv2 hv3
  subst hv1;subst hv3;have ht2:cur.toList.take ss.length=ss.map Go.Proofs.encStr:=by rw[Nat.mul_one] at ht;exact ht
  have hH:=holds_of_block hb ht2;refine Calls.mono (Tryz.slices_Sort_string g' 0 cap ss w hH (q6s hb).1 (by omega)) ?_;rintro e w' ⟨rfl,n,os,rfl⟩;exact⟨rfl,ownsRow_sorted (ts:=srtO ss) (qtp ss) hg hb hc1 hc2 hc3,grownBy_sorted _⟩
abbrev tChg:TypeId:=50
abbrev qx9:TypeId:=43
abbrev OwnC(w:World)(B:Nat)(v:Value)(l:List Ent):Prop:=w.ownsRow B 50 4 v l.length (ents l)
theorem qy9{p:List UInt8}{k m:Int}{d:List UInt8}(h:w.ownsRow B 50 4 v (l.length+1) (ents l++[.string (S p),.int .i64 k,.int .i64 m,.string (S d)])):OwnC w B v (l++[⟨p,k,m,d⟩]):=by
 unfold OwnC;rw[qt9,List.length_append,List.length_singleton];exact h
theorem qa3{a:World}(h:Below B a w)(n:Nat):Below B a (w.drewN n):=⟨h.os,h.tape,h.output,h.size,h.block⟩
theorem q4z{l':List Ent}{v':Value}(h:OwnC w B v l)(ev:v=v')(e:l=l'):OwnC w B v' l':=by subst ev;subst e;exact h
def q32(o:Obj):Prop:=∀cur t f,o= .cells cur t f→t≠tChg∧t≠qx9
theorem qsi(cur:Array Value)(t:TypeId)(f:Nat×Nat)(h:t≠tChg∧t≠qx9):q32 (.cells cur t f):=by
 intro cur' t' f' e;cases e;exact h
theorem qze(es:Array MapEntry)(c:Nat):q32 (.map es c):=fun _ _ _ e=>by cases e
structure KeepX(w w':World):Prop where
 size:w.heap.size≤w'.heap.size
 keep:∀(g:Nat) (o:Obj),w.heap[g]? =some o→q32 o→w'.heap[g]? =some o
theorem KeepX.refl(w:World):KeepX w w:=⟨Nat.le_refl _,fun _ _ h _=>h⟩
theorem KeepX.trans{a b c:World}(h:KeepX a b)(k:KeepX b c):KeepX a c:=⟨Nat.le_trans h.size k.size,fun g o e f=>k.keep g o (h.keep g o e f) f⟩
theorem KeepX.below(h:Below w.heap.size w w'):KeepX w w':=⟨h.size,fun g _ e _=>(h.block g (q6s e).1).trans e⟩
theorem KeepX.keepT(h:KeepX w w'){T:TypeId}(hT:T≠tChg∧T≠qx9):KeepT T w w':=fun g cur e=>h.keep g _ e (qsi _ _ _ hT)
theorem KeepX.grown(ho:OwnC w B v l)(hg:w.grownBy w' v.ownBlock):KeepX w w':=by
 refine⟨hg.size,fun g o e f=>(hg.block g (q6s e).1 ?_).trans e⟩;rcases ho.2 with⟨rfl,_⟩|⟨g',cap,cur,rfl,hb,hh,_⟩
 ·simp[Value.ownBlock]
 ·intro he
  simp only[Value.ownBlock,Option.some.injEq] at he;subst he;rw[e] at hh;cases hh;exact(f _ _ _ rfl).1 rfl
def VarC(w:World)(lb:Nat)(v:Value):Prop:=w.heap[lb]? =some (.cells #[v] qx9 (0,0))
theorem VarC.cell(h:VarC w lb v):w.cell? ⟨lb,0,none⟩=some v:=by
 rw[cell_of_row w lb 0 _ _ (0,0) h];rfl
theorem VarC.frozen(h:VarC w lb v):w.frozen? ⟨lb,0,none⟩=false:=frozen_of_row w lb 0 _ _ h
theorem VarC.lt(h:VarC w lb v):lb<w.heap.size:=(q6s h).1
theorem VarC.below(h:VarC w lb v)(hb:Below w.heap.size w w'):VarC w' lb v:=(hb.block lb h.lt).trans h
theorem VarC.grown{u:Value}(h:VarC w lb u)(ho:OwnC w B v l)(hg:w.grownBy w' v.ownBlock):VarC w' lb u:=by
 refine(hg.block lb h.lt ?_).trans h;rcases ho.2 with⟨rfl,_⟩|⟨g',cap,cur,rfl,hb,hh,_⟩
 ·simp[Value.ownBlock]
 ·intro he
  simp only[Value.ownBlock,Option.some.injEq] at he;subst he;rw[show w.heap[lb]? =_ from h] at hh;simp at hh
  exact absurd hh.2 (by decide)
theorem VarC.set(h:VarC w lb v)(u:Value):VarC (w.setCell ⟨lb,0,none⟩ u) lb u:=by
 have:=Go.heap_setCell_same w lb 0 _ _ u h;exact this
theorem VarC.new(w:World)(v:Value):VarC (w.alloc (.cells #[v] qx9)) w.heap.size v:=heap_alloc_new w _
theorem KeepX.set(h:VarC w lb v)(u:Value):KeepX w (w.setCell ⟨lb,0,none⟩ u):=by
 refine⟨by simp[World.setCell],fun g o e f=>?_⟩;have hne:g≠lb:=by
  rintro rfl;rw[show w.heap[g]? =_ from h] at e;cases e;exact(f _ _ _ rfl).2 rfl
 rw[heap_setCell_other w ⟨lb,0,none⟩ g u hne];exact e
theorem OwnC.set{z:Value}(ho:OwnC w B v l)(h:VarC w lb z)(u:Value):OwnC (w.setCell ⟨lb,0,none⟩ u) B v l:=by
 obtain⟨h1,h2⟩:=ho;refine⟨h1,?_⟩;rcases h2 with h2|⟨g,cap,cur,hv,hg,hh,r⟩
 ·exact .inl h2
 ·refine .inr ⟨g,cap,cur,hv,hg,?_,r⟩
  have hne:g≠lb:=by
   rintro rfl;rw[show w.heap[g]? =_ from h] at hh;simp at hh
   exact absurd hh.2 (by decide)
  rw[heap_setCell_other w ⟨lb,0,none⟩ g u hne];exact hh
def ANode(w:World)(n b N:Nat)(f:List UInt8→Option Nat):Prop:=q5v w n b N f∧∃o,w.heap[n]? =some o∧q32 o
theorem qxc{a:Addr}(h:w'.heap[a.block]? =w.heap[a.block]?):w'.cell? a=w.cell? a:=World.cell?_of_block (w:=w) h
theorem ANode.keep{b:Nat}(h:ANode w n b N f)(hk:KeepX w w'):ANode w' n b N f:=by
 obtain⟨⟨h1,h2⟩,o,h3,h4⟩:=h;have e:=hk.keep n o h3 h4;refine⟨⟨?_,?_⟩,o,e,h4⟩
 ·rw[qxc (w:=w) (a:=⟨n,4,none⟩) (by rw[e,h3])];exact h1
 ·obtain⟨D,⟨es,clock,h5,_⟩,_⟩:=id h2
  exact h2.block (by rw[hk.keep b _ h5 (qze _ _),h5])
theorem qrt{a:List (List UInt8)}(h:a.Perm b)(ha:a.Pairwise (· ≤·))(hb:b.Pairwise (· ≤·)):a=b:=
 h.eq_of_pairwise (fun x y _ _ h1 h2=>List.le_antisymm h1 h2) ha hb
theorem qyk{a:List (List UInt8)}(h:a.Perm b):srtO a=srtO b:=
 qrt ((List.mergeSort_perm _ _).trans (h.trans (List.mergeSort_perm _ _).symm)) (qyl a) (qyl b)
theorem qv4{a:List (List UInt8)}(ha:a.Nodup)(hb:b.Nodup)(h:∀x,x∈a↔x∈b):a.Perm b:=
 (List.perm_ext_iff_of_nodup ha hb).2 h
theorem qva{f:List UInt8→List UInt8}{a:List (List UInt8)}(ha:a.Nodup)(hb:b.Nodup)(h:∀x,x∈a↔x∈b):srtO (a.map f)=srtO (b.map f):=
 qyk ((qv4 ha hb h).map f)
end Go.Proofs.YtikdblkfjchjbaaGreatDoor
