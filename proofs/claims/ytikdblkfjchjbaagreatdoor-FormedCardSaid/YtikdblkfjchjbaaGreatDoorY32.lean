import Derived.Handy
import Derived.Test.YtikdblkfjchjbaaGreatDoorY29
import Derived.Test.YtikdblkfjchjbaaGreatDoorY31
set_option linter.unusedVariables false
set_option linter.unusedSimpArgs false
set_option maxHeartbeats 16000000
set_option maxRecDepth 100000
namespace Go.Proofs.YtikdblkfjchjbaaGreatDoor
open Go.RowKit
variable{w:World}{fz:Nat}{p d:List UInt8}{k m:Int}
theorem qnd(c:UInt8)(a:List UInt8)(h:c∉a):Lib.index a [c]= -1:=by
 induction a with
 |nil=>rfl
 |cons x a ih=>
  have hx:¬c=x:=by intro e;exact h (by simp[e])
  have ha:c∉a:=by intro e;exact h (by simp[e])
  rw[Lib.index,if_neg (by simp[List.isPrefixOf];exact hx),ih ha,if_pos (by simp)]
theorem q5n(b:List UInt8):(Lib.cut b [0]).1=fldB b:=by
 by_cases h:(0:UInt8)∈b
 ·obtain⟨a,r,rfl,ha⟩:=List.eq_append_cons_of_mem h
  rw[qq0 0 a r ha];exact(q5f (fun c hc e=>ha (e▸hc)) r).symm
 ·unfold Lib.cut
  rw[qnd 0 b h,if_neg (by omega)];exact(q5g (fun c hc e=>h (e▸hc))).symm
theorem qe3(b:List UInt8)(w:World)(hw:Std w)(hl:b.length≤100000):
 Calls Tryz.prog 182 #[.string (S b)] w fun e w'=>e= .returned (.string (S (fldB b)))∧∃n,w'=w.drewN n:=by
 obtain⟨m,hm⟩:=hw.maxlen;have HC:=q6q (show Calls Tryz.prog 141 #[.string (S b),.string (S [0])] w fun e w'=>(∃t:Value,∃u:Bool,e= .returned (.tuple #[.string (S (fldB b)),t,.bool u]))∧∃n,w'=w.drewN n from
  (Tryz.strings_Cut (S b) (S [0]) m w (by rw[qc0];omega) hm).mono fun e w' ⟨he,n,hw⟩=>by
    refine⟨⟨.string ⟨(Lib.cut b [0]).2.1.toArray⟩,(Lib.cut b [0]).2.2,?_⟩,n,hw⟩;rw[he,←q5n b];rfl)
 generalize fldB b=f at HC ⊢;clear hw hm;go_enter Tryz.func182,Tryz.ntmps182;go_wp2_with fail;refine HC.out.mono ?_;rintro e w1 ⟨⟨t,u,rfl⟩,n,rfl⟩;go_wp2;go_ret;exact⟨rfl,n,rfl⟩
theorem q1l(s:List UInt8):Lib.trimSuffix s [47]=trmB s:=by
 unfold Lib.trimSuffix trmB Lib.hasSuffix;rcases List.eq_nil_or_concat s with rfl|⟨t,c,rfl⟩
 ·rfl
 ·rw[List.concat_eq_append]
  have h1:([47]:List UInt8).isSuffixOf (t++[c])=decide (c=47):=by
   rw[Bool.eq_iff_iff,List.isSuffixOf_iff_suffix,decide_eq_true_iff];constructor
   ·rintro⟨r,hr⟩
    have:=List.append_inj_right' hr rfl;simpa using this.symm
   ·rintro rfl;exact⟨t,rfl⟩
  rw[h1];by_cases hc:c=47
  ·subst hc;simp
  ·simp[hc]
def qtm:Value→Nat|.string s=>s.size|_=>0
theorem q3s(r:List UInt8)(w:World)(hw:Std w)(hs:r.length≤4294967200):
 Calls Tryz.prog 141 #[.string (S r),.string (S [47])] w fun e w'=>(∃u:Bool,e= .returned (.tuple #[.string (S (cutX r).1),.string (S (cutX r).2),.bool u]))∧Below w.heap.size w w':=by
 obtain⟨m,hm⟩:=hw.maxlen;refine(Tryz.strings_Cut (S r) (S [47]) m w (by rw[qc0];omega) hm).mono fun e w' ⟨he,n,hw⟩=>?_
 refine⟨⟨(Lib.cut r [47]).2.2,?_⟩,by rw[hw];exact below_drewN (Below.refl _ _) n⟩;have e1:(S r).data.toList=r:=rfl;have e2:(S [47]).data.toList=[47]:=rfl;rw[he,e1,e2];by_cases h:(47:UInt8)∈r
 ·obtain⟨a,b,rfl,ha⟩:=List.eq_append_cons_of_mem h
  rw[q0k a b ha,qq0 47 a b ha];rfl
 ·rw[qq1 r h]
  unfold Lib.cut;rw[qnd 47 r h,if_neg (by omega)];rfl
theorem qon(a b:List UInt8):(inB a b).length≤a.length+b.length+1:=by
 unfold inB;split <;> simp <;> omega
theorem qzp(g:Nat)(L N:List UInt8)(w:World)(hl:N.length≤2000)(hH:Hdr w g L)(hS:Std w):
 Calls Tryz.prog 113 #[.pointer (some ⟨g,0,none⟩),.string (S N)] w fun e w'=>e= .returned (.tuple #[])∧Hdr w' g (setC (setC L 345 (qzq N).1) 0 (qzq N).2)∧Below g w w':=by
 have HH:=q6q hH;have HS:=q6q hS;have hlt:=hH.lt;have HN:=q6q (show qzq N=(qic (N.length+1) [] N,Lib.trimPrefix (Lib.trimPrefix N (qic (N.length+1) [] N)) [47]) from rfl);obtain⟨ax,hax⟩:∃ax,qic (N.length+1) [] N=ax:=⟨_,rfl⟩;rw[hax] at HN;have HA:=q6q hax;clear hH hS hax;go_enter Tryz.func113,Tryz.ntmps113;go_wp2;try rw[show(ByteArray.mk #[])=S [] from rfl]
 go_loopw [4,5] (fun a r wr=>∃(f:Nat) (A R:List UInt8),a= .string (S A)∧r= .string (S R)∧R.length<f∧A.length+2*R.length≤6000∧R.length≤2000∧Hid (qic f A R=ax)∧Hid (Below w.heap.size w wr)) (fun _ r _=>qtm r)
 case atStart=>exact⟨N.length+1,[],N,rfl,rfl,by omega,by simp;omega,hl,HA,q6q (Below.refl _ _)⟩
 case round=>
  obtain⟨f,A,R,rfl,rfl,hf,hAl,hRl,hX,hB⟩:=hrel;by_cases hgt:100<R.length
  ·obtain⟨f,rfl⟩:∃k,f=k+1:=⟨f - 1,by omega⟩
   have hC:=q6q (q3s R wr (HS.out.below hB.out) (by omega));obtain⟨hc1,hc2⟩:=q3r R;replace hc2:=hc2 (by rintro rfl;simp at hgt);have hin:=qon A (cutX R).1;have hX2:=q6q (show qic f (inB A (cutX R).1) (cutX R).2=ax by have:=hX.out;rw[qic,if_neg (by omega)] at this;exact this);generalize (cutX R).1=x at*;generalize (cutX R).2=y at*;have hAl2:A.length≤6000:=by omega
   have hxl:x.length≤2000:=by omega
   have HJ:=q6q (fun wx=>qda A x wx (by omega));generalize inB A x=J at*;clear hX;go_wp2_with fail;refine hC.out.mono ?_;rintro e w1 ⟨⟨u,rfl⟩,hb1⟩;have hB1:=q6q (hB.out.trans (hb1.mono hB.out.size));clear hC hb1;go_wp2_with fail;refine(HJ.out _).mono ?_;rintro e w2 ⟨rfl,rfl⟩;go_wp2_with fail;go_round
   case rel=>exact⟨f,J,y,rfl,rfl,by omega,by omega,by omega,hX2,hB1⟩
   case measure=>simp[qtm];omega
  ·have hXe:=q6q (show A=ax by
    have:=hX.out;cases f with
    |zero=>omega
    |succ f=>rw[qic,if_pos (by omega)] at this;exact this)
   obtain rfl:=hXe.out;have H1:=q6q (HH.out.below hB.out);have hA3:A.length≤6000:=by omega
   clear hXe hX HA;go_wp2_with fail;refine(qg4 g L 345 A _ H1.out (by omega)).mono ?_;rintro e w1 ⟨rfl,h1,hb1⟩;have H2:=q6q h1;have B2:=q6q ((hB.out.mono (Nat.le_of_lt hlt)).trans hb1);clear h1 hb1;go_wp2_with fail;refine(qtj N A _).mono ?_;rintro e w2 ⟨rfl,rfl⟩;generalize hT1:Lib.trimPrefix N A=T1 at HN ⊢;go_wp2_with fail;refine(qtj T1 [47] _).mono ?_;rintro e w2 ⟨rfl,rfl⟩;generalize hT2:Lib.trimPrefix T1 [47]=T2 at HN ⊢;go_wp2_with fail;refine(qg4 g _ 0 T2 _ H2.out (by omega)).mono ?_;rintro e w3 ⟨rfl,h3,hb3⟩;have H3:=q6q h3;have B3:=q6q (B2.out.trans hb3);clear h3 hb3;go_wp2_with fail;go_end0
   exact⟨rfl,by rw[HN.out];exact H3.out,B3.out⟩
abbrev tChH:TypeId:=50
def ChgAt(w:World)(fz:Nat)(p:List UInt8)(k m:Int)(d:List UInt8):Prop:=w.heap[fz]? =some (.cells #[.string (S p),.int .i64 k,.int .i64 m,.string (S d)] tChH (0,0))
theorem ChgAt.below{w':World}(h:ChgAt w fz p k m d)(hb:Below w.heap.size w w'):ChgAt w' fz p k m d:=(hb.block fz (q6s h).1).trans h
theorem ChgAt.cells(h:ChgAt w fz p k m d):w.cell? ⟨fz,0,none⟩=some (.string (S p))∧w.cell? ⟨fz,1,none⟩=some (.int .i64 k)∧w.cell? ⟨fz,2,none⟩=some (.int .i64 m)∧w.cell? ⟨fz,3,none⟩=some (.string (S d))∧(∀j,w.frozen? ⟨fz,j,none⟩=false)∧fz<w.heap.size:=by
 refine⟨?_,?_,?_,?_,fun j=>frozen_of_row w fz j _ _ h,(q6s h).1⟩ <;> rw[cell_of_row _ _ _ _ _ _ h] <;> rfl
theorem ChgAt.setP(h:ChgAt w fz p k m d)(x:List UInt8):ChgAt (w.setCell ⟨fz,0,none⟩ (.string (S x))) fz x k m d:=Go.heap_setCell_same w fz 0 _ _ _ h
theorem ChgAt.setK(h:ChgAt w fz p k m d)(x:Int):ChgAt (w.setCell ⟨fz,1,none⟩ (.int .i64 x)) fz p x m d:=Go.heap_setCell_same w fz 1 _ _ _ h
theorem ChgAt.setM(h:ChgAt w fz p k m d)(x:Int):ChgAt (w.setCell ⟨fz,2,none⟩ (.int .i64 x)) fz p k x d:=Go.heap_setCell_same w fz 2 _ _ _ h
theorem ChgAt.setD(h:ChgAt w fz p k m d)(x:List UInt8):ChgAt (w.setCell ⟨fz,3,none⟩ (.string (S x))) fz p k m x:=Go.heap_setCell_same w fz 3 _ _ _ h
def chgV(c:Ent):Value:=.agg #[.string (S c.path),.int .i64 c.kind,.int .i64 c.mode,.string (S c.data)]
end Go.Proofs.YtikdblkfjchjbaaGreatDoor
