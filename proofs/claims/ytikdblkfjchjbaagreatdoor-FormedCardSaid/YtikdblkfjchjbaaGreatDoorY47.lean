/-
  Proved: layers.Make and plain.Make of any text; two builds that are alike; the walk of layerskeep.Formed (formed_any).
  Conditions: the variables that the program reads hold what is laid there; the rows are read, their numbers fit.
-/
import Derived.Test.YtikdblkfjchjbaaGreatDoorY27
import Derived.Test.YtikdblkfjchjbaaGreatDoorY46
import Derived.Test.YtikdblkfjchjbaaGreatDoorY04
import Derived.Test.YtikdblkfjchjbaaGreatDoorY50
set_option linter.unusedVariables false
set_option linter.unusedSimpArgs false
set_option maxHeartbeats 16000000
set_option maxRecDepth 100000
namespace Go.Proofs.YtikdblkfjchjbaaGreatDoor
open Go.RowKit
variable{w w':World}{R:Except (Int×Nat) StX}{e:Ending}
noncomputable def qi6(l:List Ent)(s:List UInt8):Except (Int×Nat) StX:=match qa8 s with
 |.error (f,p)=> .error ((f:Int),p)
 |.ok st=>qim l st
def MakeOutY(w w':World)(e:Ending):Except (Int×Nat) StX→Prop
 |.error (k,a)=>e= .returned (.tuple #[.agg #[.slice none 0 0,.string (S []),.slice none 0 0],.int .i64 k,.int .i64 a])
 |.ok (l,f,wk)=>∃(v:Value) (A:Option Addr) (c:Nat) (ks:List (List UInt8)),e= .returned (.tuple #[.agg #[.slice A ks.length c,.string (S (47::wk)),v],.int .i64 0,.int .i64 (-1)])∧w'.ownsRow w.heap.size tStr 1 (.slice A ks.length c) ks.length (strs (srtO (ks.map (envS f))))∧ks.Nodup∧(∀k,k∈ks↔(f k).isSome=true)∧OwnE w' w.heap.size v l
theorem qjd{g0:Nat}{a b c:Value}{T:TypeId}(h:w.heap[g0]? =some (.cells #[a,b,c] T (0,0)))(x y z:Value):
 (((w.setCell ⟨g0,0,none⟩ x).setCell ⟨g0,1,none⟩ y).setCell ⟨g0,2,none⟩ z).cell? ⟨g0,0,none⟩=some x∧(((w.setCell ⟨g0,0,none⟩ x).setCell ⟨g0,1,none⟩ y).setCell ⟨g0,2,none⟩ z).cell? ⟨g0,1,none⟩=some y∧(((w.setCell ⟨g0,0,none⟩ x).setCell ⟨g0,1,none⟩ y).setCell ⟨g0,2,none⟩ z).cell? ⟨g0,2,none⟩=some z:=by
 have h0:=heap_setCell_same w g0 0 _ _ x h;have h1:=heap_setCell_same _ g0 1 _ _ y h0;have h2:=heap_setCell_same _ g0 2 _ _ z h1;obtain⟨v0,v1,v2,_,_,_⟩:=qbj h2;exact⟨v0,v1,v2⟩
theorem qwd(s:List UInt8)(l:List Ent)(A:Option Addr)(cap:Nat)(w:World)(hs:s.length≤maxLen)(hg:ErrT w)(hord:Ord w)(hS:Std w)(hr:Rd w A (ents l))(hl:l.length≤2000000000)(hsm:∀e∈l,e.path.length≤2000000000∧e.data.length≤2000000000)(hL:Lists l (qav l))(hf:First (qcw l) l.length (-1))(hE:NumE w)(hT:Tz w)(hl2:l.length≤1000)(hld:∀e∈l,e.data.length≤100000)(hM:∀st,qa8 s= .ok st→(qb4 st).length≤1500)(R:Except (Int×Nat) StX)(hR:qi6 l s=R):
 Calls Tryz.prog 20 #[.string (S s),.slice A l.length cap] w fun e w'=>qo3 w w' e R∧Below w.heap.size w w':=by
 have HBo:=q6q (fun (wx:World) (hb:Below w.heap.size w wx)=>q3y s l A cap wx hs (hg.below hb) (hord.after hb) (hS.below hb) (hr.below hb) hl (by omega) hsm hL hf);have HS:=q6q hS;have HORD:=q6q hord;have HM:=q6q hM;have HNe:=q6q hE;have HTz:=q6q hT;have HLd:=q6q hld;have hb0:Below w.heap.size w (w.alloc (.cells #[.slice none 0 0,.string (S []),.slice none 0 0] 32)):=(Below.refl _ _).alloc (Nat.le_refl _) _;have HK0:=q6q (Go.heap_alloc_new w (.cells #[.slice none 0 0,.string (S []),.slice none 0 0] 32));have HB0:=q6q hb0;clear hs hg hord hS hr hl hsm hL hf hM hb0 hE hT hld;go_enter Tryz.func20,Tryz.ntmps20;go_wp2_with fail
 obtain⟨w0,hw0⟩:∃w0,w.alloc (.cells #[.slice none 0 0,.string (S []),.slice none 0 0] 32)=w0:=⟨_,rfl⟩;rw[hw0] at HB0 HK0 ⊢;clear hw0;refine(HBo.out _ HB0.out).mono ?_;intro e w1 ⟨ho,hb1⟩;have HB1:=q6q (HB0.out.trans (hb1.mono HB0.out.size));have hk:=(hb1.block _ (q6s HK0.out).1).trans HK0.out;have HK:=q6q hk;have hgz:=(q6s hk).1;have hsz0:=HB0.out.size;have hgz0:=(q6s HK0.out).1;clear hb1 HBo HK0;cases hp:qa8 s with
 |error fp=>
  obtain⟨f,p⟩:=fp;rw[hp] at ho;obtain⟨n,rfl,h1,h2⟩:=ho;have H1:=q6q h1;have H2:=q6q h2;have HRe:=q6q (show R= .error (f,p) by rw[←hR];unfold qi6;rw[hp]);obtain⟨j0,j1,j2,q0,q1,q2⟩:=qbj hk;have hng:w.heap.size<n:=Nat.lt_of_lt_of_le hgz0 h1;clear h1 h2 hp hk HM hR;generalize hg0:w.heap.size=g0 at j0 j1 j2 q0 q1 q2 HK hgz ⊢;go_wp2;obtain⟨v0,v1,v2⟩:=qjd HK.out (.slice none 0 0) (.string (S [])) (.slice none 0 0)
  have hbe:=((HB1.out.setCell (p:=⟨g0,0,none⟩) (by show w.heap.size≤g0;omega) (.slice none 0 0)).setCell (p:=⟨g0,1,none⟩) (by show w.heap.size≤g0;omega) (.string (S []))).setCell (p:=⟨g0,2,none⟩) (by show w.heap.size≤g0;omega) (.slice none 0 0);refine bodyPost_ret (by simp[results,Tryz.results20,go_sem,v0,v1,v2,Result.andThen];try rfl) rfl ?_;rw[HRe.out]
  have H3:=(heap_setCell_other (((w1.setCell ⟨g0,0,none⟩ (.slice none 0 0)).setCell ⟨g0,1,none⟩ (.string (S [])))) ⟨g0,2,none⟩ n (.slice none 0 0) (by simp only;omega)).trans ((heap_setCell_other _ ⟨g0,1,none⟩ n (.string (S [])) (by simp only;omega)).trans ((heap_setCell_other w1 ⟨g0,0,none⟩ n (.slice none 0 0) (by simp only;omega)).trans H2.out));exact⟨⟨n,rfl,(qff H3).1,(qff H3).2,by omega⟩,hbe⟩
 |ok st=>
  rw[hp] at ho;obtain⟨gp,ao,c,k,B,t,rfl,h1,h2,h3⟩:=ho;have H1:=q6q h1;have H2:=q6q h2;have H3:=q6q h3;have HOK:=q6q (qp7 hp);obtain⟨m,hm⟩:∃m,st.length=m+1:=⟨st.length - 1,by have:=List.length_pos_iff.2 HOK.out.ne;omega⟩;have hRx:qim l st=R:=by rw[←hR];unfold qi6;rw[hp]
  have HC:=q6q (qzy st m gp c k B ao w1 hm (by rw[←hm];exact H1.out) H2.out HOK.out (q2g hp) (HM.out st hp) (HS.out.below HB1.out) (HNe.out.below HB1.out) (HTz.out.below HB1.out) (HORD.out.after HB1.out) l t H3.out hl2 HLd.out);rw[hRx] at HC;clear h1 h2 h3 hp hk hRx hR;go_wp2_with fail;refine HC.out.mono ?_;rintro e w2 ⟨ho,hb2⟩;have HB2:=q6q (HB1.out.trans (hb2.mono HB1.out.size));have hz:=HB1.out.size;have hgz1:=hgz;have hk:=(hb2.block _ hgz).trans HK.out;clear HK;have HK:=q6q hk;obtain⟨j0,j1,j2,q0,q1,q2⟩:=qbj hk;replace hgz:=(q6s hk).1;clear hb2 hk HC H1 H2 H3 HOK HM;cases R with
  |error q=>
   obtain⟨k,a⟩:=q;obtain⟨n,rfl,h1,h2,h3⟩:=ho;have H1:=q6q h1;have H2:=q6q h2;clear h1 h2;generalize hg0:w.heap.size=g0 at j0 j1 j2 q0 q1 q2 HK hgz ⊢;go_wp2;obtain⟨v0,v1,v2⟩:=qjd HK.out (.slice none 0 0) (.string (S [])) (.slice none 0 0);have hbe:=((HB2.out.setCell (p:=⟨g0,0,none⟩) (by show w.heap.size≤g0;omega) (.slice none 0 0)).setCell (p:=⟨g0,1,none⟩) (by show w.heap.size≤g0;omega) (.string (S []))).setCell (p:=⟨g0,2,none⟩) (by show w.heap.size≤g0;omega) (.slice none 0 0);refine bodyPost_ret (by simp[results,Tryz.results20,go_sem,v0,v1,v2,Result.andThen];try rfl) rfl ?_
   have hcs:∀o,((((w2.setCell ⟨g0,0,none⟩ (.slice none 0 0)).setCell ⟨g0,1,none⟩ (.string (S []))).setCell ⟨g0,2,none⟩ (.slice none 0 0))).cell? ⟨n,o,none⟩=w2.cell? ⟨n,o,none⟩:=fun o=>World.cell?_of_block ((heap_setCell_other _ ⟨g0,2,none⟩ n _ (by simp only;omega)).trans ((heap_setCell_other _ ⟨g0,1,none⟩ n _ (by simp only;omega)).trans (heap_setCell_other w2 ⟨g0,0,none⟩ n _ (by simp only;omega))))
   exact⟨⟨n,rfl,(hcs 0).trans H1.out,(hcs 1).trans H2.out,by omega⟩,hbe⟩
  |ok q=>
   obtain⟨l2,f2,wk⟩:=q;obtain⟨v,A2,c2,ks,rfl,hrow,hnd,hks,h1⟩:=ho;obtain⟨va,vc,rfl⟩:=qad h1;have H1:=q6q h1;have HRw:=q6q hrow;have HNd:=q6q (And.intro hnd hks);clear h1 hrow hnd hks;generalize hg0:w.heap.size=g0 at j0 j1 j2 q0 q1 q2 HK hgz ⊢;go_wp2;obtain⟨v0,v1,v2⟩:=qjd HK.out (.slice A2 ks.length c2) (.string (S (47::wk))) (.slice va l2.length vc);have hbe:=((HB2.out.setCell (p:=⟨g0,0,none⟩) (by show w.heap.size≤g0;omega) (.slice A2 ks.length c2)).setCell (p:=⟨g0,1,none⟩) (by show w.heap.size≤g0;omega) (.string (S (47::wk)))).setCell (p:=⟨g0,2,none⟩) (by show w.heap.size≤g0;omega) (.slice va l2.length vc)
   refine bodyPost_ret (by simp[results,Tryz.results20,go_sem,v0,v1,v2,Result.andThen];try rfl) rfl ?_;have hoe:=ownsRow_setCell_below (ownsRow_setCell_below (ownsRow_setCell_below H1.out (a:=⟨g0,0,none⟩) (by show g0<w1.heap.size;omega) (.slice A2 ks.length c2)) (a:=⟨g0,1,none⟩) (by show g0<w1.heap.size;omega) (.string (S (47::wk)))) (a:=⟨g0,2,none⟩) (by show g0<w1.heap.size;omega) (.slice va l2.length vc)
   have hwe:=ownsRow_setCell_below (ownsRow_setCell_below (ownsRow_setCell_below HRw.out (a:=⟨g0,0,none⟩) (by show g0<w1.heap.size;omega) (.slice A2 ks.length c2)) (a:=⟨g0,1,none⟩) (by show g0<w1.heap.size;omega) (.string (S (47::wk)))) (a:=⟨g0,2,none⟩) (by show g0<w1.heap.size;omega) (.slice va l2.length vc);exact⟨⟨_,A2,c2,ks,rfl,qak hwe (by omega),HNd.out.1,HNd.out.2,qak hoe (by omega)⟩,hbe⟩
theorem qm5(s:List UInt8)(l:List Ent)(A:Option Addr)(cap:Nat)(w:World)(hs:s.length≤maxLen)(hg:ErrT w)(hord:Ord w)(hS:Std w)(hr:Rd w A (ents l))(hl:l.length≤2000000000)(hsm:∀e∈l,e.path.length≤2000000000∧e.data.length≤2000000000)(hL:Lists l (qav l))(hf:First (qcw l) l.length (-1))(hE:NumE w)(hT:Tz w)(hl2:l.length≤1000)(hld:∀e∈l,e.data.length≤100000)(hM:∀st,qa8 s= .ok st→(qb4 st).length≤1500)(R:Except (Int×Nat) StX)(hR:qi6 l s=R):
 Calls Tryz.prog 8 #[.string (S s),.slice A l.length cap] w fun e w'=>MakeOutY w w' e R∧Below w.heap.size w w':=by
 have HL:=q6q (fun (wx:World) (hb:Below w.heap.size w wx)=>qwd s l A cap wx hs (hg.below hb) (hord.after hb) (hS.below hb) (hr.below hb) hl hsm hL hf (hE.below hb) (hT.below hb) hl2 hld hM R hR);have HG:=q6q hg;have hb0:Below w.heap.size w (w.alloc (.cells #[.slice none 0 0,.string (S []),.slice none 0 0] 32)):=(Below.refl _ _).alloc (Nat.le_refl _) _;have HK0:=q6q (Go.heap_alloc_new w (.cells #[.slice none 0 0,.string (S []),.slice none 0 0] 32));have HB0:=q6q hb0;clear hs hg hord hS hr hl hsm hL hf hM hb0 hE hT hld hR;go_enter Tryz.func8,Tryz.ntmps8;go_wp2_with fail
 obtain⟨w0,hw0⟩:∃w0,w.alloc (.cells #[.slice none 0 0,.string (S []),.slice none 0 0] 32)=w0:=⟨_,rfl⟩;rw[hw0] at HB0 HK0 ⊢;clear hw0;refine(HL.out _ HB0.out).mono ?_;rintro e w1 ⟨ho,hb1⟩;have HB1:=q6q (HB0.out.trans (hb1.mono HB0.out.size));have hk:=(hb1.block _ (q6s HK0.out).1).trans HK0.out;have HK1:=q6q hk;have hgz0:=(q6s HK0.out).1;have hsz0:=HB0.out.size;clear hb1 HL HK0 hk;cases R with
 |error q=>
  obtain⟨k,a⟩:=q;obtain⟨n,rfl,h1,h2,h3⟩:=ho;have H1:=q6q h1;have H2:=q6q h2;clear h1 h2;go_wp2_with fail;have HKi:=q6q (Go.heap_alloc_new w1 (.cells #[.slice none 0 0,.string (S []),.slice none 0 0] 32));have hba:Below w1.heap.size w1 (w1.alloc (.cells #[.slice none 0 0,.string (S []),.slice none 0 0] 32)):=(Below.refl _ _).alloc (Nat.le_refl _) _;obtain⟨wa,hwa⟩:∃wa,w1.alloc (.cells #[.slice none 0 0,.string (S []),.slice none 0 0] 32)=wa:=⟨_,rfl⟩;rw[hwa] at HKi hba ⊢;clear hwa;have HBa:=q6q hba
  refine(qx6 n 0 k a wa (HG.out.below (HB1.out.trans (HBa.out.mono HB1.out.size))) ((HBa.out.cell (p:=⟨n,0,none⟩) (q6r _ _ H1.out)).trans H1.out) ((HBa.out.cell (p:=⟨n,1,none⟩) (q6r _ _ H2.out)).trans H2.out)).mono ?_;rintro e w2 ⟨rfl,hb2⟩;have hba2:=HBa.out.trans (hb2.mono HBa.out.size);have HB2:=q6q (HB1.out.trans (hba2.mono HB1.out.size));have hki:=(hb2.block _ (q6s HKi.out).1).trans HKi.out;obtain⟨i0,i1,i2,_,_,_⟩:=qbj hki;have hk:=(hba2.block _ (q6s HK1.out).1).trans HK1.out;have HK:=q6q hk;obtain⟨j0,j1,j2,q0,q1,q2⟩:=qbj hk;have hgz:=(q6s hk).1;clear hb2 hk HK1 hki hba hba2;generalize hg0:w.heap.size=g0 at j0 j1 j2 q0 q1 q2 HK hgz ⊢;go_wp2
  obtain⟨v0,v1,v2⟩:=qjd HK.out (.slice none 0 0) (.string (S [])) (.slice none 0 0);have hbe:=((HB2.out.setCell (p:=⟨g0,0,none⟩) (by show w.heap.size≤g0;omega) (.slice none 0 0)).setCell (p:=⟨g0,1,none⟩) (by show w.heap.size≤g0;omega) (.string (S []))).setCell (p:=⟨g0,2,none⟩) (by show w.heap.size≤g0;omega) (.slice none 0 0);refine bodyPost_ret (by simp[results,Tryz.results8,go_sem,v0,v1,v2,Result.andThen];try rfl) rfl ?_;exact⟨rfl,hbe⟩
 |ok q=>
  obtain⟨l2,f2,wk⟩:=q;obtain⟨v,A2,c2,ks,rfl,hrow,hnd,hks,h1⟩:=ho;obtain⟨va,vc,rfl⟩:=qad h1;have H1:=q6q h1;have HRw:=q6q hrow;have HNd:=q6q (And.intro hnd hks);clear h1 hrow hnd hks;go_wp2_with fail;have HKi:=q6q (Go.heap_alloc_new w1 (.cells #[.slice A2 ks.length c2,.string (S (47::wk)),.slice va l2.length vc] 32));have hba:Below w1.heap.size w1 (w1.alloc (.cells #[.slice A2 ks.length c2,.string (S (47::wk)),.slice va l2.length vc] 32)):=(Below.refl _ _).alloc (Nat.le_refl _) _;obtain⟨wa,hwa⟩:∃wa,w1.alloc (.cells #[.slice A2 ks.length c2,.string (S (47::wk)),.slice va l2.length vc] 32)=wa:=⟨_,rfl⟩;rw[hwa] at HKi hba ⊢;clear hwa
  have HBa:=q6q hba;refine(qtk wa).mono ?_;rintro e w2 ⟨rfl,hb2⟩;have hba2:=HBa.out.trans (hb2.mono HBa.out.size);have HB2:=q6q (HB1.out.trans (hba2.mono HB1.out.size));have hki:=(hb2.block _ (q6s HKi.out).1).trans HKi.out;obtain⟨i0,i1,i2,_,_,_⟩:=qbj hki;have H12:=q6q (qac H1.out hba2);have HR2:=q6q (qac HRw.out hba2);have hk:=(hba2.block _ (q6s HK1.out).1).trans HK1.out;have HK:=q6q hk;obtain⟨j0,j1,j2,q0,q1,q2⟩:=qbj hk;have hgz:=(q6s hk).1;clear hb2 hk HK1 H1 HRw hki hba hba2;generalize hg0:w.heap.size=g0 at j0 j1 j2 q0 q1 q2 HK hgz ⊢;go_wp2;obtain⟨v0,v1,v2⟩:=qjd HK.out (.slice A2 ks.length c2) (.string (S (47::wk))) (.slice va l2.length vc)
  have hbe:=((HB2.out.setCell (p:=⟨g0,0,none⟩) (by show w.heap.size≤g0;omega) (.slice A2 ks.length c2)).setCell (p:=⟨g0,1,none⟩) (by show w.heap.size≤g0;omega) (.string (S (47::wk)))).setCell (p:=⟨g0,2,none⟩) (by show w.heap.size≤g0;omega) (.slice va l2.length vc);refine bodyPost_ret (by simp[results,Tryz.results8,go_sem,v0,v1,v2,Result.andThen];try rfl) rfl ?_
  have hoe:=ownsRow_setCell_below (ownsRow_setCell_below (ownsRow_setCell_below H12.out (a:=⟨g0,0,none⟩) (by show g0<w0.heap.size;omega) (.slice A2 ks.length c2)) (a:=⟨g0,1,none⟩) (by show g0<w0.heap.size;omega) (.string (S (47::wk)))) (a:=⟨g0,2,none⟩) (by show g0<w0.heap.size;omega) (.slice va l2.length vc);have hwe:=ownsRow_setCell_below (ownsRow_setCell_below (ownsRow_setCell_below HR2.out (a:=⟨g0,0,none⟩) (by show g0<w0.heap.size;omega) (.slice A2 ks.length c2)) (a:=⟨g0,1,none⟩) (by show g0<w0.heap.size;omega) (.string (S (47::wk)))) (a:=⟨g0,2,none⟩) (by show g0<w0.heap.size;omega) (.slice va l2.length vc)
  exact⟨⟨_,A2,c2,ks,rfl,qak hwe (by omega),HNd.out.1,HNd.out.2,qak hoe (by omega)⟩,hbe⟩
theorem qyt(l:List (List UInt8))(A B:Option Addr)(capA capB:Nat)(w:World)(ha:Rd w A (strs l))(hb:Rd w B (strs l))(hl:l.length≤9223372036854775807):
 Calls Tryz.prog 24 #[.slice A l.length capA,.slice B l.length capB] w fun e w'=>e= .returned (.bool true)∧Below w.heap.size w w':=by
 have HA:=q6q ha;have HBb:=q6q hb;clear ha hb;go_enter Tryz.func24,Tryz.ntmps24;go_wp2;go_loopw [5] (fun i wr=>∃k:Nat,k≤l.length∧i= .int .i64 k∧Hid (Below w.heap.size w wr)) (fun i _=>l.length - (intOf i).toNat)
 case atStart=>exact⟨0,Nat.zero_le _,rfl,q6q (Below.refl _ _)⟩
 case round=>
  obtain⟨k,hk,rfl,HB⟩:=hrel;by_cases hlt:k<l.length
  ·obtain⟨b,o,hBe,hbb,hc1⟩:=HA.out.at k (by rw[qcx];exact hlt)
   obtain⟨b2,o2,hBe2,hbb2,hc2⟩:=HBb.out.at k (by rw[qcx];exact hlt);subst hBe hBe2;have g0:=(HB.out.cell (p:=⟨b,o+k,none⟩) hbb).trans (hc1 k _ (qc5 hlt));have e0:=(HB.out.cell (p:=⟨b2,o2+k,none⟩) hbb2).trans (hc2 k _ (qc5 hlt));obtain⟨c,hcc⟩:∃c,l[k]=c:=⟨_,rfl⟩;rw[hcc] at g0 e0;have hkl:(k:Int)<(l.length:Int):=by omega
   clear hcc hc1 hc2;go_upto_region 6 with fail;go_region
   go_wp2;go_roundw
   case rel=>exact⟨k+1,by omega,by go_num,q6q (qnv HB.out)⟩
   case measure=>simp[intOf];omega
  ·obtain rfl:k=l.length:=by omega
   go_wp2;go_ret;exact⟨rfl,HB.out⟩
theorem qry(ts:List (List UInt8))(l:List Ent)(x:List UInt8)(A1 A2 B1 B2:Option Addr)(a1 a2 b1 b2:Nat)(w:World)(hA1:Rd w A1 (strs ts))(hA2:Rd w A2 (strs ts))(hB1:Rd w B1 (ents l))(hB2:Rd w B2 (ents l))(ht:ts.length≤9223372036854775807)(hl:l.length≤9223372036854775807):
 Calls Tryz.prog 10 #[.agg #[.slice A1 ts.length a1,.string (S x),.slice B1 l.length b1],.agg #[.slice A2 ts.length a2,.string (S x),.slice B2 l.length b2]] w fun e w'=>e= .returned (.bool true)∧Below w.heap.size w w':=by
 have HT:=q6q (fun (wx:World) (hb:Below w.heap.size w wx)=>qyt ts A1 A2 a1 a2 wx (hA1.below hb) (hA2.below hb) ht);have HE:=q6q (fun (wx:World) (hb:Below w.heap.size w wx)=>qyu l B1 B2 b1 b2 wx (hB1.below hb) (hB2.below hb) hl);have hb0:Below w.heap.size w ((w.alloc (.cells #[.slice A1 ts.length a1,.string (S x),.slice B1 l.length b1] 32)).alloc (.cells #[.slice A2 ts.length a2,.string (S x),.slice B2 l.length b2] 32)):=((Below.refl _ _).alloc (Nat.le_refl _) _).alloc (by simp) _;have k1:=Go.heap_alloc_new w (.cells #[.slice A1 ts.length a1,.string (S x),.slice B1 l.length b1] 32)
 have k2:=Go.heap_alloc_new (w.alloc (.cells #[.slice A1 ts.length a1,.string (S x),.slice B1 l.length b1] 32)) (.cells #[.slice A2 ts.length a2,.string (S x),.slice B2 l.length b2] 32);have k1':=(((Below.refl _ (w.alloc (.cells #[.slice A1 ts.length a1,.string (S x),.slice B1 l.length b1] 32))).alloc (Nat.le_refl _) (.cells #[.slice A2 ts.length a2,.string (S x),.slice B2 l.length b2] 32)).block _ (q6s k1).1).trans k1;rw[show(w.alloc (.cells #[.slice A1 ts.length a1,.string (S x),.slice B1 l.length b1] 32)).heap.size=w.heap.size+1 by simp] at k2;clear hA1 hA2 hB1 hB2 k1;go_enter Tryz.func10,Tryz.ntmps10;go_upto_region 1 with fail
 generalize (w.alloc (.cells #[.slice A1 ts.length a1,.string (S x),.slice B1 l.length b1] 32)).alloc (.cells #[.slice A2 ts.length a2,.string (S x),.slice B2 l.length b2] 32)=w1 at hb0 k1' k2 ⊢;have HB0:=q6q hb0;have HK1:=q6q k1';have HK2:=q6q k2;obtain⟨c0,c1,c2,_,_,_⟩:=qbj k1';obtain⟨d0,d1,d2,_,_,_⟩:=qbj k2;clear hb0 k1' k2;go_wp2_with fail;refine(HT.out _ HB0.out).mono ?_;rintro e w2 ⟨rfl,hb2⟩;have HB2:=q6q (HB0.out.trans (hb2.mono HB0.out.size));have k1':=(hb2.block _ (q6s HK1.out).1).trans HK1.out;have k2:=(hb2.block _ (q6s HK2.out).1).trans HK2.out;have HL1:=q6q k1';have HL2:=q6q k2;clear c0 c1 c2 d0 d1 d2;obtain⟨c0,c1,c2,_,_,_⟩:=qbj k1'
 obtain⟨d0,d1,d2,_,_,_⟩:=qbj k2;clear hb2 k1' k2;go_wp2_with fail;refine(HE.out _ HB2.out).mono ?_;rintro e w3 ⟨rfl,hb3⟩;have HB3:=q6q (HB2.out.trans (hb3.mono HB2.out.size));have k1':=(hb3.block _ (q6s HL1.out).1).trans HL1.out;have k2:=(hb3.block _ (q6s HL2.out).1).trans HL2.out;clear c0 c1 c2 d0 d1 d2;obtain⟨c0,c1,c2,_,_,_⟩:=qbj k1';obtain⟨d0,d1,d2,_,_,_⟩:=qbj k2;clear hb3 k1' k2;go_wp2;go_ret;exact⟨rfl,HB3.out⟩
theorem q2k{st:List StageG}(h:st.length=1):qc1 st=[0]:=by
 have hr:Reach st 0:=by have:=Reach.last (st:=st) (by intro e;rw[e] at h;cases h);rwa [h] at this
 unfold qc1;rw[h];simp[List.range_succ,hr]
def qtx:List UInt8:=[70,82,79,77,32,115,99,114,97,116,99,104,10,77,75,68,73,82,32,97,47,98,10]
theorem qtw:∃st f,qa8 qtx= .ok st∧st.length=1∧(qcu [] st [0] (fun _=>none)).map (fun M=>(M 0).getD noX)= .ok ([⟨[97],1,493,[]⟩,⟨[97,47,98],1,493,[]⟩],f,[])∧(qb4 st).length≤1500:=
 ⟨(match qa8 qtx with|.ok st=>st|.error _=>[]),fun _=>none,by kernel_rfl,by kernel_rfl,by kernel_rfl,of_decide_eq_true (by kernel_rfl)⟩
theorem qv9:∃f,qi6 [] qtx= .ok ([⟨[97],1,493,[]⟩,⟨[97,47,98],1,493,[]⟩],f,[]):=by
 obtain⟨st,f,h1,h2,h3,h4⟩:=qtw;refine⟨f,?_⟩;unfold qi6;rw[h1];show qim [] st=_
 unfold qim;rw[q2k h2,h2];cases hs:qcu [] st [0] (fun _=>none) with
 |error e=>rw[hs] at h3;cases h3
 |ok M=>rw[hs] at h3;exact h3
theorem qzw(w:World)(hg:ErrT w)(hord:Ord w)(hS:Std w)(hE:NumE w)(hT:Tz w):
 Calls Tryz.prog 5 #[] w fun e w'=>e= .returned (.bool true)∧Below w.heap.size w w':=by
 obtain⟨f,hf⟩:=qv9;have h0:First (qcw []) ([]:List Ent).length (-1):=.inr ⟨rfl,fun i hi=>by simp at hi⟩;have HM:=q6q (qm5 qtx [] none 0 w (by decide) hg hord hS (.inl rfl) (by decide) (by simp) (qv0 h0).2 h0 hE hT (by decide) (by simp) (fun st hst=>by
  obtain⟨st',f',h1,_,_,h4⟩:=qtw;rw[h1] at hst;cases hst;exact h4) _ hf)
 clear hg hord hS hE hT hf h0;go_enter Tryz.func5,Tryz.ntmps5;go_wp2_with fail;refine HM.out.mono ?_;rintro e w1 ⟨⟨v,A,c,ks,rfl,hrow,hnd,hks,ho⟩,hb1⟩;obtain⟨va,vc,rfl⟩:=qad ho;have hrd:Rd w1 va (ents [⟨[97],1,493,[]⟩,⟨[97,47,98],1,493,[]⟩]):=by
  obtain⟨A',c',hv,_,_,hrd⟩:=Rd.of_own ho;cases hv;exact hrd
 obtain⟨b,o,hAe,hbe,e0,e1,e2,e3⟩:=qgq hrd (Below.refl _ _) 1 (by simp);subst hAe;have HB1:=q6q hb1;clear hrow hnd hks ho hrd hb1 HM;replace e0:w1.cell? ⟨b,o+1*4,none⟩=some (.string (S [97,47,98])):=e0;replace e1:w1.cell? ⟨b,o+1*4+1,none⟩=some (.int .i64 1):=e1;replace e2:w1.cell? ⟨b,o+1*4+2,none⟩=some (.int .i64 493):=e2;replace e3:w1.cell? ⟨b,o+1*4+3,none⟩=some (.string (S [])):=e3;go_wp2;go_ret;exact⟨rfl,HB1.out.alloc HB1.out.size _⟩
theorem MakeOutY.form(h:MakeOutY w w' e R):∃(E:Option Addr) (k k2:Nat) (t:List UInt8) (A:Option Addr) (m c:Nat) (e1 n:Int),e= .returned (.tuple #[.agg #[.slice E k k2,.string (S t),.slice A m c],.int .i64 e1,.int .i64 n]):=by
 cases R with
 |error q=>obtain⟨k,a⟩:=q;exact⟨_,_,_,_,_,_,_,_,_,h⟩
 |ok q=>
  obtain⟨l,f,wk⟩:=q;obtain⟨v,A,c,ks,h,_,_,_,ho⟩:=h;obtain⟨va,vc,rfl⟩:=qad ho;exact⟨_,_,_,_,_,_,_,_,_,h⟩
theorem MakeOutY.base{w0:World}(h:MakeOutY w w' e R)(hs:w0.heap.size≤w.heap.size):MakeOutY w0 w' e R:=by
 cases R with
 |error q=>obtain⟨k,a⟩:=q;exact h
 |ok q=>obtain⟨l,f,wk⟩:=q;obtain⟨v,A,c,ks,h,hr,h1,h2,ho⟩:=h;exact⟨v,A,c,ks,h,qak hr hs,h1,h2,qak ho hs⟩
theorem MakeOutY.setB(h:MakeOutY w w' e R)(a:Addr)(x:Value)(ha:a.block<w.heap.size):MakeOutY w (w'.setCell a x) e R:=by
 cases R with
 |error q=>obtain⟨k,a⟩:=q;exact h
 |ok q=>obtain⟨l,f,wk⟩:=q;obtain⟨v,A,c,ks,h,hr,h1,h2,ho⟩:=h;exact⟨v,A,c,ks,h,ownsRow_setCell_below hr ha x,h1,h2,ownsRow_setCell_below ho ha x⟩
theorem MakeOutY.after{w2:World}(h:MakeOutY w w' e R)(hb:Below w'.heap.size w' w2):MakeOutY w w2 e R:=by
 cases R with
 |error q=>obtain⟨k,a⟩:=q;exact h
 |ok q=>obtain⟨l,f,wk⟩:=q;obtain⟨v,A,c,ks,h,hr,h1,h2,ho⟩:=h;exact⟨v,A,c,ks,h,qac hr hb,h1,h2,qac ho hb⟩
theorem qza{base:Nat}{e:TypeId}{size:Nat}{v:Value}{n:Nat}{xs:List Value}(h:w.ownsRow base e size v n xs):n≤9223372036854775807:=by
 obtain⟨_,⟨_,rfl⟩|⟨g,cap,cur,_,_,_,h1,h2,_⟩⟩:=h
 ·omega
 ·unfold maxLen at h2;omega
theorem qwb{u u':World}{E E' A A':Option Addr}{k k2 k' k2' m c m' c':Nat}{t t':List UInt8}{e1 n e1' n':Int}{R':Except (Int×Nat) StX}
 (h:MakeOutY w w' (.returned (.tuple #[.agg #[.slice E k k2,.string (S t),.slice A m c],.int .i64 e1,.int .i64 n])) R)
 (h':MakeOutY u u' (.returned (.tuple #[.agg #[.slice E' k' k2',.string (S t'),.slice A' m' c'],.int .i64 e1',.int .i64 n'])) R')(hR:errX R'=errX R):
 e1'=e1∧∃(ts:List (List UInt8)) (l:List Ent),t'=t∧k=ts.length∧k'=ts.length∧m=l.length∧m'=l.length∧Rd w' E (strs ts)∧Rd u' E' (strs ts)∧Rd w' A (ents l)∧Rd u' A' (ents l)∧ts.length≤9223372036854775807∧l.length≤9223372036854775807:=by
 rcases R with⟨a,p⟩|⟨l,f,wk⟩
 ·rcases R' with⟨a',p'⟩|⟨l',f',wk'⟩
  ·have hk:a'=a:=by simpa[errX] using hR
   have h1:Ending.returned _=Ending.returned _:=h;have h2:Ending.returned _=Ending.returned _:=h';simp only[Ending.returned.injEq,Value.tuple.injEq,Array.mk.injEq,List.cons.injEq,Value.agg.injEq,Value.slice.injEq,Value.int.injEq,Value.string.injEq,true_and,and_true] at h1 h2;obtain⟨⟨⟨rfl,rfl,rfl⟩,ht,rfl,rfl,rfl⟩,rfl,rfl⟩:=h1;obtain⟨⟨⟨rfl,rfl,rfl⟩,ht',rfl,rfl,rfl⟩,rfl,rfl⟩:=h2;exact⟨hk,[],[],by rw[qo1 ht,qo1 ht'],rfl,rfl,rfl,rfl,.inl rfl,.inl rfl,.inl rfl,.inl rfl,by simp,by simp⟩
  ·simp[errX] at hR
 ·rcases R' with⟨a',p'⟩|⟨l',f',wk'⟩
  ·simp[errX] at hR
  ·have hs:(l',f',wk')=(l,f,wk):=by simpa[errX] using hR
   cases hs;obtain⟨v,A0,c0,ks,he,hr,hn,hk,ho⟩:=h;obtain⟨v',A0',c0',ks',he',hr',hn',hk',ho'⟩:=h';simp only[Ending.returned.injEq,Value.tuple.injEq,Array.mk.injEq,List.cons.injEq,Value.agg.injEq,Value.slice.injEq,Value.int.injEq,Value.string.injEq,true_and,and_true] at he he';obtain⟨⟨⟨rfl,rfl,rfl⟩,ht,rfl⟩,rfl,rfl⟩:=he;obtain⟨⟨⟨rfl,rfl,rfl⟩,ht',rfl⟩,rfl,rfl⟩:=he';have hts:srtO (ks'.map (envS f))=srtO (ks.map (envS f)):=qva hn' hn (fun x=>(hk' x).trans (hk x).symm);have hl:∀q:List (List UInt8),(srtO (q.map (envS f))).length=q.length:=fun q=>by rw[qtp,List.length_map]
   obtain⟨A1,q1,e1,_,_,r1⟩:=Rd.of_own hr;obtain⟨A2,q2,e2,_,_,r2⟩:=Rd.of_own hr';obtain⟨A3,q3,e3,_,_,r3⟩:=Rd.of_own ho;obtain⟨A4,q4,e4,_,_,r4⟩:=Rd.of_own ho';cases e1;cases e2;cases e3;cases e4
   exact⟨rfl,srtO (ks.map (envS f)),l,by rw[qo1 ht,qo1 ht'],(hl ks).symm,by rw[←hts];exact(hl ks').symm,rfl,rfl,r1,by rw[←hts];exact r2,r3,r4,by rw[hl];exact qza hr,qza ho⟩
theorem q2p(s:List UInt8)(l:List Ent)(hok:RawOk 17 l)(hM:∀st,qa8 s= .ok st→(qb4 st).length≤1500)(hs:s.length≤maxLen)(w:World)(hg:ErrT w)(hord:Ord w)(hS:Std w)(hE:NumE w)(hT:Tz w)(A:Option Addr)(cap:Nat)(hr:Rd w A (ents l)):
 Calls Tryz.prog 8 #[.string (S s),.slice A l.length cap] w fun e w'=>MakeOutY w w' e (qi6 l s)∧Below w.heap.size w w':=by
 have hl:=hok.len;have hL:=hok.lists;exact qm5 s l A cap w hs hg hord hS hr (by omega) (qsn hL) hL hok.first.1 hE hT (by omega) (fun e he=>by have:=qt4 (hL.each e he).2.2;omega) hM _ rfl
theorem qwt(s:List UInt8)(ls ts:List (Int×Int×Int×List UInt8))(A B:Option Addr)(ca cb:Nat)(w:World)(hs:s.length≤maxLen)(hS:Std w)(hT:Tz w)(hg:ErrT w)(hord:Ord w)(hE:NumE w)
 (hrl:Rd w A (qet ls))(hll:ls.length≤9223372036854775807)(hls:∀t∈ls,t.2.2.2.length≤9223372036854775807)(hli:∀t∈ls,(-9223372036854775808≤t.1∧t.1≤9223372036854775807)∧(-9223372036854775808≤t.2.1∧t.2.1≤9223372036854775807)∧(-9223372036854775808≤t.2.2.1∧t.2.2.1≤9223372036854775807))
 (hrt:Rd w B (qet ts))(htl:ts.length≤9223372036854775807)(hts:∀t∈ts,t.2.2.2.length≤9223372036854775807)(hti:∀t∈ts,(-9223372036854775808≤t.1∧t.1≤9223372036854775807)∧(-9223372036854775808≤t.2.1∧t.2.1≤9223372036854775807)∧(-9223372036854775808≤t.2.2.1∧t.2.2.1≤9223372036854775807)):
 Calls Tryz.prog 3 #[.string (S s),.slice A ls.length ca,.slice B ts.length cb] w fun e w'=>e= .returned (.bool true)∧Below w.heap.size w w':=by
 have HMn:=q6q (qzw w hg hord hS hE hT);have HTx:=q6q (fun (wx:World) (hb:Below w.heap.size w wx)=>rawText_anyX ls A ca wx (hrl.below hb) hll hls hli);have HTr:=q6q (fun (wx:World) (hb:Below w.heap.size w wx)=>rawTree_eqX ts B cb wx (hrt.below hb) htl hts hti);obtain⟨l,hl⟩:∃l,rawF ts qa6 0 []=l:=⟨_,rfl⟩;rw[hl] at HTr;have HPa:=q6q (fun (x:List UInt8) (hx:x.length≤maxLen) (wx:World) (hb:Below w.heap.size w wx)=>qww x wx hx (hg.below hb) (hord.after hb))
 have HMk:=q6q (fun (x:List UInt8) (hx:x.length≤maxLen) (hM:∀st,qa8 x= .ok st→(qb4 st).length≤1500) (hok:RawOk 17 l) (wx:World) (hb:Below w.heap.size w wx) (A:Option Addr) (cap:Nat) (hr:Rd wx A (ents l))=>q2p x l hok hM hx wx (hg.below hb) (hord.after hb) (hS.below hb) (hE.below hb) (hT.below hb) A cap hr);clear hS hT hg hord hE hrl hll hls hli hrt htl hts hti hl;have Hs:=q6q hs;clear hs;go_enter Tryz.func3,Tryz.ntmps3;go_wp2_with fail;refine HMn.out.mono ?_;rintro e w1 ⟨rfl,hb1⟩;have HB1:=q6q hb1;clear hb1;go_wp2_with fail;refine(HTx.out _ HB1.out).mono ?_;rintro e w2 ⟨⟨t,rfl,ht⟩,hb2⟩;have HB2:=q6q (HB1.out.trans (hb2.mono HB1.out.size))
 have Ht:=q6q ht;clear hb2 ht HB1 HMn HTx;go_upto_region 5 with fail;have hk:=Go.heap_alloc_new w2 (.cells #[.string (S s),.string (S t)] tStr);have hb3:Below w2.heap.size w2 (w2.alloc (.cells #[.string (S s),.string (S t)] tStr)):=(Below.refl _ _).alloc (Nat.le_refl _) _;obtain⟨g0,hg0⟩:∃g0,w2.heap.size=g0:=⟨_,rfl⟩;obtain⟨w3,hw3⟩:∃w3,w2.alloc (.cells #[.string (S s),.string (S t)] tStr)=w3:=⟨_,rfl⟩;rw[show w2.alloc (.cells #[.string (S s),.string (S t)] 9)=w3 from hw3];rw[hw3] at hk hb3;rw[hg0] at hk ⊢;have HB3:=q6q (HB2.out.trans (hb3.mono HB2.out.size));have HK:=q6q hk;have hgl:=(q6s hk).1;clear hw3 hk hb3 hg0 HB2;go_wp2
 go_loopw [9] (fun vi wr=>∃i:Nat,i≤2∧vi= .int .i64 i∧Hid (Below w3.heap.size w3 wr)) (fun vi _=>2 - (intOf vi).toNat)
 case atStart=>exact⟨0,by omega,rfl,q6q (Below.refl _ _)⟩
 case round=>
  obtain⟨i,hi,rfl,HB⟩:=hrel;have HBw:=q6q (HB3.out.trans (HB.out.mono HB3.out.size));by_cases hlt:i<2
  ·obtain⟨x,hx,HX⟩:∃x,wr.cell? ⟨g0,i,none⟩=some (.string (S x))∧Hid (x.length≤maxLen):=by
    have hk:=(HB.out.block g0 hgl).trans HK.out;rcases(show i=0∨i=1 by omega) with rfl|rfl
    ·exact⟨s,by rw[cell_of_row _ _ _ _ _ _ hk];rfl,Hs⟩
    ·exact⟨t,by rw[cell_of_row _ _ _ _ _ _ hk];rfl,q6q (by have:=Ht.out;unfold maxLen;omega)⟩
   have hil:(i:Int)<2:=by omega
   go_wp2_with fail;refine(HPa.out x HX.out _ HBw.out).mono ?_;rintro e w4 ⟨ho,hb4⟩;have HB4:=q6q (HB.out.trans (hb4.mono HB.out.size));have hx4:=(hb4.cell (p:=⟨g0,i,none⟩) (q6r _ _ hx)).trans hx;clear hb4 hx;cases hp:qa8 x with
   |error q=>
    obtain⟨f,n⟩:=q;rw[hp] at ho;have ho:e=_:=ho;subst ho;have hf:=qvw hp;have hf1:((f:Int) != 0)=true:=by simpa using hf
    clear hp hf;go_wp2;go_roundw
    case rel=>exact⟨i+1,by omega,by go_num,HB4⟩
    case measure=>simp[intOf];omega
   |ok st=>
    rw[hp] at ho;have ho:e=_:=ho;subst ho;by_cases hn:(qb4 st).length≤1500
    ·obtain⟨st',hp',he⟩:=qsf hp hn
     have ht':=qu1 he;have HP:=q6q hp;have HP':=q6q hp';have HT':=q6q ht';have HE':=q6q he;obtain⟨y,hy⟩:∃y,qb4 st=y:=⟨_,rfl⟩;rw[hy] at hn HP' HT' ⊢;clear hp hp' ht' he;have hn2:¬(1500:Int)<(y.length:Int):=by omega
     have HBq:=q6q (HB3.out.trans (HB4.out.mono HB3.out.size));go_wp2_with fail;refine(HPa.out y (by unfold maxLen;omega) _ HBq.out).mono ?_;rintro e w5 ⟨ho5,hb5⟩;rw[HP'.out] at ho5;have ho5:e= .returned (.tuple #[.string (S (qb4 st')),.int .i64 0,.int .i64 (-1)]):=ho5;rw[HT'.out] at ho5;subst ho5;have HB5:=q6q (HB4.out.trans (hb5.mono HB4.out.size));have hx5:=(hb5.cell (p:=⟨g0,i,none⟩) (q6r _ _ hx4)).trans hx4;clear hb5 hx4;go_upto_region 11 with fail;have hg5:g0<w5.heap.size:=q6r _ _ hx5;have HBr:=q6q (HB3.out.trans (HB5.out.mono HB3.out.size))
     have HMx:Hid (∀st,qa8 x= .ok st→(qb4 st).length≤1500):=q6q (fun st2 h=>by rw[HP.out] at h;cases h;rw[hy];exact hn);have HIm:=q6q hy;clear hy;go_cut [16,17,18] (fun v1 v2 v3 wx=>∃(gi:Nat) (E A:Option Addr) (k k2 m c:Nat) (tx:List UInt8) (e n:Int),v1= .pointer (some ⟨gi,0,none⟩)∧v2= .int .i64 e∧v3= .int .i64 n∧w5.heap.size≤gi∧Hid (wx.heap[gi]? =some (.cells #[.slice E k k2,.string (S tx),.slice A m c] 32 (0,0)))∧Hid (MakeOutY w5 wx (.returned (.tuple #[.agg #[.slice E k k2,.string (S tx),.slice A m c],.int .i64 e,.int .i64 n])) (qi6 l x))∧Hid (Below w5.heap.size w5 wx)∧Hid (RawOk 17 l))
     case first=>
      have t0:Below w5.heap.size w5 w5.drew:=qbi (Below.refl _ _);have t1:∀o,Below w5.heap.size w5 (w5.alloc o).drew:=fun o=>qbi ((Below.refl _ _).alloc (Nat.le_refl _) o)
      have ne1:g0≠w5.heap.size:=by omega
      have ne1b:w5.heap.size≠g0:=Ne.symm ne1;go_region_held3 (fun w'=>w'.cell? ⟨g0,i,none⟩=some (.string (S x))) (go_keep) (first
       |(go_at_call 9;refine(HTr.out _ (by first|exact HBr.out.trans (t0.mono HBr.out.size)|exact HBr.out.trans ((t1 _).mono HBr.out.size))).mono ?_;rintro e6 w6 ⟨v6,rfl,hown6,hok6,hb6⟩;obtain⟨A6,cap6,hv6,_,_,hr6⟩:=Rd.of_own hown6;subst hv6;have HR6:=q6q hr6;have HOk:=q6q hok6;have hbw:Below w5.heap.size w5 w6:=(by first|exact t0.trans (hb6.mono t0.size)|exact(t1 _).trans (hb6.mono (t1 _).size));have HB6:=q6q hbw;have hz6:=hbw.size;have ne6:g0≠w6.heap.size:=(by omega);have ne6b:w6.heap.size≠g0:=Ne.symm ne6;have k60:=(hbw.cell (p:=⟨g0,i,none⟩) hg5).trans hx5;(first|(have hk6:w6.heap[w5.heap.size]? =some (.cells #[.slice none 0 0,.string (S []),.slice none 0 0] 32 (0,0)):=(hb6.block _ (by simp)).trans (show(w5.alloc (.cells #[.slice none 0 0,.string (S []),.slice none 0 0] 32)).heap[w5.heap.size]? =_ from Go.heap_alloc_new w5 _);have hl6:=(q6s hk6).1)|skip);clear hown6 hok6 hr6 hb6 hbw)
       |(go_at_call 8;refine(HMk.out x HX.out HMx.out HOk.out _ (by first|exact HBr.out.trans (HB6.out.mono HBr.out.size)|exact(HBr.out.trans (HB6.out.mono HBr.out.size)).alloc (Nat.le_trans HBr.out.size HB6.out.size) _) _ _ (by first|exact HR6.out|exact HR6.out.below ((Below.refl _ _).alloc (Nat.le_refl _) _))).mono ?_;rintro e7 w7 ⟨ho7,hb7⟩;obtain⟨iE,ik,ik2,it,ia,im,ic,e1,n1,rfl⟩:=ho7.form;have HO7:=q6q ho7;have hbw7:Below w5.heap.size w5 w7:=(by first|exact HB6.out.trans (hb7.mono HB6.out.size)|exact(HB6.out.alloc HB6.out.size _).trans (hb7.mono (by have:=HB6.out.size;simp;omega)));have HB7:=q6q hbw7;have k70:=(hbw7.cell (p:=⟨g0,i,none⟩) hg5).trans hx5;(first|(have hk7:w7.heap[w6.heap.size]? =some (.cells #[.slice none 0 0,.string (S []),.slice none 0 0] 32 (0,0)):=(hb7.block _ (by simp)).trans (show(w6.alloc (.cells #[.slice none 0 0,.string (S []),.slice none 0 0] 32)).heap[w6.heap.size]? =_ from Go.heap_alloc_new w6 _);obtain⟨d0,d1,d2,d3,d4,d5⟩:=qbj hk7;have hl7:=(q6s hk7).1)|(have hk7:w7.heap[w5.heap.size]? =some (.cells #[.slice none 0 0,.string (S []),.slice none 0 0] 32 (0,0)):=(hb7.block _ hl6).trans hk6;obtain⟨d0,d1,d2,d3,d4,d5⟩:=qbj hk7;have hl7:=(q6s hk7).1)|skip);clear ho7 hb7 hbw7))
      ·go_wp2
       go_meet
       refine⟨w7.heap.size,iE,ia,ik,ik2,im,ic,it,e1,n1,rfl,rfl,rfl,HB7.out.size,?_,?_,?_,HOk⟩
       ·exact q6q (Go.heap_alloc_new w7 _)
       ·exact q6q ((HO7.out.after ((Below.refl _ _).alloc (Nat.le_refl _) _)).base HB6.out.size)
       ·exact q6q (HB7.out.alloc HB7.out.size _)
      ·go_wp2
       go_meet
       have z1:w6.heap.size<(w6.alloc (.cells #[.slice none 0 0,.string (S []),.slice none 0 0] 32)).heap.size:=by rw[World.size_alloc];omega
       have z2:w5.heap.size≤(w6.alloc (.cells #[.slice none 0 0,.string (S []),.slice none 0 0] 32)).heap.size:=Nat.le_trans HB6.out.size (Nat.le_of_lt z1);refine⟨w6.heap.size,iE,ia,ik,ik2,im,ic,it,e1,n1,rfl,rfl,rfl,HB6.out.size,?_,?_,?_,HOk⟩
       ·exact q6q (heap_setCell_same _ w6.heap.size 2 _ _ _ (heap_setCell_same _ w6.heap.size 1 _ _ _ (heap_setCell_same w7 w6.heap.size 0 _ _ _ hk7)))
       ·exact q6q ((((HO7.out.setB ⟨w6.heap.size,0,none⟩ _ z1).setB ⟨w6.heap.size,1,none⟩ _ z1).setB ⟨w6.heap.size,2,none⟩ _ z1).base z2)
       ·exact q6q (((HB7.out.setCell (p:=⟨w6.heap.size,0,none⟩) HB6.out.size _).setCell (p:=⟨w6.heap.size,1,none⟩) HB6.out.size _).setCell (p:=⟨w6.heap.size,2,none⟩) HB6.out.size _)
      ·go_wp2
       go_meet
       refine⟨w5.heap.size,iE,ia,ik,ik2,im,ic,it,e1,n1,rfl,rfl,rfl,Nat.le_refl _,?_,?_,?_,HOk⟩
       ·exact q6q (heap_setCell_same _ w5.heap.size 2 _ _ _ (heap_setCell_same _ w5.heap.size 1 _ _ _ (heap_setCell_same w7 w5.heap.size 0 _ _ _ hk7)))
       ·exact q6q ((((HO7.out.setB ⟨w5.heap.size,0,none⟩ _ hl6).setB ⟨w5.heap.size,1,none⟩ _ hl6).setB ⟨w5.heap.size,2,none⟩ _ hl6).base HB6.out.size)
       ·exact q6q (((HB7.out.setCell (p:=⟨w5.heap.size,0,none⟩) (Nat.le_refl _) _).setCell (p:=⟨w5.heap.size,1,none⟩) (Nat.le_refl _) _).setCell (p:=⟨w5.heap.size,2,none⟩) (Nat.le_refl _) _)
     case rest=>
      obtain⟨gi,iE,ia,ik,ik2,im,ic,it,ie,inn,rfl,rfl,rfl,hgi,HKi,HMo,HB6,HOk⟩:=hcut;go_upto_region 12 with fail;have HBc:=q6q (HBr.out.trans (HB6.out.mono HBr.out.size));have HMy:Hid (∀st2,qa8 y= .ok st2→(qb4 st2).length≤1500):=q6q (fun st2 h=>by rw[HP'.out] at h;cases h;rw[HT'.out];exact hn);have HEx:Hid (errX (qi6 l y)=errX (qi6 l x)):=q6q (by
       have e1:qi6 l y=qim l st':=by unfold qi6;rw[HP'.out]
       have e2:qi6 l x=qim l st:=by unfold qi6;rw[HP.out]
       rw[e1,e2];exact qwc l HE'.out)
      clear HMx;go_wp2_with fail;refine(HTr.out _ HBc.out).mono ?_;rintro e8 w8 ⟨v8,rfl,hown8,hok8,hb8⟩;obtain⟨A8,cap8,hv8,_,_,hr8⟩:=Rd.of_own hown8;subst hv8;have HR8:=q6q hr8;have HB8:=q6q (HBc.out.trans (hb8.mono HBc.out.size));have HL8:=q6q (HB6.out.trans (hb8.mono HB6.out.size));have HKi8:=q6q ((hb8.block gi (q6s HKi.out).1).trans HKi.out);have HMo8:=q6q (HMo.out.after hb8);clear hown8 hok8 hr8 hb8 HKi HMo HBc HB6 hgi;go_wp2_with fail;refine(HMk.out y (by unfold maxLen;omega) HMy.out HOk.out _ HB8.out _ _ HR8.out).mono ?_;rintro e9 w9 ⟨ho9,hb9⟩;obtain⟨jE,jk,jk2,jt,ja,jm,jc,e2,n2,rfl⟩:=ho9.form;have HL9:=q6q (HL8.out.trans (hb9.mono HL8.out.size))
      have HKi9:=q6q ((hb9.block gi (q6s HKi8.out).1).trans HKi8.out);have HMo9:=q6q (HMo8.out.after hb9);have HN9:=q6q ho9;clear ho9 hb9 HKi8 HMo8 HR8 HL8 HB8 HMy;go_upto_region 13 with fail;have hk9:=Go.heap_alloc_new w9 (.cells #[.slice jE jk jk2,.string (S jt),.slice ja jm jc] 32);have hba:Below w9.heap.size w9 (w9.alloc (.cells #[.slice jE jk jk2,.string (S jt),.slice ja jm jc] 32)):=(Below.refl _ _).alloc (Nat.le_refl _) _;trace_state
      generalize w9.alloc (.cells #[.slice jE jk jk2,.string (S jt),.slice ja jm jc] 32)=wA at hk9 hba ⊢;obtain⟨he,ts',l',ht,hk1,hk2,hm1,hm2,r1,r2,r3,r4,q1,q2⟩:=qwb (HMo9.out.after hba) (HN9.out.after hba) HEx.out;subst he ht hk1 hk2 hm1 hm2;obtain⟨c0,c1,c2,_,_,_⟩:=qbj ((hba.block gi (q6s HKi9.out).1).trans HKi9.out);obtain⟨d0,d1,d2,_,_,_⟩:=qbj hk9;have HLA:=q6q (HL9.out.trans (hba.mono HL9.out.size));have HSm:=q6q (qry ts' l' jt iE jE ia ja ik2 jk2 ic jc wA r1 r2 r3 r4 q1 q2);clear hk9 hba r1 r2 r3 r4 q1 q2 HKi9 HMo9 HN9 HL9 HEx;go_wp2_with fail;refine HSm.out.mono ?_;rintro eA wB ⟨rfl,hbB⟩;have HLB:=q6q (HLA.out.trans (hbB.mono HLA.out.size))
      clear hbB;go_wp2;go_roundw
      case rel=>exact⟨i+1,by omega,by go_num,q6q (HB5.out.trans (HLB.out.mono HB5.out.size))⟩
      case measure=>simp[intOf];omega
    ·have hn2:(1500:Int)<((qb4 st).length:Int):=by omega
     go_wp2;go_roundw
     case rel=>exact⟨i+1,by omega,by go_num,HB4⟩
     case measure=>simp[intOf];omega
  ·obtain rfl:i=2:=by omega
   go_wp2;go_ret;exact⟨rfl,HBw.out⟩
end Go.Proofs.YtikdblkfjchjbaaGreatDoor
