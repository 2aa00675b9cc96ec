import Derived.Test.YtikdblkfjchjbaaGreatDoorY08
import Derived.Test.YtikdblkfjchjbaaGreatDoorY15
set_option linter.unusedVariables false
set_option linter.unusedSimpArgs false
set_option maxHeartbeats 16000000
set_option maxRecDepth 100000
namespace Go.Proofs.YtikdblkfjchjbaaGreatDoor
open Go.RowKit
variable{w w' a w2:World}{B c k g gw p H gb lo hi n c' b lo' hi':Nat}{s:List UInt8}{ao A ao':Option Addr}{sv vv:Value}{G:Nat→Prop}{y x:StageG}{cs0 scs:List Value}{l:List StageG}{v:Int}{e:TypeId}
theorem qaf(e p:Int)(w:World):
 Calls Tryz.prog 43 #[.int .i64 e,.int .i64 p] w fun r w'=>r= .panicked [{v:=.iface 80 (.pointer (some ⟨w.heap.size,0,none⟩)),recovered:=false}]∧w'=w.alloc (.cells #[.int .i64 e,.int .i64 p] 84):=by
 go_enter Tryz.func43,Tryz.ntmps43;go_wp2;exact⟨rfl,rfl,rfl⟩
theorem qdx(s:List UInt8)(w:World)(hs:s.length≤2000000000):
 Calls Tryz.prog 149 #[.string (S s)] w fun e w'=>e= .returned (.int .i64 (qbr s))∧w=w':=by
 go_enter Tryz.func149,Tryz.ntmps149;go_wp2;go_loop [3] (fun i=>∃k:Nat,k≤s.length∧i= .int .i64 k∧Hid (∀j,j<k→okG s j=true)) (fun i=>s.length - (intOf i).toNat)
 case atStart=>exact⟨0,by omega,rfl,by intro j hj;omega⟩
 case round=>
  obtain⟨k,hk,rfl,hall⟩:=hrel;by_cases hlt:k<s.length
  ·have hL:=qll s[k]
   have hT:=qpk s[k];have ho:=q53 s k hlt;cases hok:okG s k
   ·have HA:=q6q (qqm s k (by omega) hall.out hok)
    rw[hok] at ho;have hn:¬(65≤(s[k].toNat:Int)∧(s[k].toNat:Int)≤90)∧(0<k→¬((48≤(s[k].toNat:Int)∧(s[k].toNat:Int)≤57)∨(s[k].toNat:Int)=95)):=by
     split at ho
     ·exact⟨fun h=>(by rw[hL.2 h] at ho;cases ho),by omega⟩
     ·exact⟨fun h=>(by rw[hT.2 (.inl h)] at ho;cases ho),fun _ h=>(by rw[hT.2 (.inr h)] at ho;cases ho)⟩
    obtain⟨n1,n2⟩:=hn;clear hok ho hL hT hall;go_wp2
    all_goals first
     |(go_ret;exact⟨qdv (by rw[HA.out]),rfl⟩)
     |(exfalso;simp only[Bool.not_eq_true',Bool.not_eq_false',bne_iff_ne,bne_eq_false_iff_eq,beq_iff_eq,beq_eq_false_iff_ne,decide_eq_true_eq,decide_eq_false_iff_not,ne_eq] at*;omega)
   ·have HA:=q6q (show ∀j,j<k+1→okG s j=true by
     intro j hj;rcases Nat.lt_or_ge j k with h|h
     ·exact hall.out j h
     ·obtain rfl:j=k:=by omega
      exact hok)
    rw[hok] at ho;have hn:(65≤(s[k].toNat:Int)∧(s[k].toNat:Int)≤90)∨(0<k∧((48≤(s[k].toNat:Int)∧(s[k].toNat:Int)≤57)∨(s[k].toNat:Int)=95)):=by
     split at ho
     ·exact .inl (hL.1 ho.symm)
     ·rcases hT.1 ho.symm with h|h
      ·exact .inl h
      ·exact .inr ⟨by omega,h⟩
    clear hok ho hL hT hall;go_wp2
    all_goals first
     |(go_round;(case rel=>exact⟨k+1,by omega,by go_num,HA⟩);(case measure=>simp[intOf];omega))
     |(exfalso;simp only[Bool.not_eq_true',Bool.not_eq_false',bne_iff_ne,bne_eq_false_iff_eq,beq_iff_eq,beq_eq_false_iff_ne,decide_eq_true_eq,decide_eq_false_iff_not,ne_eq] at*;omega)
  ·obtain rfl:k=s.length:=by omega
   have HA:=q6q (qqm s s.length (by omega) hall.out (q40 s));clear hall;go_wp2;go_ret;exact⟨qdv (by rw[HA.out]),rfl⟩
theorem q5z(c d:UInt8):((c.toNat:Int)==(d.toNat:Int))=(c==d):=by
 rw[Bool.eq_iff_iff,beq_iff_eq,beq_iff_eq];exact q1i.symm
def Lex(w:World)(g:Nat)(s:List UInt8)(k:Nat):Prop:=w.heap[g]? =some (Obj.cells #[.string (S s),.int .i64 k] 108 (0,0))
theorem Lex.blk2(h:Lex w g s k):Blk2 w g (.string (S s)) (.int .i64 k):=⟨_,h⟩
theorem qaz(s:List UInt8)(g k:Nat)(w:World)(hs:s.length≤2000000000)(hk:k≤s.length)(hx:Lex w g s k):
 Calls Tryz.prog 78 #[.pointer (some ⟨g,0,none⟩)] w fun e w'=>e= .returned (.bool (qa2 s k))∧∃m,w'=w.drewN m:=by
 obtain⟨c1,c2,c3,c4⟩:=hx.blk2.facts;clear hx;by_cases h:k<s.length
 ·have HS:=q6q (show qa2 s k=(s[k]==10) by simp[qa2,h])
  have hne:((k:Int)==(s.length:Int))=false:=by rw[beq_eq_false_iff_ne];omega
  go_enter Tryz.func78,Tryz.ntmps78;go_wp2;go_quiet (fail);go_wp2;go_ret;exact⟨qax (by rw[HS.out];exact q5z s[k] 10),_,rfl⟩
 ·obtain rfl:k=s.length:=by omega
  have HS:=q6q (show qa2 s s.length=true by simp[qa2]);have hne:((s.length:Int)==(s.length:Int))=true:=by simp
  go_enter Tryz.func78,Tryz.ntmps78;go_wp2;go_quiet (fail);go_wp2;go_ret;exact⟨qax (by rw[HS.out]),_,rfl⟩
theorem qd0(s p:List UInt8)(w:World):
 Calls Tryz.prog 67 #[.string (S s),.string (S p)] w fun e w'=>e= .returned (.bool (p.isPrefixOf s))∧w=w':=
 (Tryz.strings_HasPrefix (S s) (S p) w).mono fun e w' ⟨he,hw⟩=>⟨by rw[he,qc7,qc7];rfl,hw.symm⟩
theorem qsw(s p:List UInt8)(w:World):
 Calls Tryz.prog 67 #[.string (S s),.string (S p)] w fun e w'=>e= .returned (.bool (p.isPrefixOf s))∧w'=w:=
 (qd0 s p w).mono fun _ _ ⟨a,b⟩=>⟨a,b.symm⟩
theorem qqo(s:List UInt8)(k:Nat):[92,10].isPrefixOf (s.drop k)=qb0 s k:=by
 unfold qb0;rw[Bool.eq_iff_iff,List.isPrefixOf_iff_prefix,Bool.and_eq_true,beq_iff_eq,beq_iff_eq];constructor
 ·rintro⟨r,hr⟩
  have h0:(s.drop k)[0]? =some 92:=by rw[←hr];rfl
  have h1:(s.drop k)[1]? =some 10:=by rw[←hr];rfl
  rw[List.getElem?_drop] at h0 h1;exact⟨h0,h1⟩
 ·rintro⟨h0,h1⟩
  obtain⟨a0,b0⟩:=List.getElem?_eq_some_iff.1 h0;obtain⟨a1,b1⟩:=List.getElem?_eq_some_iff.1 h1;refine⟨s.drop (k+2),?_⟩;rw[List.drop_eq_getElem_cons a0,List.drop_eq_getElem_cons a1,b0,b1];rfl
theorem qbw(s:List UInt8)(g k:Nat)(w:World)(hs:s.length≤2000000000)(hk:k≤s.length)(hx:Lex w g s k):
 Calls Tryz.prog 119 #[.pointer (some ⟨g,0,none⟩)] w fun e w'=>e= .returned (.bool (qb0 s k))∧∃m,w'=w.drewN m:=by
 obtain⟨c1,c2,c3,c4⟩:=hx.blk2.facts;clear hx;have HG:=q6q (qqo s k);have hk1:(k:Int)≤(s.length:Int):=by omega
 have hk0:(0:Int)≤(k:Int):=by omega
 go_enter Tryz.func119,Tryz.ntmps119;go_wp2;go_quiet (exact Calls.quiet_of_same (qsw (s.drop k) [92,10] _));go_wp2;go_ret;exact⟨qax (by rw[←HG.out]),_,rfl⟩
structure Fr(G:Nat→Prop)(w w':World):Prop where
 os:w'.os=w.os
 tape:w'.tape=w.tape
 output:w'.output=w.output
 size:w.heap.size≤w'.heap.size
 block:∀k,k<w.heap.size→¬G k→w'.heap[k]? =w.heap[k]?
theorem Fr.refl(G:Nat→Prop)(w:World):Fr G w w:=⟨rfl,rfl,rfl,Nat.le_refl _,fun _ _ _=>rfl⟩
theorem Fr.trans{b c:World}(h:Fr G a b)(k:Fr G b c):Fr G a c:=
 ⟨k.os.trans h.os,k.tape.trans h.tape,k.output.trans h.output,Nat.le_trans h.size k.size,fun i hi hg=>(k.block i (Nat.lt_of_lt_of_le hi h.size) hg).trans (h.block i hi hg)⟩
theorem Fr.mono{G':Nat→Prop}(h:Fr G w w')(hG:∀k,k<w.heap.size→G k→G' k):Fr G' w w':=
 ⟨h.os,h.tape,h.output,h.size,fun k hk hg=>h.block k hk (fun e=>hg (hG k hk e))⟩
theorem Fr.below(h:Below w.heap.size w w'):Fr G w w':=⟨h.os,h.tape,h.output,h.size,fun k hk _=>h.block k hk⟩
theorem Fr.alloc(h:Fr G a w)(o:Obj):Fr G a (w.alloc o):=h.trans (Fr.below ((Below.refl _ _).alloc (Nat.le_refl _) o))
theorem Fr.drewN(h:Fr G a w)(n:Nat):Fr G a (w.drewN n):=⟨h.os,h.tape,h.output,h.size,h.block⟩
theorem Fr.drew(h:Fr G a w):Fr G a w.drew:=⟨h.os,h.tape,h.output,h.size,h.block⟩
theorem Fr.setCell(h:Fr G a w)(hg:g<a.heap.size→G g)(o:Nat)(u:Value):Fr G a (w.setCell ⟨g,o,none⟩ u):=
 ⟨h.os,h.tape,h.output,by rw[World.size_setCell];exact h.size,fun k hk hn=>by
  have hne:k≠g:=by rintro rfl;exact hn (hg hk)
  rw[heap_setCell_other w ⟨g,o,none⟩ k u hne];exact h.block k hk hn⟩
theorem Fr.grown{row:Option Nat}(h:Fr G a w)(hg:w.grownBy w' row)(hr:∀k,row=some k→k<a.heap.size→G k):Fr G a w':=
 ⟨hg.os.trans h.os,hg.tape.trans h.tape,hg.output.trans h.output,Nat.le_trans h.size hg.size,fun k hk hn=>by
  rw[hg.block k (Nat.lt_of_lt_of_le hk h.size) (fun e=>hn (hr k e.symm hk))];exact h.block k hk hn⟩
theorem Fr.toBelow(h:Fr G w w')(hB:B≤w.heap.size)(hG:∀k,G k→B≤k):Below B w w':=
 ⟨h.os,h.tape,h.output,h.size,fun k hk=>h.block k (Nat.lt_of_lt_of_le hk hB) (fun e=>by have:=hG k e;omega)⟩
theorem Fr.keepT{T:TypeId}(h:Fr G w w')(hG:∀k cur fz,G k→w.heap[k]? =some (Obj.cells cur T fz)→False):∀(g:Nat) (cur:Array Value),w.heap[g]? =some (Obj.cells cur T (0,0))→w'.heap[g]? =some (Obj.cells cur T (0,0)):=
 fun g cur e=>(h.block g (q6s e).1 (fun x=>hG g cur _ x e)).trans e
abbrev tLex:TypeId:=108
abbrev tAt:TypeId:=84
abbrev qc3:TypeId:=80
def Thrown(w w':World)(e:Ending)(f p:Int):Prop:=
 ∃n,e= .panicked [{v:=.iface qc3 (.pointer (some ⟨n,0,none⟩)),recovered:=false}]∧w.heap.size≤n∧w'.heap[n]? =some (Obj.cells #[.int .i64 f,.int .i64 p] tAt (0,0))
theorem Thrown.later{w0:World}{e:Ending}{f p:Int}(h:Thrown w0 w' e f p)(hs:w.heap.size≤w0.heap.size):Thrown w w' e f p:=by
 obtain⟨n,a,b,c⟩:=h;exact⟨n,a,Nat.le_trans hs b,c⟩
theorem Lex.set(h:Lex w g s k)(m:Nat):Lex (w.setCell ⟨g,1,none⟩ (.int .i64 m)) g s m:=heap_setCell_same w g 1 _ _ _ h
theorem Lex.fr(h:Lex w g s k)(hf:Fr G w w')(hg:¬G g):Lex w' g s k:=(hf.block g (q6s h).1 hg).trans h
theorem Lex.after(h:Lex w g s k)(hb:Below w.heap.size w w'):Lex w' g s k:=(hb.block g (q6s h).1).trans h
theorem Lex.lt(h:Lex w g s k):g<w.heap.size:=(q6s h).1
theorem Lex.drewN(h:Lex w g s k)(n:Nat):Lex (w.drewN n) g s k:=h
theorem Lex.alloc(h:Lex w g s k)(o:Obj):Lex (w.alloc o) g s k:=h.after ((Below.refl _ _).alloc (Nat.le_refl _) o)
theorem qlz(s p:List UInt8)(w:World):
 Calls Tryz.prog 148 #[.string (S s),.string (S p)] w fun e w'=>e= .returned (.tuple #[.string (S (if p.isPrefixOf s then s.drop p.length else s)),.bool (p.isPrefixOf s)])∧w'=w:=
 (Tryz.strings_CutPrefix (S s) (S p) w).mono fun e w' ⟨he,hw⟩=>⟨by rw[he,qc7,qc7];rfl,hw⟩
theorem qen(s p:List UInt8)(w:World)(h:p.isPrefixOf s=false):
 Calls Tryz.prog 148 #[.string (S s),.string (S p)] w fun e w'=>e= .returned (.tuple #[.string (S s),.bool false])∧w'=w:=by
 have:=qlz s p w;rw[h] at this;exact this
theorem qb5(s p:List UInt8)(w:World)(h:p.isPrefixOf s=true):
 Calls Tryz.prog 148 #[.string (S s),.string (S p)] w fun e w'=>e= .returned (.tuple #[.string (S (s.drop p.length)),.bool true])∧w'=w:=by
 have:=qlz s p w;rw[h] at this;exact this
theorem qka(s:List UInt8)(k:Nat)(c:UInt8):[c].isPrefixOf (s.drop k)=(s[k]? ==some c):=by
 rw[Bool.eq_iff_iff,List.isPrefixOf_iff_prefix,beq_iff_eq];constructor
 ·rintro⟨r,hr⟩
  have h0:(s.drop k)[0]? =some c:=by rw[←hr];rfl
  rwa [List.getElem?_drop] at h0
 ·intro h0
  obtain⟨a0,b0⟩:=List.getElem?_eq_some_iff.1 h0;exact⟨s.drop (k+1),by rw[List.drop_eq_getElem_cons a0,b0];rfl⟩
abbrev qa4:TypeId:=186
theorem qae(w:World)(o:Obj)(n:Nat)(h:w.heap.size=n):(w.alloc o).heap[n]? =some o:=by subst h;exact heap_alloc_new w o
theorem Lex.far{g':Nat}(h:Lex w g s k)(o:Nat)(u:Value)(hne:g≠g'):Lex (w.setCell ⟨g',o,none⟩ u) g s k:=by
 unfold Lex;rw[heap_setCell_other w ⟨g',o,none⟩ g u hne];exact h
def q5x(w w':World)(e:Ending)(g k:Nat)(s:List UInt8):Option (List UInt8×Nat)→Prop
 |none=>Thrown w w' e 5 k
 |some (x,n)=>e= .returned (.agg #[.string (S x),.bool true,.int .i64 k])∧Lex w' g s (k+n)
theorem qev(s:List UInt8)(g k:Nat)(w:World)(hs:s.length≤2000000000)(hk:k<s.length)(hx:Lex w g s k):
 Calls Tryz.prog 121 #[.pointer (some ⟨g,0,none⟩)] w fun e w'=>q5x w w' e g k s (varB s k)∧Fr (fun b=>b=g) w w':=by
 obtain⟨c1,c2,c3,c4⟩:=hx.blk2.facts;have hlt:=hx.lt;have HX:=q6q hx;have hk1:(k:Int)+1≤(s.length:Int):=by omega
 have hk0:(0:Int)≤(k:Int)+1:=by omega
 have hw1:IntKind.i64.wrap ((k:Int)+1)=(k:Int)+1:=by rw[IntKind.wrap_i64];omega
 have hw4:((k:Int)+1).toNat=k+1:=by omega
 have HP:=q6q (qka s (k+1) 123);clear hx;cases ho:([123].isPrefixOf (s.drop (k+1)))
 ·
  have H1:=q6q (show ¬s[k+1]? =some 123 by intro e;rw[HP.out,e] at ho;cases ho);obtain⟨n,hn⟩:∃n,n=qbr (s.drop (k+1)):=⟨_,rfl⟩;have hnl:n≤s.length - (k+1):=by rw[hn];have:=qfe (s.drop (k+1));simpa using this
  have HN:=q6q hn;have HV:=q6q (show varB s k=if n=0∨10<n then none else some ((s.drop (k+1)).take n,n+1) by unfold varB;rw[if_neg H1.out,←hn]);have HO:=q6q ho;clear hn ho HP;have hways:n=0∨10<n∨(0<n∧n≤10):=by omega
  rcases hways with h0|h0|⟨h0,h10⟩
  ·have Y:=q6q (show varB s k=none by rw[HV.out,if_pos (.inl h0)])
   have hN0:(n:Int)≤0:=by omega
   clear h0;go_enter Tryz.func121,Tryz.ntmps121;go_wp2;go_quiet (exact Calls.quiet_of_same (qen (s.drop (k+1)) [123] _ HO.out));go_wp2_with (first
    |(go_at_call 149;refine(qdx (s.drop (k+1)) _ (by simp only[List.length_drop];omega)).mono ?_;rintro e3 w3 ⟨rfl,rfl⟩;rw[←HN.out])
    |(go_at_call 43;refine(qaf 5 k _).mono ?_;rintro e5 w5 ⟨rfl,rfl⟩))
   refine⟨rfl,?_,?_⟩
   ·rw[Y.out]
    exact⟨_,rfl,by omega,qae _ _ _ (by simp)⟩
   ·exact(((Fr.refl (fun b=>b=g) w).alloc _).alloc _).drewN _ |>.alloc _
  ·have Y:=q6q (show varB s k=none by rw[HV.out,if_pos (.inr h0)])
   have hN0:(0:Int)<(n:Int):=by omega
   have hN1:decide ((n:Int)≤10)=false:=by rw[decide_eq_false_iff_not];omega
   clear h0;go_enter Tryz.func121,Tryz.ntmps121;go_wp2;go_quiet (exact Calls.quiet_of_same (qen (s.drop (k+1)) [123] _ HO.out));go_wp2_with (first
    |(go_at_call 149;refine(qdx (s.drop (k+1)) _ (by simp only[List.length_drop];omega)).mono ?_;rintro e3 w3 ⟨rfl,rfl⟩;rw[←HN.out])
    |(go_at_call 43;refine(qaf 5 k _).mono ?_;rintro e5 w5 ⟨rfl,rfl⟩))
   refine⟨rfl,?_,?_⟩
   ·rw[Y.out]
    exact⟨_,rfl,by omega,qae _ _ _ (by simp)⟩
   ·exact(((Fr.refl (fun b=>b=g) w).alloc _).alloc _).drewN _ |>.alloc _
  ·have Y:=q6q (show varB s k=some ((s.drop (k+1)).take n,n+1) by rw[HV.out,if_neg (by omega)])
   have hN0:(0:Int)<(n:Int):=by omega
   have hN1:(n:Int)≤10:=by omega
   go_enter Tryz.func121,Tryz.ntmps121;go_wp2;go_quiet (exact Calls.quiet_of_same (qen (s.drop (k+1)) [123] _ HO.out));go_wp2_with (first
    |(go_at_call 149;refine(qdx (s.drop (k+1)) _ (by simp only[List.length_drop];omega)).mono ?_;rintro e3 w3 ⟨rfl,rfl⟩;rw[←HN.out])
    |(go_at_call 43;refine(qaf 5 k _).mono ?_;rintro e5 w5 ⟨rfl,rfl⟩))
   refine bodyPost_ret (by simp[results,Tryz.results121,go_sem];try rfl) rfl ?_;refine⟨?_,?_⟩
   ·rw[Y.out]
    refine⟨rfl,?_⟩;have:=((((((HX.out.alloc (.cells #[.string (S []),.bool false,.int .i64 0] qa4)).alloc (.cells #[.string (S []),.bool true,.int .i64 k] qa4)).drewN nq).far (g':=w.heap.size+1) 0 (.string (S ((s.drop (k+1)).take n))) (by omega)).set (k+(n+1))).far (g':=w.heap.size) 0 (.string (S ((s.drop (k+1)).take n))) (by omega)).far (g':=w.heap.size) 1 (.bool true) (by omega) |>.far (g':=w.heap.size) 2 (.int .i64 k) (by omega)
    rw[show((k+(n+1):Nat):Int)=(k:Int)+(1+(n:Int)) by omega] at this;exact this
   ·exact((((((((Fr.refl (fun b=>b=g) w).alloc _).alloc _).drewN _).setCell (fun h=>by omega) _ _).setCell (fun _=>rfl) _ _).setCell (fun h=>by omega) _ _).setCell (fun h=>by omega) _ _).setCell (fun h=>by omega) _ _
 ·
  have H1:=q6q (show s[k+1]? =some 123 by have:=HP.out.symm.trans ho;simpa using this);obtain⟨n,hn⟩:∃n,n=qbr (s.drop (k+1+1)):=⟨_,rfl⟩;have hnl:n≤s.length - (k+1+1):=by rw[hn];have:=qfe (s.drop (k+1+1));simpa using this
  have HN:=q6q hn;have HO:=q6q ho;have HV:=q6q (show varB s k=if n=0∨10<n∨s[k+2+n]?≠some 125 then none else some ((s.drop (k+1+1)).take n,n+3) by unfold varB;rw[if_pos H1.out,hn]);have HB:=q6q (qka s (k+1+1+n) 125);clear hn ho HP;obtain⟨br,hbr⟩:∃v,[125].isPrefixOf (s.drop (k+1+1+n))=v:=⟨_,rfl⟩;have HBR:=q6q hbr;have HBR2:=q6q (show[125].isPrefixOf (List.take (s.length - (k+1+1) - n) (List.drop (k+1+1+n) s))=br by rw[List.take_of_length_le (by simp;omega)];exact hbr);have hways:n=0∨10<n∨(0<n∧n≤10):=by omega
  rcases hways with h0|h0|⟨h0,h10⟩
  ·have Y:=q6q (show varB s k=none by rw[HV.out,if_pos (.inl h0)])
   have hN0:(n:Int)≤0:=by omega
   clear h0 hbr;go_enter Tryz.func121,Tryz.ntmps121;go_wp2;go_quiet (exact Calls.quiet_of_same (qb5 (s.drop (k+1)) [123] _ HO.out));go_wp2_with (first
    |(go_at_call 149;refine(qdx (s.drop (k+1+1)) _ (by simp only[List.length_drop];omega)).mono ?_;rintro e3 w3 ⟨rfl,rfl⟩;rw[←HN.out])
    |(go_at_call 67;refine(qd0 _ [125] _).mono ?_;rintro e4 w4 ⟨rfl,rfl⟩;rw[HBR2.out])
    |(go_at_call 43;refine(qaf 5 k _).mono ?_;rintro e5 w5 ⟨rfl,rfl⟩))
   refine⟨rfl,?_,?_⟩
   ·rw[Y.out]
    exact⟨_,rfl,by omega,qae _ _ _ (by simp)⟩
   ·exact(((Fr.refl (fun b=>b=g) w).alloc _).alloc _).drewN _ |>.alloc _
  ·have Y:=q6q (show varB s k=none by rw[HV.out,if_pos (.inr (.inl h0))])
   have hN0:(0:Int)<(n:Int):=by omega
   have hN1:decide ((n:Int)≤10)=false:=by rw[decide_eq_false_iff_not];omega
   clear h0 hbr;go_enter Tryz.func121,Tryz.ntmps121;go_wp2;go_quiet (exact Calls.quiet_of_same (qb5 (s.drop (k+1)) [123] _ HO.out));go_wp2_with (first
    |(go_at_call 149;refine(qdx (s.drop (k+1+1)) _ (by simp only[List.length_drop];omega)).mono ?_;rintro e3 w3 ⟨rfl,rfl⟩;rw[←HN.out])
    |(go_at_call 67;refine(qd0 _ [125] _).mono ?_;rintro e4 w4 ⟨rfl,rfl⟩;rw[HBR2.out])
    |(go_at_call 43;refine(qaf 5 k _).mono ?_;rintro e5 w5 ⟨rfl,rfl⟩))
   refine⟨rfl,?_,?_⟩
   ·rw[Y.out]
    exact⟨_,rfl,by omega,qae _ _ _ (by simp)⟩
   ·exact(((Fr.refl (fun b=>b=g) w).alloc _).alloc _).drewN _ |>.alloc _
  ·have hN0:(0:Int)<(n:Int):=by omega
   have hN1:(n:Int)≤10:=by omega
   have hnl':(n:Int)≤(s.length - (k+1+1):Nat):=by omega
   cases br
   ·have Y:=q6q (show varB s k=none by
     rw[HV.out,if_pos (.inr (.inr (by intro e;rw[HB.out,show s[k+1+1+n]? =some 125 from e] at hbr;cases hbr)))])
    clear hbr;go_enter Tryz.func121,Tryz.ntmps121;go_wp2;go_quiet (exact Calls.quiet_of_same (qb5 (s.drop (k+1)) [123] _ HO.out));go_wp2_with (first
     |(go_at_call 149;refine(qdx (s.drop (k+1+1)) _ (by simp only[List.length_drop];omega)).mono ?_;rintro e3 w3 ⟨rfl,rfl⟩;rw[←HN.out])
     |(go_at_call 67;refine(qd0 _ [125] _).mono ?_;rintro e4 w4 ⟨rfl,rfl⟩;rw[HBR2.out])
     |(go_at_call 43;refine(qaf 5 k _).mono ?_;rintro e5 w5 ⟨rfl,rfl⟩))
    refine⟨rfl,?_,?_⟩
    ·rw[Y.out]
     exact⟨_,rfl,by omega,qae _ _ _ (by simp)⟩
    ·exact(((Fr.refl (fun b=>b=g) w).alloc _).alloc _).drewN _ |>.alloc _
   ·have Y:=q6q (show varB s k=some ((s.drop (k+1+1)).take n,n+3) by
     rw[HV.out,if_neg];rintro(h|h|h)
     ·omega
     ·omega
     ·apply h;have:=HB.out.symm.trans hbr;simpa using this)
    clear hbr;go_enter Tryz.func121,Tryz.ntmps121;go_wp2;go_quiet (exact Calls.quiet_of_same (qb5 (s.drop (k+1)) [123] _ HO.out));go_wp2_with (first
     |(go_at_call 149;refine(qdx (s.drop (k+1+1)) _ (by simp only[List.length_drop];omega)).mono ?_;rintro e3 w3 ⟨rfl,rfl⟩;rw[←HN.out])
     |(go_at_call 67;refine(qd0 _ [125] _).mono ?_;rintro e4 w4 ⟨rfl,rfl⟩;rw[HBR2.out])
     |(go_at_call 43;refine(qaf 5 k _).mono ?_;rintro e5 w5 ⟨rfl,rfl⟩))
    refine bodyPost_ret (by simp[results,Tryz.results121,go_sem];try rfl) rfl ?_;refine⟨?_,?_⟩
    ·rw[Y.out]
     refine⟨rfl,?_⟩;have:=((((((HX.out.alloc (.cells #[.string (S []),.bool false,.int .i64 0] qa4)).alloc (.cells #[.string (S []),.bool true,.int .i64 k] qa4)).drewN nq).far (g':=w.heap.size+1) 0 (.string (S ((s.drop (k+1+1)).take n))) (by omega)).set (k+(n+3))).far (g':=w.heap.size) 0 (.string (S ((s.drop (k+1+1)).take n))) (by omega)).far (g':=w.heap.size) 1 (.bool true) (by omega) |>.far (g':=w.heap.size) 2 (.int .i64 k) (by omega)
     rw[show((k+(n+3):Nat):Int)=(k:Int)+(1+(n:Int)+2) by omega] at this;exact this
    ·exact((((((((Fr.refl (fun b=>b=g) w).alloc _).alloc _).drewN _).setCell (fun h=>by omega) _ _).setCell (fun _=>rfl) _ _).setCell (fun h=>by omega) _ _).setCell (fun h=>by omega) _ _).setCell (fun h=>by omega) _ _
structure PieceG where
 text:List UInt8
 var:Bool
 at_:Nat
 deriving DecidableEq
def addP(l:List PieceG)(c:UInt8):List PieceG:=match l.getLast? with
 |some p=>if p.var then l++[⟨[c],false,0⟩] else l.dropLast++[⟨p.text++[c],false,p.at_⟩]
 |none=>[⟨[c],false,0⟩]
def qh9(l:List PieceG):Atm→List PieceG
 |.ch c=>addP l c
 |.var x p=>l++[⟨x,true,p⟩]
def qar(l:List Atm)(acc:List PieceG):List PieceG:=l.foldl qh9 acc
theorem qbz(l:List Atm)(acc:List PieceG)(x:Atm):qar (l++[x]) acc=qh9 (qar l acc) x:=by simp[qar]
theorem qsd(l m:List Atm)(acc:List PieceG):qar (l++m) acc=qar m (qar l acc):=by simp[qar]
theorem qks(c:UInt8):addP [] c=[⟨[c],false,0⟩]:=rfl
theorem qgv(init:List PieceG)(p:PieceG)(c:UInt8)(h:p.var=true):addP (init++[p]) c=init++[p]++[⟨[c],false,0⟩]:=by simp[addP,h]
theorem qgw(init:List PieceG)(p:PieceG)(c:UInt8)(h:p.var=false):addP (init++[p]) c=init++[⟨p.text++[c],false,p.at_⟩]:=by simp[addP,h]
theorem qui(l:List PieceG)(c:UInt8):(addP l c).length≤l.length+1:=by
 unfold addP;split
 ·split <;> simp
 ·simp
def PieceG.cells(p:PieceG):List Value:=[.string (S p.text),.bool p.var,.int .i64 p.at_]
def pcs:List PieceG→List Value
 |[]=>[]
 |p::r=>p.cells++pcs r
theorem qfq(l:List PieceG):(pcs l).length=l.length*3:=by
 induction l with
 |nil=>rfl
 |cons x r ih=>simp only[pcs,List.length_append,ih,List.length_cons,PieceG.cells,List.length_nil];omega
theorem qlb(l m:List PieceG):pcs (l++m)=pcs l++pcs m:=by
 induction l with
 |nil=>rfl
 |cons e r ih=>simp only[List.cons_append,pcs,ih,List.append_assoc]
theorem q4y(p:PieceG):pcs [p]=p.cells:=by simp[pcs]
abbrev qbg:TypeId:=127
structure Wd(B gw:Nat)(w:World)(l:List PieceG)(p:Nat)(ao:Option Addr)(c:Nat):Prop where
 own:w.ownsRow B qa4 3 (.slice ao l.length c) l.length (pcs l)
 blk:w.heap[gw]? =some (Obj.cells #[.slice ao l.length c,.int .i64 p] qbg (0,0))
 hB:B≤w.heap.size
 hgw:gw<B
theorem Wd.blk2{l:List PieceG}(h:Wd B gw w l p ao c):Blk2 w gw (.slice ao l.length c) (.int .i64 p):=⟨_,h.blk⟩
theorem Wd.after{l:List PieceG}(h:Wd B gw w l p ao c)(hb:Below w.heap.size w w'):Wd B gw w' l p ao c:=
 ⟨qac h.own hb,(hb.block gw (q6s h.blk).1).trans h.blk,Nat.le_trans h.hB hb.size,h.hgw⟩
theorem Wd.alloc{l:List PieceG}(h:Wd B gw w l p ao c)(o:Obj):Wd B gw (w.alloc o) l p ao c:=h.after ((Below.refl _ _).alloc (Nat.le_refl _) o)
theorem Wd.drew{l:List PieceG}(h:Wd B gw w l p ao c):Wd B gw w.drew l p ao c:=h.after (Below.refl _ _).drew
theorem Wd.last{init:List PieceG}{q:PieceG}(h:Wd B gw w (init++[q]) p ao c):
 ∃gp,ao=some ⟨gp,0,none⟩∧gp<w.heap.size∧B≤gp∧w.cell? ⟨gp,init.length*3,none⟩=some (.string (S q.text))∧w.cell? ⟨gp,init.length*3+1,none⟩=some (.bool q.var)∧w.frozen? ⟨gp,init.length*3,none⟩=false:=by
 have h0:=h.own;rcases h.own.2 with⟨e,e2⟩|⟨gp,cap,cur,e,hg,hh,r⟩
 ·simp at e2
 ·simp only[Value.slice.injEq] at e
  obtain⟨rfl,-,-⟩:=e;have hc:=h0.cells (g:=gp) rfl;have ha:∀j,(⟨gp,0,none⟩:Addr).add j=⟨gp,j,none⟩:=fun j=>by unfold Addr.add;split <;> simp_all
  have h1:=hc (init.length*3) (.string (S q.text)) (by rw[qlb,List.getElem?_append_right (by rw[qfq];omega),qfq];simp[pcs,PieceG.cells]);have h2:=hc (init.length*3+1) (.bool q.var) (by rw[qlb,List.getElem?_append_right (by rw[qfq];omega),qfq];simp[pcs,PieceG.cells]);rw[ha] at h1 h2;exact⟨gp,rfl,(q6s hh).1,hg,h1,h2,frozen_of_row w gp _ _ _ hh⟩
theorem Wd.text{init:List PieceG}{q:PieceG}{gp:Nat}(h:Wd B gw w (init++[q]) p (some ⟨gp,0,none⟩) c)(t:List UInt8):
 Wd B gw (w.setCell ⟨gp,init.length*3,none⟩ (.string (S t))) (init++[⟨t,q.var,q.at_⟩]) p (some ⟨gp,0,none⟩) c:=by
 have e:(init++[(⟨t,q.var,q.at_⟩:PieceG)]).length=(init++[q]).length:=by simp
 obtain⟨gp',e1,h1,h2,h3,h4,h5⟩:=h.last;simp only[Option.some.injEq,Addr.mk.injEq] at e1;obtain⟨rfl,-,-⟩:=e1;have hgw:=h.hgw;refine⟨?_,?_,by rw[World.size_setCell];exact h.hB,h.hgw⟩
 ·rw[e]
  have:=qec h.own (init.length*3) (.string (S t)) (by simp only[List.length_append,List.length_cons,List.length_nil];omega);rw[show(pcs (init++[q])).set (init.length*3) (.string (S t))=pcs (init++[⟨t,q.var,q.at_⟩]) from by
   rw[qlb,qlb,List.set_append_right _ _ (by rw[qfq];omega),qfq];simp[pcs,PieceG.cells]] at this
  exact this
 ·rw[e,heap_setCell_other w ⟨gp,init.length*3,none⟩ gw _ (by show gw≠gp;omega)];exact h.blk
theorem Wd.push{l:List PieceG}(h:Wd B gw w l p ao c)(q:PieceG)
 (hown:w2.ownsRow B qa4 3 (.slice ao' (l.length+1) c') (l.length+1) (pcs l++q.cells))(hg:w.grownBy w2 (Value.slice ao l.length c).ownBlock):
 Wd B gw (w2.setCell ⟨gw,0,none⟩ (.slice ao' (l.length+1) c')) (l++[q]) p ao' c':=by
 have hgw:=h.hgw;have hne:some gw≠(Value.slice ao l.length c).ownBlock:=qm4 h.own hgw;have hb:=(hg.block gw (q6s h.blk).1 hne).trans h.blk;have e:(l++[q]).length=l.length+1:=by simp
 refine⟨?_,?_,by rw[World.size_setCell];exact Nat.le_trans h.hB hg.size,hgw⟩
 ·rw[e,qlb,q4y];exact ownsRow_setCell_below hown (a:=⟨gw,0,none⟩) hgw _
 ·rw[e];exact heap_setCell_same w2 gw 0 _ _ _ hb
theorem Wd.pushN{l:List PieceG}(h:Wd B gw w l p ao c)(hn:l.length=n)(q:PieceG)
 (hown:w2.ownsRow B qa4 3 (.slice ao' (n+1) c') (n+1) (pcs l++q.cells))(hg:w.grownBy w2 (Value.slice ao n c).ownBlock):
 Wd B gw (w2.setCell ⟨gw,0,none⟩ (.slice ao' (n+1) c')) (l++[q]) p ao' c':=by subst hn;exact h.push q hown hg
theorem Wd.ownN{l:List PieceG}(h:Wd B gw w l p ao c)(hn:l.length=n):w.ownsRow B qa4 3 (.slice ao n c) n (pcs l):=by subst hn;exact h.own
theorem Wd.keptN{l:List PieceG}(h:Wd B gw w l p ao c)(hn:l.length=n)(hg:w.grownBy w2 (Value.slice ao n c).ownBlock):Blk2 w2 gw (.slice ao n c) (.int .i64 p):=by
 subst hn;exact h.blk2.grown hg (qm4 h.own h.hgw)
theorem Wd.kept{l:List PieceG}(h:Wd B gw w l p ao c)(hg:w.grownBy w2 (Value.slice ao l.length c).ownBlock):Blk2 w2 gw (.slice ao l.length c) (.int .i64 p):=h.blk2.grown hg (qm4 h.own h.hgw)
def qcz:List PieceG→List UInt8→List UInt8×Bool
 |[],acc=>(acc,true)
 |p::r,acc=>if p.var then ([],false) else qcz r (acc++p.text)
theorem qvq{l:List PieceG}(h:k<l.length)(hv:l[k].var=true)(b:List UInt8):qcz (l.drop k) b=([],false):=by
 rw[List.drop_eq_getElem_cons h,qcz,if_pos hv]
theorem qvr{l:List PieceG}(h:k<l.length)(hv:l[k].var=false)(b:List UInt8):qcz (l.drop k) b=qcz (l.drop (k+1)) (b++l[k].text):=by
 rw[List.drop_eq_getElem_cons h,qcz,if_neg (by simp[hv])]
theorem qla:∀(l:List PieceG) (k:Nat) (h:k<l.length),(pcs l)[k*3]? =some (.string (S l[k].text))∧(pcs l)[k*3+1]? =some (.bool l[k].var)∧(pcs l)[k*3+2]? =some (.int .i64 l[k].at_)
 |y::r,0,_=>⟨rfl,rfl,rfl⟩
 |y::r,k+1,h=>by
  have:=qla r k (by simpa using h);have e:∀j,(pcs (y::r))[(k+1)*3+j]? =(pcs r)[k*3+j]?:=by
   intro j;rw[pcs,List.getElem?_append_right (by simp[PieceG.cells];omega)];congr 1
   simp[PieceG.cells];omega
  have e0:=e 0;simp only[Nat.add_zero] at e0;simp only[List.getElem_cons_succ,e,e0];exact this
theorem qvs(l:List PieceG)(at_ c:Nat)(ao:Option Addr)(w:World)(hl:l.length≤1000000)(ht:∀q∈l,q.text.length≤1000000)(hrd:Rd w ao (pcs l)):
 Calls Tryz.prog 80 #[.agg #[.slice ao l.length c,.int .i64 at_]] w fun e w'=>e= .returned (.tuple #[.string (S (qcz l []).1),.bool (qcz l []).2])∧Below w.heap.size w w':=by
 have P:=q6q (Blk2.new w (.slice ao l.length c) (.int .i64 at_) qbg);have hbw:Below w.heap.size w (w.alloc (.cells #[.slice ao l.length c,.int .i64 at_] qbg)):=(Below.refl _ _).alloc (Nat.le_refl _) _;have HT:=q6q ht;clear ht;go_enter Tryz.func80,Tryz.ntmps80;go_wp2;generalize hW:w.alloc (.cells #[.slice ao l.length c,.int .i64 at_] qbg)=w1 at*;clear hW;go_loopw [4,10] (fun v i wr=>∃(b:List UInt8) (k:Nat),i= .int .i64 k∧v= .string (S b)∧k≤l.length∧b.length≤k*1000000∧Hid (qcz l []=qcz (l.drop k) b)∧Below w.heap.size w wr) (fun _ i _=>l.length - (intOf i).toNat)
 case atStart=>exact⟨[],0,by go_num,rfl,by omega,by simp,rfl,hbw⟩
 case round=>
  obtain⟨b,k,rfl,rfl,hk,hb,HQ,hbel⟩:=hrel;by_cases hlt:k<l.length
  ·obtain⟨b2,o,rfl,hb2,hc⟩:=hrd.at (k*3) (by rw[qfq];omega)
   obtain⟨h1,h2,h3⟩:=qla l k hlt;have m1:wr.cell? ⟨b2,o+k*3,none⟩=some (.string (S l[k].text)):=(hbel.cell (p:=⟨b2,o+k*3,none⟩) hb2).trans (hc _ _ h1);have m2:wr.cell? ⟨b2,o+k*3+1,none⟩=some (.bool l[k].var):=(hbel.cell (p:=⟨b2,o+k*3+1,none⟩) hb2).trans (hc _ _ h2);have m3:wr.cell? ⟨b2,o+k*3+2,none⟩=some (.int .i64 l[k].at_):=(hbel.cell (p:=⟨b2,o+k*3+2,none⟩) hb2).trans (hc _ _ h3);have htx:=HT.out l[k] (List.getElem_mem hlt);have hsum:b.length+l[k].text.length≤9223372036854775807:=by
    have:k*1000000≤1000000*1000000:=Nat.mul_le_mul_right _ (by omega);omega
   have hsz:=hbel.size;clear h1 h2 h3 hc;cases hv:l[k].var
   ·have Y:=q6q (show qcz l []=qcz (l.drop (k+1)) (b++l[k].text) by rw[HQ.out];exact qvr hlt hv b)
    rw[hv] at m2;clear HQ hv;go_wp2;go_roundw
    case rel=>exact⟨b++l[k].text,k+1,by go_num,rfl,by omega,by simp;omega,Y,hbel.alloc (by omega) _⟩
    case measure=>simp[intOf];omega
   ·have Y:=q6q (show qcz l []=([],false) by rw[HQ.out];exact qvq hlt hv b)
    rw[hv] at m2;clear HQ hv;go_wp2;go_returns;refine⟨?_,hbel.alloc (by omega) _⟩;rw[Y.out];rfl
  ·have Y:=q6q (show qcz l []=(b,true) by rw[HQ.out,List.drop_of_length_le (by omega),qcz])
   clear HQ;go_wp2;go_returns;refine⟨?_,hbel⟩;rw[Y.out];rfl
theorem qsc(l:List Atm)(x:Atm)(acc:List UInt8):qbe (l++[x]) acc=match x with
 |.ch c=>if (qbe l acc).2 then ((qbe l acc).1++[c],true) else ([],false)
 |.var _ _=>([],false):=by
 induction l generalizing acc with
 |nil=>cases x <;> simp[qbe]
 |cons y r ih=>
  cases y with
  |ch c=>simp only[List.cons_append,qbe];exact ih _
  |var n p=>cases x <;> simp[qbe]
theorem qvv(l:List Atm)(acc:List UInt8)(h:(qbe l acc).2=false):qbe l acc=([],false):=by
 induction l generalizing acc with
 |nil=>simp[qbe] at h
 |cons y r ih=>
  cases y with
  |ch c=>rw[qbe] at h ⊢;exact ih _ h
  |var n p=>rfl
theorem qe6(l:List PieceG)(q:PieceG)(acc:List UInt8):qcz (l++[q]) acc=if (qcz l acc).2=true∧q.var=false then ((qcz l acc).1++q.text,true) else ([],false):=by
 induction l generalizing acc with
 |nil=>cases hv:q.var <;> simp[qcz,hv]
 |cons y r ih=>
  simp only[List.cons_append,qcz];split
  ·simp
  ·exact ih _
theorem qvp(l:List Atm):qcz (qar l []) []=qbe l []:=by
 induction hn:l.length generalizing l with
 |zero=>rw[List.eq_nil_of_length_eq_zero hn];rfl
 |succ n ihn=>
  rcases List.eq_nil_or_concat l with rfl|⟨l,x,rfl⟩
  ·simp at hn
  rw[List.concat_eq_append] at hn ⊢;have ih:=ihn l (by simpa using hn);rw[qbz,qsc];cases x with
  |var n p=>simp only[qh9];rw[qe6];simp
  |ch c=>
   simp only[qh9];rw[←ih];generalize qar l []=L;rcases List.eq_nil_or_concat L with rfl|⟨init,q,rfl⟩
   ·simp[addP,qcz]
   ·rw[List.concat_eq_append]
    cases hv:q.var
    ·rw[qgw init q c hv,qe6,qe6]
     cases (qcz init []).2 <;> simp[hv]
    ·rw[qgv init q c hv,qe6,qe6]
     simp[hv]
abbrev qas:TypeId:=118
abbrev qai:TypeId:=123
def WordG.pl(w:WordG):List PieceG:=qar w.l []
def qde(op:List UInt8):Int:=if op=qcq then 0 else if op=qfv then 1 else if op=wADD then 2 else if op=wRM then 3 else if op=qdk then 4 else if op=qjo then 5 else if op=wENV then 6 else if op=qc4 then 7 else -1
def FWordCells(w:World):List WordG→List Value→Prop
 |[],cs=>cs=[]
 |x::r,cs=>∃a rest,cs=a:: .int .i64 x.at_::rest∧w.ownsRow 0 qa4 3 a x.pl.length (pcs x.pl)∧FWordCells w r rest
theorem FWordCells.len:∀{ws:List WordG} {cs:List Value},FWordCells w ws cs→cs.length=ws.length*2
 |[],cs,h=>by simp[FWordCells] at h;simp[h]
 |x::r,cs,h=>by
  obtain⟨a,rest,rfl,_,hr⟩:=h;have:=hr.len;simp[this];omega
theorem FWordCells.app{y:WordG}{b:Value}(hb:w.ownsRow 0 qa4 3 b y.pl.length (pcs y.pl)):∀{ws:List WordG} {cs:List Value},FWordCells w ws cs→FWordCells w (ws++[y]) (cs++[b,.int .i64 y.at_])
 |[],cs,h=>by simp[FWordCells] at h;subst h;exact⟨b,[],rfl,hb,rfl⟩
 |x::r,cs,h=>by
  obtain⟨a,rest,rfl,ha,hr⟩:=h;exact⟨a,rest++[b,.int .i64 y.at_],rfl,ha,hr.app hb⟩
theorem FWordCells.keep(hk:KeepT qa4 w w'):∀{ws:List WordG} {cs:List Value},FWordCells w ws cs→FWordCells w' ws cs
 |[],cs,h=>h
 |x::r,cs,h=>by
  obtain⟨a,rest,rfl,ha,hr⟩:=h;exact⟨a,rest,rfl,qao ha hk,hr.keep hk⟩
theorem FWordCells.one:∀{ws:List WordG} {cs:List Value},FWordCells w ws cs→∀u∈cs,u.oneCell'=true
 |[],cs,h=>by simp[FWordCells] at h;simp[h]
 |x::r,cs,h=>by
  obtain⟨a,rest,rfl,ha,hr⟩:=h;intro u hu;rcases List.mem_cons.1 hu with rfl|hu
  ·obtain⟨ao,c,rfl⟩:=qad ha;rfl
  ·rcases List.mem_cons.1 hu with rfl|hu
   ·rfl
   ·exact hr.one u hu
theorem FWordCells.get:∀{ws:List WordG} {cs:List Value},FWordCells w ws cs→∀k (h:k<ws.length),∃ao c,cs[k*2]? =some (.slice ao ws[k].pl.length c)∧cs[k*2+1]? =some (.int .i64 ws[k].at_)∧w.ownsRow 0 qa4 3 (.slice ao ws[k].pl.length c) ws[k].pl.length (pcs ws[k].pl)
 |x::r,cs,h,0,_=>by
  obtain⟨a,rest,rfl,ha,hr⟩:=h;obtain⟨ao,c,rfl⟩:=qad ha;exact⟨ao,c,rfl,rfl,ha⟩
 |x::r,cs,h,k+1,hk=>by
  obtain⟨a,rest,rfl,ha,hr⟩:=h;obtain⟨ao,c,h1,h2,h3⟩:=hr.get k (by simpa using hk);refine⟨ao,c,?_,?_,h3⟩
  ·rw[show(k+1)*2=k*2+1+1 by omega];simpa using h1
  ·rw[show(k+1)*2+1=k*2+1+1+1 by omega];simpa using h2
theorem FWordCells.drop:∀{ws:List WordG} {cs:List Value},FWordCells w ws cs→∀k,FWordCells w (ws.drop k) (cs.drop (k*2))
 |ws,cs,h,0=>by simpa using h
 |[],cs,h,k+1=>by simp[FWordCells] at h;subst h;simp[FWordCells]
 |x::r,cs,h,k+1=>by
  obtain⟨a,rest,rfl,ha,hr⟩:=h;rw[show(k+1)*2=k*2+1+1 by omega];simpa using hr.drop k
def FWordsR(w:World)(A:Option Addr)(ws:List WordG):Prop:=∃cs,RdT qbg w A cs∧FWordCells w ws cs
theorem FWordsR.keep{ws:List WordG}(h:FWordsR w A ws)(h1:KeepT qbg w w')(h2:KeepT qa4 w w'):FWordsR w' A ws:=by
 obtain⟨cs,a,b⟩:=h;exact⟨cs,a.keep h1,b.keep h2⟩
theorem FWordsR.drop{o:Nat}{ws:List WordG}(h:FWordsR w (some ⟨b,o,none⟩) ws)(k:Nat):FWordsR w (some ⟨b,o+k*2,none⟩) (ws.drop k):=by
 obtain⟨cs,h1,h2⟩:=h;exact⟨_,h1.drop (k*2),h2.drop k⟩
def FStepCells(w:World):List StepG→List Value→Prop
 |[],cs=>cs=[]
 |x::r,cs=>∃A c rest,cs= .int .i64 (qde x.op):: .slice A x.words.length c:: .int .i64 x.stage:: .int .i64 x.at_::rest∧FWordsR w A x.words∧FStepCells w r rest
theorem FStepCells.len:∀{l:List StepG} {cs:List Value},FStepCells w l cs→cs.length=l.length*4
 |[],cs,h=>by simp[FStepCells] at h;simp[h]
 |x::r,cs,h=>by
  obtain⟨A,c,rest,rfl,_,hr⟩:=h;have:=hr.len;simp[this];omega
theorem FStepCells.keep(h1:KeepT qbg w w')(h2:KeepT qa4 w w'):∀{l:List StepG} {cs:List Value},FStepCells w l cs→FStepCells w' l cs
 |[],cs,h=>h
 |x::r,cs,h=>by
  obtain⟨A,c,rest,rfl,ha,hr⟩:=h;exact⟨A,c,rest,rfl,ha.keep h1 h2,hr.keep h1 h2⟩
theorem FStepCells.app{y:StepG}(hy:FWordsR w A y.words):∀{l:List StepG} {cs:List Value},FStepCells w l cs→FStepCells w (l++[y]) (cs++[.int .i64 (qde y.op),.slice A y.words.length c,.int .i64 y.stage,.int .i64 y.at_])
 |[],cs,h=>by simp[FStepCells] at h;subst h;exact⟨A,c,[],rfl,hy,rfl⟩
 |x::r,cs,h=>by
  obtain⟨A',c',rest,rfl,ha,hr⟩:=h;exact⟨A',c',_,rfl,ha,hr.app hy⟩
theorem FStepCells.get:∀{l:List StepG} {cs:List Value},FStepCells w l cs→∀k (h:k<l.length),∃A c,cs[k*4]? =some (.int .i64 (qde l[k].op))∧cs[k*4+1]? =some (.slice A l[k].words.length c)∧cs[k*4+2]? =some (.int .i64 l[k].stage)∧cs[k*4+3]? =some (.int .i64 l[k].at_)∧FWordsR w A l[k].words
 |x::r,cs,h,0,_=>by
  obtain⟨A,c,rest,rfl,ha,hr⟩:=h;exact⟨A,c,rfl,rfl,rfl,rfl,ha⟩
 |x::r,cs,h,k+1,hk=>by
  obtain⟨A,c,rest,rfl,ha,hr⟩:=h;obtain⟨A',c',h1,h2,h3,h4,h5⟩:=hr.get k (by simpa using hk);refine⟨A',c',?_,?_,?_,?_,h5⟩
  ·rw[show(k+1)*4=k*4+1+1+1+1 by omega];simpa using h1
  ·rw[show(k+1)*4+1=k*4+1+1+1+1+1 by omega];simpa using h2
  ·rw[show(k+1)*4+2=k*4+2+1+1+1+1 by omega];simpa using h3
  ·rw[show(k+1)*4+3=k*4+3+1+1+1+1 by omega];simpa using h4
structure FStageAt(lo hi:Nat)(w:World)(x:StageG)(sv vv:Value):Prop where
 steps:∃scs,w.ownsRow lo qai 4 sv x.steps.length scs∧FStepCells w x.steps scs
 vars:w.ownsRow lo qbl 1 vv x.vars.length (strs x.vars)
 shi:∀g,sv.ownBlock=some g→g<hi
 vhi:∀g,vv.ownBlock=some g→g<hi
theorem FStageAt.mono(h:FStageAt lo hi w x sv vv)(h1:lo'≤lo)(h2:hi≤hi'):FStageAt lo' hi' w x sv vv:=by
 obtain⟨scs,a,b⟩:=h.steps;exact⟨⟨scs,qak a h1,b⟩,qak h.vars h1,fun g e=>Nat.lt_of_lt_of_le (h.shi g e) h2,fun g e=>Nat.lt_of_lt_of_le (h.vhi g e) h2⟩
theorem FStageAt.stays(h:FStageAt lo hi w x sv vv)(h1:KeepT qbg w w')(h2:KeepT qa4 w w')
 (hs:∀g cur,g<hi→w.heap[g]? =some (Obj.cells cur qai (0,0))→w'.heap[g]? =some (Obj.cells cur qai (0,0)))
 (hv:∀g cur,g<hi→w.heap[g]? =some (Obj.cells cur qbl (0,0))→w'.heap[g]? =some (Obj.cells cur qbl (0,0))):FStageAt lo hi w' x sv vv:=by
 obtain⟨⟨scs,⟨a1,a2⟩,b⟩,⟨v1,v2⟩,c,d⟩:=h;refine⟨⟨scs,⟨a1,?_⟩,b.keep h1 h2⟩,⟨v1,?_⟩,c,d⟩
 ·rcases a2 with a2|⟨g,cap,cur,rfl,hg,hh,r⟩
  ·exact .inl a2
  ·exact .inr ⟨g,cap,cur,rfl,hg,hs g cur (c g rfl) hh,r⟩
 ·rcases v2 with v2|⟨g,cap,cur,rfl,hg,hh,r⟩
  ·exact .inl v2
  ·exact .inr ⟨g,cap,cur,rfl,hg,hv g cur (d g rfl) hh,r⟩
def FStageCells(lo hi:Nat)(w:World):List StageG→List Value→Prop
 |[],cs=>cs=[]
 |x::r,cs=>∃sv vv rest,cs= .string (S x.name):: .int .i64 x.base::sv::vv::rest∧FStageAt lo hi w x sv vv∧FStageCells lo hi w r rest
theorem FStageCells.len:∀{l:List StageG} {cs:List Value},FStageCells lo hi w l cs→cs.length=l.length*4
 |[],cs,h=>by simp[FStageCells] at h;simp[h]
 |x::r,cs,h=>by
  obtain⟨sv,vv,rest,rfl,_,hr⟩:=h;have:=hr.len;simp[this];omega
theorem FStageCells.mono(h1:lo'≤lo)(h2:hi≤hi'):∀{l:List StageG} {cs:List Value},FStageCells lo hi w l cs→FStageCells lo' hi' w l cs
 |[],cs,h=>h
 |x::r,cs,h=>by
  obtain⟨sv,vv,rest,rfl,ha,hr⟩:=h;exact⟨sv,vv,rest,rfl,ha.mono h1 h2,hr.mono h1 h2⟩
theorem FStageCells.stays(h1:KeepT qbg w w')(h2:KeepT qa4 w w')
 (hs:∀g cur,g<hi→w.heap[g]? =some (Obj.cells cur qai (0,0))→w'.heap[g]? =some (Obj.cells cur qai (0,0)))
 (hv:∀g cur,g<hi→w.heap[g]? =some (Obj.cells cur qbl (0,0))→w'.heap[g]? =some (Obj.cells cur qbl (0,0))):∀{l:List StageG} {cs:List Value},FStageCells lo hi w l cs→FStageCells lo hi w' l cs
 |[],cs,h=>h
 |x::r,cs,h=>by
  obtain⟨sv,vv,rest,rfl,ha,hr⟩:=h;exact⟨sv,vv,rest,rfl,ha.stays h1 h2 hs hv,hr.stays h1 h2 hs hv⟩
theorem FStageCells.app:∀{l m:List StageG} {cs ds:List Value},FStageCells lo hi w l cs→FStageCells lo hi w m ds→FStageCells lo hi w (l++m) (cs++ds)
 |[],m,cs,ds,h,k=>by simp[FStageCells] at h;subst h;exact k
 |x::r,m,cs,ds,h,k=>by
  obtain⟨sv,vv,rest,rfl,ha,hr⟩:=h;exact⟨sv,vv,rest++ds,rfl,ha,hr.app k⟩
theorem FStageCells.get:∀{l:List StageG} {cs:List Value},FStageCells lo hi w l cs→∀k (h:k<l.length),∃sv vv,cs[k*4]? =some (.string (S l[k].name))∧cs[k*4+1]? =some (.int .i64 l[k].base)∧cs[k*4+2]? =some sv∧cs[k*4+3]? =some vv∧FStageAt lo hi w l[k] sv vv
 |x::r,cs,h,0,_=>by
  obtain⟨sv,vv,rest,rfl,ha,hr⟩:=h;exact⟨sv,vv,rfl,rfl,rfl,rfl,ha⟩
 |x::r,cs,h,k+1,hk=>by
  obtain⟨sv,vv,rest,rfl,ha,hr⟩:=h;obtain⟨sv',vv',h1,h2,h3,h4,h5⟩:=hr.get k (by simpa using hk);refine⟨sv',vv',?_,?_,?_,?_,h5⟩
  ·rw[show(k+1)*4=k*4+1+1+1+1 by omega];simpa using h1
  ·rw[show(k+1)*4+1=k*4+1+1+1+1+1 by omega];simpa using h2
  ·rw[show(k+1)*4+2=k*4+2+1+1+1+1 by omega];simpa using h3
  ·rw[show(k+1)*4+3=k*4+3+1+1+1+1 by omega];simpa using h4
structure FStagesR(B:Nat)(w:World)(l:List StageG)(ao:Option Addr)(c:Nat):Prop where
 lies:∃(H:Nat) (init last:List StageG) (cs0 cs1:List Value),l=init++last∧last.length≤1∧(last=[]→init=[])∧H≤w.heap.size∧B≤H∧
  w.ownsRow B qas 4 (.slice ao l.length c) l.length (cs0++cs1)∧FStageCells B H w init cs0∧FStageCells H w.heap.size w last cs1
theorem FStagesR.nil(B:Nat)(w:World)(h:B≤w.heap.size):FStagesR B w [] none 0:=
 ⟨B,[],[],[],[],rfl,by simp,by simp,h,Nat.le_refl _,World.ownsRow_nil _ _ _ _,rfl,rfl⟩
theorem FStagesR.all(h:FStagesR B w l ao c):∃cs,w.ownsRow B qas 4 (.slice ao l.length c) l.length cs∧FStageCells B w.heap.size w l cs:=by
 obtain⟨H,init,last,cs0,cs1,rfl,h1,h2,h3,h4,h5,h6,h7⟩:=h.lies;exact⟨_,h5,(h6.mono (Nat.le_refl _) h3).app (h7.mono h4 (Nat.le_refl _))⟩
theorem FStagesR.after(h:FStagesR B w l ao c)(hb:Below w.heap.size w w'):FStagesR B w' l ao c:=by
 obtain⟨H,init,last,cs0,cs1,rfl,h1,h2,h3,h4,h5,h6,h7⟩:=h.lies;have hT:∀T,KeepT T w w':=fun T=>KeepT.below hb
 refine⟨H,init,last,cs0,cs1,rfl,h1,h2,Nat.le_trans h3 hb.size,h4,qao h5 (hT _),?_,?_⟩
 ·exact h6.stays (hT _) (hT _) (fun g cur _ e=>hT _ g cur e) (fun g cur _ e=>hT _ g cur e)
 ·exact(h7.stays (hT _) (hT _) (fun g cur _ e=>hT _ g cur e) (fun g cur _ e=>hT _ g cur e)).mono (Nat.le_refl _) hb.size
theorem FStagesR.keep(h:FStagesR B w l ao c)(h1:KeepT qas w w')(h2:KeepT qai w w')(h3:KeepT qbl w w')(h4:KeepT qbg w w')(h5:KeepT qa4 w w')(hs:w.heap.size≤w'.heap.size):FStagesR B w' l ao c:=by
 obtain⟨H,init,last,cs0,cs1,rfl,e1,e2,e3,e4,e5,e6,e7⟩:=h.lies;refine⟨H,init,last,cs0,cs1,rfl,e1,e2,Nat.le_trans e3 hs,e4,qao e5 h1,?_,?_⟩
 ·exact e6.stays h4 h5 (fun g cur _ e=>h2 g cur e) (fun g cur _ e=>h3 g cur e)
 ·exact(e7.stays h4 h5 (fun g cur _ e=>h2 g cur e) (fun g cur _ e=>h3 g cur e)).mono (Nat.le_refl _) hs
def FKeepX(w w':World):Prop:=∀T,T≠qas→T≠qai→T≠qbl→KeepT T w w'
theorem FKeepX.below(h:Below w.heap.size w w'):FKeepX w w':=fun _ _ _ _=>KeepT.below h
theorem FStagesR.push{wx:World}{st:List StageG}{cs:List Value}
 (hown:w.ownsRow B qas 4 (.slice ao st.length c) st.length cs)(hsc:FStageCells B w.heap.size w st cs)(hb:Below w.heap.size w wx)(hg:wx.grownBy w2 (Value.slice ao st.length c).ownBlock)
 (hx:FStageAt w.heap.size wx.heap.size wx x sv vv)(hown2:w2.ownsRow B qas 4 (.slice ao' (st.length+1) c') (st.length+1) (cs++[.string (S x.name),.int .i64 x.base,sv,vv]))(hB:B≤w.heap.size):
 FStagesR B w2 (st++[x]) ao' c'∧FKeepX w w2:=by
 have hownx:=qac hown hb;have hT:∀T,T≠qas→KeepT T wx w2:=fun T h=>KeepT.grown hg hownx (fun e=>h e.symm)
 have hT':∀T,T≠qas→KeepT T w w2:=fun T h=>(KeepT.below hb).trans (hT T h)
 refine⟨⟨w.heap.size,st,[x],cs,[.string (S x.name),.int .i64 x.base,sv,vv],rfl,by simp,by simp,Nat.le_trans hb.size hg.size,hB,?_,?_,?_⟩,fun T h _ _=>hT' T h⟩
 ·rw[List.length_append];exact hown2
 ·exact hsc.stays (hT' _ (by decide)) (hT' _ (by decide)) (fun g cur _ e=>hT' qai (by decide) g cur e) (fun g cur _ e=>hT' qbl (by decide) g cur e)
 ·exact⟨sv,vv,[],rfl,(hx.stays (hT _ (by decide)) (hT _ (by decide)) (fun g cur _ e=>hT qai (by decide) g cur e) (fun g cur _ e=>hT qbl (by decide) g cur e)).mono (Nat.le_refl _) hg.size,rfl⟩
theorem FKeepX.trans{b c:World}(h:FKeepX a b)(k:FKeepX b c):FKeepX a c:=fun T h1 h2 h3=>(h T h1 h2 h3).trans (k T h1 h2 h3)
structure FLastR(B H:Nat)(w:World)(init:List StageG)(y:StageG)(gb c:Nat)(cs0:List Value)(sv vv:Value)(scs:List Value):Prop where
 own:w.ownsRow B qas 4 (.slice (some ⟨gb,0,none⟩) (init.length+1) c) (init.length+1) (cs0++[.string (S y.name),.int .i64 y.base,sv,vv])
 ini:FStageCells B H w init cs0
 steps:w.ownsRow H qai 4 sv y.steps.length scs
 cells:FStepCells w y.steps scs
 vars:w.ownsRow H qbl 1 vv y.vars.length (strs y.vars)
 hH:H≤w.heap.size
 hB:B≤H
theorem FStagesR.last{st:List StageG}(h:FStagesR B w st ao c)(hne:st≠[]):
 ∃H init y gb cs0 sv vv scs,st=init++[y]∧ao=some ⟨gb,0,none⟩∧FLastR B H w init y gb c cs0 sv vv scs:=by
 obtain⟨H,init,last,cs0,cs1,rfl,h1,h2,h3,h4,h5,h6,h7⟩:=h.lies;match last,h1,h2,h7,h5,hne with
 |[],_,h2,_,_,hne=>exact absurd (by simp[h2 rfl]) hne
 |[y],_,_,h7,h5,_=>
  obtain⟨sv,vv,rest,rfl,ha,hr⟩:=h7;simp only[FStageCells] at hr;subst hr;obtain⟨scs,a1,a2⟩:=ha.steps;have h5':=h5;rcases h5.2 with⟨e,e2⟩|⟨gb,cap,cur,e,r⟩
  ·simp at e2
  ·simp only[Value.slice.injEq] at e
   obtain⟨rfl,-,-⟩:=e;rw[List.length_append] at h5';exact⟨H,init,y,gb,cs0,sv,vv,scs,rfl,rfl,h5',h6,a1,a2,ha.vars,h3,h4⟩
theorem FLastR.stages{init:List StageG}(h:FLastR B H w init y gb c cs0 sv vv scs):FStagesR B w (init++[y]) (some ⟨gb,0,none⟩) c:=by
 refine⟨H,init,[y],cs0,_,rfl,by simp,by simp,h.hH,h.hB,?_,h.ini,⟨sv,vv,[],rfl,⟨⟨scs,h.steps,h.cells⟩,h.vars,qtt h.steps,qtt h.vars⟩,rfl⟩⟩;rw[List.length_append];exact h.own
theorem FLastR.facts{init:List StageG}(h:FLastR B H w init y gb c cs0 sv vv scs):
 gb<w.heap.size∧w.cell? ⟨gb,init.length*4+2,none⟩=some sv∧w.cell? ⟨gb,init.length*4+3,none⟩=some vv∧w.frozen? ⟨gb,init.length*4+2,none⟩=false∧w.frozen? ⟨gb,init.length*4+3,none⟩=false:=by
 have hl:=h.ini.len;have hc:=h.own.cells (g:=gb) rfl;have ha:∀j,(⟨gb,0,none⟩:Addr).add j=⟨gb,j,none⟩:=fun j=>by unfold Addr.add;split <;> simp_all
 have h2:=hc (init.length*4+2) sv (by rw[List.getElem?_append_right (by omega),hl];simp);have h3:=hc (init.length*4+3) vv (by rw[List.getElem?_append_right (by omega),hl];simp);rw[ha] at h2 h3;rcases h.own.2 with⟨e,_⟩|⟨gb',cap,cur,e,hg,hh,r⟩
 ·simp at e
 ·simp only[Value.slice.injEq,Option.some.injEq,Addr.mk.injEq] at e
  obtain⟨⟨rfl,-,-⟩,-,-⟩:=e;exact⟨(q6s hh).1,h2,h3,frozen_of_row w gb _ _ _ hh,frozen_of_row w gb _ _ _ hh⟩
theorem FLastR.blkT{init:List StageG}(h:FLastR B H w init y gb c cs0 sv vv scs):BlkT w gb qas∧B≤gb:=by
 rcases h.own.2 with⟨e,_⟩|⟨gb',cap,cur,e,hg,hh,r⟩
 ·simp at e
 ·simp only[Value.slice.injEq,Option.some.injEq,Addr.mk.injEq] at e
  obtain⟨⟨rfl,-,-⟩,-,-⟩:=e;exact⟨⟨_,hh⟩,hg⟩
theorem FLastR.after{init:List StageG}(h:FLastR B H w init y gb c cs0 sv vv scs)(hb:Below w.heap.size w w'):FLastR B H w' init y gb c cs0 sv vv scs:=by
 have hT:∀T,KeepT T w w':=fun T=>KeepT.below hb
 exact⟨qao h.own (hT _),h.ini.stays (hT _) (hT _) (fun g cur _ e=>hT _ g cur e) (fun g cur _ e=>hT _ g cur e),qao h.steps (hT _),h.cells.keep (hT _) (hT _),qao h.vars (hT _),Nat.le_trans h.hH hb.size,h.hB⟩
theorem FLastR.pushVar{init:List StageG}{vv':Value}{x:List UInt8}(h:FLastR B H w init y gb c cs0 sv vv scs)
 (hg:w.grownBy w2 vv.ownBlock)(hown:w2.ownsRow H qbl 1 vv' (y.vars.length+1) (strs y.vars++[.string (S x)])):
 FLastR B H (w2.setCell ⟨gb,init.length*4+3,none⟩ vv') init ⟨y.name,y.base,y.steps,y.vars++[x]⟩ gb c cs0 sv vv' scs∧FKeepX w (w2.setCell ⟨gb,init.length*4+3,none⟩ vv')∧Below B w (w2.setCell ⟨gb,init.length*4+3,none⟩ vv'):=by
 have hT:∀T,T≠qbl→KeepT T w w2:=fun T hne=>KeepT.grown hg h.vars (fun e=>hne e.symm)
 obtain⟨⟨cs,hbt⟩,hBg⟩:=h.blkT;have hb2:BlkT w2 gb qas:=⟨cs,hT qas (by decide) gb cs hbt⟩;have hS:∀T,T≠qas→KeepT T w2 (w2.setCell ⟨gb,init.length*4+3,none⟩ vv'):=fun T hne=>KeepT.setT hb2 (fun e=>hne e.symm) _ _
 have hTT:∀T,T≠qbl→T≠qas→KeepT T w (w2.setCell ⟨gb,init.length*4+3,none⟩ vv'):=fun T h1 h2=>(hT T h1).trans (hS T h2)
 have hlow:∀g cur,g<H→w.heap[g]? =some (Obj.cells cur qbl (0,0))→(w2.setCell ⟨gb,init.length*4+3,none⟩ vv').heap[g]? =some (Obj.cells cur qbl (0,0)):=by
  intro g cur hgH e;refine hS qbl (by decide) g cur ((hg.block g (q6s e).1 ?_).trans e);intro e2;have:=qek h.vars g e2.symm;omega
 refine⟨⟨?_,?_,qao h.steps (hTT _ (by decide) (by decide)),h.cells.keep (hTT _ (by decide) (by decide)) (hTT _ (by decide) (by decide)),?_,?_,h.hB⟩,fun T h1 h2 h3=>hTT T h3 h1,?_⟩
 ·have:=qec (qao h.own (hT _ (by decide))) (init.length*4+3) vv' (by omega)
  rwa [q1v _ _ _ _ _ _ _ h.ini.len] at this
 ·exact h.ini.stays (hTT _ (by decide) (by decide)) (hTT _ (by decide) (by decide)) (fun g cur _ e=>hTT qai (by decide) (by decide) g cur e) hlow
 ·show World.ownsRow _ H qbl 1 vv' (y.vars++[x]).length (strs (y.vars++[x]))
  rw[List.length_append,show strs (y.vars++[x])=strs y.vars++[.string (S x)] by simp[strs]];exact qao hown (hS _ (by decide))
 ·rw[World.size_setCell];exact Nat.le_trans h.hH hg.size
 ·exact Below.setCell ((Below.refl B w).grown hg (Nat.le_trans h.hB h.hH) (fun k hk=>Nat.le_trans h.hB (qek h.vars k hk))) hBg _
theorem FLastR.pushStep{init:List StageG}{sv':Value}{x:StepG}{d:Nat}(h:FLastR B H w init y gb c cs0 sv vv scs)
 (hx:FWordsR w A x.words)(hg:w.grownBy w2 sv.ownBlock)(hown:w2.ownsRow H qai 4 sv' (y.steps.length+1) (scs++[.int .i64 (qde x.op),.slice A x.words.length d,.int .i64 x.stage,.int .i64 x.at_])):
 ∃scs',FLastR B H (w2.setCell ⟨gb,init.length*4+2,none⟩ sv') init ⟨y.name,y.base,y.steps++[x],y.vars⟩ gb c cs0 sv' vv scs'∧FKeepX w (w2.setCell ⟨gb,init.length*4+2,none⟩ sv')∧Below B w (w2.setCell ⟨gb,init.length*4+2,none⟩ sv'):=by
 have hT:∀T,T≠qai→KeepT T w w2:=fun T hne=>KeepT.grown hg h.steps (fun e=>hne e.symm)
 obtain⟨⟨cs,hbt⟩,hBg⟩:=h.blkT;have hb2:BlkT w2 gb qas:=⟨cs,hT qas (by decide) gb cs hbt⟩;have hS:∀T,T≠qas→KeepT T w2 (w2.setCell ⟨gb,init.length*4+2,none⟩ sv'):=fun T hne=>KeepT.setT hb2 (fun e=>hne e.symm) _ _
 have hTT:∀T,T≠qai→T≠qas→KeepT T w (w2.setCell ⟨gb,init.length*4+2,none⟩ sv'):=fun T h1 h2=>(hT T h1).trans (hS T h2)
 have hlow:∀g cur,g<H→w.heap[g]? =some (Obj.cells cur qai (0,0))→(w2.setCell ⟨gb,init.length*4+2,none⟩ sv').heap[g]? =some (Obj.cells cur qai (0,0)):=by
  intro g cur hgH e;refine hS qai (by decide) g cur ((hg.block g (q6s e).1 ?_).trans e);intro e2;have:=qek h.steps g e2.symm;omega
 refine⟨_,⟨?_,?_,?_,(h.cells.app (c:=d) hx).keep (hTT _ (by decide) (by decide)) (hTT _ (by decide) (by decide)),qao h.vars (hTT _ (by decide) (by decide)),?_,h.hB⟩,fun T h1 h2 h3=>hTT T h2 h1,?_⟩
 ·have:=qec (qao h.own (hT _ (by decide))) (init.length*4+2) sv' (by omega)
  rwa [q1w _ _ _ _ _ _ _ h.ini.len] at this
 ·exact h.ini.stays (hTT _ (by decide) (by decide)) (hTT _ (by decide) (by decide)) hlow (fun g cur _ e=>hTT qbl (by decide) (by decide) g cur e)
 ·show World.ownsRow _ H qai 4 sv' (y.steps++[x]).length _
  rw[List.length_append];exact qao hown (hS _ (by decide))
 ·rw[World.size_setCell];exact Nat.le_trans h.hH hg.size
 ·exact Below.setCell ((Below.refl B w).grown hg (Nat.le_trans h.hB h.hH) (fun k hk=>Nat.le_trans h.hB (qek h.steps k hk))) hBg _
theorem FLastR.varsRd{init:List StageG}{vc:Nat}{va:Option Addr}(h:FLastR B H w init y gb c cs0 sv (.slice va y.vars.length vc) scs):Rd w va (strs y.vars):=(RdT.of_own h.vars).rd
theorem FLastR.alloc{init:List StageG}(h:FLastR B H w init y gb c cs0 sv vv scs)(o:Obj):FLastR B H (w.alloc o) init y gb c cs0 sv vv scs:=h.after ((Below.refl _ _).alloc (Nat.le_refl _) o)
theorem FLastR.drew{init:List StageG}(h:FLastR B H w init y gb c cs0 sv vv scs):FLastR B H w.drew init y gb c cs0 sv vv scs:=h.after (Below.refl _ _).drew
theorem qjm(B gw:Nat)(l:List PieceG)(x:UInt8)(p c:Nat)(ao:Option Addr)(w:World)(h:Wd B gw w l p ao c)(hl:l.length≤1000000)(ht:∀q∈l,q.text.length≤1000000):
 Calls Tryz.prog 122 #[.pointer (some ⟨gw,0,none⟩),.int .u8 x.toNat] w fun e w'=>e= .returned (.tuple #[])∧(∃ao' c',Wd B gw w' (addP l x) p ao' c')∧Fr (fun b=>b=gw∨B≤b) w w':=by
 obtain⟨i0,hi0,hz0,hz1,hz2⟩:=info_parts (show(Tryz.prog.info? 186).map (fun i=>(i.zero,i.size,i.bytes))=some (some (.agg #[.string ByteArray.empty,.bool false,.int .i64 0]),3,32) by kernel_rfl);obtain⟨c1,c2,c3,c4⟩:=h.blk2.facts;have hcv:∀w:World,(convert 113 9 (.slice (some ⟨w.heap.size,0,none⟩) 1 1)).run Tryz.prog (w.alloc (.cells #[.int .u8 x.toNat] 5)).drew= .ok (.string (S [x])) (w.alloc (.cells #[.int .u8 x.toNat] 5)).drew:=fun w=>
  run_convert_bytes_back (P:=Tryz.prog) (w.alloc (.cells #[.int .u8 x.toNat] 5)).drew 113 9 5 ⟨w.heap.size,0,none⟩ 1 [x] Tryz.underlying113 Tryz.underlying5 Tryz.underlying9 (fun j hj=>by
   have:j=0:=by simpa using hj
   subst this;exact cell_one_new w _ _ 0 _ rfl)
 have hgl:gw<w.heap.size:=h.blk2.lt;have HH:=q6q h;rcases List.eq_nil_or_concat l with rfl|⟨init,q,rfl⟩
 ·have Y:=q6q (qks x)
  clear h ht;simp only[List.length_nil] at c1;go_enter Tryz.func122,Tryz.ntmps122
  go_wp2_with (at_builtin;refine wpList_append_own _ rfl _ _ 125 rfl B qa4 i0 (.agg #[.string ByteArray.empty,.bool false,.int .i64 0]) 3 32 Tryz.underlying125 hi0 hz0 hz1 hz2 rfl (by decide) _ _ _ rfl (HH.out.alloc _).own ⟨_,0,none⟩ 1 1 [.string (S []),.bool false,.int .i64 0] rfl rfl (qjj _ _ _ _ _ _ (by simp)) (by simp[Value.oneCell']) (by unfold maxLen;omega) (by omega) (by simp;have:=HH.out.hB;omega) ?_;intro v' w2 hown2 hgr2 _;obtain⟨ao',c',rfl⟩:=qad hown2;have PW:=q6q ((HH.out.alloc _).push ⟨[],false,0⟩ hown2 hgr2);obtain⟨e1,e2,e3,e4⟩:=((HH.out.alloc _).kept hgr2).facts;have HF:=q6q ((((Fr.refl (fun b=>b=gw∨B≤b) w).alloc _).grown hgr2 (fun k hk _=> .inr (qek HH.out.own k hk))).setCell (g:=gw) (fun _=> .inl rfl) 0 (.slice ao' (0+1) c'));clear hown2 hgr2)
  obtain⟨gp',rfl,hgp',hBg',f1,f2,f3⟩:=PW.out.last;obtain⟨k1,k2,k3,k4⟩:=PW.out.blk2.facts;have hkz:=PW.out.blk2.lt;simp only[List.length_append,List.length_cons,List.length_nil,Nat.zero_add,Nat.zero_mul] at f1 f2 f3 k1;clear e1 e2 e3 e4;generalize hW:w2.setCell ⟨gw,0,none⟩ (.slice (some ⟨gp',0,none⟩) (0+1) c')=wz at*;clear hW;go_region
  all_goals
   go_wp2;go_end0
   refine⟨rfl,?_,?_⟩
   ·rw[Y.out]
    exact⟨_,_,(((PW.out.text [x]).alloc _).drew)⟩
   ·exact(((HF.out.setCell (g:=gp') (fun _=> .inr hBg') _ _).alloc _).drew)
 ·rw[List.concat_eq_append] at*
  obtain⟨gp,rfl,hgp,hBg,d1,d2,d3⟩:=h.last;clear h;have hm1:(init.length:Int)<(init.length:Int)+1:=by omega
  have hm2:(0:Int)≤(init.length:Int):=by omega
  have hm3:(init.length:Int)+1<(init.length:Int)+1+1:=by omega
  have hlen:(init++[q]).length=init.length+1:=by simp
  have hql:q.text.length≤1000000:=ht q (by simp);rw[hlen] at c1 hl;clear hlen;have hq1:q.text.length+1≤9223372036854775807:=by omega
  clear ht hql;cases hv:q.var
  ·rw[hv] at d2
   have Y:=q6q (qgw init q x hv);have HV:=q6q hv;clear hv;go_enter Tryz.func122,Tryz.ntmps122;go_wp2;go_region
   all_goals
    go_wp2;go_end0
    refine⟨rfl,?_,?_⟩
    ·rw[Y.out]
     have:=(((HH.out.text (q.text++[x])).alloc (.cells #[.int .u8 x.toNat] 5)).drew);rw[HV.out] at this;exact⟨_,_,this⟩
    ·exact((((Fr.refl (fun b=>b=gw∨B≤b) w).setCell (g:=gp) (fun _=> .inr hBg) _ _).alloc _).drew)
  ·rw[hv] at d2
   have Y:=q6q (qgv init q x hv);clear hv;have hlen:(init++[q]).length=init.length+1:=by simp
   have HLen:=q6q hlen;clear hlen;go_enter Tryz.func122,Tryz.ntmps122
   go_wp2_with (at_builtin;refine wpList_append_own _ rfl _ _ 125 rfl B qa4 i0 (.agg #[.string ByteArray.empty,.bool false,.int .i64 0]) 3 32 Tryz.underlying125 hi0 hz0 hz1 hz2 rfl (by decide) _ _ _ rfl ((HH.out.alloc _).ownN HLen.out) ⟨_,0,none⟩ 1 1 [.string (S []),.bool false,.int .i64 0] rfl rfl (qjj _ _ _ _ _ _ (by simp)) (by simp[Value.oneCell']) (by unfold maxLen;omega) (by omega) (by simp;have:=HH.out.hB;omega) ?_;intro v' w2 hown2 hgr2 _;obtain⟨ao',c',rfl⟩:=qad hown2;have PW:=q6q ((HH.out.alloc _).pushN HLen.out ⟨[],false,0⟩ hown2 hgr2);obtain⟨e1,e2,e3,e4⟩:=((HH.out.alloc _).keptN HLen.out hgr2).facts;have HF:=q6q ((((Fr.refl (fun b=>b=gw∨B≤b) w).alloc _).grown hgr2 (fun k hk _=> .inr (qek (HH.out.ownN HLen.out) k hk))).setCell (g:=gw) (fun _=> .inl rfl) 0 (.slice ao' (init.length+1+1) c'));clear hown2 hgr2)
   obtain⟨gp',rfl,hgp',hBg',f1,f2,f3⟩:=PW.out.last;obtain⟨k1,k2,k3,k4⟩:=PW.out.blk2.facts;have hkz:=PW.out.blk2.lt;simp only[List.length_append,List.length_cons,List.length_nil,Nat.zero_add,Nat.zero_mul] at f1 f2 f3 k1;clear e1 e2 e3 e4;generalize hW:w2.setCell ⟨gw,0,none⟩ (.slice (some ⟨gp',0,none⟩) (init.length+1+1) c')=wz at*;clear hW;go_region
   all_goals
    go_wp2;go_end0
    refine⟨rfl,?_,?_⟩
    ·rw[Y.out]
     have:=(((PW.out.text [x]).alloc (.cells #[.int .u8 x.toNat] 5)).drew);rw[HLen.out] at this;exact⟨_,_,this⟩
    ·exact(((HF.out.setCell (g:=gp') (fun _=> .inr hBg') _ _).alloc _).drew)
def qbk(s:List UInt8)(k:Nat):Nat:=if h:k<s.length then (if s[k]=32 then qbk s (k+1) else if qb0 s k=true then qbk s (k+2) else k) else k
termination_by s.length - k
theorem qgs(h:k<s.length)(c:s[k]=32):qbk s k=qbk s (k+1):=by
 conv=>lhs;rw[qbk,dif_pos h,if_pos c]
theorem qhq(g:qb0 s k=true):qbk s k=qbk s (k+2):=by
 obtain⟨h1,h2,h3⟩:=qgo g;have hk:k<s.length:=by omega
 rw[List.getElem?_eq_getElem hk] at h2;have:=Option.some.inj h2;conv=>lhs;rw[qbk,dif_pos hk,if_neg (by rw[this];decide),if_pos g]
theorem qdo(c:s[k]?≠some 32)(g:qb0 s k=false):qbk s k=k:=by
 rw[qbk];split
 ·rename_i h
  rw[if_neg (by intro e;apply c;rw[List.getElem?_eq_getElem h,e]),if_neg (by simp[g])]
 ·rfl
def atOf(w:World)(g:Nat):Nat:=match w.cell? ⟨g,1,none⟩ with|some (.int _ n)=>n.toNat|_=>0
theorem Lex.atOf(h:Lex w g s k):atOf w g=k:=by
 obtain⟨_,c2,_,_⟩:=h.blk2.facts;unfold Go.Proofs.YtikdblkfjchjbaaGreatDoor.atOf;rw[c2];simp
theorem Lex.atSet(h:Lex w g s k)(m:Nat)(hv:v=(m:Int)):Go.Proofs.YtikdblkfjchjbaaGreatDoor.atOf (w.setCell ⟨g,1,none⟩ (.int .i64 v)) g=m:=by
 subst hv;exact(h.set m).atOf
theorem qit(s:List UInt8)(g k:Nat)(w:World)(hs:s.length≤2000000000)(hk:k≤s.length)(hx:Lex w g s k):
 Calls Tryz.prog 77 #[.pointer (some ⟨g,0,none⟩)] w fun e w'=>e= .returned (.tuple #[])∧Lex w' g s (qbk s k)∧Fr (fun b=>b=g) w w':=by
 have HX:=q6q hx;clear hx;go_enter Tryz.func77,Tryz.ntmps77;go_wp2;go_loopw [2] (fun _ wr=>∃j:Nat,j≤s.length∧Hid (Lex wr g s j)∧Hid (qbk s k=qbk s j)∧Fr (fun b=>b=g) w wr) (fun _ wr=>s.length - atOf wr g)
 case atStart=>exact⟨k,hk,HX,rfl,Fr.refl _ _⟩
 case round=>
  obtain⟨j,hj,HJ,HQ,hfr⟩:=hrel;clear HX;obtain⟨c1,c2,c3,c4⟩:=HJ.out.blk2.facts;have hat:=q6q HJ.out.atOf;have hgl:=HJ.out.lt;have stB:∀h:j<s.length,qa2 s j=(s[j]==10):=fun h=>by simp[qa2,h]
  by_cases h:j<s.length
  ·have hj1:(j:Int)<(s.length:Int):=by omega
   have hj0:(0:Int)≤(j:Int):=by omega
   by_cases h32:s[j]=32
   ·have HS:=q6q (show qa2 s j=false by rw[stB h,h32];rfl)
    have h32':((s[j].toNat:Int)==32)=true:=by rw[h32];rfl
    have Y:=q6q (show qbk s k=qbk s (j+1) by rw[HQ.out];exact qgs h h32);clear HQ h32 stB;have HE:=q6q (show ∀n,Calls Tryz.prog 78 #[.pointer (some ⟨g,0,none⟩)] (wr.drewN n) fun e w'=>e= .returned (.bool false)∧∃m,w'=(wr.drewN n).drewN m from fun n=>by rw[←HS.out];exact qaz s g j _ hs hj (HJ.out.drewN n));go_wp2;go_quiet (exact Calls.quiet_of (HE.out _));go_wp2;go_roundw
    case rel=>exact⟨j+1,by omega,(HJ.out.drewN _).set (j+1),Y,(hfr.drewN _).setCell (fun _=>rfl) _ _⟩
    case measure=>
     rw[hat.out,(HJ.out.drewN _).atSet (j+1) (by omega)];omega
   ·have h32':((s[j].toNat:Int)==32)=false:=by
     rw[beq_eq_false_iff_ne];intro e;exact h32 (q1i.2 e)
    cases hg:qb0 s j
    ·have HG:=q6q hg
     have Y:=q6q (show qbk s j=j from qdo (by rw[List.getElem?_eq_getElem h];intro e;exact h32 (Option.some.inj e)) hg);clear h32 hg;cases hst:qa2 s j
     all_goals
      have HS:=q6q hst;clear hst stB
      first|(have HE:=q6q (show ∀n,Calls Tryz.prog 78 #[.pointer (some ⟨g,0,none⟩)] (wr.drewN n) fun e w'=>e= .returned (.bool false)∧∃m,w'=(wr.drewN n).drewN m from fun n=>by rw[←HS.out];exact qaz s g j _ hs hj (HJ.out.drewN n));go_wp2;go_quiet (exact Calls.quiet_of (HE.out _)))|(have HE:=q6q (show ∀n,Calls Tryz.prog 78 #[.pointer (some ⟨g,0,none⟩)] (wr.drewN n) fun e w'=>e= .returned (.bool true)∧∃m,w'=(wr.drewN n).drewN m from fun n=>by rw[←HS.out];exact qaz s g j _ hs hj (HJ.out.drewN n));go_wp2;go_quiet (exact Calls.quiet_of (HE.out _)))
      go_wp2_with (go_at_call 119;refine(qbw s g j _ hs hj (HJ.out.drewN _)).mono ?_;rintro e2 w2 ⟨rfl,m2,rfl⟩;rw[HG.out])
      first|go_end0|refine bodyPost_ret (results_none rfl _ _ _) rfl ?_
      exact⟨rfl,by rw[HQ.out,Y.out];exact HJ.out.drewN _,hfr.drewN _⟩
    ·have HG:=q6q hg
     obtain⟨g1,g2,g3⟩:=qgo hg;have HS:=q6q (show qa2 s j=false by
      rw[List.getElem?_eq_getElem h] at g2;rw[stB h,Option.some.inj g2];rfl)
     have Y:=q6q (show qbk s k=qbk s (j+2) by rw[HQ.out];exact qhq hg);clear HQ h32 hg stB g2 g3;have HE:=q6q (show ∀n,Calls Tryz.prog 78 #[.pointer (some ⟨g,0,none⟩)] (wr.drewN n) fun e w'=>e= .returned (.bool false)∧∃m,w'=(wr.drewN n).drewN m from fun n=>by rw[←HS.out];exact qaz s g j _ hs hj (HJ.out.drewN n));go_wp2;go_quiet (exact Calls.quiet_of (HE.out _));go_wp2_with (go_at_call 119;refine(qbw s g j _ hs hj (HJ.out.drewN _)).mono ?_;rintro e2 w2 ⟨rfl,m2,rfl⟩;rw[HG.out])
     go_roundw
     case rel=>exact⟨j+2,by omega,(HJ.out.drewN _).set (j+2),Y,(hfr.drewN _).setCell (fun _=>rfl) _ _⟩
     case measure=>
      rw[hat.out,(HJ.out.drewN _).atSet (j+2) (by omega)];omega
  ·have hnone:s[j]? =none:=List.getElem?_eq_none (by omega)
   have HS:=q6q (show qa2 s j=true by simp[qa2,hnone]);have HG:=q6q (show qb0 s j=false by simp[qb0,hnone]);have Y:=q6q (show qbk s j=j from qdo (by rw[hnone];simp) HG.out);clear hnone stB;have HE:=q6q (show ∀n,Calls Tryz.prog 78 #[.pointer (some ⟨g,0,none⟩)] (wr.drewN n) fun e w'=>e= .returned (.bool true)∧∃m,w'=(wr.drewN n).drewN m from fun n=>by rw[←HS.out];exact qaz s g j _ hs hj (HJ.out.drewN n));go_wp2;go_quiet (exact Calls.quiet_of (HE.out _));go_wp2_with (go_at_call 119;refine(qbw s g j _ hs hj (HJ.out.drewN _)).mono ?_;rintro e2 w2 ⟨rfl,m2,rfl⟩;rw[HG.out])
   first|go_end0|refine bodyPost_ret (results_none rfl _ _ _) rfl ?_
   exact⟨rfl,by rw[HQ.out,Y.out];exact HJ.out.drewN _,hfr.drewN _⟩
theorem qlj(s:List UInt8)(w:World)(hl:s.length≤1000000):
 Calls Tryz.prog 99 #[.string (S s)] w fun e w'=>(∃m:Int,e= .returned (.int .i64 m)∧(0≤m↔qfr s=true))∧w=w':=by
 by_cases hs:s.length=3
 ·have HM:=q6q (show qfr s=qvz s by simp[qfr,qvz,hs])
  have HS:=q6q hs;have hs':((s.length:Int) != 3)=false:=by rw[hs];rfl
  have hle:s.length≤3:=by omega
  have hge:3≤s.length:=by omega
  clear hs;go_enter Tryz.func99,Tryz.ntmps99;go_wp2;go_loop [3,8] (fun n i=>∃(k:Nat) (m:Nat),k≤3∧i= .int .i64 k∧n= .int .i64 m∧m+1≤8^k∧Hid ((s.take k).all octC=true)) (fun n i=>3 - (intOf i).toNat)
  case atStart=>exact⟨0,0,by omega,rfl,rfl,by simp,by simp[Hid]⟩
  case round=>
   obtain⟨k,m,hk,rfl,rfl,hm,hall⟩:=hrel;have hm8:m<512:=by
    have:8^k≤8^3:=Nat.pow_le_pow_right (by omega) hk;omega
   by_cases hk3:k<3
   ·have hlt:k<s.length:=by omega
    have hL:=qoh s[k];have hb:=q4n s[k];cases hok:octC s[k]
    ·have HA:=q6q (show qvz s=false by
      unfold qvz;rw[List.all_eq_false];exact⟨s[k],List.getElem_mem hlt,by simp[hok]⟩)
     have hn:¬(48≤(s[k].toNat:Int)∧(s[k].toNat:Int)≤55):=fun h=>by rw[hL.2 h] at hok;cases hok
     clear hok hL hall;go_wp2
     all_goals first
      |(go_ret;exact⟨⟨_,rfl,by rw[HM.out,HA.out];simp⟩,rfl⟩)
      |(exfalso;simp only[Bool.not_eq_true',Bool.not_eq_false',bne_iff_ne,bne_eq_false_iff_eq,beq_iff_eq,beq_eq_false_iff_ne,decide_eq_true_eq,decide_eq_false_iff_not,ne_eq] at*;omega)
    ·have HA:=q6q (show(s.take (k+1)).all octC=true by rw[qkr _ _ _ hlt,hall.out,hok];rfl)
     obtain⟨n1,n2⟩:=hL.1 hok;have hp:m*8+(s[k].toNat - 48)+1≤8^(k+1):=by rw[Nat.pow_succ];omega
     clear hok hL hall;go_wp2
     all_goals first
      |(go_round;(case rel=>exact⟨k+1,m*8+(s[k].toNat - 48),by omega,by go_num,by go_num,hp,HA⟩);(case measure=>simp[intOf];omega))
      |(exfalso;simp only[Bool.not_eq_true',Bool.not_eq_false',bne_iff_ne,bne_eq_false_iff_eq,beq_iff_eq,beq_eq_false_iff_ne,decide_eq_true_eq,decide_eq_false_iff_not,ne_eq] at*;omega)
   ·have HA:=q6q (show qvz s=true by
     unfold qvz;have:=hall.out;rwa [List.take_of_length_le (by omega)] at this)
    clear hall;go_wp2;go_ret;exact⟨⟨_,rfl,by rw[HM.out,HA.out];simp⟩,rfl⟩
 ·have HM:=q6q (show qfr s=false by simp[qfr,hs])
  have hs':((s.length:Int) != 3)=true:=by rw[bne_iff_ne];omega
  clear hs;go_enter Tryz.func99,Tryz.ntmps99;go_wp2;go_ret;exact⟨⟨-1,rfl,by rw[HM.out];simp⟩,rfl⟩
theorem qfx(s:List UInt8)(w:World)(hl:s.length≤1000000):
 Calls Tryz.prog 155 #[.string (S s)] w fun e w'=>e= .returned (.bool (qhl s))∧w=w':=by
 have hle:=qfe s;by_cases h0:s=[]
 ·subst h0
  go_enter Tryz.func155,Tryz.ntmps155;go_wp2;go_ret;exact⟨rfl,rfl⟩
 have h0':s.isEmpty=false:=by cases s <;> simp_all
 have hne:(s==[])=false:=by simpa using h0
 obtain⟨n,hn⟩:∃n,qbr s=n:=⟨_,rfl⟩;have HN:=q6q hn;rw[hn] at hle;have HV:=q6q (show qhl s=(decide (n=s.length)&&decide (s.length≤10)) by unfold qhl;rw[h0',hn];rfl);clear hn h0;by_cases h1:n=s.length
 ·have h1':((n:Int)==(s.length:Int))=true:=by rw[h1];simp
  have H1:=q6q h1;clear h1;go_enter Tryz.func155,Tryz.ntmps155;go_wp2_with (go_at_call 149;refine(qdx s _ (by omega)).mono ?_;rintro e3 w3 ⟨rfl,rfl⟩;rw[HN.out])
  go_ret;exact⟨qax (by rw[HV.out,H1.out];simp;try omega),rfl⟩
 ·have h1':((n:Int)==(s.length:Int))=false:=by rw[beq_eq_false_iff_ne];omega
  have H1:=q6q h1;clear h1;go_enter Tryz.func155,Tryz.ntmps155;go_wp2_with (go_at_call 149;refine(qdx s _ (by omega)).mono ?_;rintro e3 w3 ⟨rfl,rfl⟩;rw[HN.out])
  go_ret;exact⟨qax (by rw[HV.out];simp[H1.out]),rfl⟩
theorem qnx{l:List UInt8}{c:UInt8}(h:Bld B b l w)(hlen:l.length+1≤4000000000)(hBw:B≤w.heap.size):
 Calls Tryz.prog 48 #[.pointer (some ⟨b,0,none⟩),.int .u8 c.toNat] w fun e w'=>e= .returned .nilIface∧Bld B b (l++[c]) w'∧Below B w w'∧KeepBy w w':=by
 obtain⟨i0,hi,hz0,hz1,hz2⟩:=info_parts (show(Tryz.prog.info? qig).map (fun i=>(i.zero,i.size,i.bytes))=some (some (.int .u8 0),1,1) by kernel_rfl);have hll:(Lib.byteCells l).length=l.length:=Lib.byteCells_length l;have HS:=q6q hBw;have HH:=q6q h;clear h hBw;go_enter Tryz.func48,Tryz.ntmps48;go_wp2_with fail;refine(qjf HH.out).mono ?_;rintro e1 w1 ⟨rfl,h1,hb1,hs1,hk1⟩;have HK1:=q6q hk1;clear hk1;obtain⟨hB,v,hbk,hown,hne⟩:=h1;have HS1:=q6q hs1;have HB:=q6q hB;have HBK:=q6q hbk;have HO:=q6q hown;have HN:=q6q hne;have c0:w1.cell? ⟨b,0,none⟩=some (.pointer (some ⟨b,0,none⟩)):=by rw[Lib.cell_of_heap hbk];rfl
 have c1:w1.cell? ⟨b,1,none⟩=some v:=by rw[Lib.cell_of_heap hbk];rfl
 have f1:w1.frozen? ⟨b,1,none⟩=false:=Lib.frozen_of_heap hbk 1;have hlt:b<w1.heap.size:=q6r w1 _ c0;clear hB hbk hown hne hs1
 go_wp2_with (at_builtin;refine wpList_append_own _ rfl _ _ 113 rfl B qig i0 (.int .u8 0) 1 1 Tryz.underlying113 hi hz0 hz1 hz2 rfl (by decide) _ _ _ rfl (HO.out.alloc _) ⟨w1.heap.size,0,none⟩ 1 1 [.int .u8 c.toNat] rfl rfl (cell_one_new _ _ _) (by simp[Value.oneCell']) (by rw[hll];unfold maxLen;omega) (by rw[hll];omega) (by have:=HS1.out;have:=HS.out;simp;omega) ?_;intro v' w2 hown2 hgr2 _;have HO2:=q6q hown2;have HG2:=q6q hgr2;obtain⟨g,cap,rfl⟩:=qad hown2;have hb2:w2.heap[b]? =some (.cells #[.pointer (some ⟨b,0,none⟩),v] tBld (0,0)):=(by rw[hgr2.block b (by simp;omega) (fun e=>HN.out e.symm),Lib.alloc_old w1 _ b hlt];exact HBK.out);have HB2:=q6q hb2;have d1:w2.cell? ⟨b,1,none⟩=some v:=(by rw[Lib.cell_of_heap hb2];rfl);have f2:w2.frozen? ⟨b,1,none⟩=false:=Lib.frozen_of_heap hb2 1;clear hown2 hgr2 hb2)
 go_ret;have hb1':=hb1;refine⟨rfl,.inr ?_,?_,fun T ht1 ht2=>?_⟩
 ·refine Lib.BuilderAt.put (T:=tBld) (e:=qig) HB.out HB2.out (bs':=Lib.byteCells (l++[c])) ?_ (by decide)
  have h3:=HO2.out;rw[hll] at h3;rw[show Lib.byteCells (l++[c])=Lib.byteCells l++[.int .u8 c.toNat] from by simp[Lib.byteCells],List.length_append,hll];exact h3
 ·exact((hb1.alloc (by have:=HS1.out;have:=HS.out;omega) _).grown HG2.out (by have:=HS1.out;have:=HS.out;simp;omega) (fun k hk=>(HO.out.lt k hk).1)).setCell (p:=⟨b,1,none⟩) HB.out _
 ·exact(HK1.out T ht1 ht2).trans ((KeepT.below ((Below.refl _ _).alloc (Nat.le_refl _) _)).trans ((KeepT.grown HG2.out (HO.out.alloc _) (fun e=>ht1 e.symm)).trans (KeepT.setCell HB2.out (fun e=>ht2 e.symm) 1 _)))
theorem qdi{l:List UInt8}{c:UInt8}(hv:v=(c.toNat:Int))(h:Bld B b l w)(hlen:l.length+1≤4000000000)(hBw:B≤w.heap.size):
 Calls Tryz.prog 48 #[.pointer (some ⟨b,0,none⟩),.int .u8 v] w fun e w'=>e= .returned .nilIface∧Bld B b (l++[c]) w'∧Below B w w'∧KeepBy w w':=by
 subst hv;exact qnx h hlen hBw
def qgz(p:PieceG):List UInt8:=if p.var then [36,123]++p.text++[125] else qb9 p.text
def qdg(l:List PieceG):List UInt8:=l.flatMap qgz
theorem qh0(l:List PieceG)(q:PieceG):qdg (l++[q])=qdg l++qgz q:=by simp[qdg]
theorem q0b(l:List Atm):qdg (qar l [])=qbs l:=by
 induction hn:l.length generalizing l with
 |zero=>rw[List.eq_nil_of_length_eq_zero hn];rfl
 |succ n ihn=>
  rcases List.eq_nil_or_concat l with rfl|⟨l,x,rfl⟩
  ·simp at hn
  rw[List.concat_eq_append] at hn ⊢;have ih:=ihn l (by simpa using hn);rw[qbz];have e:qbs (l++[x])=qbs l++qc9 x:=by simp[qbs]
  rw[e,←ih];cases x with
  |var n p=>simp only[qh9];rw[qh0];rfl
  |ch c=>
   simp only[qh9];generalize qar l []=L;rcases List.eq_nil_or_concat L with rfl|⟨init,q,rfl⟩
   ·simp[addP,qdg,qgz,qb9,qc9]
   ·rw[List.concat_eq_append]
    cases hv:q.var
    ·rw[qgw init q c hv,qh0,qh0]
     simp[qgz,hv,qb9,qc9]
    ·rw[qgv init q c hv,qh0]
     simp[qgz,qb9,qc9]
theorem q0c(w:WordG):qdg w.pl=qbs w.l:=q0b w.l
def qi3:List UInt8:=[46,47,95,61,58,45]
theorem q55(l:List UInt8)(c:UInt8)(h:c∈l):∃i:Nat,Lib.indexByte l c=(i:Int):=by
 induction l with
 |nil=>cases h
 |cons x r ih=>
  by_cases e:x=c
  ·exact⟨0,by rw[Lib.indexByte,if_pos (by simpa using e)];rfl⟩
  ·have hm:c∈r:=by
    rcases List.mem_cons.1 h with h|h
    ·exact absurd h.symm e
    ·exact h
   obtain⟨i,hi⟩:=ih hm;refine⟨i+1,?_⟩;rw[Lib.indexByte,if_neg (by simpa using e),hi,if_neg (by simp)];omega
theorem q5a(l:List UInt8)(c:UInt8)(h:c∉l):Lib.indexByte l c= -1:=by
 induction l with
 |nil=>rfl
 |cons x r ih=>
  rw[List.mem_cons,not_or] at h;rw[Lib.indexByte,if_neg (by simpa using fun e=>h.1 e.symm),ih h.2];rfl
theorem qvn(c:UInt8)(h:c∉qi3)(w:World):
 Calls Tryz.prog 147 #[.string (S [46,47,95,61,58,45]),.int .u8 c.toNat] w fun e w'=>e= .returned (.int .i64 (-1))∧w'=w:=
 (Tryz.strings_IndexByte (S [46,47,95,61,58,45]) c.toNat w).mono fun e w' ⟨he,hw⟩=>⟨by rw[he,qc7,←q5a qi3 c h];simp[qi3],hw⟩
theorem qvm(c:UInt8)(h:c∈qi3):∃i:Nat,∀w:World,
 Calls Tryz.prog 147 #[.string (S [46,47,95,61,58,45]),.int .u8 c.toNat] w fun e w'=>e= .returned (.int .i64 (i:Int))∧w'=w:=by
 obtain⟨i,hi⟩:=q55 qi3 c h;exact⟨i,fun w=>(Tryz.strings_IndexByte (S [46,47,95,61,58,45]) c.toNat w).mono fun e w' ⟨he,hw⟩=>⟨by rw[he,qc7,←hi];simp[qi3],hw⟩⟩
theorem qp1(c:UInt8)(hn:¬((97≤(c.toNat:Int)∧(c.toNat:Int)≤122)∨(65≤(c.toNat:Int)∧(c.toNat:Int)≤90)∨(48≤(c.toNat:Int)∧(c.toNat:Int)≤57))):qd5 c=decide (c∈qi3):=by
 rw[Bool.eq_iff_iff,qm2,decide_eq_true_eq];simp only[qi3,List.mem_cons,List.mem_nil_iff,or_false,q1i];simp
 omega
theorem qk6(c:UInt8)(w:World):
 Calls Tryz.prog 129 #[.int .u8 c.toNat] w fun e w'=>e= .returned (.bool (qd5 c))∧w'=w:=by
 have hi:=qm2 c;by_cases hr:(97≤(c.toNat:Int)∧(c.toNat:Int)≤122)∨(65≤(c.toNat:Int)∧(c.toNat:Int)≤90)∨(48≤(c.toNat:Int)∧(c.toNat:Int)≤57)
 ·have Y:=q6q (show qd5 c=true from hi.2 (by omega))
  clear hi;rcases hr with⟨h1,h2⟩|⟨h1,h2⟩|⟨h1,h2⟩
  all_goals
   go_enter Tryz.func129,Tryz.ntmps129;go_wp2
   all_goals first
    |(go_ret;exact⟨qax Y.out.symm,rfl⟩)
    |(exfalso;try simp only[Bool.not_eq_true',Bool.not_eq_false',bne_iff_ne,bne_eq_false_iff_eq,beq_iff_eq,beq_eq_false_iff_ne,decide_eq_true_eq,decide_eq_false_iff_not,ne_eq] at*;omega)
 ·have hp:=qp1 c hr
  by_cases hm:c∈qi3
  ·have Y:=q6q (show qd5 c=true by rw[hp];simpa using hm)
   obtain⟨i,hI⟩:=qvm c hm;have HI:=q6q hI;clear hi hp hm hI;go_enter Tryz.func129,Tryz.ntmps129;go_wp2_with (go_at_call 147;refine(HI.out _).mono ?_;rintro e2 w2 ⟨rfl,rfl⟩)
   all_goals first
    |(go_ret;exact⟨qax Y.out.symm,rfl⟩)
    |(go_ret;exact⟨qax (by rw[Y.out];decide),rfl⟩)
    |(go_ret;exact⟨qax (by rw[Y.out];simp;omega),rfl⟩)
    |(exfalso;try simp only[Bool.not_eq_true',Bool.not_eq_false',bne_iff_ne,bne_eq_false_iff_eq,beq_iff_eq,beq_eq_false_iff_ne,decide_eq_true_eq,decide_eq_false_iff_not,ne_eq] at*;omega)
  ·have Y:=q6q (show qd5 c=false by rw[hp];simpa using hm)
   have HI:=q6q (qvn c hm);clear hi hp hm;go_enter Tryz.func129,Tryz.ntmps129;go_wp2_with (go_at_call 147;refine(HI.out _).mono ?_;rintro e2 w2 ⟨rfl,rfl⟩)
   all_goals first
    |(go_ret;exact⟨qax Y.out.symm,rfl⟩)
    |(go_ret;exact⟨qax (by rw[Y.out];decide),rfl⟩)
    |(go_ret;exact⟨qax (by rw[Y.out];simp;omega),rfl⟩)
    |(exfalso;try simp only[Bool.not_eq_true',Bool.not_eq_false',bne_iff_ne,bne_eq_false_iff_eq,beq_iff_eq,beq_eq_false_iff_ne,decide_eq_true_eq,decide_eq_false_iff_not,ne_eq] at*;omega)
theorem qrv(h:k<s.length):qb9 (s.take (k+1))=qb9 (s.take k)++qcc s[k]:=qel qcc s k h
theorem qmv(s:List UInt8)(k:Nat):(qb9 (s.take k)).length≤s.length*2:=qdc qcc s k 2 (fun x _=>(qf0 x).2)
theorem qg3(s:List UInt8)(w:World)(hs:s.length≤200000):
 Calls Tryz.prog 86 #[.string (S s)] w fun e w'=>e= .returned (.string (S (qdw (qb9 s))))∧Below w.heap.size w w':=by
 by_cases he:s=[]
 ·subst he
  go_enter Tryz.func86,Tryz.ntmps86;go_wp2;go_ret;exact⟨rfl,Below.refl _ _⟩
 ·have Z:=q6q (show qdw (qb9 s)=qb9 s by
   unfold qdw;rw[if_neg];cases s with
   |nil=>exact absurd rfl he
   |cons x r=>
    intro e;have:=(qf0 x).1;have e2:=congrArg List.length e;simp only[qb9,List.flatMap_cons,List.length_append,List.length_nil] at e2;omega)
  have hne:(s==[])=false:=by simpa using he
  have B0:=q6q (Bld.new w.heap.size w (Nat.le_refl _));have hbw:Below w.heap.size w (w.alloc (.cells #[.pointer none,.slice none 0 0] tBld)):=(Below.refl _ _).alloc (Nat.le_refl _) _;have hsz:w.heap.size+1≤(w.alloc (.cells #[.pointer none,.slice none 0 0] tBld)).heap.size:=by simp
  clear he;go_enter Tryz.func86,Tryz.ntmps86;go_wp2;generalize hW:w.alloc (.cells #[.pointer none,.slice none 0 0] tBld)=w1 at*;clear hW;rw[show(ByteArray.mk #[])=S [] from rfl];go_loopw [9] (fun x wr=>∃k:Nat,k≤s.length∧x= .int .i64 k∧Hid (Bld w.heap.size w.heap.size (qb9 (s.take k)) wr)∧Below w.heap.size w wr) (fun x _=>s.length - (intOf x).toNat)
  case atStart=>exact⟨0,by omega,by go_num,B0,hbw⟩
  case round=>
   clear B0;obtain⟨k,hk,rfl,BI,hbel⟩:=hrel;have HL:=qmv s k;by_cases hlt:k<s.length
   ·have HT:=q6q (qrv hlt)
    have hkl:(k:Int)<(s.length:Int):=by omega
    cases hp:qd5 s[k]
    ·have HP:=q6q (qk6 s[k])
     have HT2:=q6q (show qb9 (s.take (k+1))=qb9 (s.take k)++[92]++[s[k]] by rw[HT.out];unfold qcc;rw[hp];simp);have HPc:=q6q hp;clear hp HT;go_wp2_with fail;refine(HP.out _).mono ?_;rintro e2 w2 ⟨rfl,rfl⟩;rw[HPc.out];go_wp2_with fail;refine(qdi (c:=92) (v:=92) rfl BI.out (by omega) hbel.size).mono ?_;rintro e3 w3 ⟨rfl,h3,hb3,_⟩;have B3:=q6q h3;have HB3:=q6q (hbel.trans hb3);clear h3 hb3;go_wp2_with fail;refine(qdi (c:=s[k]) rfl B3.out (by rw[List.length_append];simp;omega) HB3.out.size).mono ?_;rintro e4 w4 ⟨rfl,h4,hb4,_⟩;have B4:=q6q h4;have HB4:=q6q (HB3.out.trans hb4);clear h4 hb4;go_wp2;go_roundw
     case rel=>exact⟨k+1,by omega,by go_num,by rw[HT2.out];exact B4,HB4.out⟩
     case measure=>simp[intOf];omega
    ·have HP:=q6q (qk6 s[k])
     have HT2:=q6q (show qb9 (s.take (k+1))=qb9 (s.take k)++[s[k]] by rw[HT.out];unfold qcc;rw[hp];simp);have HPc:=q6q hp;clear hp HT;go_wp2_with fail;refine(HP.out _).mono ?_;rintro e2 w2 ⟨rfl,rfl⟩;rw[HPc.out];go_wp2_with fail;refine(qdi (c:=s[k]) rfl BI.out (by omega) hbel.size).mono ?_;rintro e4 w4 ⟨rfl,h4,hb4,_⟩;have B4:=q6q h4;have HB4:=q6q (hbel.trans hb4);clear h4 hb4;go_wp2;go_roundw
     case rel=>exact⟨k+1,by omega,by go_num,by rw[HT2.out];exact B4,HB4.out⟩
     case measure=>simp[intOf];omega
   ·have hke:k=s.length:=by omega
    have HQ:=q6q (show qb9 (s.take k)=qb9 s by rw[hke,List.take_length]);clear hke;go_wp2_with fail;refine(qjk BI.out hbel.size).mono ?_;rintro e5 w5 ⟨rfl,hb5⟩;rw[HQ.out];go_wp2;go_ret;exact⟨qdu Z.out.symm,hbel.trans hb5⟩
def valM(s:List UInt8):Nat:=s.foldl (fun n c=>8*n+(c.toNat - 48)) 0
theorem qxw(s:List UInt8)(c:UInt8):valM (s++[c])=8*valM s+(c.toNat - 48):=by unfold valM;rw[List.foldl_append];rfl
theorem qpc(h:k<s.length):valM (s.take (k+1))=8*valM (s.take k)+(s[k].toNat - 48):=by rw[List.take_succ_eq_append_getElem h,qxw]
theorem qtv(h:qfr s=true):s.length=3∧∀c∈s,octC c=true:=by
 unfold qfr at h;simp only[Bool.and_eq_true,decide_eq_true_eq,List.all_eq_true] at h;exact h
theorem qxx(h:∀c∈s,octC c=true):valM s+1≤8^s.length:=by
 suffices H:∀k,k≤s.length→valM (s.take k)+1≤8^k by
  have:=H s.length (Nat.le_refl _);rwa [List.take_length] at this
 intro k;induction k with
 |zero=>intro _;simp[valM]
 |succ k ih=>
  intro hk;have h1:=ih (by omega);have h2:=(qoh s[k]).1 (h _ (List.getElem_mem (by omega)));rw[qpc (by omega),Nat.pow_succ];omega
theorem q42(h:qfr s=true):valM s≤511:=by
 obtain⟨h1,h2⟩:=qtv h;have:=qxx h2;rw[h1] at this;omega
theorem qzu(s:List UInt8)(w:World)(h:qfr s=true):
 Calls Tryz.prog 99 #[.string (S s)] w fun e w'=>e= .returned (.int .i64 (valM s))∧w=w':=by
 obtain⟨hs,hoc⟩:=qtv h;have HS:=q6q hs;have HO:=q6q hoc;have HL:=q6q (fun k (hk:k≤s.length)=>(by
  have h1:=qxx (s:=s.take k) (fun c hc=>hoc c (List.mem_of_mem_take hc));rw[List.length_take,Nat.min_eq_left hk] at h1;exact h1:valM (s.take k)+1≤8^k))
 have hs':((s.length:Int) != 3)=false:=by rw[hs];rfl
 have hle:s.length≤3:=by omega
 have hge:3≤s.length:=by omega
 clear hs h hoc;go_enter Tryz.func99,Tryz.ntmps99;go_wp2;go_loop [3,8] (fun n i=>∃(k:Nat),k≤3∧i= .int .i64 k∧n= .int .i64 (valM (s.take k))) (fun n i=>3 - (intOf i).toNat)
 case atStart=>exact⟨0,by omega,rfl,rfl⟩
 case round=>
  obtain⟨k,hk,rfl,rfl⟩:=hrel;have hm:=HL.out k (by omega);have hm8:valM (s.take k)<512:=by
   have:8^k≤8^3:=Nat.pow_le_pow_right (by omega) hk;omega
  by_cases hk3:k<3
  ·have hlt:k<s.length:=by omega
   obtain⟨n1,n2⟩:=(qoh s[k]).1 (HO.out _ (List.getElem_mem hlt));have hb:=q4n s[k];have HV:=q6q (qpc hlt);clear hm;generalize valM (s.take k)=m at hm8 HV ⊢;go_wp2
   all_goals first
    |(go_round;(case rel=>exact⟨k+1,by omega,by go_num,by rw[HV.out];go_num⟩);(case measure=>simp[intOf];omega))
    |(exfalso;simp only[Bool.not_eq_true',Bool.not_eq_false',bne_iff_ne,bne_eq_false_iff_eq,beq_iff_eq,beq_eq_false_iff_ne,decide_eq_true_eq,decide_eq_false_iff_not,ne_eq] at*;omega)
  ·have HA:=q6q (show s.take k=s from List.take_of_length_le (by omega))
   clear hm;rw[HA.out];go_wp2;go_ret;exact⟨rfl,rfl⟩
theorem FStagesR.get{st:List StageG}(h:FStagesR B w st ao c)(hk:k<st.length):
 ∃b o sa sc va vc,ao=some ⟨b,o,none⟩∧b<w.heap.size∧w.cell? ⟨b,o+k*4,none⟩=some (.string (S st[k].name))∧w.cell? ⟨b,o+k*4+1,none⟩=some (.int .i64 st[k].base)∧w.cell? ⟨b,o+k*4+2,none⟩=some (.slice sa st[k].steps.length sc)∧w.cell? ⟨b,o+k*4+3,none⟩=some (.slice va st[k].vars.length vc)∧(∃scs,w.ownsRow 0 qai 4 (.slice sa st[k].steps.length sc) st[k].steps.length scs∧FStepCells w st[k].steps scs)∧w.ownsRow 0 qbl 1 (.slice va st[k].vars.length vc) st[k].vars.length (strs st[k].vars):=by
 obtain⟨cs,h1,h2⟩:=h.all;have h1:=RdT.of_own h1;obtain⟨sv,vv,g1,g2,g3,g4,g5⟩:=h2.get k hk;obtain⟨b,o,rfl,hb,hc⟩:=h1.rd.at (k*4) (by rw[h2.len];omega);obtain⟨scs,s1,s2⟩:=g5.steps;obtain⟨sa,sc,rfl⟩:=qad s1;obtain⟨va,vc,rfl⟩:=qad g5.vars;exact⟨b,o,sa,sc,va,vc,rfl,hb,hc _ _ g1,hc _ _ g2,hc _ _ g3,hc _ _ g4,⟨scs,qak s1 (Nat.zero_le _),s2⟩,qak g5.vars (Nat.zero_le _)⟩
def layL(xs:List Value):Nat→List Value→List Value
 |_,[]=>xs
 |o,v::r=>layL (xs.set o v) (o+1) r
theorem q2x(vs:List Value):∀(xs:List Value) (o:Nat) (k:Nat),o+vs.length≤xs.length→(layL xs o vs)[k]? =if o≤k∧k<o+vs.length then vs[k - o]? else xs[k]?:=by
 induction vs with
 |nil=>intro xs o k h;simp only[layL,List.length_nil];rw[if_neg (by omega)]
 |cons v r ih=>
  intro xs o k h;simp only[List.length_cons] at h ⊢;rw[layL,ih _ _ _ (by rw[List.length_set];omega)];by_cases h1:o+1≤k∧k<o+1+r.length
  ·rw[if_pos h1,if_pos (by omega),show k - o=(k - (o+1))+1 by omega,List.getElem?_cons_succ]
  ·rw[if_neg h1,List.getElem?_set]
   by_cases h2:o=k
   ·subst h2
    rw[if_pos rfl,if_pos (by omega),if_pos (by omega),Nat.sub_self];rfl
   ·rw[if_neg h2,if_neg (by omega)]
theorem q2y(xs vs:List Value)(h:vs.length=xs.length):layL xs 0 vs=vs:=by
 apply List.ext_getElem?;intro k;rw[q2x vs xs 0 k (by omega)];by_cases hk:k<vs.length
 ·rw[if_pos (by omega)];simp
 ·rw[if_neg (by omega),List.getElem?_eq_none (by omega),List.getElem?_eq_none (by omega)]
theorem qke{base:Nat}(vs:List Value):∀(o:Nat) (xs:List Value) (w:World),w.ownsRow base e 1 (.slice (some ⟨g,0,none⟩) n c) n xs→o+vs.length≤n→(w.setCells g o vs).ownsRow base e 1 (.slice (some ⟨g,0,none⟩) n c) n (layL xs o vs):=by
 induction vs with
 |nil=>intro o xs w h _;exact h
 |cons v r ih=>
  intro o xs w h hl;simp only[List.length_cons] at hl;exact ih (o+1) _ _ (qec h o v (by omega)) (by omega)
theorem qhr{B g:Nat}(hg:B≤g){a:World}:∀(vs:List Value) (o:Nat) (w:World),Below B a w→Below B a (w.setCells g o vs)
 |[],_,_,h=>h
 |v::r,o,w,h=>qhr hg r (o+1) _ (Below.setCell h hg v)
theorem q23(l:List Nat)(j:Nat)(h:j<l.length):(l.map (fun (i:Nat)=>(i:Int))).getD j 0=(l[j]:Int):=by simp[h]
theorem q15{base:Nat}{size:Nat}{xs:List Value}(h:w.ownsRow base e size (.slice A n c) n xs)(hn:0<n):∃g,A=some ⟨g,0,none⟩∧n≤c∧c≤maxLen:=by
 rcases h.2 with⟨_,e2⟩|⟨g,cap,cur,e,hg,hh,h1,h2,r⟩
 ·omega
 ·simp only[Value.slice.injEq] at e
  obtain⟨rfl,-,rfl⟩:=e;exact⟨g,rfl,h1,h2⟩
theorem qug(h:Below B w w')(n:Nat):Below B w (w'.drewN n):=⟨h.os,h.tape,h.output,h.size,h.block⟩
theorem qve(l:List Nat)(oo:Option Addr)(oc B:Nat)(w:World)(hl:l.length≤1000)(ho:w.ownsRow B 3 1 (.slice oo l.length oc) l.length (ints l)):
 Calls Tryz.prog 90 #[.slice oo l.length oc] w fun e w'=>e= .returned (.tuple #[])∧w'.ownsRow B 3 1 (.slice oo l.length oc) l.length (ints l.reverse)∧Below B w w':=by
 rcases Nat.eq_zero_or_pos l.length with h0|h0
 ·obtain rfl:=List.eq_nil_of_length_eq_zero h0
  refine(Tryz.slices_Reverse_int_empty oo oc w).mono ?_;rintro e w' ⟨rfl,rfl⟩;exact⟨rfl,ho,Below.refl _ _⟩
 ·obtain⟨g,rfl,h1,h2⟩:=q15 ho h0
  have hg:=qek ho;have hc:=ho.cells (g:=g) rfl;have ha:∀j,(⟨g,0,none⟩:Addr).add j=⟨g,j,none⟩:=fun j=>by unfold Addr.add;split <;> simp_all
  refine(Tryz.slices_Reverse_int_cells g 0 l.length oc (l.map (fun (i:Nat)=>(i:Int))) w (by simp) (by omega) ?_ ?_).mono ?_
  ·intro j hj
   rw[List.length_map] at hj;have:=hc j (.int .i64 l[j]) (by simp[ints,hj]);rw[ha] at this;rw[q23 l j hj,Nat.zero_add];exact this
  ·intro j hj
   rw[Nat.zero_add];have:=ho.frozenAt j;exact this
  ·rintro e w' ⟨rfl,q,rfl⟩
   have e1:(((l.map (fun (i:Nat)=>(i:Int))).take l.length).reverse.map (Value.int .i64))=ints l.reverse:=by
    rw[List.take_of_length_le (by simp),←List.map_reverse,List.map_map];rfl
   rw[e1];have e2:(ints l.reverse).length=l.length:=by simp[ints]
   refine⟨rfl,?_,qhr (hg g rfl) _ _ _ (qug (Below.refl _ _) q)⟩;have h3:=qke (ints l.reverse) 0 (ints l) (w.drewN q) (qac ho (qug (Below.refl _ _) q)) (by omega);rwa [q2y _ _ (by rw[e2];simp[ints])] at h3
theorem qzi(st:List StageG)(m gp c k0 B:Nat)(ao:Option Addr)(w:World)(hm:st.length=m+1)(hp:w.heap[gp]? =some (Obj.cells #[.slice ao (m+1) c,.int .i64 k0] 105 (0,0)))(hst:FStagesR B w st ao c)(hok:FileOk st):
 Calls Tryz.prog 55 #[.pointer (some ⟨gp,0,none⟩)] w fun e w'=>(∃ao' c',e= .returned (.slice ao' (qc1 st).length c')∧w'.ownsRow w.heap.size 3 1 (.slice ao' (qc1 st).length c') (qc1 st).length (ints (qc1 st)))∧Below w.heap.size w w':=by
 obtain⟨i0,hi0,hz0,hz1,hz2⟩:=info_parts (show(Tryz.prog.info? 4).map (fun i=>(i.zero,i.size,i.bytes))=some (some (.bool false),1,1) by kernel_rfl);obtain⟨i1,hi1,hz3,hz4,hz5⟩:=info_parts (show(Tryz.prog.info? 3).map (fun i=>(i.zero,i.size,i.bytes))=some (some (.int .i64 0),1,8) by kernel_rfl);have HST:=q6q hst;have HM:=q6q hm;have HOK:=q6q hok;have HP:=q6q hp;have hm5:m≤4:=by have:=hok.h5;omega
 have hne:st≠[]:=hok.ne;have M0:=q6q (show Marks st ((List.replicate (m+1) false).set m true) from⟨by simp[hm],by rw[hm];simp,fun i hi=>by
  by_cases e:m=i
  ·subst e
   have:=Reach.last hne;rwa [hm,Nat.add_sub_cancel] at this
  ·rw[List.getElem?_set_ne e,List.getElem?_replicate] at hi
   split at hi <;> cases hi⟩)
 obtain⟨c1,c2,c3,c4⟩:=(show Blk2 w gp (.slice ao (m+1) c) (.int .i64 k0) from⟨_,hp⟩).facts;clear hst hm hok hne hp;have hm1:(m:Int)<(m:Int)+1:=by omega
 have hm2:(0:Int)≤(m:Int):=by omega
 go_enter Tryz.func55,Tryz.ntmps55;go_wp2_with (at_make;refine wpList_make_full _ rfl _ _ 202 rfl w.heap.size 4 i0 (.bool false) 1 Tryz.underlying202 hi0 hz0 hz1 .i64 .i64 _ _ (m+1) rfl rfl (by simp) (by simp) (by rw[hz2];omega) (by unfold maxLen;omega) (Nat.le_refl _) ?_;intro w1 hown1 hgr1;have HO1:=q6q hown1;have HG1:=q6q hgr1;have hs1:=hgr1.size;have fz:=qkj (b:=List.replicate (m+1) false) (k:=m) (v:=false) (by simpa[qra,toList_madeCells_one,Value.cells] using hown1) (by simp);obtain⟨fz1,fz2⟩:=fz;clear hown1 hgr1)
 have NI:=q6q (show NInv w w.heap.size m st (w1.setCell ⟨w.heap.size,m,none⟩ (.bool true)) ((List.replicate (m+1) false).set m true) from
  ⟨by rw[←qq9];exact qec (by simpa[qra,toList_madeCells_one,Value.cells] using HO1.out) m (.bool true) (by omega),M0.out,Below.setCell ((Below.refl _ _).grown HG1.out (Nat.le_refl _) (fun k hk=>by cases hk)) (Nat.le_refl _) _,Nat.le_refl _⟩)
 clear hs1 fz1 fz2 HO1 HG1 M0;generalize hW:w1.setCell ⟨w.heap.size,m,none⟩ (.bool true)=w2 at*;clear hW;generalize hB0:(List.replicate (m+1) false).set m true=b00 at*;clear hB0;obtain⟨gn,egn⟩:∃g,g=w.heap.size:=⟨_,rfl⟩;rw[←egn];replace NI:=q6q (show NInv w gn m st w2 b00 by rw[egn];exact NI.out);clear egn c1 c2 c3 c4;go_loopw [2,4] (fun v x wr=>∃(b:List Bool) (kk:Nat) (oo:Option Addr) (oc:Nat),x= .int .i64 ((kk:Int) - 1)∧v= .slice oo (qc8 b (m+1) kk).length oc∧kk≤m+1∧Hid (ClosedFrom st b kk)∧Hid (NInv w gn m st wr b)∧
  Hid (wr.ownsRow (gn+1) 3 1 (.slice oo (qc8 b (m+1) kk).length oc) (qc8 b (m+1) kk).length (ints (qc8 b (m+1) kk)))∧gn+1≤wr.heap.size) (fun _ x _=>(intOf x+1).toNat)
 case atStart=>exact⟨b00,m+1,none,0,q4e (by omega),by rw[qqy];rfl,by omega,by rw[←HM.out];exact ClosedFrom.top st b00,NI,by rw[qqy];exact World.ownsRow_nil _ _ _ _,qzb NI.out.own⟩
 case round=>
  clear NI;obtain⟨b,kk,oo,oc,hx,rfl,hk,HC,NI,HO,hgs⟩:=hrel;cases kk with
  |zero=>
   subst hx;have HD:=q6q (show(qc8 b (m+1) 0).reverse=qc1 st by rw[←HM.out];exact q0j NI.out.marks HC.out);have hdl:=qqz b (m+1) 0;go_wp2_with (go_at_call 90;refine(qve (qc8 b (m+1) 0) oo oc (gn+1) _ (by omega) HO.out).mono ?_;rintro e3 w3 ⟨rfl,ho3,hb3⟩)
   go_ret;rw[HD.out] at ho3;have hl2:(qc8 b (m+1) 0).length=(qc1 st).length:=by rw[←HD.out,List.length_reverse]
   rw[hl2] at ho3 ⊢;exact⟨⟨oo,oc,rfl,qak ho3 (Nat.le_trans NI.out.gge (Nat.le_succ _))⟩,NI.out.bel.trans (hb3.mono (Nat.le_trans NI.out.gge (Nat.le_succ _)))⟩
  |succ i=>
   have e1:(((i+1:Nat):Int) - 1)=(i:Int):=by omega
   rw[e1] at hx;subst hx;clear e1;have hil:i<st.length:=by have:=HM.out;omega
   have hi9:(i:Int)<(m:Int)+1:=by omega
   have hi0':(0:Int)≤(i:Int):=by omega
   have hdl:=qqz b (m+1) (i+1);obtain⟨v,hv⟩:∃v,b[i]? =some v:=⟨b[i]'(by have:=NI.out.marks.len;have:=HM.out;omega),List.getElem?_eq_getElem _⟩;obtain⟨n1,n2⟩:=qkj NI.out.own hv;cases v with
   |false=>
    have HDs:=q6q (show qc8 b (m+1) i=qc8 b (m+1) (i+1) by rw[qnl _ _ _ (by omega),if_neg (by rw[hv];decide)]);have HC2:=q6q (HC.out.pass (by rw[hv];decide));clear hv HC;go_wp2;go_roundw
    case rel=>exact⟨b,i,oo,oc,by go_num,by rw[HDs.out],by omega,HC2,NI,by rw[HDs.out];exact HO,hgs⟩
    case measure=>simp[intOf]
   |true=>
    have hp3:=q6q ((NI.out.bel.block gp (q6s HP.out).1).trans HP.out);obtain⟨q1,q2,q3,q4⟩:=(show Blk2 wr gp (.slice ao (m+1) c) (.int .i64 k0) from⟨_,hp3.out⟩).facts;obtain⟨sb,so,sa,sc,va,vc,rfl,hsb,m1,m2,m3,m4,⟨scs,hss,hsc⟩,_⟩:=HST.out.get hil;replace m1:=(NI.out.bel.cell (p:=⟨sb,so+i*4,none⟩) hsb).trans m1;replace m2:=(NI.out.bel.cell (p:=⟨sb,so+i*4+1,none⟩) hsb).trans m2;replace m3:=(NI.out.bel.cell (p:=⟨sb,so+i*4+2,none⟩) hsb).trans m3;replace m4:=(NI.out.bel.cell (p:=⟨sb,so+i*4+3,none⟩) hsb).trans m4;have HSR:=q6q (RdT.of_own hss).rd;have HSC:=q6q hsc
    have hsl:st[i].steps.length≤24:=(HOK.out.bd _ (List.getElem_mem hil)).2;have HWF:=q6q (HOK.out.wf i hil);have HV:=q6q hv;have HDs:=q6q (show qc8 b (m+1) i=qc8 b (m+1) (i+1)++[i] by rw[qnl _ _ _ (by omega),if_pos hv]);have hgw:gn<wr.heap.size:=hgs;have NIc:=q6q (NI.out.after ((Below.refl _ _).alloc (Nat.le_refl _) (.cells #[.string (S st[i].name),.int .i64 st[i].base,.slice sa st[i].steps.length sc,.slice va st[i].vars.length vc] qas)));have HOc:=q6q (HO.out.alloc (.cells #[.string (S st[i].name),.int .i64 st[i].base,.slice sa st[i].steps.length sc,.slice va st[i].vars.length vc] qas));clear hss hsc hv
    have hways:st[i].base<0∨∃k:Nat,st[i].base=(k:Int):=by
     rcases Int.lt_or_le st[i].base 0 with h|h
     ·exact .inl h
     ·exact .inr ⟨st[i].base.toNat,by omega⟩
    have hne5:gn≠wr.heap.size:=by omega
    have hne6:wr.heap.size≠gn:=by omega
    obtain⟨b1,hb1e⟩:∃b1,b1=b:=⟨_,rfl⟩;obtain⟨wa,hwa⟩:∃wa,wa=wr.alloc (.cells #[.string (S st[i].name),.int .i64 st[i].base,.slice sa st[i].steps.length sc,.slice va st[i].vars.length vc] qas):=⟨_,rfl⟩;rcases hways with hb0|⟨bk,hbk⟩
    all_goals first
     | (have MD:=q6q (Mid.start (b0:=b) hil hb0)
        have hb1:¬(0≤st[i].base):=by omega
        have hb2:decide (0≤st[i].base)=false:=by rw[decide_eq_false_iff_not];exact hb1
        clear hb0;go_wp2;replace MD:=q6q (show Mid st b b1 i 0 hil by rw[hb1e];exact MD.out);replace NIc:=q6q (show NInv w gn m st wa b1 by rw[hwa,hb1e];exact NIc.out);replace HOc:=q6q (show wa.ownsRow (gn+1) 3 1 (.slice oo (qc8 b (m+1) (i+1)).length oc) (qc8 b (m+1) (i+1)).length (ints (qc8 b (m+1) (i+1))) by rw[hwa];exact HOc.out);rw[←hwa];clear hwa hb1e hb1 hb2)
     | (have hbl:bk<i:=by have:=HWF.out.1;omega
        have MD:=q6q (Mid.start1 (b0:=b) hil bk hbl NI.out.marks.len hbk);have MS:=q6q (NI.out.marks.set hil HV.out hbl (by unfold qdj;rw[Bool.or_eq_true];right;simpa using hbk));obtain⟨vb,hvb⟩:∃v,b[bk]? =some v:=⟨b[bk]'(by have:=NI.out.marks.len;have:=HM.out;omega),List.getElem?_eq_getElem _⟩;obtain⟨n3,n4⟩:=qkj NI.out.own hvb;have hb4:(bk:Int)<(m:Int)+1:=by omega
        clear NIc HOc hwa;rw[hbk] at m2;have hbo:∀{W:World} (o:Obj),Below W.heap.size W (W.alloc o):=fun o=>Below.alloc (Below.refl _ _) (Nat.le_refl _) o
        have NIc:=q6q ((NI.out.mark (k:=bk) (by omega) MS.out).after (hbo (.cells #[.string (S st[i].name),.int .i64 (bk:Int),.slice sa st[i].steps.length sc,.slice va st[i].vars.length vc] qas)));have HOc:=q6q ((ownsRow_setCell_below HO.out (a:=⟨gn,bk,none⟩) (Nat.lt_succ_self gn) (.bool true)).alloc (.cells #[.string (S st[i].name),.int .i64 (bk:Int),.slice sa st[i].steps.length sc,.slice va st[i].vars.length vc] qas));clear hvb hb1e b1;generalize hgb:b.set bk true=b1 at*;clear hgb MS wa hbo;go_wp2
        generalize hwb:(wr.setCell ⟨gn,bk,none⟩ (.bool true)).alloc (.cells #[.string (S st[i].name),.int .i64 (bk:Int),.slice sa st[i].steps.length sc,.slice va st[i].vars.length vc] qas)=wa at*;clear hwb)
    all_goals
     clear m1 m2 m3 m4 q1 q2 q3 q4 n1 n2 hgw hne5 hne6 NI HO hp3;go_loopw [48] (fun x wx=>∃(q:Nat) (bq:List Bool),x= .int .i64 q∧q≤st[i].steps.length∧Hid (Mid st b bq i q hil)∧Hid (NInv w gn m st wx bq)∧
      Hid (wx.ownsRow (gn+1) 3 1 (.slice oo (qc8 b (m+1) (i+1)).length oc) (qc8 b (m+1) (i+1)).length (ints (qc8 b (m+1) (i+1))))) (fun x _=>st[i].steps.length - (intOf x).toNat)
     (case atStart=>exact⟨0,b1,rfl,by omega,MD,NIc,HOc⟩)
     (case round=>
       clear MD NIc HOc;obtain⟨q,bq,rfl,hq,MD,NIc,HOc⟩:=hrel;by_cases hlt:q<st[i].steps.length
       ·obtain⟨b2,o2,rfl,hb2,hc2⟩:=HSR.out.at (q*4) (by rw[HSC.out.len];omega)
        obtain⟨A',c',s1,s2,s3,s4,_⟩:=HSC.out.get q hlt;have z0:=(NIc.out.bel.cell (p:=⟨b2,o2+q*4,none⟩) hb2).trans (hc2 _ _ s1);have z1:=(NIc.out.bel.cell (p:=⟨b2,o2+q*4+1,none⟩) hb2).trans (hc2 _ _ s2);have z2:=(NIc.out.bel.cell (p:=⟨b2,o2+q*4+2,none⟩) hb2).trans (hc2 _ _ s3);have z3:=(NIc.out.bel.cell (p:=⟨b2,o2+q*4+3,none⟩) hb2).trans (hc2 _ _ s4);have hgw:gn<wr.heap.size:=qzb NIc.out.own;have hne5:gn≠wr.heap.size:=by omega
        have hne6:wr.heap.size≠gn:=by omega
        clear s1 s2 s3 s4 hc2 hb2;have hway:st[i].steps[q].stage<0∨∃k:Nat,st[i].steps[q].stage=(k:Int):=by
         rcases Int.lt_or_le st[i].steps[q].stage 0 with h|h
         ·exact .inl h
         ·exact .inr ⟨st[i].steps[q].stage.toNat,by omega⟩
        rcases hway with hb0|⟨k,hk0⟩
        ·have MD2:=q6q (MD.out.skip (fun _=>hb0))
         have hb1:¬(0≤st[i].steps[q].stage):=by omega
         have hbo:∀{W:World} (o:Obj),Below W.heap.size W (W.alloc o):=fun o=>Below.alloc (Below.refl _ _) (Nat.le_refl _) o
         have NI2:=fun o=>q6q (NIc.out.after (hbo o))
         have HO2:=fun o=>q6q (HOc.out.alloc o)
         clear hb0 hbo;go_wp2;go_roundw;(case rel=>exact⟨q+1,bq,by go_num,by omega,MD2,NI2 _,HO2 _⟩)
         (case measure=>simp[intOf];omega)
        ·have hkl:k<i:=by have:=HWF.out.2 _ (List.getElem_mem hlt);omega
         have MD2:=q6q (MD.out.set k hkl NIc.out.marks.len (fun _=>hk0));have MS:=q6q (NIc.out.marks.set hil (by rw[MD.out.above i (Nat.le_refl _)];exact HV.out) hkl (by unfold qdj;rw[Bool.or_eq_true];left;rw[List.any_eq_true];exact⟨_,List.getElem_mem hlt,by simpa using hk0⟩));obtain⟨vb,hvb⟩:∃v,bq[k]? =some v:=⟨bq[k]'(by have:=NIc.out.marks.len;have:=HM.out;omega),List.getElem?_eq_getElem _⟩;obtain⟨n3,n4⟩:=qkj NIc.out.own hvb;have hb4:(k:Int)<(m:Int)+1:=by omega
         rw[hk0] at z2;have hbo:∀{W:World} (o:Obj),Below W.heap.size W (W.alloc o):=fun o=>Below.alloc (Below.refl _ _) (Nat.le_refl _) o
         have NI2:=fun o=>q6q ((NIc.out.mark (k:=k) (by omega) MS.out).after (hbo o))
         have HO2:=fun o=>q6q ((ownsRow_setCell_below HOc.out (a:=⟨gn,k,none⟩) (Nat.lt_succ_self gn) (.bool true)).alloc o)
         clear hvb hbo hk0;go_wp2;go_roundw;(case rel=>exact⟨q+1,_,by go_num,by omega,MD2,NI2 _,HO2 _⟩)
         (case measure=>simp[intOf];omega)
       ·obtain rfl:q=st[i].steps.length:=by omega
        have HC2:=q6q (MD.out.closed HC.out);have HDs2:=q6q (show qc8 bq (m+1) i=qc8 b (m+1) (i+1)++[i] by rw[qw5 (b:=b) (fun j hj=>MD.out.above j hj)];exact HDs.out);have hgs:=qzb NIc.out.own
        go_wp2_with (at_builtin;refine wpList_append_own _ rfl _ _ 141 rfl (gn+1) 3 i1 (.int .i64 0) 1 8 Tryz.underlying141 hi1 hz3 hz4 hz5 rfl (by decide) _ _ _ rfl (HOc.out.alloc _) ⟨_,0,none⟩ 1 1 [.int .i64 i] rfl rfl (cell_one_new _ _ _) (by simp[Value.oneCell']) (by unfold maxLen;omega) (by omega) (by simp;omega) ?_;intro v' w5 hown5 hgr5 _;obtain⟨ao',c',rfl⟩:=qad hown5;have NI5:=q6q ((NIc.out.after ((Below.refl _ _).alloc (Nat.le_refl _) _)).grown hgr5 (qm4 HOc.out (Nat.lt_succ_self gn)) (Nat.le_trans hgs (by simp)) (qek HOc.out));have HO5:=q6q hown5;have hs5:=hgr5.size;simp only[World.size_alloc] at hs5;clear hown5 hgr5)
        go_roundw;(case rel=>exact⟨bq,i,ao',c',by go_num,by rw[HDs2.out];simp,by omega,HC2,NI5,by rw[HDs2.out];unfold ints;rw[List.map_append,List.length_append];exact HO5,by omega⟩)
        (case measure=>simp[intOf]))
end Go.Proofs.YtikdblkfjchjbaaGreatDoor
