import Derived.Test.YtikdblkfjchjbaaGreatDoorY01
import Derived.Test.YtikdblkfjchjbaaGreatDoorShelf
import Derived.Test.YtikdblkfjchjbaaGreatDoorY07
set_option linter.unusedVariables false
set_option linter.unusedSimpArgs false
set_option maxHeartbeats 16000000
set_option maxRecDepth 100000
namespace Go.Proofs.YtikdblkfjchjbaaGreatDoor
open Go.RowKit
variable{w w' c:World}{F:qag}{B N b i k n:Nat}{a m:Pth→Nat}{p:Pth}{l:List UInt8}{X Y:List (List UInt8)}{x:Nd}
theorem qq5(b:UInt8)(w:World):
 Calls Tryz.prog 138 #[.int .u8 b.toNat] w fun e w'=>e= .returned (.bool (qho b))∧w=w':=by
 have hb:=q4n b;have h0:(0:Int)≤(b.toNat:Int):=by omega
 have hi:=qxa b;generalize (b.toNat:Int)=c at*;cases hc:qho b
 ·have hci:¬_:=fun h=>absurd (hi.2 h) (by simp[hc])
  clear hc hi;go_enter Tryz.func138,Tryz.ntmps138;go_wp2
  all_goals first
   |(go_ret;exact⟨rfl,rfl⟩)
   |(exfalso;simp only[Bool.not_eq_true',Bool.not_eq_false',bne_iff_ne,bne_eq_false_iff_eq,decide_eq_true_eq,decide_eq_false_iff_not,ne_eq] at*;omega)
 ·have hci:=hi.1 hc
  clear hc hi;go_enter Tryz.func138,Tryz.ntmps138;go_wp2
  all_goals first
   |(go_ret;exact⟨rfl,rfl⟩)
   |(exfalso;simp only[Bool.not_eq_true',Bool.not_eq_false',bne_iff_ne,bne_eq_false_iff_eq,decide_eq_true_eq,decide_eq_false_iff_not,ne_eq] at*;omega)
theorem qdb(s p:List UInt8)(w:World):
 Calls Tryz.prog 67 #[.string (S s),.string (S p)] w fun e w'=>e= .returned (.bool (p.isPrefixOf s))∧w=w':=
 (Tryz.strings_HasPrefix (S s) (S p) w).mono fun e w' ⟨he,hw⟩=>⟨by rw[he,qc7,qc7];rfl,hw.symm⟩
theorem qfm(s:List UInt8)(w:World)(hs:s.length≤maxLen):
 Calls Tryz.prog 105 #[.string (S s)] w fun e w'=>e= .returned (.bool (qba s))∧w=w':=by
 have hb:=q6q (fun w=>qdb s [46,119,104,46] w);unfold maxLen at hs;by_cases e0:s=[]
 ·subst e0
  go_enter Tryz.func105,Tryz.ntmps105;go_wp2_with (go_at_call 67;refine(hb.out _).mono ?_;rintro e w' ⟨rfl,rfl⟩)
  go_ret;exact⟨rfl,rfl⟩
 replace e0:s.isEmpty=false:=by cases s <;> simp_all
 by_cases h1:60<s.length
 ·have HE:=q6q (show qba s=false by simp[qba,show ¬s.length≤60 by omega])
  go_enter Tryz.func105,Tryz.ntmps105;go_wp2_with (go_at_call 67;refine(hb.out _).mono ?_;rintro e w' ⟨rfl,rfl⟩)
  go_ret;exact⟨qax HE.out.symm,rfl⟩
 replace h1:s.length≤60:=by omega
 by_cases h2:(s==[46])=true
 ·have HE:=q6q (show qba s=false by simp[qba,h2])
  go_enter Tryz.func105,Tryz.ntmps105;go_wp2_with (go_at_call 67;refine(hb.out _).mono ?_;rintro e w' ⟨rfl,rfl⟩)
  go_ret;exact⟨qax HE.out.symm,rfl⟩
 replace h2:(s==[46])=false:=by simpa using h2
 by_cases h3:(s==[46,46])=true
 ·have HE:=q6q (show qba s=false by simp[qba,h3])
  go_enter Tryz.func105,Tryz.ntmps105;go_wp2_with (go_at_call 67;refine(hb.out _).mono ?_;rintro e w' ⟨rfl,rfl⟩)
  go_ret;exact⟨qax HE.out.symm,rfl⟩
 replace h3:(s==[46,46])=false:=by simpa using h3
 by_cases h4:([46,119,104,46].isPrefixOf s)=true
 ·have HE:=q6q (show qba s=false by simp only[qba,h4];simp)
  go_enter Tryz.func105,Tryz.ntmps105;go_wp2_with (go_at_call 67;refine(hb.out _).mono ?_;rintro e w' ⟨rfl,rfl⟩)
  go_ret;exact⟨qax HE.out.symm,rfl⟩
 replace h4:([46,119,104,46].isPrefixOf s)=false:=by cases h:[46,119,104,46].isPrefixOf s <;> simp_all
 have HE:=q6q (show qba s=s.all qho by simp only[qba,h1,h2,h3,h4,e0];simp);go_enter Tryz.func105,Tryz.ntmps105;go_wp2_with (go_at_call 67;refine(hb.out _).mono ?_;rintro e w' ⟨rfl,rfl⟩)
 go_loop [25] (fun i=>∃k:Nat,k≤s.length∧i= .int .i64 k∧Hid ((s.take k).all qho=true)) (fun i=>s.length - (intOf i).toNat)
 case atStart=>exact⟨0,by omega,rfl,by simp[Hid]⟩
 case round=>
  obtain⟨k,hk,rfl,hall⟩:=hrel;by_cases hlt:k<s.length
  ·cases hcl:qho s[k]
   ·have HA:=q6q (show s.all qho=false by rw[List.all_eq_false];exact⟨s[k],List.getElem_mem hlt,by simp[hcl]⟩)
    have HC:=q6q hcl;clear hcl hall;go_wp2_with (go_at_call 138;refine(qq5 s[k] _).mono ?_;rintro e w' ⟨rfl,rfl⟩;rw[HC.out])
    go_ret;exact⟨qax (HE.out.trans HA.out).symm,rfl⟩
   ·have HA:=q6q (show(s.take (k+1)).all qho=true by rw[qkr _ _ _ hlt,hall.out,hcl];rfl)
    have HC:=q6q hcl;clear hcl hall;go_wp2_with (go_at_call 138;refine(qq5 s[k] _).mono ?_;rintro e w' ⟨rfl,rfl⟩;rw[HC.out])
    go_round
    case rel=>exact⟨k+1,by omega,by go_num,HA⟩
    case measure=>simp[intOf];omega
  ·have HA:=q6q (show s.all qho=true by have:=hall.out;rwa [List.take_of_length_le (Nat.le_of_not_lt hlt)] at this)
   replace hlt:s.length≤k:=by omega
   go_wp2;go_ret;exact⟨qax (HE.out.trans HA.out).symm,rfl⟩
theorem qyn(c x:UInt8)(r:List UInt8)(h:x≠c)(n:Nat):Lib.splitK [c] 0 n (x::r)=match Lib.splitK [c] 0 n r with
 |[]=>[[x]]
 |a::t=>(x::a)::t:=by
 cases n with
 |zero=>rfl
 |succ n=>
  have hi:Lib.index (x::r) [c]=if Lib.index r [c]== -1 then -1 else Lib.index r [c]+1:=by
   rw[Lib.index,if_neg];simp[List.isPrefixOf];exact fun e=>h e.symm
  have hg:=Lib.index_ge r [c];unfold Lib.splitK;rw[hi];by_cases h1:Lib.index r [c]= -1
  ·simp[h1]
  ·have h2:(Lib.index r [c]== -1)=false:=by simpa using h1
   have h3:(Lib.index r [c]+1== -1)=false:=by simp;omega
   simp only[h2,h3,Bool.false_eq_true,if_false];obtain⟨i,hi⟩:=Int.eq_ofNat_of_zero_le (show 0≤Lib.index r [c] by omega);rw[hi];simp only[Nat.add_zero,show((i:Int)+1).toNat=i+1 by omega,show(i:Int).toNat=i by omega,List.take_succ_cons];rw[show i+1+[c].length=(i+[c].length)+1 by omega,List.drop_succ_cons]
theorem qym(c:UInt8)(s:List UInt8):Lib.splitK [c] 0 (Lib.count s [c]) s=cutB c s:=by
 induction s with
 |nil=>simp[Lib.count,Lib.countFrom,Lib.splitK,Lib.index,cutB]
 |cons x r ih=>
  by_cases h:x=c
  ·subst h
   rw[Lib.count_cons_eq,Nat.add_comm,Lib.splitK];have:Lib.index (x::r) [x]=0:=by rw[Lib.index,if_pos (by simp[List.isPrefixOf])]
   rw[this,cutB,if_pos rfl];simp[ih]
  ·rw[Lib.count_cons_ne _ _ _ h,qyn _ _ _ h,ih,cutB,if_neg h]
   cases cutB c r <;> rfl
theorem qk3(s:List UInt8)(b:UInt8)(w:World)(hw:Std w)(hs:s.length≤4294967280):
 Calls Tryz.prog 137 #[.string (S s),.string (S [b])] w fun e w'=>∃v,e= .returned v∧w'.ownsRow w.heap.size 9 1 v (cutB b s).length (strs (cutB b s))∧Below w.heap.size w w':=by
 obtain⟨m,hm⟩:=hw.maxlen;refine(Tryz.strings_Split (S s) (S [b]) m w (by rw[qc0];omega) hm (by rw[qc0];simp)).mono fun e w' ⟨he,hw⟩=>?_
 have e0:(Lib.splitB (S [b]) 0 (Lib.countB (S s) (S [b])) (S s)).map Value.string=strs (cutB b s):=by
  have h1:=Lib.splitB_data (S [b]) 0 (Lib.countB (S s) (S [b])) (S s);rw[qc7,qc7,show Lib.countB (S s) (S [b])=Lib.count s [b] by rw[Lib.countB,qc7,qc7],qym] at h1;rw[←h1,strs,List.map_map];apply List.map_congr_left;intro x _;simp[S_of]
 have e1:Lib.countB (S s) (S [b])+1=(cutB b s).length:=by
  have h1:=Lib.splitB_all (S [b]) (by rw[qc0];simp) 0 _ (S s) rfl;rw[←h1,←List.length_map (f:=Value.string),e0,qcx]
 refine⟨_,he,?_,?_⟩
 ·rw[hw,e0,e1]
  have hl:=qub b s;have:=World.ownsRow_lit (base:=w.heap.size) (e:=9) (size:=1) w (strs (cutB b s)).toArray (cutB b s).length (Nat.le_refl _) (by unfold maxLen;omega) (by simp[qcx]);simpa using this
 ·rw[hw];exact(Below.refl _ _).alloc (Nat.le_refl _) _
theorem qe2(s:List UInt8)(w:World)(hw:Std w)(hs:s.length≤4294967280):
 Calls Tryz.prog 104 #[.string (S s)] w fun e w'=>∃v,e= .returned v∧w'.ownsRow w.heap.size 9 1 v (qaa s).length (strs (qaa s))∧Below w.heap.size w w':=by
 by_cases h0:s=[]
 ·subst h0
  go_enter Tryz.func104,Tryz.ntmps104;go_wp2;go_ret;exact⟨_,rfl,World.ownsRow_nil _ _ _ _,Below.refl _ _⟩
 ·have e0:s.isEmpty=false:=by cases s <;> simp_all
  have X:=q6q (show qaa s=cutB 47 s by simp[qaa,h0]);have HS:=q6q hw;clear hw;go_enter Tryz.func104,Tryz.ntmps104;go_wp2_with (go_at_call 137;refine(qk3 s 47 _ HS.out hs).mono ?_;rintro e w1 ⟨v,rfl,hown,hb⟩)
  go_ret;exact⟨_,rfl,by rw[X.out];exact hown,hb⟩
theorem qlc(s:List UInt8):qb2 (qaa s)≤s.length+1:=by
 unfold qaa;split
 ·simp[qb2]
 ·exact qi9 _ _
theorem qhe(s:List UInt8)(w:World)(hw:Std w)(hs:s.length≤4294967280):
 Calls Tryz.prog 62 #[.string (S s)] w fun e w'=>e= .returned (.bool (qa5 s))∧Below w.heap.size w w':=by
 have hpl:=qhw s;have HS:=q6q hw;clear hw;by_cases h1:s.length≤170∧(qaa s).length≤12
 case neg=>
  have X:=q6q (show qa5 s=false by unfold qa5;rw[←Bool.decide_and,decide_eq_false h1];rfl);by_cases h2:170<s.length
  all_goals
   have h3:170<s.length∨12<(qaa s).length:=by omega
   clear h1;go_enter Tryz.func62,Tryz.ntmps62;go_wp2_with (go_at_call 104;refine(qe2 s _ HS.out hs).mono ?_;rintro e w1 ⟨v,rfl,hown,hb⟩;obtain⟨A,cap,rfl,_,_,hrd⟩:=Rd.of_own hown;clear hown)
   go_ret;exact⟨qax X.out.symm,hb⟩
 obtain⟨h2,h3⟩:=h1;have X:=q6q (show qa5 s=(qaa s).all qba by unfold qa5;rw[decide_eq_true h2,decide_eq_true h3];rfl);go_enter Tryz.func62,Tryz.ntmps62;go_wp2_with (go_at_call 104;refine(qe2 s _ HS.out hs).mono ?_;rintro e w1 ⟨v,rfl,hown,hb⟩;obtain⟨A,cap,rfl,_,_,hrd⟩:=Rd.of_own hown;clear hown)
 generalize hL:qaa s=L at*;have HL:=q6q hL;clear hL;go_loop [18] (fun i=>∃k:Nat,k≤L.length∧i= .int .i64 k∧Hid ((L.take k).all qba=true)) (fun i=>L.length - (intOf i).toNat)
 case atStart=>exact⟨0,Nat.zero_le _,rfl,rfl⟩
 case round=>
  obtain⟨k,hk,rfl,hall⟩:=hrel;by_cases hlt:k<L.length
  ·obtain⟨b,o,rfl,hbb,hc⟩:=hrd.at k (by simpa[strs] using hlt)
   have hck:=hc k _ (qc5 hlt);have hel:L[k].length≤maxLen:=by
    have:=qi8 L k hlt;have h4:qb2 L≤s.length+1:=by rw[←HL.out];exact qlc s
    unfold maxLen;omega
   cases hE:qba L[k]
   ·have Y:=q6q (show L.all qba=false by rw[List.all_eq_false];exact⟨L[k],List.getElem_mem hlt,by simp[hE]⟩)
    have HE:=q6q hE;clear hc hrd hall hE;go_wp2_with (go_at_call 105;refine(qfm L[k] _ hel).mono ?_;rintro e w2 ⟨rfl,rfl⟩;rw[HE.out])
    go_ret;exact⟨qax (by rw[X.out,Y.out]),hb⟩
   ·have Y:=q6q (show(L.take (k+1)).all qba=true by rw[qkr _ _ _ hlt,hall.out,hE];rfl)
    have HE:=q6q hE;clear hc hrd hall hE;go_wp2_with (go_at_call 105;refine(qfm L[k] _ hel).mono ?_;rintro e w2 ⟨rfl,rfl⟩;rw[HE.out])
    go_round
    case rel=>exact⟨k+1,by omega,by go_num,Y⟩
    case measure=>simp[intOf];omega
  ·obtain rfl:k=L.length:=by omega
   have Y:=q6q (show L.all qba=true by have:=hall.out;rwa [List.take_length] at this);clear hall;go_wp2;go_ret;exact⟨qax (by rw[X.out,Y.out]),hb⟩
theorem qda(a b:List UInt8)(w:World)(hs:a.length+b.length≤9000000000):
 Calls Tryz.prog 109 #[.string (S a),.string (S b)] w fun e w'=>e= .returned (.string (S (inB a b)))∧w=w':=by
 by_cases h1:a=[]
 ·subst h1
  go_enter Tryz.func109,Tryz.ntmps109;go_wp2;go_ret;exact⟨qdu (by simp[inB]),rfl⟩
 have f1:a.isEmpty=false:=by cases a <;> simp_all
 by_cases h2:b=[]
 ·subst h2
  have X:=q6q (show inB a []=a by simp[inB]);clear h1;go_enter Tryz.func109,Tryz.ntmps109;go_wp2;go_ret;exact⟨qdu (by rw[X.out]),rfl⟩
 have f2:b.isEmpty=false:=by cases b <;> simp_all
 have X:=q6q (show inB a b=a++47::b by simp[inB,h1,h2]);clear h1 h2;go_enter Tryz.func109,Tryz.ntmps109;go_wp2;go_ret;exact⟨qdu (by rw[X.out]),rfl⟩
theorem qk0(s:List UInt8)(w:World)(hs:s.length≤maxLen):
 Calls Tryz.prog 100 #[.string (S s)] w fun e w'=>e= .returned (.bool (qdt s))∧w=w':=by
 unfold maxLen at hs;go_enter Tryz.func100,Tryz.ntmps100;go_wp2;go_loop [6] (fun i=>∃k:Nat,k≤s.length∧i= .int .i64 k∧Hid ((s.take k).all visC=true)) (fun i=>s.length - (intOf i).toNat)
 case atStart=>exact⟨0,by omega,rfl,by simp[Hid]⟩
 case round=>
  obtain⟨k,hk,rfl,hall⟩:=hrel;by_cases hlt:k<s.length
  ·have hi:=q1c s[k]
   cases hc:visC s[k]
   ·have HA:=q6q (show qdt s=false by
     have:s.all visC=false:=by rw[List.all_eq_false];exact⟨s[k],List.getElem_mem hlt,by simp[hc]⟩
     rw[qdt,this];rfl)
    have hn:¬(33≤(s[k].toNat:Int)∧(s[k].toNat:Int)≤126):=fun h=>absurd (hi.2 h) (by simp[hc])
    clear hc hi hall;by_cases h33:(s[k].toNat:Int)<33
    ·clear hn
     go_wp2;go_ret;exact⟨qax HA.out.symm,rfl⟩
    ·have h126:126<(s[k].toNat:Int):=by omega
     clear hn;go_wp2;go_ret;exact⟨qax HA.out.symm,rfl⟩
   ·have HA:=q6q (show(s.take (k+1)).all visC=true by rw[qkr _ _ _ hlt,hall.out,hc];rfl)
    obtain⟨h33,h126⟩:=hi.1 hc;clear hc hi hall;go_wp2;go_round
    case rel=>exact⟨k+1,by omega,by go_num,HA⟩
    case measure=>simp[intOf];omega
  ·have HA:=q6q (show qdt s=(!s.isEmpty&&decide (s.length≤100)) by
    have:=hall.out;rw[List.take_of_length_le (Nat.le_of_not_lt hlt)] at this;rw[qdt,this];rfl)
   replace hlt:s.length≤k:=by omega
   clear hall;by_cases he:s=[]
   ·subst he
    go_wp2;go_ret;exact⟨qax (by rw[HA.out];rfl),rfl⟩
   ·have f1:s.isEmpty=false:=by cases s <;> simp_all
    clear he;go_wp2;go_ret;exact⟨qax (by rw[HA.out,f1];simp;omega),rfl⟩
theorem qqn(x:Ent)(w:World)(hs:x.data.length≤4294967280):
 Calls Tryz.prog 63 #[x.agg] w fun e w'=>e= .returned (.bool (qbh x))∧Below w.heap.size w w':=by
 obtain⟨p,kind,mode,data⟩:=x;simp only[Ent.agg] at*;by_cases k1:kind=1
 ·subst k1
  have X:=q6q (show qbh ⟨p,1,mode,data⟩=(qh6 mode&&data.isEmpty) by simp[qbh]);by_cases m0:0≤mode
  case neg=>
   have m1:mode<0:=by omega
   have X2:=q6q (show qbh ⟨p,1,mode,data⟩=false by rw[X.out,qh6,decide_eq_false (by omega)];rfl);clear m0 X;go_enter Tryz.func63,Tryz.ntmps63;go_wp2;go_ret;exact⟨qax (by rw[X2.out]),(Below.refl _ _).alloc (Nat.le_refl _) _⟩
  by_cases m1:mode≤511
  case neg=>
   have m2:511<mode:=by omega
   have X2:=q6q (show qbh ⟨p,1,mode,data⟩=false by rw[X.out,qh6,decide_eq_false (by omega)];rfl);clear m1 X;go_enter Tryz.func63,Tryz.ntmps63;go_wp2;go_ret;exact⟨qax (by rw[X2.out]),(Below.refl _ _).alloc (Nat.le_refl _) _⟩
  have HM:=q6q (show qh6 mode=true by rw[qh6,decide_eq_true ⟨m0,m1⟩])
  ·by_cases d0:data=[]
   ·subst d0
    go_enter Tryz.func63,Tryz.ntmps63;go_wp2;go_ret;exact⟨qax (by rw[X.out,HM.out];simp),(Below.refl _ _).alloc (Nat.le_refl _) _⟩
   ·have f1:data.isEmpty=false:=by cases data <;> simp_all
    clear d0;go_enter Tryz.func63,Tryz.ntmps63;go_wp2;go_ret;exact⟨qax (by rw[X.out,HM.out,f1];rfl),(Below.refl _ _).alloc (Nat.le_refl _) _⟩
 have f1:(kind==1)=false:=by simpa using k1
 by_cases k2:kind=2
 ·subst k2
  have X:=q6q (show qbh ⟨p,2,mode,data⟩=(qh6 mode&&decide (data.length≤4096)) by simp[qbh]);by_cases m0:0≤mode
  case neg=>
   have m1:mode<0:=by omega
   have X2:=q6q (show qbh ⟨p,2,mode,data⟩=false by rw[X.out,qh6,decide_eq_false (by omega)];rfl);clear m0 X;go_enter Tryz.func63,Tryz.ntmps63;go_wp2;go_ret;exact⟨qax (by rw[X2.out]),(Below.refl _ _).alloc (Nat.le_refl _) _⟩
  by_cases m1:mode≤511
  case neg=>
   have m2:511<mode:=by omega
   have X2:=q6q (show qbh ⟨p,2,mode,data⟩=false by rw[X.out,qh6,decide_eq_false (by omega)];rfl);clear m1 X;go_enter Tryz.func63,Tryz.ntmps63;go_wp2;go_ret;exact⟨qax (by rw[X2.out]),(Below.refl _ _).alloc (Nat.le_refl _) _⟩
  have HM:=q6q (show qh6 mode=true by rw[qh6,decide_eq_true ⟨m0,m1⟩])
  ·by_cases d0:data.length≤4096
   ·go_enter Tryz.func63,Tryz.ntmps63
    go_wp2;go_ret;exact⟨qax (by rw[X.out,HM.out];simp;omega),(Below.refl _ _).alloc (Nat.le_refl _) _⟩
   ·have d1:4096<data.length:=by omega
    clear d0;go_enter Tryz.func63,Tryz.ntmps63;go_wp2;go_ret;exact⟨qax (by rw[X.out,HM.out];simp;omega),(Below.refl _ _).alloc (Nat.le_refl _) _⟩
 have f2:(kind==2)=false:=by simpa using k2
 by_cases k3:kind=3
 ·subst k3
  have X:=q6q (show qbh ⟨p,3,mode,data⟩=(decide (mode=0)&&qdt data) by simp[qbh]);by_cases m0:mode=0
  ·subst m0
   go_enter Tryz.func63,Tryz.ntmps63;go_wp2_with (go_at_call 100;refine(qk0 data _ (by unfold maxLen;omega)).mono ?_;rintro e9 w9 ⟨rfl,rfl⟩)
   go_ret;exact⟨qax (by rw[X.out];simp),(Below.refl _ _).alloc (Nat.le_refl _) _⟩
  ·have m1:(mode==0)=false:=by simpa using m0
   have X2:=q6q (show qbh ⟨p,3,mode,data⟩=false by rw[X.out,decide_eq_false m0];rfl);clear m0 X;go_enter Tryz.func63,Tryz.ntmps63;go_wp2;go_ret;exact⟨qax (by rw[X2.out]),(Below.refl _ _).alloc (Nat.le_refl _) _⟩
 have f3:(kind==3)=false:=by simpa using k3
 have X2:=q6q (show qbh ⟨p,kind,mode,data⟩=false by simp[qbh,k1,k2,k3]);clear k1 k2 k3;go_enter Tryz.func63,Tryz.ntmps63;go_wp2;go_ret;exact⟨qax X2.out.symm,(Below.refl _ _).alloc (Nat.le_refl _) _⟩
theorem qlq(s:List UInt8)(w:World):
 Calls Tryz.prog 172 #[.string (S s)] w fun e w'=>e= .returned (.bool false)∧w'=w:=by
 go_enter Tryz.func172,Tryz.ntmps172;go_wp2;go_ret;exact⟨by simp,rfl⟩
theorem q0o{a b:List UInt8}(h:a<b):cmpS a b= -1:=by unfold cmpS;rw[if_pos h]
theorem q0p{a b:List UInt8}(h:b<a):cmpS a b=1:=by
 unfold cmpS;rw[if_neg (fun h2=>List.lt_irrefl a (List.lt_trans h2 h)),if_pos h]
theorem q0q{a b:List UInt8}(h1:¬a<b)(h2:¬b<a):cmpS a b=0:=by unfold cmpS;rw[if_neg h1,if_neg h2]
theorem quc(a b:List UInt8)(w:World):
 Calls Tryz.prog 139 #[.string (S a),.string (S b)] w fun e w'=>e= .returned (.int .i64 (cmpS a b))∧w'=w:=by
 have l1:=qz3 a b;have l2:=qz3 b a;by_cases h1:a<b
 ·have Y:=q6q (q0o h1)
  rw[decide_eq_true h1] at l1;clear h1;go_enter Tryz.func139,Tryz.ntmps139;go_wp2_with (go_at_call 172;refine(qlq _ _).mono ?_;rintro e1 w1 ⟨rfl,rfl⟩)
  go_ret;exact⟨qdv Y.out.symm,rfl⟩
 ·by_cases h2:b<a
  ·have Y:=q6q (q0p h2)
   have e1:(a==b)=false:=by rw[beq_eq_false_iff_ne];intro e;subst e;exact h1 h2
   rw[decide_eq_false h1] at l1;rw[decide_eq_true h2] at l2;clear h1 h2;go_enter Tryz.func139,Tryz.ntmps139;go_wp2_with (go_at_call 172;refine(qlq _ _).mono ?_;rintro e1 w1 ⟨rfl,rfl⟩)
   go_ret;exact⟨qdv Y.out.symm,rfl⟩
  ·have Y:=q6q (q0q h1 h2)
   have e1:(a==b)=true:=by rw[beq_iff_eq];exact List.le_antisymm (List.not_lt.1 h2) (List.not_lt.1 h1)
   rw[decide_eq_false h1] at l1;rw[decide_eq_false h2] at l2;clear h1 h2;go_enter Tryz.func139,Tryz.ntmps139;go_wp2_with (go_at_call 172;refine(qlq _ _).mono ?_;rintro e1 w1 ⟨rfl,rfl⟩)
   go_ret;exact⟨qdv Y.out.symm,rfl⟩
theorem qq4(h:k<X.length)(h2:k=Y.length):qaq (X.drop k) (Y.drop k)=1:=by
 rw[List.drop_eq_getElem_cons h,List.drop_eq_nil_of_le (by omega:Y.length≤k)];rfl
theorem qs6(h:k<X.length)(h2:k<Y.length):qaq (X.drop k) (Y.drop k)=(if X[k]<Y[k] then -1 else if Y[k]<X[k] then 1 else qaq (X.drop (k+1)) (Y.drop (k+1))):=by
 rw[List.drop_eq_getElem_cons h,List.drop_eq_getElem_cons h2];rfl
theorem qq3(h:k=X.length):qaq (X.drop k) (Y.drop k)=if k<Y.length then -1 else 0:=by
 rw[List.drop_eq_nil_of_le (by omega:X.length≤k)];split
 ·rename_i h2
  rw[List.drop_eq_getElem_cons h2];rfl
 ·rw[List.drop_eq_nil_of_le (by omega:Y.length≤k)];rfl
theorem qpp(X Y:List (List UInt8))(A B:Option Addr)(n m ca cb:Nat)(w:World)(hn:X.length=n)(hm:Y.length=m)(hx:Rd w A (strs X))(hy:Rd w B (strs Y))(hl:X.length≤4294967290)(hl2:Y.length≤4294967290):
 Calls Tryz.prog 106 #[.slice A n ca,.slice B m cb] w fun e w'=>e= .returned (.int .i64 (qaq X Y))∧w'=w:=by
 subst hn;subst hm;have HX:=q6q hx;have HY:=q6q hy;clear hx hy;go_enter Tryz.func106,Tryz.ntmps106;go_wp2;go_loop [11] (fun i=>∃k:Nat,k≤X.length∧k≤Y.length∧i= .int .i64 k∧Hid (qaq X Y=qaq (X.drop k) (Y.drop k))) (fun i=>X.length - (intOf i).toNat)
 case atStart=>exact⟨0,by omega,by omega,rfl,rfl⟩
 case round=>
  obtain⟨k,hk,hk2,rfl,HQ⟩:=hrel;by_cases hlt:k<X.length
  ·obtain⟨b,o,rfl,hb,hc⟩:=HX.out.at k (by rw[qcx];exact hlt)
   have a0:=hc k _ (qc5 hlt);have hkl:(k:Int)<(X.length:Int):=by omega
   clear hc;by_cases h2:k<Y.length
   ·obtain⟨b2,o2,rfl,hb2,hc2⟩:=HY.out.at k (by rw[qcx];exact h2)
    have a1:=hc2 k _ (qc5 h2);have hkm:(k:Int)<(Y.length:Int):=by omega
    have HE:=q6q (qs6 hlt h2);clear hc2;obtain⟨x,hx⟩:∃x,x=X[k]:=⟨_,rfl⟩;obtain⟨y,hy⟩:∃y,y=Y[k]:=⟨_,rfl⟩;rw[←hx,←hy] at HE;rw[←hx] at a0;rw[←hy] at a1;clear hx hy;have HCm:=q6q (quc x y);by_cases l1:x<y
    ·have HR:=q6q (show qaq X Y= -1 by rw[HQ.out,HE.out,if_pos l1])
     have HC:=q6q (q0o l1);clear l1;go_wp2_with (go_at_call 139;refine(HCm.out _).mono ?_;rintro e1 w1 ⟨rfl,rfl⟩;rw[HC.out])
     go_ret;exact⟨qdv HR.out.symm,rfl⟩
    ·by_cases l2:y<x
     ·have HR:=q6q (show qaq X Y=1 by rw[HQ.out,HE.out,if_neg l1,if_pos l2])
      have HC:=q6q (q0p l2);clear l1 l2;go_wp2_with (go_at_call 139;refine(HCm.out _).mono ?_;rintro e1 w1 ⟨rfl,rfl⟩;rw[HC.out])
      go_ret;exact⟨qdv HR.out.symm,rfl⟩
     ·have HR:=q6q (show qaq X Y=qaq (X.drop (k+1)) (Y.drop (k+1)) by rw[HQ.out,HE.out,if_neg l1,if_neg l2])
      have HC:=q6q (q0q l1 l2);clear l1 l2;go_wp2_with (go_at_call 139;refine(HCm.out _).mono ?_;rintro e1 w1 ⟨rfl,rfl⟩;rw[HC.out])
      go_round
      case rel=>exact⟨k+1,by omega,by omega,by go_num,HR⟩
      case measure=>simp[intOf];omega
   ·have HR:=q6q (show qaq X Y=1 by rw[HQ.out];exact qq4 hlt (by omega))
    go_wp2;go_ret;exact⟨qdv HR.out.symm,rfl⟩
  ·have HR:=q6q (show qaq X Y=if k<Y.length then -1 else 0 by rw[HQ.out];exact qq3 (by omega))
   obtain rfl:k=X.length:=by omega
   by_cases h2:X.length<Y.length
   ·rw[if_pos h2] at HR
    go_wp2;go_ret;exact⟨qdv HR.out.symm,rfl⟩
   ·rw[if_neg h2] at HR
    go_wp2;go_ret;exact⟨qdv HR.out.symm,rfl⟩
theorem qdm(a b:List UInt8)(w:World)(hw:Std w)(ha:a.length≤4294967280)(hb:b.length≤4294967280):
 Calls Tryz.prog 64 #[.string (S a),.string (S b)] w fun e w'=>e= .returned (.int .i64 (qaq (qaa a) (qaa b)))∧Below w.heap.size w w':=by
 have HS:=q6q hw;have hla:=qhw a;have hlb:=qhw b;clear hw;go_enter Tryz.func64,Tryz.ntmps64;go_wp2_with fail;refine(qe2 a _ HS.out ha).mono ?_;rintro e w1 ⟨v1,rfl,hown1,hb1⟩;obtain⟨A1,cap1,rfl,_,_,hrd1⟩:=Rd.of_own hown1;have HB1:=q6q hb1;have HR1:=q6q hrd1;clear hown1 hrd1 hb1;go_wp2_with fail;refine(qe2 b _ (HS.out.below HB1.out) hb).mono ?_;rintro e w2 ⟨v2,rfl,hown2,hb2⟩;obtain⟨A2,cap2,rfl,_,_,hrd2⟩:=Rd.of_own hown2;have HB2:=q6q (HB1.out.trans (hb2.mono HB1.out.size));have HR2:=q6q (HR1.out.below hb2);have HR3:=q6q hrd2;clear hown2 hrd2 hb2;go_wp2_with fail
 refine(qpp (qaa a) (qaa b) A1 A2 _ _ cap1 cap2 _ rfl rfl HR2.out HR3.out (by omega) (by omega)).mono ?_;rintro e w3 ⟨rfl,rfl⟩;go_wp2;go_ret;exact⟨rfl,HB2.out⟩
def atV(a:Pth→Nat)(F:qag)(p:Pth):Value:=qv1 (if (F p).isSome then some (a p) else none)
theorem qgu(h:F p=some x):atV a F p= .pointer (some ⟨a p,0,none⟩):=by unfold atV;rw[h];rfl
theorem qkq(h:F p=none):atV a F p= .pointer none:=by unfold atV;rw[h];rfl
theorem qh1(hT:TreeAt w B N a m F)(t:Nat)(ht:TreeV w t a)(p:List UInt8)(hp:p.length≤4294967280)(hS:Std w):
 Calls Tryz.prog 70 #[.pointer (some ⟨t,0,none⟩),.string (S p)] w fun e w'=>e= .returned (atV a F (qaa p))∧Below w.heap.size w w':=by
 have HT:=q6q hT;have HS:=q6q hS;have ht0:w.cell? ⟨t,0,none⟩=some (.pointer (some ⟨a [],0,none⟩)):=ht;clear hT hS ht;go_enter Tryz.func70,Tryz.ntmps70;go_wp2_with fail;refine(qe2 p _ HS.out hp).mono ?_;rintro e w1 ⟨v,rfl,hown,hb⟩;obtain⟨A,cap,rfl,_,_,hrd⟩:=Rd.of_own hown;have HB:=q6q hb;have HR:=q6q hrd;have HT1:=q6q (HT.out.below hb);have hlen:=qlc p;have hpl:=qhw p;clear hown hb hrd HT ht0;generalize hL:qaa p=L at*;have HL:=q6q hL;clear hL;go_wp2;go_loop [5,15] (fun n i=>∃k:Nat,k≤L.length∧i= .int .i64 k∧n= .pointer (some ⟨a (L.take k),0,none⟩)∧Hid (∃x,F (L.take k)=some x)) (fun _ i=>L.length - (intOf i).toNat)
 case atStart=>
  obtain⟨x,hx,_⟩:=HT1.out.tree.root;exact⟨0,Nat.zero_le _,rfl,rfl,x,hx⟩
 case round=>
  obtain⟨k,hk,rfl,rfl,hX⟩:=hrel;obtain⟨x,hx⟩:=hX.out;by_cases hlt:k<L.length
  ·obtain⟨b,o,rfl,hbb,hc⟩:=HR.out.at k (by rw[qcx];exact hlt)
   have hck:=hc k _ (qc5 hlt);have hel:L[k].length≤maxLen:=by
    have:=qi8 L k hlt;unfold maxLen;omega
   have htk:=q6q (show L.take k++[L[k]]=L.take (k+1) from(List.take_succ_eq_append_getElem hlt).symm);obtain⟨_,_,_,_,c4⟩:=HT1.out.cells _ _ hx;have hlk:=HT1.out.look _ _ hx L[k] hel;rw[htk.out] at hlk;clear hc hel;cases hn:F (L.take (k+1)) with
   |none=>
    have Y:=q6q (qkq (a:=a) (show F L=none by
     have:=HT1.out.tree.pre (L.take (k+1)) (L.drop (k+1)) hn;rwa [List.take_append_drop] at this))
    rw[hn] at hlk;replace hlk:(Instr.lookup tMap (mapV x (m (L.take k))) (.string (S L[k])) false).run Tryz.prog w1= .ok (.pointer none) w1:=hlk;have HX:=q6q hx;clear hn hx hX;go_wp2;go_ret;exact⟨by rw[HL.out,Y.out];rfl,HB.out⟩
   |some y=>
    rw[hn] at hlk;replace hlk:(Instr.lookup tMap (mapV x (m (L.take k))) (.string (S L[k])) false).run Tryz.prog w1= .ok (.pointer (some ⟨a (L.take (k+1)),0,none⟩)) w1:=hlk;have HN:=q6q hn;clear hn hx hX;go_wp2;go_round
    case rel=>exact⟨k+1,by omega,by go_num,rfl,y,HN.out⟩
    case measure=>simp[intOf];omega
  ·obtain rfl:k=L.length:=by omega
   have Y:=q6q (show atV a F L= .pointer (some ⟨a (L.take L.length),0,none⟩) by
    rw[List.take_length] at hx ⊢;exact qgu hx)
   clear hx hX;go_wp2;go_ret;exact⟨by rw[HL.out,Y.out];simp,HB.out⟩
theorem q1f{p:List UInt8}(h0:p≠[])(h:(47:UInt8)∉p):upB p=([],p):=by
 unfold upB qaa;rw[if_neg h0,ql0 _ _ h];rfl
theorem q4l(a b:List UInt8)(h:(47:UInt8)∉b):upB (a++47::b)=(a,b):=by
 unfold upB qaa;rw[if_neg (by simp),qko,ql0 _ _ h,List.dropLast_concat,qjc];simp
theorem q5y{p:List UInt8}(hi:i<p.length)(h:p[i]=47)(hb:∀j (hj:j<p.length),i<j→p[j]≠47):upB p=(p.take i,p.drop (i+1)):=by
 have e:p=p.take i++47::p.drop (i+1):=by
  rw[←h,←List.drop_eq_getElem_cons hi,List.take_append_drop]
 have hn:(47:UInt8)∉p.drop (i+1):=by
  intro hm;obtain⟨j,hj,e⟩:=List.getElem_of_mem hm;rw[List.length_drop] at hj;rw[List.getElem_drop] at e;exact hb (i+1+j) (by omega) (by omega) e
 have:=q4l (p.take i) (p.drop (i+1)) hn;rw[←e] at this;exact this
theorem q02(p:List UInt8)(j:Nat)(h:j<p.length):(S p).data[j]! =p[j]:=by
 show p.toArray[j]! =p[j]
 rw[getElem!_pos p.toArray j (by simpa using h)];simp
theorem qdd(p:List UInt8)(h0:p≠[])(hp:p.length≤5000)(w:World):
 Calls Tryz.prog 101 #[.string (S p)] w fun e w'=>e= .returned (.tuple #[.string (S (upB p).1),.string (S (upB p).2)])∧Below w.heap.size w w':=by
 have hL:=q6q (fun w=>Tryz.strings_LastIndexByte (S p) 47 (by rw[qc0];omega) w);rcases Lib.lastIndexByte_spec (S p) 47 with⟨h1,h2⟩|⟨i,h1,h2,h3,h4⟩
 ·have X:=q6q (q1f h0 (by
   intro hm;obtain⟨j,hj,e⟩:=List.getElem_of_mem hm;exact h2 j (by rw[qc0];exact hj) (by rw[q02 p j hj,e];rfl)))
  rw[h1] at hL;clear h1 h2;go_enter Tryz.func101,Tryz.ntmps101;go_wp2_with fail;refine(hL.out _).mono ?_;rintro e w' ⟨rfl,rfl⟩;go_wp2_with fail;go_ret2;exact⟨by rw[X.out];rfl,Below.refl _ _⟩
 ·rw[qc0] at h1 h4
  have X:=q6q (q5y h1 (by rw[q02 p i h1] at h3;exact UInt8.toNat_inj.1 (by have:(p[i].toNat:Int)=47:=h3;show p[i].toNat=47;omega)) (fun j hj hij e=>h4 j hij hj (by rw[q02 p j hj,e];rfl)));rw[h2] at hL;clear h2 h3 h4;have hk2:(i:Int)+1≤(p.length:Int):=by omega
  have hk3:(0:Int)≤(i:Int):=by omega
  have hk4:(i:Int)≤(p.length:Int):=by omega
  go_enter Tryz.func101,Tryz.ntmps101;go_wp2_with fail;refine(hL.out _).mono ?_;rintro e w' ⟨rfl,rfl⟩;go_wp2_with fail;go_region
  all_goals go_wp2
  all_goals go_ret2
  all_goals exact⟨by rw[X.out];rfl,(Below.refl _ _).drew⟩
theorem qgg(p:List UInt8):(upB p).1.length≤p.length+1∧(upB p).2.length≤p.length+1:=by
 have hl:qb2 (qaa p)≤p.length+1:=by
  unfold qaa;split
  ·simp[qb2]
  ·exact qi9 _ _
 refine⟨?_,?_⟩
 ·have h1:=qlo (qaa p).dropLast
  have h2:=qwf (qaa p);show(qa0 (qaa p).dropLast).length≤_
  omega
 ·show((qaa p).getLastD []).length≤_
  generalize qaa p=P at hl;cases hP:P.getLast? with
  |none=>rw[List.getLastD_eq_getLast?,hP];simp
  |some x=>
   have hm:=List.mem_of_getLast? hP;rw[List.getLastD_eq_getLast?,hP];obtain⟨i,hi,rfl⟩:=List.getElem_of_mem hm;have:=qi8 P i hi;show(P[i]).length≤_
   omega
theorem qkx{p:List UInt8}(h:qa5 p=true):qaa (upB p).1=(qaa p).dropLast:=by
 obtain⟨_,he⟩:=qbb h;unfold upB;exact qe7 fun e hm=>by
  have:=qbx (he e (List.dropLast_subset _ hm));exact⟨this.1,this.2.2⟩
theorem qf3{p:List UInt8}(h:qa5 p=true)(hne:p≠[]):qaa p=(qaa p).dropLast++[(upB p).2]∧qba (upB p).2=true:=by
 have hn:=qcs hne;have e:(upB p).2=(qaa p).getLast hn:=by
  unfold upB;rw[List.getLastD_eq_getLast?,List.getLast?_eq_some_getLast hn];rfl
 rw[e];exact⟨(List.dropLast_concat_getLast hn).symm,(qbb h).2 _ (List.getLast_mem hn)⟩
def KeepC(w w':World):Prop:=∀(p:Addr) (v:Value),w.cell? p=some v→w'.cell? p=some v
theorem KeepC.below(h:Below w.heap.size w w'):KeepC w w':=fun p v hp=>(h.cell (q6r w _ hp)).trans hp
theorem KeepC.trans{a b:World}(h:KeepC a b)(k:KeepC b c):KeepC a c:=fun p v hp=>k p v (h p v hp)
def q4i(B N:Nat)(a m:Pth→Nat)(F:qag)(t:Nat)(x:Ent)(W:World)(e:Ending)(w':World):Prop:=
 (qaw F (qaa x.path).dropLast=false∧e= .returned (.bool false)∧Below W.heap.size W w'∧KeepC W w')∨
 (qaw F (qaa x.path).dropLast=true∧e= .returned (.bool true)∧∃a' m',TreeAt w' B (N+1) a' m' (putF F (qaa x.path) (ndOf x))∧TreeV w' t a'∧Below B W w'∧KeepC W w')
def KeepB(m:Pth→Nat)(F:qag)(w w':World):Prop:=∀k,k<w.heap.size→(∀p,qaw F p=true→k≠m p)→w'.heap[k]? =w.heap[k]?
theorem KeepB.below(h:Below w.heap.size w w'):KeepB m F w w':=fun k hk _=>h.block k hk
def PutFull(B N:Nat)(a m:Pth→Nat)(F:qag)(t:Nat)(x:Ent)(W:World)(e:Ending)(w':World):Prop:=
 (qaw F (qaa x.path).dropLast=false∧e= .returned (.bool false)∧Below W.heap.size W w'∧KeepC W w')∨
 (qaw F (qaa x.path).dropLast=true∧e= .returned (.bool true)∧∃a' m',TreeAt w' B (N+1) a' m' (putF F (qaa x.path) (ndOf x))∧TreeV w' t a'∧Below B W w'∧KeepC W w'∧KeepB m F W w'∧(∀p,(a' p=a p∧p≠qaa x.path)∨W.heap.size≤a' p)∧(∀p,(m' p=m p∧(x.kind=1→p=qaa x.path→qaw F p=true))∨W.heap.size≤m' p))
theorem PutFull.out{t:Nat}{x:Ent}{W:World}{e:Ending}(h:PutFull B N a m F t x W e w'):q4i B N a m F t x W e w':=by
 rcases h with h|⟨h1,h2,a',m',h3,h4,h5,h6,_⟩
 ·exact .inl h
 ·exact .inr ⟨h1,h2,a',m',h3,h4,h5,h6⟩
theorem qlr(h:F p=none):qaw F p=false:=by unfold qaw;rw[h]
theorem qgm(h:F p=some x):qaw F p=decide (x.kind=1):=by unfold qaw;rw[h]
theorem MapIs.cell{f:List UInt8→Option Nat}(h:MapIs w b n f)(hg:w.grownBy w' (some b))(p:Addr)(v:Value)(hp:w.cell? p=some v):w'.cell? p=some v:=by
 refine(World.cell?_of_block (hg.block p.block (q6r w _ hp) (fun he=>?_))).trans hp;have hb:p.block=b:=Option.some.inj he;obtain⟨D,⟨es,clock,hm,_⟩,_⟩:=h;unfold World.cell? at hp;rw[hb,hm] at hp;cases hp
theorem qn9{w2 wz w3:World}(hT:TreeAt w2 B N a m F)(t:Nat)(ht:TreeV w t a)(x:Ent)(D:Pth)(last:List UInt8)(hL:qaa x.path=D++[last])(hd:qaw F D=true)
 (hB:B≤w.heap.size)(h0:Below w.heap.size w w2)(h1:Below w2.heap.size w2 wz)(mb:Nat)(hnode:wz.heap[w2.heap.size]? =some (Obj.cells (qsk (ndOf x) mb) qif (0,0)))
 (hm2:mb=m (D++[last])∨w2.heap.size≤mb)(hmb:x.kind=1→(qaw F (D++[last])=true→mb=m (D++[last]))∧(qaw F (D++[last])=false→w2.heap.size≤mb∧MapIs wz mb 0 (fun _=>none)))
 (hz:MapIs wz (m D) N (qdq F a D))(hup:MapIs w3 (m D) (N+1) (upd (qdq F a D) last (some w2.heap.size)))(h2:wz.grownBy w3 (some (m D))):
 PutFull B N a m F t x w (.returned (.bool true)) w3:=by
 have hbase:B≤w2.heap.size:=by have:=h0.size;omega
 obtain⟨y,hy,hk⟩:=qaj.1 hd;refine .inr ⟨by rw[hL,List.dropLast_concat];exact hd,rfl,updP a (D++[last]) w2.heap.size,updP m (D++[last]) mb,?_,?_,?_,?_,fun k hk hne=>?_,fun q=>?_,fun q=>?_⟩
 ·rw[hL]
  exact hT.put D last (ndOf x) hd hbase h1 w2.heap.size mb (Nat.le_refl _) hnode hmb hup h2
 ·unfold TreeV
  rw[qa9 (by simp)];exact hz.cell h2 _ _ (((h0.trans (h1.mono h0.size)).cell (p:=⟨t,0,none⟩) (q6r w _ ht)).trans ht)
 ·exact(((h0.mono hB).trans (h1.mono hbase))).grown h2 (by have:=h1.size;omega) (fun k hk2=>by
   have:m D=k:=Option.some.inj hk2;rw[←this];exact(hT.base D y hy).2 hk)
 ·exact fun q v hq=>hz.cell h2 q v ((KeepC.below (h0.trans (h1.mono h0.size))) q v hq)
 ·have hbb:=h0.trans (h1.mono h0.size)
  exact(h2.block k (Nat.lt_of_lt_of_le hk hbb.size) (fun e=>hne D hd (Option.some.inj e))).trans (hbb.block k hk)
 ·by_cases hq:q=D++[last]
  ·subst hq;rw[qcr];exact .inr h0.size
  ·rw[qa9 hq,hL];exact .inl ⟨rfl,hq⟩
 ·by_cases hq:q=D++[last]
  ·subst hq
   rw[qcr];cases hdl:qaw F (D++[last]) with
   |true=>
    rcases hm2 with e|e
    ·exact .inl ⟨e,fun _ _=>rfl⟩
    ·exact .inr (Nat.le_trans h0.size e)
   |false=>
    by_cases hk1:x.kind=1
    ·exact .inr (Nat.le_trans h0.size ((hmb hk1).2 hdl).1)
    ·rcases hm2 with e|e
     ·exact .inl ⟨e,fun h=>absurd h hk1⟩
     ·exact .inr (Nat.le_trans h0.size e)
  ·rw[qa9 hq,hL];exact .inl ⟨rfl,fun _ h=>absurd h hq⟩
theorem qr9(hT:TreeAt w B N a m F)(t:Nat)(ht:TreeV w t a)(x:Ent)(hp:qa5 x.path=true)(hne:x.path≠[])(hN:N+1<4294967290)(hB:B≤w.heap.size)(hS:Std w):
 Calls Tryz.prog 65 #[.pointer (some ⟨t,0,none⟩),x.agg] w (PutFull B N a m F t x w):=by
 obtain⟨p,k,md,dt⟩:=x;simp only at hp hne;rw[show Ent.agg ⟨p,k,md,dt⟩= .agg #[.string (S p),.int .i64 k,.int .i64 md,.string (S dt)] from rfl];obtain⟨hpl,hel⟩:=qbb hp;have hupl:=qgg p;have hup:=q6q (qkx hp);obtain⟨hLD,hlE⟩:=qf3 hp hne;have hlast:(upB p).2.length≤maxLen:=by have:=(qbx hlE).2.1;unfold maxLen;omega
 clear hlE;have HLD:=q6q hLD;have HT:=q6q hT;have HV:=q6q ht;have HS:=q6q hS;have hb0:=(Below.refl w.heap.size w).alloc (Nat.le_refl _) (.cells #[.string (S p),.int .i64 k,.int .i64 md,.string (S dt)] 47);have h4:=q6q (Cell4.new w ⟨p,k,md,dt⟩ 47);clear hT ht hS hel hLD;have hmm:=@run_makeMap Tryz.prog;go_enter Tryz.func65,Tryz.ntmps65;go_wp2_with fail;refine(qdd p hne (by omega) _).mono ?_;rintro e w1 ⟨rfl,hb1⟩;have HB1:=q6q (hb0.trans (hb1.mono hb0.size));have C1:=q6q (h4.out.below hb1);clear hb0 hb1 h4;generalize hq1:(upB p).1=up at hup hupl ⊢;generalize hq2:(upB p).2=last at hlast hupl HLD ⊢;clear hq1 hq2;go_wp2_with fail
 refine(qh1 (HT.out.below HB1.out) t (HV.out.below HB1.out) up (by omega) (HS.out.below HB1.out)).mono ?_;rintro e w2 ⟨rfl,hb2⟩;rw[hup.out];have HB2:=q6q (HB1.out.trans (hb2.mono HB1.out.size));have C2:=q6q (C1.out.below hb2);clear hb2 HB1 C1 hup;generalize hD:(qaa p).dropLast=D at*;cases hF:F D with
 |none=>
  have X:=q6q (qlr hF);rw[qkq hF];clear hF;go_wp2;go_ret;exact .inl ⟨by rw[hD];exact X.out,rfl,HB2.out,KeepC.below HB2.out⟩
 |some y=>
  rw[qgu hF];have HT2:=q6q (HT.out.below HB2.out);obtain⟨_,n1,_,_,n4⟩:=HT2.out.cells D y hF;by_cases hk1:y.kind=1
  ·have X:=q6q ((qgm hF).trans (decide_eq_true hk1))
   have f1:(y.kind != 1)=false:=by simpa using hk1
   rw[show mapV y (m D)= .map (some (m D)) from if_pos hk1] at n4;obtain⟨q0,q1,q2,q3⟩:=C2.out;simp only at q0 q1 q2 q3;have hlt0:w.heap.size<w2.heap.size:=q6r w2 _ q0;have hltD:a D<w2.heap.size:=q6r w2 _ n1;have HK1:=q6q hk1;have HFy:=q6q hF;have HHd:=q6q hD;clear hk1 hF hD C2;by_cases hkk:k=1
   ·subst hkk
    have hw1:∀v:Value,Below w2.heap.size w2 ((w2.alloc (.cells #[.string (S []),.int .i64 1,.int .i64 md,.string (S dt),v] qif)).alloc (.map #[] 0)):=fun v=>((Below.refl _ _).alloc (Nat.le_refl _) _).alloc (by simp) _
    have hnd:∀v:Value,((w2.alloc (.cells #[.string (S []),.int .i64 1,.int .i64 md,.string (S dt),v] qif)).alloc (.map #[] 0)).heap[w2.heap.size]? =some (Obj.cells #[.string (S []),.int .i64 1,.int .i64 md,.string (S dt),v] qif (0,0)):=fun v=>by
     rw[heap_alloc_old _ _ (by simp),heap_alloc_new]
    have hlk:=fun v=>(HT2.out.below (hw1 v)).look D y HFy.out last hlast
    rw[show mapV y (m D)= .map (some (m D)) from if_pos HK1.out,←HLD.out] at hlk;have hz:=fun v=>((HT2.out.dir D y HFy.out HK1.out).block ((hw1 v).block _ ((HT2.out.lt D y HFy.out).2 HK1.out)))
    have hmade:∀v:Value,MapIs ((w2.alloc (.cells #[.string (S []),.int .i64 1,.int .i64 md,.string (S dt),v] qif)).alloc (.map #[] 0)) (w2.heap.size+1) 0 (fun _=>none):=fun v=>by
     have:=MapIs.made (w2.alloc (.cells #[.string (S []),.int .i64 1,.int .i64 md,.string (S dt),v] qif));rw[World.size_alloc] at this;exact this
    cases hW:F (qaa p) with
    |none=>
     have hdirL:=qlr hW;rw[HLD.out] at hdirL;rw[hW] at hlk;have hlk1:=hlk (.map (some (w2.heap.size+1)));replace hlk1:(Instr.lookup tMap (.map (some (m D))) (.string (S last)) false).run Tryz.prog ((w2.alloc (.cells #[.string (S []),.int .i64 1,.int .i64 md,.string (S dt),.map (some (w2.heap.size+1))] qif)).alloc (.map #[] 0))= .ok (.pointer none) _:=hlk1;obtain⟨w3,hrun,hm3,hg3⟩:=(hz (.map (some (w2.heap.size+1)))).put last hlast w2.heap.size (by unfold maxLen;omega)
     have hfin:=q6q (qn9 (x:=⟨p,1,md,dt⟩) HT2.out t HV.out D last HLD.out X.out hB HB2.out (hw1 (.map (some (w2.heap.size+1)))) (w2.heap.size+1) (hnd _) (.inr (Nat.le_succ _)) (fun _=>⟨fun e=>(by rw[hdirL] at e;cases e),fun _=>⟨Nat.le_succ _,hmade _⟩⟩) (hz _) hm3 hg3);clear hW hdirL hlk hz hmade hw1 hnd hm3 hg3;go_wp2;go_ret;exact hfin.out
    |some z=>
     rw[hW] at hlk;have hlk1:=hlk (.map (some (w2.heap.size+1)));replace hlk1:(Instr.lookup tMap (.map (some (m D))) (.string (S last)) false).run Tryz.prog ((w2.alloc (.cells #[.string (S []),.int .i64 1,.int .i64 md,.string (S dt),.map (some (w2.heap.size+1))] qif)).alloc (.map #[] 0))= .ok (.pointer (some ⟨a (qaa p),0,none⟩)) _:=hlk1;obtain⟨_,l1,_,_,l4⟩:=HT2.out.cells (qaa p) z hW;have hltL:a (qaa p)<w2.heap.size:=q6r w2 _ l1;by_cases hzk:z.kind=1
     ·have hdirL:=(qgm hW).trans (decide_eq_true hzk)
      rw[HLD.out] at hdirL;have f3:(z.kind==1)=true:=by simpa using hzk
      rw[show mapV z (m (qaa p))= .map (some (m (qaa p))) from if_pos hzk] at l4;obtain⟨w3,hrun,hm3,hg3⟩:=(hz (.map (some (m (qaa p))))).put last hlast w2.heap.size (by unfold maxLen;omega);have hfin:=q6q (qn9 (x:=⟨p,1,md,dt⟩) HT2.out t HV.out D last HLD.out X.out hB HB2.out (hw1 (.map (some (m (qaa p))))) (m (qaa p)) (hnd _) (.inl (by rw[HLD.out])) (fun _=>⟨fun _=>by rw[HLD.out],fun e=>by rw[hdirL] at e;cases e⟩) (hz _) hm3 hg3);clear hW hdirL hlk hz hmade hw1 hnd hm3 hg3 hzk;go_wp2;go_ret;exact hfin.out
     ·have hdirL:=(qgm hW).trans (decide_eq_false hzk)
      rw[HLD.out] at hdirL;have f3:(z.kind==1)=false:=by simpa using hzk
      obtain⟨w3,hrun,hm3,hg3⟩:=(hz (.map (some (w2.heap.size+1)))).put last hlast w2.heap.size (by unfold maxLen;omega);have hfin:=q6q (qn9 (x:=⟨p,1,md,dt⟩) HT2.out t HV.out D last HLD.out X.out hB HB2.out (hw1 (.map (some (w2.heap.size+1)))) (w2.heap.size+1) (hnd _) (.inr (Nat.le_succ _)) (fun _=>⟨fun e=>(by rw[hdirL] at e;cases e),fun _=>⟨Nat.le_succ _,hmade _⟩⟩) (hz _) hm3 hg3);clear hW hdirL hlk hz hmade hw1 hnd hm3 hg3 hzk l4;go_wp2;go_ret;exact hfin.out
   ·have f2:(k==1)=false:=by simpa using hkk
    have h1:Below w2.heap.size w2 (w2.alloc (.cells #[.string (S []),.int .i64 k,.int .i64 md,.string (S dt),.map none] qif)):=(Below.refl _ _).alloc (Nat.le_refl _) _;have hz:=((HT2.out.dir D y HFy.out HK1.out).block (h1.block _ ((HT2.out.lt D y HFy.out).2 HK1.out)));obtain⟨w3,hrun,hm3,hg3⟩:=hz.put last hlast w2.heap.size (by unfold maxLen;omega);have hfin:=q6q (qn9 (x:=⟨p,k,md,dt⟩) HT2.out t HV.out D last HLD.out X.out hB HB2.out h1 (m (D++[last])) (by
     rw[heap_alloc_new];unfold qsk mapV ndOf;simp only;rw[if_neg hkk]) (.inl rfl) (fun e=>absurd e hkk) hz hm3 hg3)
    clear h1 hz hm3 hg3;go_wp2;go_ret;exact hfin.out
  ·have X:=q6q ((qgm hF).trans (decide_eq_false hk1))
   have f1:(y.kind != 1)=true:=by simpa using hk1
   clear hF n4;go_wp2;go_ret;exact .inl ⟨by rw[hD];exact X.out,rfl,HB2.out,KeepC.below HB2.out⟩
theorem qy4(hT:TreeAt w B N a m F)(t:Nat)(ht:TreeV w t a)(x:Ent)(hp:qa5 x.path=true)(hne:x.path≠[])(hN:N+1<4294967290)(hB:B≤w.heap.size)(hS:Std w):
 Calls Tryz.prog 65 #[.pointer (some ⟨t,0,none⟩),x.agg] w (q4i B N a m F t x w):=
 (qr9 hT t ht x hp hne hN hB hS).mono fun _ _ h=>h.out
def q35(W:World)(e:Ending)(w':World):Prop:=∃t a m,e= .returned (.pointer (some ⟨t,0,none⟩))∧TreeAt w' W.heap.size 0 a m qg0∧TreeV w' t a∧Below W.heap.size W w'∧W.heap.size≤t
theorem qlx(w:World):Calls Tryz.prog 61 #[] w (q35 w):=by
 have hmm:=@run_makeMap Tryz.prog;go_enter Tryz.func61,Tryz.ntmps61;go_wp2;go_ret;refine⟨w.heap.size+1+1,fun _=>w.heap.size+1,fun _=>w.heap.size,rfl,⟨qly,?_,?_,?_,?_,?_⟩,?_,(((Below.refl _ _).alloc (Nat.le_refl _) _).alloc (by simp) _).alloc (by simp;omega) _,by omega⟩
 ·intro p x hx
  unfold qg0 at hx;split at hx
  ·obtain rfl:=Option.some.inj hx
   rw[heap_alloc_old _ _ (by simp)];have:=heap_alloc_new (w.alloc (.map #[] 0)) (.cells (qsk ⟨1,493,[]⟩ w.heap.size) qif);rw[World.size_alloc] at this;exact this
  ·cases hx
 ·intro p x hx hk
  have hm:=MapIs.made w;have e1:qdq qg0 (fun _=>w.heap.size+1) p=fun _=>none:=by
   funext f
   unfold qdq qg0;rw[if_neg (show ¬p++[f]=[] by simp)];rfl
  rw[e1];exact hm.block (by rw[heap_alloc_old _ _ (by simp;omega),heap_alloc_old _ _ (by simp)])
 ·intro p x hx;exact⟨by omega,fun _=>Nat.le_refl _⟩
 ·intro p q hp hq _
  unfold qg0 at hp hq;split at hp
  ·rename_i h1
   split at hq
   ·rename_i h2;rw[h1,h2]
   ·cases hq
  ·cases hp
 ·intro p q hp hq _
  unfold qaw qg0 at hp hq;by_cases h1:p=[]
  ·by_cases h2:q=[]
   ·rw[h1,h2]
   ·rw[if_neg h2] at hq;cases hq
  ·rw[if_neg h1] at hp;cases hp
 ·unfold TreeV
  have:=heap_alloc_new ((w.alloc (.map #[] 0)).alloc (.cells (qsk ⟨1,493,[]⟩ w.heap.size) qif)) (.cells #[.pointer (some ⟨w.heap.size+1,0,none⟩)] q6i);rw[World.size_alloc,World.size_alloc] at this;exact cell_of_row _ _ _ _ _ _ this
def qqg(F:qag)(p:Pth):Int:=match F p with|some x=>x.kind|none=>0
theorem kind_any(hT:TreeAt w B N a m F)(t:Nat)(ht:TreeV w t a)(p:List UInt8)(hp:p.length≤4294967280)(hS:Std w):
 Calls Tryz.prog 69 #[.pointer (some ⟨t,0,none⟩),.string (S p)] w fun e w'=>e= .returned (.int .i64 (qqg F (qaa p)))∧Below w.heap.size w w':=by
 have HF:=q6q (qh1 hT t ht p hp hS);have HT:=q6q hT;clear hT ht hS;go_enter Tryz.func69,Tryz.ntmps69;go_wp2_with fail;refine HF.out.mono ?_;rintro e w1 ⟨rfl,hb⟩;have HB:=q6q hb;have HT1:=q6q (HT.out.below hb);clear hb HF HT;cases h:F (qaa p) with
 |none=>
  have X:=q6q (show qqg F (qaa p)=0 by unfold qqg;rw[h]);rw[qkq h];clear h;go_wp2;go_ret;exact⟨by rw[X.out];rfl,HB.out⟩
 |some x=>
  have X:=q6q (show qqg F (qaa p)=x.kind by unfold qqg;rw[h]);rw[qgu h];obtain⟨_,c1,_,_,_⟩:=HT1.out.cells _ _ h;clear h;go_wp2;go_ret;exact⟨by rw[X.out];rfl,HB.out⟩
theorem qt0(l:List (List UInt8)):Lib.join l [47]=qa0 l:=by
 unfold Lib.join;induction l with
 |nil=>rfl
 |cons a r ih=>
  cases r with
  |nil=>simp[List.intercalate,qa0]
  |cons b t=>
   rw[qa0,←ih];simp[List.intercalate]
theorem qzd{base:Nat}{e:TypeId}{size:Nat}{v:Value}{xs:List Value}(h:w.ownsRow base e size v n xs)(hb:Below w.heap.size w w'):w'.ownsRow base e size v n xs:=
 ⟨h.1,h.2.imp_right fun ⟨g,cap,cur,hv,hg,hh,r⟩=>⟨g,cap,cur,hv,hg,(hb.block g (q6s hh).1).trans hh,r⟩⟩
theorem q21(l:List (List UInt8))(A:Option Addr)(cap:Nat)(w:World)(hr:Rd w A (strs l))(hcap:l.length≤cap)(hs:qb2 l≤4294967290):
 Calls Tryz.prog 156 #[.slice A l.length cap,.string (S [47])] w fun e w'=>e= .returned (.string (S (qa0 l)))∧Below w.heap.size w w':=by
 have hll:=qja l;have hjl:=qlo l;by_cases h0:l=[]
 ·subst h0
  exact(Tryz.strings_Join_none A cap (S [47]) w).mono fun e w' ⟨he,hw⟩=>⟨he,hw▸Below.refl _ _⟩
 ·obtain⟨b,o,rfl,hb,hc⟩:=hr.at 0 (by rw[qcx];exact List.length_pos_iff.2 h0)
  have e1:((l.map S).map (·.data.toList))=l:=by rw[List.map_map];exact(List.map_congr_left fun x _=>qc7 x).trans (List.map_id _)
  have:=Tryz.strings_Join b o cap (l.map S) (S [47]) w (fun j x hx=>by
   refine hc j _ ?_;rw[List.getElem?_map] at hx;cases h:l[j]? with
   |none=>rw[h] at hx;cases hx
   |some y=>rw[h] at hx;cases hx;simp[strs,h]) hb (by rw[List.length_map];omega) (by rw[List.length_map];exact hcap) (by rw[e1,qc7,qt0];omega)
  rw[List.length_map,e1,qc7,qt0] at this;exact this
def qg8(work text:List UInt8):Value:=match resB work text with
 |none=> .tuple #[.string (S []),.bool false]
 |some out=> .tuple #[.string (S (qa0 out)),.bool (qa5 (qa0 out))]
theorem qg7{work text:List UInt8}(h:resB work text=none):qg8 work text= .tuple #[.string (S []),.bool false]:=by rw[qg8,h]
theorem qg6{work text:List UInt8}{out:List (List UInt8)}(h:resB work text=some out):qg8 work text= .tuple #[.string (S (qa0 out)),.bool (qa5 (qa0 out))]:=by rw[qg8,h]
def q6g(w:World)(work text:List UInt8)(v:Value)(wx:World):Prop:=
 wx.ownsRow w.heap.size 9 1 v (if text.head? =some 47 then [] else cutB 47 work).length (strs (if text.head? =some 47 then [] else cutB 47 work))∧Below w.heap.size w wx
theorem qfj(work text:List UInt8)(w:World)(hw:Std w)(hs:work.length+text.length≤2000000000):
 Calls Tryz.prog 130 #[.string (S work),.string (S text)] w fun e w'=>e= .returned (qg8 work text)∧Below w.heap.size w w':=by
 obtain⟨i0,hi,hz0,hz1,hz2⟩:=info_parts (show(Tryz.prog.info? 9).map (fun i=>(i.zero,i.size,i.bytes))=some (some (.string ByteArray.empty),1,16) by kernel_rfl);have HS:=q6q hw;clear hw;obtain⟨D,hD⟩:∃D,([47]:List UInt8).isPrefixOf text=D:=⟨_,rfl⟩;have HD:=q6q hD;have hDi:D=true↔text.head? =some 47:=by
  rw[←hD];cases text with
  |nil=>exact⟨fun h=>(by cases h),fun h=>(by cases h)⟩
  |cons c r=>
   rw[List.head?_cons,List.isPrefixOf];constructor
   ·intro h;rw[Bool.and_eq_true,beq_iff_eq] at h;rw[h.1]
   ·intro h;cases h;rfl
 have HDi:=q6q hDi;clear hD hDi;go_enter Tryz.func130,Tryz.ntmps130;go_upto_if 13 with(go_at_call 67;refine(qdb text [47] _).mono ?_;rintro e w1 ⟨rfl,rfl⟩;rw[HD.out])
 go_cut [6] (fun v wx=>q6g w work text v wx)
 case first=>
  cases D
  ·have hn:¬text.head? =some 47:=fun h=>absurd (HDi.out.2 h) (by simp)
   have X:=q6q (show(if text.head? =some 47 then [] else cutB 47 work)=cutB 47 work from if_neg hn);clear hn;go_wp2_with (go_at_call 137;refine(qk3 work 47 _ HS.out (by omega)).mono ?_;rintro e w1 ⟨v,rfl,hown,hb⟩)
   go_meet
   exact⟨by rw[X.out];exact hown,hb⟩
  ·have X:=q6q (show(if text.head? =some 47 then [] else cutB 47 work)=[] from if_pos (HDi.out.1 rfl))
   go_wp2;go_meet
   exact⟨by rw[X.out];exact World.ownsRow_nil _ _ _ _,Below.refl _ _⟩
 case rest=>
  obtain⟨hown0,hb0⟩:=hcut;have HL:=q6q (show allP work text=(if text.head? =some 47 then [] else cutB 47 work)++cutB 47 text by
   unfold allP;split <;> simp)
  have hLb:=(qz4 work text).2;have hLl:=qja (allP work text);generalize hH:(if text.head? =some 47 then [] else cutB 47 work)=H at*;have hHL:H.length+(cutB 47 text).length=(allP work text).length:=by rw[HL.out,List.length_append]
  clear hH;go_wp2_with fail;refine(qk3 text 47 _ (HS.out.below hb0) (by omega)).mono ?_;rintro e w2 ⟨v2,rfl,hown2,hb2⟩;have hne:(cutB 47 text).length≠0:=by have:=qis 47 text;intro h;exact this (List.eq_nil_of_length_eq_zero h)
  obtain⟨ad2,cap2,rfl,hc2⟩:∃ad2 cap2,v2= .slice (some ad2) (cutB 47 text).length cap2∧∀j u,(strs (cutB 47 text))[j]? =some u→w2.cell? (ad2.add j)=some u:=by
   rcases qzc hown2 with⟨_,h⟩|⟨ad,cap,h,hc⟩
   ·exact absurd h hne
   ·exact⟨ad,cap,h,hc⟩
  have HC2:=q6q hc2;have hown02:=qzd hown0 hb2;have hb02:Below w.heap.size w w2:=hb0.trans (hb2.mono hb0.size);clear hown2 hne hc2 hown0;go_wp2_with (at_builtin;refine wpList_append_own _ rfl _ _ 26 rfl w.heap.size 9 i0 (.string ByteArray.empty) 1 16 Tryz.underlying26 hi hz0 hz1 hz2 rfl (by decide) _ _ _ rfl hown02 ad2 _ cap2 _ rfl (qye _) HC2.out (qyd _) (by unfold maxLen;omega) (by omega) hb02.size ?_;intro v' w3 hown3 hgr3 _;have hb3:Below w.heap.size w w3:=hb02.grown hgr3 hb02.size (fun q hq=>(hown02.lt q hq).1);rw[←qn1,←List.length_append,←HL.out] at hown3;obtain⟨A,cap,rfl,_,_,hrd⟩:=Rd.of_own hown3;clear hown3 hgr3 hown02)
  generalize hL:allP work text=L at*;have HT:=q6q (show resB work text=qer [] L by unfold resB;rw[←qyy,hL]);clear hL HL HC2 hb0 hb2 hb02 hHL;go_loopw [7,21] (fun v i wr=>RelR w3 L (resB work text) v i wr) (fun _ i _=>L.length - (intOf i).toNat)
  case atStart=>exact⟨[],0,rfl,Nat.zero_le _,HT.out,by simp[qb2],World.ownsRow_nil _ _ _ _,Below.refl _ _⟩
  case round=>
   obtain⟨out,k,rfl,hk,hT,hlen,hown,hbel⟩:=hrel;have HT2:=q6q hT;clear hT HT;by_cases hlt:k<L.length
   ·obtain⟨b,o,rfl,hbc,hc0⟩:=hrd.at k (by simpa[strs] using hlt)
    have hbb:b<wr.heap.size:=Nat.lt_of_lt_of_le hbc hbel.size;have hc:∀(j:Nat) (u:Value),(strs L)[j]? =some u→wr.cell? ⟨b,o+j,none⟩=some u:=fun j u hu=>(hbel.cell (p:=⟨b,o+j,none⟩) hbc).trans (hc0 j u hu)
    clear hc0;have hck:=hc k _ (qc5 hlt);have hd:=q0i L k hlt;obtain⟨e,he⟩:∃e,L[k]=e:=⟨_,rfl⟩;rw[he] at hck hd;clear hc;have hlen1:qb2 out≤qb2 (L.take (k+1)):=by
     rw[List.take_succ_eq_append_getElem hlt,qfc];omega
    have hlen2:qb2 (out++[e])≤qb2 (L.take (k+1)):=by
     rw[List.take_succ_eq_append_getElem hlt,qfc,qfc,he];omega
    have hlen3:=qjz L (k+1);have hol:out.length+1≤2000000002:=by have:=qja (out++[e]);rw[List.length_append,List.length_singleton] at this;omega
    have hle:e.length+1≤qb2 L:=by have:=qi8 L k hlt;rw[he] at this;omega
    obtain⟨Ao,capo,rfl,hcapo,hcm,_⟩:=Rd.of_own hown;have HL1:=q6q hlt;clear he;by_cases e1:e=[]
    ·subst e1
     have Y:=q6q (show resB work text=qer out (L.drop (k+1)) by rw[HT2.out,hd,qju _ _ _ (.inl rfl)]);clear HT2 hd;go_wp2;go_roundw
     case rel=>exact⟨out,k+1,by go_num,by omega,Y.out,hlen1,hown,hbel⟩
     case measure=>simp[intOf];omega
    by_cases e2:e=[46]
    ·subst e2
     have Y:=q6q (show resB work text=qer out (L.drop (k+1)) by rw[HT2.out,hd,qju _ _ _ (.inr rfl)]);clear HT2 hd;go_wp2;go_roundw
     case rel=>exact⟨out,k+1,by go_num,by omega,Y.out,hlen1,hown,hbel⟩
     case measure=>simp[intOf];omega
    by_cases e3:e=[46,46]
    ·subst e3
     rcases qli out with rfl|⟨init,last,rfl⟩
     ·have Y:=q6q (show resB work text=none by rw[HT2.out,hd,qyx])
      clear HT2 hd;go_wp2;go_ret2;exact⟨by rw[qg7 Y.out];rfl,hb3.trans (hbel.mono hb3.size)⟩
     ·have Y:=q6q (show resB work text=qer init (L.drop (k+1)) by rw[HT2.out,hd,q18 _ _ (by simp)];simp)
      have hli:qb2 init≤qb2 (L.take (k+1)):=by rw[qfc] at hlen1;omega
      clear HT2 hd;have hown':wr.ownsRow w3.heap.size 9 1 (.slice Ao (init.length+1) capo) (init.length+1) (strs init++strs [last]):=by
       rw[←qn1];simpa using hown
      obtain⟨g,rfl⟩:∃g,Ao=some ⟨g,0,none⟩:=by
       rcases hown'.2 with⟨_,h⟩|⟨g,_,_,h,_⟩
       ·cases h
       ·cases h;exact⟨g,rfl⟩
      have hown2:=ownsRow_pop (by simp[strs]) hown';have hil:init.length≤4294967295:=by rw[List.length_append] at hol;omega
      have hcapo':init.length+1≤capo:=by simpa using hcapo
      clear hown hown';go_wp2;go_roundw
      case rel=>exact⟨init,k+1,by go_num,by omega,Y.out,hli,by simpa using hown2,hbel⟩
      case measure=>simp[intOf];omega
    have f1:e.isEmpty=false:=by cases e <;> simp_all
    have f1':(e==[])=false:=by simpa using e1
    have f2:(e==[46])=false:=by simpa using e2
    have f3:(e==[46,46])=false:=by simpa using e3
    cases hE:qba e
    ·have Y:=q6q (show resB work text=none by rw[HT2.out,hd,q19 _ _ _ e1 e2 e3 hE])
     have HE:=q6q hE;clear HT2 hd hE e1 e2 e3
     go_wp2_with (first|(at_builtin;refine wpList_append_own _ rfl _ _ 26 rfl w3.heap.size 9 i0 (.string ByteArray.empty) 1 16 Tryz.underlying26 hi hz0 hz1 hz2 rfl (by decide) _ _ _ rfl (hown.alloc _) ⟨wr.heap.size,0,none⟩ 1 1 [.string (S e)] rfl rfl (ql9 _ _ _) (by simp[Value.oneCell']) (by unfold maxLen;omega) (by omega) (by have:=hbel.size;simp;omega) ?_;intro v' w1 hown1 hgr1 _;have hbel1:Below w3.heap.size w3 w1:=(hbel.alloc hbel.size _).grown hgr1 (by have:=hbel.size;simp;omega) (fun q hq=>((hown.alloc (.cells #[.string (S e)] 9)).lt q hq).1);have hck1:w1.cell? ⟨b,o+k,none⟩=some (.string (S e)):=((hbel1.cell (p:=⟨b,o+k,none⟩) hbc).trans (hbel.cell (p:=⟨b,o+k,none⟩) hbc).symm).trans hck)|(go_at_call 105;refine(qfm e _ (by unfold maxLen;omega)).mono ?_;rintro e9 w9 ⟨rfl,rfl⟩;rw[HE.out]))
     go_ret2;exact⟨by rw[qg7 Y.out];rfl,hb3.trans (hbel.mono hb3.size)⟩
    ·have Y:=q6q (show resB work text=qer (out++[e]) (L.drop (k+1)) by rw[HT2.out,hd,q2a _ _ _ e1 e2 e3 hE])
     have HE:=q6q hE;clear HT2 hd hE e1 e2 e3
     go_wp2_with (first|(at_builtin;refine wpList_append_own _ rfl _ _ 26 rfl w3.heap.size 9 i0 (.string ByteArray.empty) 1 16 Tryz.underlying26 hi hz0 hz1 hz2 rfl (by decide) _ _ _ rfl (hown.alloc _) ⟨wr.heap.size,0,none⟩ 1 1 [.string (S e)] rfl rfl (ql9 _ _ _) (by simp[Value.oneCell']) (by unfold maxLen;omega) (by omega) (by have:=hbel.size;simp;omega) ?_;intro v' w1 hown1 hgr1 _;have hbel1:Below w3.heap.size w3 w1:=(hbel.alloc hbel.size _).grown hgr1 (by have:=hbel.size;simp;omega) (fun q hq=>((hown.alloc (.cells #[.string (S e)] 9)).lt q hq).1);have hck1:w1.cell? ⟨b,o+k,none⟩=some (.string (S e)):=((hbel1.cell (p:=⟨b,o+k,none⟩) hbc).trans (hbel.cell (p:=⟨b,o+k,none⟩) hbc).symm).trans hck)|(go_at_call 105;refine(qfm e _ (by unfold maxLen;omega)).mono ?_;rintro e9 w9 ⟨rfl,rfl⟩;rw[HE.out]))
     go_roundw
     case rel=>exact⟨out++[e],k+1,by go_num,by omega,Y.out,hlen2,by rw[qn1,List.length_append];exact hown1,hbel1⟩
     case measure=>simp[intOf];omega
   ·obtain rfl:k=L.length:=by omega
    have Y:=q6q (show resB work text=some out by rw[HT2.out,List.drop_length];rfl);have hlen1:qb2 out≤qb2 L:=by rw[List.take_length] at hlen;exact hlen
    have hlo:=qja out;have hjl:=qlo out;obtain⟨Ao,capo,rfl,hcapo,hcm,hrdo⟩:=Rd.of_own hown;have hbw:Below w.heap.size w wr:=hb3.trans (hbel.mono hb3.size);clear HT2 hown hlen;have Z:=q6q (qg6 Y.out);clear Y;have HSr:=q6q (HS.out.below hbw);go_wp2_with (first|(go_at_call 156;refine(q21 out Ao capo _ hrdo hcapo (by omega)).mono ?_;rintro e9 w9 ⟨rfl,hb9⟩)|(go_at_call 62;refine(qhe (qa0 out) _ (HSr.out.below hb9) (by omega)).mono ?_;rintro e9 w10 ⟨rfl,hb10⟩))
    go_ret2;exact⟨by rw[Z.out];rfl,hbw.trans ((hb9.trans (hb10.mono hb9.size)).mono hbw.size)⟩
def qy2:List UInt8:=[108,111,110,103,45,110,97,109,101,45]
def qf2:Nat→List UInt8
 |0=>[]
 |k+1=>qf2 k++qy2
theorem qvg(k:Nat):(qf2 k).length=10*k:=by
 induction k with
 |zero=>rfl
 |succ k ih=>rw[qf2,List.length_append,ih];simp[qy2];omega
def qa6:List (List UInt8):=[[97],[97,47,98],[97,47,98,47,99],[97,47,100],[97,47,101],[97,45,98],[98],[100],[100,47,120],[100,47,120,47,121],[100,47,120,47,121,47,122],[100,47,122],(qf2 12).take 50,(qf2 12).take 50++[47]++(qf2 12).take 55,(qf2 12).take 50++[47]++(qf2 12).take 55++[47]++(qf2 12).take 60,[119],[119,47,102]]
def qij(p:List UInt8):Nat→List UInt8
 |0=>[]
 |k+1=>if p[k]? =some 47 then p.take k else qij p k
theorem qr4:(qa6.all fun p=>qa5 p&&!p.isEmpty&&decide (p.length≤170)&&decide (qij p p.length=(upB p).1))=true:=by decide+kernel
theorem qn6:qa6.Pairwise fun a b=>qal (qaa a) (qaa b)<0:=by decide+kernel
theorem qha:qa6.length=17:=rfl
theorem qik(h:i<qa6.length):qa5 qa6[i]=true∧qa6[i]≠[]∧qa6[i].length≤170∧qij qa6[i] qa6[i].length=(upB qa6[i]).1:=by
 have:=List.all_eq_true.1 qr4 _ (List.getElem_mem h);simp only[Bool.and_eq_true,decide_eq_true_eq,Bool.not_eq_true',List.isEmpty_eq_false_iff] at this;exact⟨this.1.1.1,this.1.1.2,this.1.2,this.2⟩
theorem qso{l:List Ent}(h:Lists l F)(d:List UInt8):qb3 l d=match F (qaa d) with|some x=>x.kind|none=>0:=by
 unfold qb3;by_cases h0:d=[]
 ·subst h0
  rw[if_pos rfl,show qaa ([]:List UInt8)=[] from rfl,h.root]
 ·rw[if_neg h0]
  cases hf:l.find? (fun e=>decide (e.path=d)) with
  |some e=>
   have h1:=List.find?_some hf;have h2:=List.mem_of_find?_eq_some hf;have h3:e.path=d:=by simpa using h1
   rw[←h3,h.mem e h2];rfl
  |none=>
   cases hF:F (qaa d) with
   |none=>rfl
   |some x=>
    rcases h.only _ x hF with h1|⟨e,he,h1,_⟩
    ·exact absurd h1 (qcs h0)
    ·have:=List.find?_eq_none.1 hf e he
     rw[qe1 h1] at this;simp at this
structure RawOk(i:Nat)(out:List Ent):Prop where
 len:out.length≤i
 right:∀j,j<out.length→qo5 out j=false
 from':∀e∈out,∃j,j<i∧qa6[j]? =some e.path
theorem RawOk.step{out:List Ent}(h:RawOk i out):RawOk (i+1) out:=
 ⟨by have:=h.len;omega,h.right,fun e he=>by obtain⟨j,hj,h2⟩:=h.from' e he;exact⟨j,by omega,h2⟩⟩
theorem RawOk.lists{out:List Ent}(h:RawOk i out):Lists out (qav out):=by
 have hp:∀j,j<out.length→qcw out j=false:=by
  intro j;induction j using Nat.strongRecOn with
  |ind j ih=>intro hj;rw[qmo hj (fun q hq=>ih q hq (by omega))];exact h.right j hj
 have:=qjy (k:=out.length) (Nat.le_refl _) hp;rwa [List.take_length] at this
theorem RawOk.snoc{out:List Ent}(h:RawOk i out)(hi:i<qa6.length)(c:Ent)(hc:c.path=qa6[i])(hg:qbh c=true)(hd:(upB c.path).1=[]∨∃e∈out,e.path=(upB c.path).1∧e.kind=1):RawOk (i+1) (out++[c]):=by
 obtain⟨p1,p2,p3,p4⟩:=qik hi;rw[qha] at hi;refine⟨by rw[List.length_append,List.length_singleton];have:=h.len;omega,fun j hj=>?_,fun e he=>?_⟩
 ·by_cases hjo:j<out.length
  ·have h1:=h.right j hjo
   have e1:(out++[c])[j]? =out[j]?:=List.getElem?_append_left hjo;have e2:(out++[c])[j - 1]? =out[j - 1]?:=List.getElem?_append_left (by omega);have e3:(out++[c]).take j=out.take j:=List.take_append_of_le_length (by omega);unfold qo5 at h1 ⊢;rw[e1,e2,e3];exact h1
  ·have hjl:j=out.length:=by rw[List.length_append,List.length_singleton] at hj;omega
   subst hjl;have e1:(out++[c])[out.length]? =some c:=by simp
   rw[qo4 e1];have hl:=h.len;have hk40:decide (out.length=40)=false:=decide_eq_false (by omega);have hkind:qb3 ((out++[c]).take out.length) (upB c.path).1=1:=by
    rw[List.take_left']
    ·rcases hd with hd|⟨e,he,h1,h2⟩
     ·rw[hd];rfl
     ·rw[qso h.lists,←h1,h.lists.mem e he];exact h2
    ·rfl
   have hprev:(match (out++[c])[out.length - 1]? with|some x=>decide (0<out.length)&&decide (0≤qal (qaa x.path) (qaa c.path))|none=>false)=false:=by
    by_cases h0:out.length=0
    ·rw[h0]
     cases (out++[c])[0 - 1]? <;> simp
    ·have e2:(out++[c])[out.length - 1]? =some out[out.length - 1]:=by
      rw[List.getElem?_append_left (by omega),List.getElem?_eq_getElem (by omega)]
     rw[e2];obtain⟨j,hj,h2⟩:=h.from' _ (List.getElem_mem (by omega:out.length - 1<out.length))
     obtain⟨hj2,h3⟩:=List.getElem?_eq_some_iff.1 h2;have:=List.pairwise_iff_getElem.1 qn6 j i hj2 (by rw[qha];exact hi) hj;rw[h3,←hc] at this;have:decide (0≤qal (qaa out[out.length - 1].path) (qaa c.path))=false:=decide_eq_false (by omega);simp only[this,Bool.and_false]
   have hne:qa6[i].isEmpty=false:=List.isEmpty_eq_false_iff.2 p2;exact Bool.or_eq_false_iff.2 ⟨Bool.or_eq_false_iff.2 ⟨by rw[hk40,hg,hc,p1];simpa using p2,hprev⟩,by rw[hkind];rfl⟩
 ·rcases List.mem_append.1 he with he|he
  ·obtain⟨j,hj,h2⟩:=h.from' e he
   exact⟨j,by omega,h2⟩
  ·rw[List.mem_singleton.1 he]
   exact⟨i,by omega,by rw[hc,List.getElem?_eq_getElem (by rw[qha];exact hi)]⟩
abbrev tBld:TypeId:=115
abbrev qig:TypeId:=5
abbrev Bld(B b:Nat)(l:List UInt8)(w:World):Prop:=Lib.IsBuilder tBld qig B b (Lib.byteCells l) w
def KeepBy(w w':World):Prop:=∀T,T≠qig→T≠tBld→KeepT T w w'
theorem KeepBy.refl(w:World):KeepBy w w:=fun T _ _=>KeepT.refl T w
theorem KeepBy.trans{a b:World}(h:KeepBy a b)(k:KeepBy b c):KeepBy a c:=fun T h1 h2=>(h T h1 h2).trans (k T h1 h2)
theorem KeepBy.below(h:Below w.heap.size w w'):KeepBy w w':=fun T _ _=>KeepT.below h
theorem Bld.after(h:Bld B b l w)(hb:Below w.heap.size w w'):Bld B b l w':=by
 rcases h with h|h
 ·have hl:=h.lt
  obtain⟨h1,v,h2,h3,h4⟩:=h;exact .inl ⟨h1,v,(hb.block b hl).trans h2,qac h3 hb,h4⟩
 ·have hl:=h.lt
  obtain⟨h1,v,h2,h3,h4⟩:=h;exact .inr ⟨h1,v,(hb.block b hl).trans h2,qac h3 hb,h4⟩
theorem Bld.lt(h:Bld B b l w):b<w.heap.size:=by
 rcases h with h|h <;> exact h.lt
theorem Bld.new(B:Nat)(w:World)(hB:B≤w.heap.size):Bld B w.heap.size [] (w.alloc (.cells #[.pointer none,.slice none 0 0] tBld)):=
 .inl ⟨hB,.slice none 0 0,heap_alloc_new w _,World.ownsRow_nil _ _ _ _,by simp[Value.ownBlock]⟩
theorem quf:(Tryz.prog.info? tBld).map (·.size)=some 2:=by kernel_rfl
theorem q3z:liesAt Tryz.prog Tryz.prog.depth tBld (2 / Tryz.prog.cellsOf tBld) 0 tBld 1=true:=by kernel_rfl
theorem qmm(b:Nat)(w:World)(h0:w.cell? ⟨b,0,none⟩=some (.pointer (some ⟨b,0,none⟩))):
 Calls Tryz.prog 85 #[.pointer (some ⟨b,0,none⟩)] w fun e w'=>e= .returned (.tuple #[])∧w'=w:=by
 obtain⟨j,hj,_⟩:=Option.map_eq_some_iff.1 quf;go_enter Tryz.func85,Tryz.ntmps85;go_wp2;rw[Lib.run_neq_ptr_same w _ Tryz.underlying112 hj];go_wp2;go_end0
 exact⟨rfl,rfl⟩
theorem ql4(b:Nat)(w:World)(h0:w.cell? ⟨b,0,none⟩=some (.pointer none))(hsh:w.shape? b=some (tBld,2))(hfz:w.frozen? ⟨b,0,none⟩=false):
 Calls Tryz.prog 85 #[.pointer (some ⟨b,0,none⟩)] w fun e w'=>e= .returned (.tuple #[])∧w'=w.setCell ⟨b,0,none⟩ (.pointer (some ⟨b,0,none⟩)):=by
 obtain⟨j,hj,hjs⟩:=Option.map_eq_some_iff.1 quf;have hx:=@run_callFunc_extern Tryz.prog 128 _ Extern.AbiNoEscape.same Tryz.func128 (by kernel_rfl) (by kernel_rfl) (by kernel_rfl) (by kernel_rfl);have hn:∀x:Value,(Extern.AbiNoEscape.same #[x]).run Tryz.prog w= .ok x w:=fun x=>Lib.run_noEscape w x
 have hc1:=Lib.run_to_unsafe w ⟨b,0,none⟩ Tryz.underlying112 Tryz.underlying128 hj (by rw[hjs];decide) hsh (Nat.zero_lt_succ 1);have hc2:=Lib.run_from_unsafe w ⟨b,0,none⟩ Tryz.underlying128 Tryz.underlying112 hj hsh q3z;go_enter Tryz.func85,Tryz.ntmps85;go_wp2;go_end0
 exact⟨rfl,rfl⟩
theorem qjf{bs:List Value}(h:Lib.IsBuilder tBld qig B b bs w):
 Calls Tryz.prog 85 #[.pointer (some ⟨b,0,none⟩)] w fun e w'=>e= .returned (.tuple #[])∧Lib.BuilderAt tBld qig B b (.pointer (some ⟨b,0,none⟩)) bs w'∧Below B w w'∧w'.heap.size=w.heap.size∧KeepBy w w':=by
 rcases h with h|h
 ·refine(ql4 b w h.cell0 h.shape h.frozen0).mono ?_
  rintro e w' ⟨rfl,rfl⟩;refine⟨rfl,h.used _,(Below.refl B w).setCell (p:=⟨b,0,none⟩) h.1 _,by simp,fun T _ h2=>?_⟩;obtain⟨_,v,hb,_⟩:=h;exact KeepT.setCell hb (fun e=>h2 e.symm) 0 _
 ·refine(qmm b w h.cell0).mono ?_
  rintro e w' ⟨rfl,rfl⟩;exact⟨rfl,h,Below.refl B _,rfl,KeepBy.refl _⟩
theorem qc2{s:List UInt8}(h:Bld B b l w)(hlen:l.length+s.length≤4000000000)(hBw:B≤w.heap.size):
 Calls Tryz.prog 46 #[.pointer (some ⟨b,0,none⟩),.string (S s)] w fun e w'=>e= .returned (.tuple #[.int .i64 s.length,.nilIface])∧Bld B b (l++s) w'∧Below B w w'∧KeepBy w w':=by
 obtain⟨i0,hi,hz0,hz1,hz2⟩:=info_parts (show(Tryz.prog.info? qig).map (fun i=>(i.zero,i.size,i.bytes))=some (some (.int .u8 0),1,1) by kernel_rfl);have hll:(Lib.byteCells l).length=l.length:=Lib.byteCells_length l;have HS:=q6q hBw;have HH:=q6q h;have hss:(S s).size=s.length:=qc0 s;clear h hBw;go_enter Tryz.func46,Tryz.ntmps46;go_wp2_with fail;refine(qjf HH.out).mono ?_;rintro e1 w1 ⟨rfl,h1,hb1,hs1,hk1⟩;have HK1:=q6q hk1;clear hk1;obtain⟨hB,v,hbk,hown,hne⟩:=h1;have HS1:=q6q hs1;have HB:=q6q hB;have HBK:=q6q hbk;have HO:=q6q hown;have HN:=q6q hne
 have c0:w1.cell? ⟨b,0,none⟩=some (.pointer (some ⟨b,0,none⟩)):=by rw[Lib.cell_of_heap hbk];rfl
 have c1:w1.cell? ⟨b,1,none⟩=some v:=by rw[Lib.cell_of_heap hbk];rfl
 have f1:w1.frozen? ⟨b,1,none⟩=false:=Lib.frozen_of_heap hbk 1;have hlt:b<w1.heap.size:=q6r w1 _ c0;clear hB hbk hown hne hs1
 go_wp2_with (at_builtin;refine Lib.wpList_append_own_string _ rfl _ _ 113 9 rfl B qig i0 Tryz.underlying113 Tryz.underlying9 hi hz0 hz1 hz2 _ _ _ rfl HO.out (S s) rfl (by rw[hll,hss];unfold maxLen;omega) (by rw[hll,hss];omega) (by have:=HS1.out;have:=HS.out;omega) ?_;intro v' w2 hown2 hgr2 _;have HO2:=q6q hown2;have HG2:=q6q hgr2;obtain⟨g,cap,rfl⟩:=qad hown2;have hb2:w2.heap[b]? =some (.cells #[.pointer (some ⟨b,0,none⟩),v] tBld (0,0)):=(by rw[hgr2.block b hlt (fun e=>HN.out e.symm)];exact HBK.out);have HB2:=q6q hb2;have d1:w2.cell? ⟨b,1,none⟩=some v:=(by rw[Lib.cell_of_heap hb2];rfl);have f2:w2.frozen? ⟨b,1,none⟩=false:=Lib.frozen_of_heap hb2 1;clear hown2 hgr2 hb2)
 go_ret2;refine⟨by simp,.inr ?_,?_,fun T ht1 ht2=>?_⟩
 ·refine Lib.BuilderAt.put (T:=tBld) (e:=qig) HB.out HB2.out (bs':=Lib.byteCells (l++s)) ?_ (by decide)
  have h3:=HO2.out;have e1:Lib.strCells (S s)=Lib.byteCells s:=rfl;rw[hll,hss,e1] at h3;rw[show Lib.byteCells (l++s)=Lib.byteCells l++Lib.byteCells s from by unfold Lib.byteCells;rw[List.map_append],List.length_append,hll,Lib.byteCells_length];exact h3
 ·exact(hb1.grown HG2.out (by have:=HS1.out;have:=HS.out;omega) (fun k hk=>(HO.out.lt k hk).1)).setCell (p:=⟨b,1,none⟩) HB.out _
 ·exact(HK1.out T ht1 ht2).trans ((KeepT.grown HG2.out HO.out (fun e=>ht1 e.symm)).trans (KeepT.setCell HB2.out (fun e=>ht2 e.symm) 1 _))
theorem qjk(h:Bld B b l w)(hBw:B≤w.heap.size):
 Calls Tryz.prog 50 #[.pointer (some ⟨b,0,none⟩)] w fun e w'=>e= .returned (.string (S l))∧Below B w w':=
 (Tryz.Builder_String_any B b l w h hBw).mono fun e w' h=>h
theorem qz8(a b:List UInt8):(inB a b).length≤a.length+b.length+1:=by
 unfold inB;split <;> simp <;> omega
theorem q2n(c:Ent):(namB c).length≤2*c.path.length+20:=by
 have h:=qgg c.path;unfold namB;split
 ·simp;omega
 ·split
  ·have:=qz8 (upB c.path).1 ([46,119,104,46]++(upB c.path).2);simp only[List.length_append,List.length_cons,List.length_nil] at this;omega
  ·split
   ·have:=qz8 c.path [46,119,104,46,46,119,104,46,46,111,112,113];simp at this;omega
   ·omega
theorem q0n(h:IsTree F)(hp:F p=none):cutF F p=F:=by
 funext q
 unfold cutF;split
 ·rename_i hq;obtain⟨r,rfl⟩:=hq;exact(h.pre p r hp).symm
 ·rfl
def q06(B N:Nat)(a m:Pth→Nat)(G:qag)(t:Nat)(W w':World):Prop:=
 TreeAt w' B N a m G∧TreeV w' t a∧Below B W w'∧KeepC W w'
end Go.Proofs.YtikdblkfjchjbaaGreatDoor
