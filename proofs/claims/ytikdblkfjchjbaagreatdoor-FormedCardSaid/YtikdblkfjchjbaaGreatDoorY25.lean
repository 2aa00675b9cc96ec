import Derived.Test.YtikdblkfjchjbaaGreatDoorY23
import Derived.Test.YtikdblkfjchjbaaGreatDoorY24
set_option linter.unusedVariables false
set_option linter.unusedSimpArgs false
set_option maxHeartbeats 16000000
set_option maxRecDepth 100000
namespace Go.Proofs.YtikdblkfjchjbaaGreatDoor
open Go.RowKit
variable{ws:List WordG}{w wx w2 w1 W wr:World}{s op l:List UInt8}{st':List StageG}{n steps k c j gb g f p:Nat}{a b d:Value}{y:StageG}{T:TypeId}{ao:Option Addr}
def qld(w w':World)(e:Ending):Except Flt (List StageG)→Prop
 |.error (f,p)=>∃n,e= .returned (.tuple #[.pointer none,.iface qc3 (.pointer (some ⟨n,0,none⟩))])∧w.heap.size≤n∧w'.heap[n]? =some (Obj.cells #[.int .i64 f,.int .i64 p] tAt (0,0))
 |.ok st=>∃gp ao c k B,e= .returned (.tuple #[.pointer (some ⟨gp,0,none⟩),.nilIface])∧PB w' gp ao st.length c k∧FStagesR B w' st ao c
structure DoorW(w W:World):Prop where
 c2:W.cell? ⟨w.heap.size,0,none⟩=some (.pointer none)
 f2:W.frozen? ⟨w.heap.size,0,none⟩=false
 c3:W.cell? ⟨w.heap.size+1,0,none⟩=some .nilIface
 f3:W.frozen? ⟨w.heap.size+1,0,none⟩=false
 hb:Below w.heap.size w W
 hs:w.heap.size+2≤W.heap.size
 t2:BlkT W w.heap.size 76
 t3:BlkT W (w.heap.size+1) 57
theorem DoorW.start(w:World):DoorW w ((w.alloc (.cells #[.pointer none] 76)).alloc (.cells #[.nilIface] 57)):=
 ⟨by simp,by simp,by simp,by simp,((Below.refl _ w).alloc (Nat.le_refl _) _).alloc (by simp) _,by simp,(BlkT.new w #[.pointer none] 76).alloc _,⟨_,qae _ _ _ (by simp)⟩⟩
theorem DoorW.after{W':World}(h:DoorW w W)(hb:Below (w.heap.size+2) W W'):DoorW w W':=by
 have h2:w.heap.size<w.heap.size+2:=by omega
 have h3:w.heap.size+1<w.heap.size+2:=by omega
 exact⟨(hb.cell (p:=⟨w.heap.size,0,none⟩) h2).trans h.c2,(hb.frozen (p:=⟨w.heap.size,0,none⟩) h2).trans h.f2,(hb.cell (p:=⟨w.heap.size+1,0,none⟩) h3).trans h.c3,(hb.frozen (p:=⟨w.heap.size+1,0,none⟩) h3).trans h.f3,h.hb.trans (hb.mono (by omega)),Nat.le_trans h.hs hb.size,h.t2.imp (fun cs e=>(hb.block _ h2).trans e),h.t3.imp (fun cs e=>(hb.block _ h3).trans e)⟩
theorem DoorW.caught(h:DoorW w W)(hb:Below W.heap.size W w1)(n:Nat):
 (w1.setCell ⟨w.heap.size,0,none⟩ (.pointer none)).cell? ⟨w.heap.size,0,none⟩=some (.pointer none)∧
 ((w1.setCell ⟨w.heap.size,0,none⟩ (.pointer none)).setCell ⟨w.heap.size+1,0,none⟩ (.iface qc3 (.pointer (some ⟨n,0,none⟩)))).cell? ⟨w.heap.size,0,none⟩=some (.pointer none)∧
 ((w1.setCell ⟨w.heap.size,0,none⟩ (.pointer none)).setCell ⟨w.heap.size+1,0,none⟩ (.iface qc3 (.pointer (some ⟨n,0,none⟩)))).cell? ⟨w.heap.size+1,0,none⟩=some (.iface qc3 (.pointer (some ⟨n,0,none⟩)))∧
 Below w.heap.size w ((w1.setCell ⟨w.heap.size,0,none⟩ (.pointer none)).setCell ⟨w.heap.size+1,0,none⟩ (.iface qc3 (.pointer (some ⟨n,0,none⟩))))∧
 (∀k cs,w.heap.size+2≤k→W.heap[k]? =some cs→((w1.setCell ⟨w.heap.size,0,none⟩ (.pointer none)).setCell ⟨w.heap.size+1,0,none⟩ (.iface qc3 (.pointer (some ⟨n,0,none⟩)))).heap[k]? =some cs):=by
 have hd:=h.after (hb.mono h.hs);have k2:(w1.setCell ⟨w.heap.size,0,none⟩ (.pointer none)).cell? ⟨w.heap.size,0,none⟩=some (.pointer none):=World.cell?_setCell_same' w1 _ _ (by rw[hd.c2];rfl);have hne:(⟨w.heap.size+1,0,none⟩:Addr).block≠(⟨w.heap.size,0,none⟩:Addr).block:=by show w.heap.size+1≠w.heap.size;omega
 refine⟨k2,(World.cell?_setCell_far _ _ _ _ hne).trans k2,World.cell?_setCell_same' _ _ _ (by rw[World.cell?_setCell_far _ _ _ _ hne.symm,hd.c3];rfl),Below.setCell (Below.setCell hd.hb (Nat.le_refl _) _) (Nat.le_succ _) _,?_⟩;intro k cs hk e;rw[heap_setCell_other _ ⟨w.heap.size+1,0,none⟩ k _ (by show k≠w.heap.size+1;omega),heap_setCell_other _ ⟨w.heap.size,0,none⟩ k _ (by show k≠w.heap.size;omega)];exact(hb.block k (q6s e).1).trans e
theorem qsg(s:List UInt8)(w:World)(hs:s.length≤maxLen)(hg:ErrT w)(hl:1500<s.length):
 Calls Tryz.prog 30 #[.string (S s)] w fun e w'=>qld w w' e (.error (10,1500))∧Below w.heap.size w w':=by
 have hmf:∀(fn:Fn) (first cap:Array Value) (w:World),(Instr.makeFunc fn first cap).run Tryz.prog w= .ok (.func fn first cap) w:=fun _ _ _ _=>rfl
 unfold maxLen at hs;have hl':(1500:Int)<(s.length:Int):=by omega
 go_enter_defers Tryz.func30,Tryz.ntmps30;go_wp2_with (go_at_call 43;refine(qaf 10 1500 _).mono ?_;rintro e9 w9 ⟨rfl,rfl⟩)
 have HD:=q6q ((DoorW.start w).after (Below.alloc (Below.refl _ _) (by simp) (.cells #[.int .i64 10,.int .i64 1500] tAt)));have hbW:Below w.heap.size w (((w.alloc (.cells #[.pointer none] 76)).alloc (.cells #[.nilIface] 57)).alloc (.cells #[.int .i64 10,.int .i64 1500] tAt)):=(((Below.refl _ w).alloc (Nat.le_refl _) _).alloc (by simp) _).alloc (by simp;omega) _;refine leaves_cons (f:=42) (args:=#[.pointer (some ⟨w.heap.size,0,none⟩),.pointer (some ⟨w.heap.size+1,0,none⟩)]) (by simp) (by simp[go_sem]) ?_;refine(qcg w.heap.size (w.heap.size+1) _ [] _ (hg.below hbW) (.pointer none) .nilIface HD.out.c2 HD.out.f2 HD.out.c3 HD.out.f3 (by omega)).mono ?_
 rintro e u' w'' ⟨rfl,rfl,w1,hb1,rfl⟩;obtain⟨r1,r2,r3,r4,r5⟩:=HD.out.caught hb1 (w.heap.size+1+1);simp[Leaves,settle,results,Tryz.results30,go_sem,r1,r3]
 exact⟨⟨_,rfl,by omega,r5 _ _ (by omega) (qae _ _ _ (by simp))⟩,r4⟩
theorem qw2(hk:k<s.length)(h:∀j (hj:j<s.length),j<k→qd4 s[j]=true)(hb:qd4 s[k]=false):s.findIdx? (fun c=>!qd4 c)=some k:=by
 rw[List.findIdx?_eq_some_iff_getElem];exact⟨hk,by simp[hb],fun j hj=>by simp[h j (by omega) hj]⟩
theorem qs2(h:∀j (hj:j<s.length),j<s.length→qd4 s[j]=true):s.findIdx? (fun c=>!qd4 c)=none:=by
 rw[List.findIdx?_eq_none_iff];intro x hx;obtain⟨j,hj,rfl⟩:=List.getElem_of_mem hx;simp[h j hj hj]
theorem qyv{base:Nat}{e:TypeId}{size:Nat}{A:Option Addr}{xs:List Value}(h:w.ownsRow base e size (.slice A n c) n xs)(hn:0<n):∃g,A=some ⟨g,0,none⟩∧n≤c∧c≤maxLen:=by
 rcases h.2 with⟨_,e2⟩|⟨g,cap,cur,e,hg,hh,h1,h2,r⟩
 ·omega
 ·simp only[Value.slice.injEq] at e
  obtain⟨rfl,-,rfl⟩:=e;exact⟨g,rfl,h1,h2⟩
theorem qoo{st:List StageG}(h:j<s.length)(v:qbq s j []= .ok (ws,n))(hw:ws≠[]):qdh s j st steps=(match qay st ws steps with|.error f=> .error f|.ok st'=>qdh s n st' (steps+1)):=by
 unfold qay;cases hi:qce st ws with
 |error f=>exact qhm h v hw hi
 |ok st'=>
  by_cases h24:24<steps+1
  ·rw[qir h v hw hi h24];simp[h24]
  ·rw[qgp h v hw hi h24];simp[h24]
theorem qqk{st:List StageG}(h:qay st ws steps= .ok st')(hb:StB steps st)(h5:st.length≤5):StB (steps+1) st'∧st'.length≤5∧steps+1≤24:=by
 unfold qay at h;split at h
 ·cases h
 ·rename_i st2 hi
  split at h
  ·cases h
  ·rename_i h24
   cases h;unfold qce at hi;split at hi
   ·cases hi
   ·split at hi
    ·cases hi
    ·rename_i hn
     split at hi
     ·obtain⟨a,_,b⟩:=q29 hi hb h5
      exact⟨a.mono (by omega),b,by omega⟩
     ·rename_i hF
      obtain⟨a,_,b⟩:=q1t hi hb h5 (fun e=>hn (.inl ⟨e,hF⟩));exact⟨a,b,by omega⟩
structure PLInv(w wr:World)(s:List UInt8)(j:Nat)(st:List StageG)(ao:Option Addr)(c steps:Nat):Prop where
 dw:DoorW w wr
 lex:Lex wr (w.heap.size+1+1+1) s j
 pb:PB wr (w.heap.size+1+1) ao st.length c steps
 stg:FStagesR (w.heap.size+2) wr st ao c
theorem PLInv.lexed{st:List StageG}(h:PLInv w wr s j st ao c steps)(hf:Fr (fun b=>b=w.heap.size+1+1+1) wr w1)(hl:Lex w1 (w.heap.size+1+1+1) s n):PLInv w w1 s n st ao c steps:=
 ⟨h.dw.after (hf.toBelow h.dw.hs (fun k e=>by omega)),hl,h.pb.keep (hf.keepLex h.lex (by decide)),h.stg.keep (hf.keepLex h.lex (by decide)) (hf.keepLex h.lex (by decide)) (hf.keepLex h.lex (by decide)) (hf.keepLex h.lex (by decide)) (hf.keepLex h.lex (by decide)) hf.size⟩
theorem PLInv.stepped{st:List StageG}{ao':Option Addr}{c':Nat}(h:PLInv w wr s j st ao c steps)(hb:Below (w.heap.size+2) wr w1)(hy:KeepY wr w1)(hp:PB w1 (w.heap.size+1+1) ao' st'.length c' (steps+1))(hs:FStagesR (w.heap.size+2) w1 st' ao' c'):PLInv w w1 s j st' ao' c' (steps+1):=
 ⟨h.dw.after hb,hy tLex (by decide) (by decide) (by decide) (by decide) _ _ h.lex,hp,hs⟩
theorem qp6(s:List UInt8)(w:World)(hg:ErrT w)(hord:Ord w)(hl:s.length≤1500):
 Calls Tryz.prog 30 #[.string (S s)] w fun e w'=>qld w w' e (qa8 s)∧Below w.heap.size w w':=by
 have hmf:∀(fn:Fn) (first cap:Array Value) (w:World),(Instr.makeFunc fn first cap).run Tryz.prog w= .ok (.func fn first cap) w:=fun _ _ _ _=>rfl
 have hl':decide ((1500:Int)<(s.length:Int))=false:=by rw[decide_eq_false_iff_not];omega
 have HD:=q6q (DoorW.start w);have HG:=q6q hg;have HO:=q6q hord;clear hg hord;go_enter_defers Tryz.func30,Tryz.ntmps30;go_wp2;go_loop [16] (fun i=>∃k:Nat,k≤s.length∧i= .int .i64 k∧Hid (∀j (hj:j<s.length),j<k→qd4 s[j]=true)) (fun i=>s.length - (intOf i).toNat)
 case atStart=>exact⟨0,by omega,rfl,by intro j hj h;omega⟩
 case round=>
  obtain⟨k,hk,rfl,hall⟩:=hrel;by_cases hlt:k<s.length
  ·have hB:=q0v s[k]
   cases hb:qd4 s[k]
   ·have HA:=q6q (show qa8 s= .error (5,k) from qvx hl (qw2 hlt hall.out hb))
    have hn:¬((s[k].toNat:Int)=10∨(32≤(s[k].toNat:Int)∧(s[k].toNat:Int)≤126)):=fun h=>by rw[hB.2 h] at hb;cases hb
    have hn1:¬(s[k].toNat:Int)=10:=fun h=>hn (.inl h)
    have hn2:(s[k].toNat:Int)<32∨126<(s[k].toNat:Int):=by omega
    clear hb hB hall hn;have HDW:=q6q (HD.out.after (Below.alloc (Below.refl _ _) (by simp) (.cells #[.int .i64 5,.int .i64 k] tAt)));have h10:((s[k].toNat:Int) != 10)=true:=by rw[bne_iff_ne];exact hn1
    rcases hn2 with h32|h126
    ·go_wp2_with (go_at_call 43;refine(qaf 5 k _).mono ?_;rintro e9 w9 ⟨rfl,rfl⟩)
     refine leaves_cons (f:=42) (args:=#[.pointer (some ⟨w.heap.size,0,none⟩),.pointer (some ⟨w.heap.size+1,0,none⟩)]) (by simp) (by simp[go_sem]) ?_;refine(qcg w.heap.size (w.heap.size+1) _ [] _ (HG.out.below HDW.out.hb) (.pointer none) .nilIface HDW.out.c2 HDW.out.f2 HDW.out.c3 HDW.out.f3 (by omega)).mono ?_;rintro e u' w'' ⟨rfl,rfl,w1,hb1,rfl⟩;obtain⟨r1,r2,r3,r4,r5⟩:=HDW.out.caught hb1 (w.heap.size+1+1);simp[Leaves,settle,results,Tryz.results30,go_sem,r1,r3]
     rw[HA.out];exact⟨⟨_,rfl,by omega,r5 _ _ (by omega) (qae _ _ _ (by simp))⟩,r4⟩
    ·have h32':decide ((s[k].toNat:Int)<32)=false:=by rw[decide_eq_false_iff_not];omega
     go_wp2_with (go_at_call 43;refine(qaf 5 k _).mono ?_;rintro e9 w9 ⟨rfl,rfl⟩)
     refine leaves_cons (f:=42) (args:=#[.pointer (some ⟨w.heap.size,0,none⟩),.pointer (some ⟨w.heap.size+1,0,none⟩)]) (by simp) (by simp[go_sem]) ?_;refine(qcg w.heap.size (w.heap.size+1) _ [] _ (HG.out.below HDW.out.hb) (.pointer none) .nilIface HDW.out.c2 HDW.out.f2 HDW.out.c3 HDW.out.f3 (by omega)).mono ?_;rintro e u' w'' ⟨rfl,rfl,w1,hb1,rfl⟩;obtain⟨r1,r2,r3,r4,r5⟩:=HDW.out.caught hb1 (w.heap.size+1+1);simp[Leaves,settle,results,Tryz.results30,go_sem,r1,r3]
     rw[HA.out];exact⟨⟨_,rfl,by omega,r5 _ _ (by omega) (qae _ _ _ (by simp))⟩,r4⟩
   ·have HA:=q6q (show ∀j (hj:j<s.length),j<k+1→qd4 s[j]=true by
     intro j hj h;rcases Nat.lt_or_ge j k with h'|h'
     ·exact hall.out j hj h'
     ·obtain rfl:j=k:=by omega
      exact hb)
    have hn:=hB.1 hb;clear hb hB hall;by_cases h10:(s[k].toNat:Int)=10
    ·have h10':((s[k].toNat:Int) != 10)=false:=by rw[h10];rfl
     clear hn h10;go_wp2;go_round
     case rel=>exact⟨k+1,by omega,by go_num,HA⟩
     case measure=>simp[intOf];omega
    ·have h10':((s[k].toNat:Int) != 10)=true:=by rw[bne_iff_ne];exact h10
     have h32':decide ((s[k].toNat:Int)<32)=false:=by rw[decide_eq_false_iff_not];omega
     have h126:decide (126<(s[k].toNat:Int))=false:=by rw[decide_eq_false_iff_not];omega
     clear hn h10;go_wp2;go_round
     case rel=>exact⟨k+1,by omega,by go_num,HA⟩
     case measure=>simp[intOf];omega
  ·obtain rfl:k=s.length:=by omega
   have HP:=q6q (show qa8 s=qdh s 0 [] 0 from qsh hl (qs2 (fun j hj _=>hall.out j hj hj)));clear hall hk hlt;go_wp2;have P0:=q6q (show PLInv w ((((w.alloc (.cells #[.pointer none] 76)).alloc (.cells #[.nilIface] 57)).alloc (.cells #[.slice none 0 0,.int .i64 0] qd7)).alloc (.cells #[.string (S s),.int .i64 0] tLex)) s 0 [] none 0 0 from
    ⟨(HD.out.after ((Below.alloc (Below.alloc (Below.refl _ _) (by simp) _) (by simp) _))),qae _ _ _ (by simp),(qae _ _ _ (by simp):((w.alloc (.cells #[.pointer none] 76)).alloc (.cells #[.nilIface] 57) |>.alloc (.cells #[.slice none 0 0,.int .i64 0] qd7)).heap[w.heap.size+1+1]? =_) |> fun h=>((Below.alloc (Below.refl _ _) (Nat.le_refl _) _).block _ (by simp)).trans h,FStagesR.nil _ _ (by simp <;> omega)⟩)
   go_loopw [8] (fun _ wr=>∃(j:Nat) (st:List StageG) (ao:Option Addr) (c steps:Nat),j≤s.length+1∧steps≤24∧st.length≤5∧Hid (StB steps st)∧Hid (qa8 s=qdh s j st steps)∧Hid (PLInv w wr s j st ao c steps)) (fun _ wr=>s.length - atOf wr (w.heap.size+1+1+1))
   case atStart=>exact⟨0,[],none,0,0,by omega,by omega,by simp,(by intro x hx;cases hx),HP,P0.out⟩
   case round=>
    obtain⟨j,st,ao,c,steps,hj,hst24,h5,HST,HQ,LI⟩:=hrel;clear P0;obtain⟨c1,c2,c3,c4⟩:=LI.out.lex.blk2.facts;have hxl:=LI.out.lex.lt;have hat:=q6q LI.out.lex.atOf;by_cases hlt:j<s.length
    ·have hlt':(j:Int)<(s.length:Int):=by omega
     cases hln:qbq s j [] with
     |error p=>
      have Y:=q6q (show qa8 s= .error (5,p) by rw[HQ.out];exact qef hlt hln);have HV:=q6q hln;clear hln HQ;go_wp2_with (go_at_call 44;refine(qi7 s (w.heap.size+1+1+1) j _ (by omega) (by omega) LI.out.lex).mono ?_;rintro e6 w6 ⟨ho6,hf6⟩;rw[HV.out] at ho6;obtain⟨n6,rfl,h6,h7⟩:=ho6;have HDW:=q6q (LI.out.dw.after (hf6.toBelow LI.out.dw.hs (fun k e=>by omega)));have h66:w.heap.size+2≤n6:=Nat.le_trans LI.out.dw.hs h6)
      refine leaves_cons (f:=42) (args:=#[.pointer (some ⟨w.heap.size,0,none⟩),.pointer (some ⟨w.heap.size+1,0,none⟩)]) (by simp) (by simp[go_sem]) ?_;refine(qcg w.heap.size (w.heap.size+1) _ [] _ (HG.out.below HDW.out.hb) (.pointer none) .nilIface HDW.out.c2 HDW.out.f2 HDW.out.c3 HDW.out.f3 (by omega)).mono ?_;rintro e u' w'' ⟨rfl,rfl,wq,hbq,rfl⟩;obtain⟨r1,r2,r3,r4,r5⟩:=HDW.out.caught hbq n6;simp[Leaves,settle,results,Tryz.results30,go_sem,r1,r3]
      rw[Y.out];exact⟨⟨_,rfl,by omega,r5 _ _ (by omega) h7⟩,r4⟩
     |ok wn=>
      obtain⟨ws,n⟩:=wn;have hle:=qeh _ _ _ _ _ hln;have hn1:=hle.1;have hn2:=(hle.2 (by omega)).1;have hn3:=(hle.2 (by omega)).2;have HV:=q6q hln;cases ws with
      |nil=>
       have Y:=q6q (show qa8 s=qdh s n st steps by rw[HQ.out];exact qga hlt hln);clear hln HQ hle;go_wp2_with (go_at_call 44;refine(qi7 s (w.heap.size+1+1+1) j _ (by omega) (by omega) LI.out.lex).mono ?_;rintro e6 w6 ⟨ho6,hf6⟩;rw[HV.out] at ho6;obtain⟨A6,c6,cs6,rfl,hl6,ho6,hw6⟩:=ho6;have LI6:=q6q (LI.out.lexed hf6 hl6);clear hl6 ho6 hw6 hf6)
       go_roundw
       case rel=>exact⟨n,st,ao,c,steps,by omega,hst24,h5,HST,Y,LI6⟩
       case measure=>
        rw[hat.out,LI6.out.lex.atOf];omega
      |cons x0 l=>
       simp only[List.length_cons,List.length_nil] at hn3;have hgl:=qm7 _ _ _ _ _ hln (by intro x hx;cases hx);have HGW:=q6q (show GoodW (x0::l) from fun x hx=>⟨(hgl x hx).1,by have:=(hgl x hx).2.1;omega⟩);have hfr:=qoo (st:=st) (steps:=steps) hlt hln (by simp);clear hgl hle;cases hr:qay st (x0::l) steps with
       |error fp=>
        obtain⟨f7,p7⟩:=fp;have Y:=q6q (show qa8 s= .error (f7,p7) by rw[HQ.out,hfr,hr]);have HV2:=q6q hr;clear hr hfr HQ hln;go_wp2_with (first
         |(go_at_call 44;refine(qi7 s (w.heap.size+1+1+1) j _ (by omega) (by omega) LI.out.lex).mono ?_;rintro e6 w6 ⟨ho6,hf6⟩;rw[HV.out] at ho6;obtain⟨A6,cw,cs6,rfl,hl6,hr6,hw6⟩:=ho6;obtain⟨g7,rfl,hcw1,hcw2⟩:=qyv hr6 (by simp);have LI6:=q6q (LI.out.lexed hf6 hl6);have HW6:=q6q (show FWordsR w6 (some ⟨g7,0,none⟩) (x0::l) from⟨cs6,RdT.of_own hr6,hw6⟩);simp only[List.length_cons] at hcw1;clear hl6 hr6 hw6 hf6)
         |(go_at_call 45;refine(qnc st x0 l (w.heap.size+2) (w.heap.size+1+1) g7 0 cw c steps ao w6 h5 (HST.out.mono (by omega)) hst24 LI6.out.pb LI6.out.stg LI6.out.dw.hs (by omega) (HO.out.after LI6.out.dw.hb) HW6.out HGW.out (by omega) hcw1 hcw2).mono ?_;rintro e7 w7 ⟨ho7,hb7,hy7⟩;rw[HV2.out] at ho7;obtain⟨n6,rfl,h6,h7⟩:=ho7;have HDW:=q6q (LI6.out.dw.after hb7);have h66:w.heap.size+2≤n6:=Nat.le_trans LI6.out.dw.hs h6))
        refine leaves_cons (f:=42) (args:=#[.pointer (some ⟨w.heap.size,0,none⟩),.pointer (some ⟨w.heap.size+1,0,none⟩)]) (by simp) (by simp[go_sem]) ?_;refine(qcg w.heap.size (w.heap.size+1) _ [] _ (HG.out.below HDW.out.hb) (.pointer none) .nilIface HDW.out.c2 HDW.out.f2 HDW.out.c3 HDW.out.f3 (by omega)).mono ?_;rintro e u' w'' ⟨rfl,rfl,wq,hbq,rfl⟩;obtain⟨r1,r2,r3,r4,r5⟩:=HDW.out.caught hbq n6;simp[Leaves,settle,results,Tryz.results30,go_sem,r1,r3]
        rw[Y.out];exact⟨⟨_,rfl,by omega,r5 _ _ (by omega) h7⟩,r4⟩
       |ok st'=>
        have hok:=qqk hr HST.out h5;have HST2:=q6q hok.1;have hs5:=hok.2.1;have hst3:=hok.2.2;have Y:=q6q (show qa8 s=qdh s n st' (steps+1) by rw[HQ.out,hfr,hr]);have HV2:=q6q hr;clear hr hfr HQ hln hok;go_wp2_with (first
         |(go_at_call 44;refine(qi7 s (w.heap.size+1+1+1) j _ (by omega) (by omega) LI.out.lex).mono ?_;rintro e6 w6 ⟨ho6,hf6⟩;rw[HV.out] at ho6;obtain⟨A6,cw,cs6,rfl,hl6,hr6,hw6⟩:=ho6;obtain⟨g7,rfl,hcw1,hcw2⟩:=qyv hr6 (by simp);have LI6:=q6q (LI.out.lexed hf6 hl6);have HW6:=q6q (show FWordsR w6 (some ⟨g7,0,none⟩) (x0::l) from⟨cs6,RdT.of_own hr6,hw6⟩);simp only[List.length_cons] at hcw1;clear hl6 hr6 hw6 hf6)
         |(go_at_call 45;refine(qnc st x0 l (w.heap.size+2) (w.heap.size+1+1) g7 0 cw c steps ao w6 h5 (HST.out.mono (by omega)) hst24 LI6.out.pb LI6.out.stg LI6.out.dw.hs (by omega) (HO.out.after LI6.out.dw.hb) HW6.out HGW.out (by omega) hcw1 hcw2).mono ?_;rintro e7 w7 ⟨ho7,hb7,hy7⟩;rw[HV2.out] at ho7;obtain⟨rfl,ao7,c7,hp7,hs7⟩:=ho7;have LI7:=q6q (LI6.out.stepped hb7 hy7 hp7 hs7)))
        go_roundw
        case rel=>exact⟨n,st',ao7,c7,steps+1,by omega,hst3,hs5,HST2,Y,LI7⟩
        case measure=>
         rw[hat.out,LI7.out.lex.atOf];omega
    ·have hlt':decide ((j:Int)<(s.length:Int))=false:=by rw[decide_eq_false_iff_not];omega
     obtain⟨p1,p2,p3,p4⟩:=LI.out.pb.blk2.facts;have hpl:=LI.out.pb.lt;by_cases hst0:st=[]
     ·have Y:=q6q (show qa8 s= .error (5,s.length) by rw[HQ.out,qem (by omega),if_pos hst0])
      have hs0:((st.length:Int)==0)=true:=by rw[hst0];rfl
      have HDW:=q6q (LI.out.dw.after (Below.alloc (Below.refl _ _) LI.out.dw.hs (.cells #[.int .i64 5,.int .i64 s.length] tAt)));have hws:=LI.out.dw.hs;clear hst0 HQ;go_wp2_with (go_at_call 43;refine(qaf 5 s.length _).mono ?_;rintro e9 w9 ⟨rfl,rfl⟩)
      refine leaves_cons (f:=42) (args:=#[.pointer (some ⟨w.heap.size,0,none⟩),.pointer (some ⟨w.heap.size+1,0,none⟩)]) (by simp) (by simp[go_sem]) ?_;refine(qcg w.heap.size (w.heap.size+1) _ [] _ (HG.out.below HDW.out.hb) (.pointer none) .nilIface HDW.out.c2 HDW.out.f2 HDW.out.c3 HDW.out.f3 (by omega)).mono ?_;rintro e u' w'' ⟨rfl,rfl,wq,hbq,rfl⟩;obtain⟨r1,r2,r3,r4,r5⟩:=HDW.out.caught hbq wr.heap.size;simp[Leaves,settle,results,Tryz.results30,go_sem,r1,r3]
      rw[Y.out];exact⟨⟨_,rfl,by omega,r5 _ _ (by omega) (heap_alloc_new _ _)⟩,r4⟩
     ·have Y:=q6q (show qa8 s= .ok st by rw[HQ.out,qem (by omega),if_neg hst0])
      have hs0:((st.length:Int)==0)=false:=by
       rw[beq_eq_false_iff_ne];intro e;exact hst0 (List.eq_nil_of_length_eq_zero (by omega))
      have d2:=LI.out.dw.c2;have d3:=LI.out.dw.c3;have e2:=LI.out.dw.f2;have e3:=LI.out.dw.f3;have hws:=LI.out.dw.hs;clear hst0 HQ;go_wp2;refine leaves_cons (f:=42) (args:=#[.pointer (some ⟨w.heap.size,0,none⟩),.pointer (some ⟨w.heap.size+1,0,none⟩)]) (by simp) (by simp[go_sem]) ?_;refine(qxd _ _ _).mono ?_;rintro e u' w'' ⟨rfl,rfl,rfl⟩;have hne:(⟨w.heap.size+1,0,none⟩:Addr).block≠(⟨w.heap.size,0,none⟩:Addr).block:=by show w.heap.size+1≠w.heap.size;omega
      have b1:=LI.out.dw.t2;have b1':=b1.set 0 (.pointer (some ⟨w.heap.size+1+1,0,none⟩));have b2:BlkT (wr.setCell ⟨w.heap.size,0,none⟩ (.pointer (some ⟨w.heap.size+1+1,0,none⟩))) (w.heap.size+1) 57:=LI.out.dw.t3.far _ (by omega);have k2:(wr.setCell ⟨w.heap.size,0,none⟩ (.pointer (some ⟨w.heap.size+1+1,0,none⟩))).cell? ⟨w.heap.size,0,none⟩=some (.pointer (some ⟨w.heap.size+1+1,0,none⟩)):=World.cell?_setCell_same' wr _ _ (by rw[d2];rfl);have q2:=(World.cell?_setCell_far _ ⟨w.heap.size+1,0,none⟩ ⟨w.heap.size,0,none⟩ .nilIface hne).trans k2
      have q3:((wr.setCell ⟨w.heap.size,0,none⟩ (.pointer (some ⟨w.heap.size+1+1,0,none⟩))).setCell ⟨w.heap.size+1,0,none⟩ .nilIface).cell? ⟨w.heap.size+1,0,none⟩=some .nilIface:=World.cell?_setCell_same' _ _ _ (by rw[World.cell?_setCell_far _ _ _ _ hne.symm,d3];rfl);have hT:∀T,T≠76→T≠57→KeepT T wr ((wr.setCell ⟨w.heap.size,0,none⟩ (.pointer (some ⟨w.heap.size+1+1,0,none⟩))).setCell ⟨w.heap.size+1,0,none⟩ .nilIface):=fun T h1 h2=>(KeepT.setT b1 (fun e=>h1 e.symm) _ _).trans (KeepT.setT b2 (fun e=>h2 e.symm) _ _)
      have hbo:∀{W:World} (o:Obj),Below W.heap.size W (W.alloc o):=fun o=>Below.alloc (Below.refl _ _) (Nat.le_refl _) o
      have HPE:=q6q ((LI.out.pb.keep (hT _ (by decide) (by decide))).after (hbo (.cells #[.pointer none] qc3)));have HSE:=q6q ((LI.out.stg.keep (hT _ (by decide) (by decide)) (hT _ (by decide) (by decide)) (hT _ (by decide) (by decide)) (hT _ (by decide) (by decide)) (hT _ (by decide) (by decide)) (by simp)).after (hbo (.cells #[.pointer none] qc3)));have hbE:Below w.heap.size w (((wr.setCell ⟨w.heap.size,0,none⟩ (.pointer (some ⟨w.heap.size+1+1,0,none⟩))).setCell ⟨w.heap.size+1,0,none⟩ .nilIface).alloc (.cells #[.pointer none] qc3)):=Below.alloc (Below.setCell (Below.setCell LI.out.dw.hb (Nat.le_refl _) _) (Nat.le_succ _) _) (by simp;omega) _
      have z2:w.heap.size<((wr.setCell ⟨w.heap.size,0,none⟩ (.pointer (some ⟨w.heap.size+1+1,0,none⟩))).setCell ⟨w.heap.size+1,0,none⟩ .nilIface).heap.size:=by simp;omega
      have z3:w.heap.size+1<((wr.setCell ⟨w.heap.size,0,none⟩ (.pointer (some ⟨w.heap.size+1+1,0,none⟩))).setCell ⟨w.heap.size+1,0,none⟩ .nilIface).heap.size:=by simp;omega
      have v2:=(World.cell?_alloc_lt ((wr.setCell ⟨w.heap.size,0,none⟩ (.pointer (some ⟨w.heap.size+1+1,0,none⟩))).setCell ⟨w.heap.size+1,0,none⟩ .nilIface) (.cells #[.pointer none] qc3) ⟨w.heap.size,0,none⟩ z2).trans q2;have v3:=(World.cell?_alloc_lt ((wr.setCell ⟨w.heap.size,0,none⟩ (.pointer (some ⟨w.heap.size+1+1,0,none⟩))).setCell ⟨w.heap.size+1,0,none⟩ .nilIface) (.cells #[.pointer none] qc3) ⟨w.heap.size+1,0,none⟩ z3).trans q3;generalize hWE:((wr.setCell ⟨w.heap.size,0,none⟩ (.pointer (some ⟨w.heap.size+1+1,0,none⟩))).setCell ⟨w.heap.size+1,0,none⟩ .nilIface).alloc (.cells #[.pointer none] qc3)=wE at*
      simp[Leaves,settle,results,Tryz.results30,go_sem,v2,v3]
      rw[Y.out];exact⟨⟨_,ao,c,steps,_,rfl,HPE.out,HSE.out⟩,hbE⟩
theorem WfS.nil:WfS []:=fun i h=>by simp at h
theorem qnr(st:List StageG)(x:List UInt8):qan st x<(st.length:Int):=by
 rcases qe0 st x with h|⟨k,hk,h⟩ <;> rw[h] <;> omega
theorem WfS.snoc{init:List StageG}(h:WfS init)(h1:y.base<(init.length:Int))(h2:∀x∈y.steps,x.stage<(init.length:Int)):WfS (init++[y]):=by
 intro i hi;rw[List.length_append,List.length_singleton] at hi;rcases Nat.lt_or_ge i init.length with h'|h'
 ·rw[List.getElem_append_left h'];exact h i h'
 ·obtain rfl:i=init.length:=by omega
  rw[List.getElem_append_right (Nat.le_refl _)];simp;exact⟨h1,h2⟩
theorem WfS.init{init:List StageG}(h:WfS (init++[y])):WfS init∧y.base<(init.length:Int)∧∀x∈y.steps,x.stage<(init.length:Int):=by
 refine⟨fun i hi=>?_,?_⟩
 ·have:=h i (by rw[List.length_append];omega)
  rwa [List.getElem_append_left hi] at this
 ·have:=h init.length (by simp)
  rw[List.getElem_append_right (Nat.le_refl _)] at this;simpa using this
theorem q28{st:List StageG}(h:qg2 st ws= .ok st')(hw:WfS st):WfS st':=by
 unfold qg2 at h;split at h
 ·cases h
 ·repeat' split at h
  all_goals first
   |(cases h;done)
   |(cases h;exact hw.snoc (qnr _ _) (fun x hx=>by cases hx))
theorem qqc{st:List StageG}{l:List WordG}{k:Int}(h:qci st op ws= .ok (k,l))(hne:st≠[]):k<(st.length:Int) - 1:=by
 have hp:0<st.length:=List.length_pos_iff.2 hne;unfold qci at h;split at h
 ·unfold qgy at h
  repeat' split at h
  all_goals first
   |(cases h;done)
   |(cases h;omega)
   |(rename_i hn;cases h;have:=qnr st ((nth ws 1).text.drop 7);omega)
 ·split at h
  ·split at h <;> cases h;omega
  ·split at h
   ·split at h <;> cases h;omega
   ·cases h;omega
theorem q1s{st:List StageG}(h:qfy st op ws= .ok st')(hw:WfS st)(hne:st≠[]):WfS st':=by
 unfold qfy at h;split at h
 ·cases h
 ·rename_i k l hl
  have hk:=qqc hl hne;split at h
  ·cases h
  ·cases h
   obtain⟨init,y,rfl⟩:∃init y,st=init++[y]:=⟨st.dropLast,st.getLast hne,(List.dropLast_concat_getLast hne).symm⟩;rw[qeb];obtain⟨h1,h2,h3⟩:=hw.init;refine h1.snoc h2 ?_;intro x hx;rcases List.mem_append.1 hx with hx|hx
   ·exact h3 x hx
   ·simp only[List.mem_singleton] at hx
    subst hx;rw[List.length_append,List.length_singleton] at hk;show k<_
    omega
theorem qz7{st:List StageG}(h:qay st ws n= .ok st')(hw:WfS st):WfS st':=by
 unfold qay at h;split at h
 ·cases h
 ·rename_i st2 hi
  split at h
  ·cases h
  ·cases h
   unfold qce at hi;split at hi
   ·cases hi
   ·split at hi
    ·cases hi
    ·rename_i hn
     split at hi
     ·exact q28 hi hw
     ·rename_i hF
      exact q1s hi hw (fun e=>hn (.inl ⟨e,hF⟩))
theorem q3g(s:List UInt8)(j:Nat)(st st':List StageG)(n:Nat)(h:qdh s j st n= .ok st')(hw:WfS st)(hb:StB n st)(h5:st.length≤5)(hn:n≤24):FileOk st':=by
 induction hm:s.length - j using Nat.strongRecOn generalizing j st n with
 |ind m ih=>
  by_cases hj:j<s.length
  ·cases hl:qbq s j [] with
   |error p=>rw[qef hj hl] at h;cases h
   |ok wn=>
    obtain⟨ws,k⟩:=wn;have hle:=(qeh _ _ _ _ _ hl).1;by_cases hws:ws=[]
    ·subst hws
     rw[qga hj hl] at h;exact ih (s.length - k) (by omega) k st n h hw hb h5 hn rfl
    ·rw[qoo hj hl hws] at h
     cases hi:qay st ws n with
     |error f=>rw[hi] at h;cases h
     |ok st2=>
      rw[hi] at h;obtain⟨a,b,c⟩:=qqk hi hb h5;exact ih (s.length - k) (by omega) k st2 (n+1) h (qz7 hi hw) a b c rfl
  ·rw[qem (by omega)] at h
   split at h
   ·cases h
   ·rename_i hne
    cases h;exact⟨hw,hne,h5,hb.mono hn⟩
theorem qp7{st:List StageG}(h:qa8 s= .ok st):FileOk st:=by
 unfold qa8 at h;split at h
 ·cases h
 ·split at h
  ·cases h
  ·exact q3g s 0 [] st 0 h WfS.nil (fun x hx=>by cases hx) (by simp) (by omega)
theorem qwi{st:List StageG}(h:qay st ws n= .error (f,p)):f≠0:=by
 unfold qay at h;split at h
 ·rename_i f' hi
  cases h;unfold qce at hi;split at hi
  ·cases hi;decide
  ·split at hi
   ·cases hi;decide
   ·split at hi
    ·have:=q0a hi;omega
    ·have:=qyj hi;omega
 ·split at h
  ·cases h;decide
  ·cases h
theorem q0h(s:List UInt8)(j:Nat)(st:List StageG)(n f p:Nat)(h:qdh s j st n= .error (f,p)):f≠0:=by
 induction hm:s.length - j using Nat.strongRecOn generalizing j st n with
 |ind m ih=>
  by_cases hj:j<s.length
  ·cases hl:qbq s j [] with
   |error q=>rw[qef hj hl] at h;cases h;decide
   |ok wn=>
    obtain⟨ws,k⟩:=wn;have hle:=(qeh _ _ _ _ _ hl).1;by_cases hws:ws=[]
    ·subst hws
     rw[qga hj hl] at h;exact ih (s.length - k) (by omega) k st n h rfl
    ·rw[qoo hj hl hws] at h
     cases hi:qay st ws n with
     |error fq=>rw[hi] at h;cases h;exact qwi hi
     |ok st2=>
      rw[hi] at h;exact ih (s.length - k) (by omega) k st2 (n+1) h rfl
  ·rw[qem (by omega)] at h
   split at h
   ·cases h;decide
   ·cases h
theorem qvw(h:qa8 s= .error (f,p)):f≠0:=by
 unfold qa8 at h;split at h
 ·cases h;decide
 ·split at h
  ·cases h;decide
  ·exact q0h s 0 [] 0 f p h
theorem FileT.nil:FileT []:=fun x h=>by cases h
theorem FileT.snoc{init:List StageG}(h:FileT init)(hy:qme y):FileT (init++[y]):=fun x hx=>by
 rcases List.mem_append.1 hx with hx|hx
 ·exact h x hx
 ·rw[List.mem_singleton] at hx;subst hx;exact hy
theorem qu8(h:qby s≠false):s.length≤10:=by
 rw[Bool.ne_false_iff] at h;simp only[qby,Bool.and_eq_true,decide_eq_true_eq] at h;exact h.2
theorem qzr{n:List UInt8}(h:qh5 ws= .ok n):n.length≤10:=by
 unfold qh5 at h;repeat' split at h
 all_goals first
  |(cases h;done)
  |(rename_i hn;cases h;exact qu8 hn)
  |(cases h;simp)
theorem q5d{st:List StageG}(h:qg2 st ws= .ok st')(hw:FileT st):FileT st':=by
 unfold qg2 at h;split at h
 ·cases h
 ·rename_i name hn
  have:=qzr hn;repeat' split at h
  all_goals first
   |(cases h;done)
   |(cases h;exact hw.snoc ⟨this,fun y hy=>by cases hy⟩)
theorem qqb{st:List StageG}{l:List WordG}{k:Int}(h:qci st op ws= .ok (k,l))(hg:GoodW ws)(hl:ws.length≤4):l.length≤3∧GoodW l:=by
 have d1:(ws.drop 1).length≤3∧GoodW (ws.drop 1):=⟨by rw[List.length_drop];omega,hg.drop 1⟩;have d2:(ws.drop 2).length≤3∧GoodW (ws.drop 2):=⟨by rw[List.length_drop];omega,hg.drop 2⟩;unfold qci at h;split at h
 ·unfold qgy at h
  repeat' split at h
  all_goals first
   |(cases h;done)
   |(cases h;exact d1)
   |(cases h;exact d2)
 ·split at h
  ·split at h <;> cases h;exact d1
  ·split at h
   ·split at h <;> cases h;exact d1
   ·cases h;exact d1
theorem q4s{st:List StageG}(h:qfy st op ws= .ok st')(hw:FileT st)(hne:st≠[])(hop:qbc op≠none)(hg:GoodW ws)(hl:ws.length≤4):FileT st':=by
 unfold qfy at h;split at h
 ·cases h
 ·rename_i k l hlk
  have hk:=qqb hlk hg hl;split at h
  ·cases h
  ·cases h
   obtain⟨init,y,rfl⟩:∃init y,st=init++[y]:=⟨st.dropLast,st.getLast hne,(List.dropLast_concat_getLast hne).symm⟩;rw[qeb];have hi:FileT init:=fun x hx=>hw x (List.mem_append_left _ hx)
   have hy:=hw y (List.mem_append_right _ (List.mem_singleton.2 rfl));refine hi.snoc ⟨hy.1,?_⟩;intro x hx;rcases List.mem_append.1 hx with hx|hx
   ·exact hy.2 x hx
   ·simp only[List.mem_singleton] at hx
    subst hx;exact⟨hk.1,hk.2,hop⟩
theorem q24{st:List StageG}(h:qay st ws n= .ok st')(hw:FileT st)(hg:GoodW ws):FileT st':=by
 unfold qay at h;split at h
 ·cases h
 ·rename_i st2 hi
  split at h
  ·cases h
  ·cases h
   unfold qce at hi;split at hi
   ·cases hi
   ·rename_i low high hb
    split at hi
    ·cases hi
    ·rename_i hn
     split at hi
     ·exact q5d hi hw
     ·rename_i hF
      have:=(qxf hb).2.1;exact q4s hi hw (fun e=>hn (.inl ⟨e,hF⟩)) (by rw[hb];simp) hg (by omega)
theorem q5h(s:List UInt8)(hs:s.length≤1500)(j:Nat)(st st':List StageG)(n:Nat)(h:qdh s j st n= .ok st')(hw:FileT st):FileT st':=by
 induction hm:s.length - j using Nat.strongRecOn generalizing j st n with
 |ind m ih=>
  by_cases hj:j<s.length
  ·cases hl:qbq s j [] with
   |error p=>rw[qef hj hl] at h;cases h
   |ok wn=>
    obtain⟨ws,k⟩:=wn;have hle:=(qeh _ _ _ _ _ hl).1;by_cases hws:ws=[]
    ·subst hws
     rw[qga hj hl] at h;exact ih (s.length - k) (by omega) k st n h hw rfl
    ·rw[qoo hj hl hws] at h
     have hgl:=qm7 _ _ _ _ _ hl (by intro x hx;cases hx);have hgw:GoodW ws:=fun x hx=>⟨(hgl x hx).1,by have:=(hgl x hx).2.1;omega⟩
     cases hi:qay st ws n with
     |error f=>rw[hi] at h;cases h
     |ok st2=>
      rw[hi] at h;exact ih (s.length - k) (by omega) k st2 (n+1) h (q24 hi hw hgw) rfl
  ·rw[qem (by omega)] at h
   split at h
   ·cases h
   ·cases h;exact hw
theorem q2f{st:List StageG}(h:qa8 s= .ok st):FileT st:=by
 unfold qa8 at h;split at h
 ·cases h
 ·rename_i hs
  split at h
  ·cases h
  ·exact q5h s (by omega) 0 [] st 0 h FileT.nil
structure SI(w:World)(gb:Nat)(wx:World)(l:List UInt8):Prop where
 bld:Bld w.heap.size gb l wx
 bel:Below w.heap.size w wx
theorem SI.calls(h:SI w gb wx l)(hb:Below wx.heap.size wx w2):SI w gb w2 l:=⟨h.bld.after hb,h.bel.trans (hb.mono h.bel.size)⟩
theorem SI.alloc(h:SI w gb wx l)(o:Obj):SI w gb (wx.alloc o) l:=h.calls ((Below.refl _ _).alloc (Nat.le_refl _) o)
theorem SI.wrote{m:List UInt8}(h:SI w gb wx l)(h2:Bld w.heap.size gb m w2)(hb:Below w.heap.size wx w2):SI w gb w2 m:=⟨h2,h.bel.trans hb⟩
def B4(T:TypeId)(wx:World)(g:Nat)(a b c d:Value):Prop:=wx.heap[g]? =some (Obj.cells #[a,b,c,d] T (0,0))
theorem B4.blk{c:Value}(h:B4 T wx g a b c d):Blk4 wx g a b c d:=⟨T,h⟩
theorem B4.calls{c:Value}(h:B4 T wx g a b c d)(hb:Below wx.heap.size wx w2):B4 T w2 g a b c d:=KeepT.below hb g _ h
theorem B4.wrote{c:Value}(h:B4 T wx g a b c d)(hk:KeepBy wx w2)(h1:T≠qig)(h2:T≠tBld):B4 T w2 g a b c d:=hk T h1 h2 g _ h
theorem B4.new(T:TypeId)(wx:World)(a b c d:Value):B4 T (wx.alloc (.cells #[a,b,c,d] T)) wx.heap.size a b c d:=heap_alloc_new wx _
theorem q4c(h:qbc op≠none):∃k:Nat,qde op=(k:Int)∧k<8∧∀w,Ord w→w.cell? ⟨0,k,none⟩=some (.string (S op)):=by
 by_cases h1:op=qcq
 ·subst h1;exact⟨0,rfl,by omega,fun w ⟨a,_⟩=>a⟩
 by_cases h2:op=qfv
 ·subst h2;exact⟨1,rfl,by omega,fun w ⟨_,a,_⟩=>a⟩
 by_cases h3:op=wADD
 ·subst h3;exact⟨2,rfl,by omega,fun w ⟨_,_,a,_⟩=>a⟩
 by_cases h4:op=wRM
 ·subst h4;exact⟨3,rfl,by omega,fun w ⟨_,_,_,a,_⟩=>a⟩
 by_cases h5:op=qdk
 ·subst h5;exact⟨4,rfl,by omega,fun w ⟨_,_,_,_,a,_⟩=>a⟩
 by_cases h6:op=qjo
 ·subst h6;exact⟨5,rfl,by omega,fun w ⟨_,_,_,_,_,a,_⟩=>a⟩
 by_cases h7:op=wENV
 ·subst h7;exact⟨6,rfl,by omega,fun w ⟨_,_,_,_,_,_,a,_⟩=>a⟩
 by_cases h8:op=qc4
 ·subst h8;exact⟨7,rfl,by omega,fun w ⟨_,_,_,_,_,_,_,a,_⟩=>a⟩
 exact absurd (by simp[qbc,h1,h2,h3,h4,h5,h6,h7,h8]) h
theorem qpn{st:List StageG}{i:Nat}(h:i<st.length):(st.take (i+1)).flatMap (qcy st)=(st.take i).flatMap (qcy st)++(qbd st st[i]++st[i].steps.flatMap (qej st)):=qel (qcy st) st i h
theorem qrp{st:List StageG}{l:List StepG}(h:k<l.length):(l.take (k+1)).flatMap (qej st)=(l.take k).flatMap (qej st)++(qbp st l[k]++qbt l[k].words++[10]):=qel (qej st) l k h
theorem qo7(h:k<ws.length):qbt (ws.take (k+1))=qbt (ws.take k)++(32::qd2 ws[k]):=qel (fun w:WordG=>32::qd2 w) ws k h
theorem qqx(st:List StageG)(B n c gp k0:Nat)(ao:Option Addr)(w:World)(hn:st.length=n)(hp:w.heap[gp]? =some (Obj.cells #[.slice ao n c,.int .i64 k0] 105 (0,0)))(hst:FStagesR B w st ao c)(hord:Ord w)(hok:FileOk st)(ht:FileT st):
 Calls Tryz.prog 31 #[.pointer (some ⟨gp,0,none⟩)] w fun e w'=>e= .returned (.string (S (qb4 st)))∧Below w.heap.size w w':=by
 subst hn;obtain⟨c1,c2,c3,c4⟩:=(show Blk2 w gp (.slice ao st.length c) (.int .i64 k0) from⟨_,hp⟩).facts;have hgp:=(q6s hp).1;have HP:=q6q (fun (wx:World) (hb:Below w.heap.size w wx)=>(hb.block gp hgp).trans hp);have HST:=q6q hst;have HORD:=q6q hord;have HOK:=q6q hok;have HT:=q6q ht;have h5:=hok.h5;have S0:=q6q (show SI w w.heap.size (w.alloc (.cells #[.pointer none,.slice none 0 0] tBld)) [] from⟨Bld.new w.heap.size w (Nat.le_refl _),(Below.refl _ _).alloc (Nat.le_refl _) _⟩);have hgp2:gp<(w.alloc (.cells #[.pointer none,.slice none 0 0] tBld)).heap.size:=by simp;omega
 clear hst hord hok ht hp;go_enter Tryz.func31,Tryz.ntmps31;go_wp2;generalize hW:w.alloc (.cells #[.pointer none,.slice none 0 0] tBld)=w1 at*;clear hW;obtain⟨gb,hgb⟩:∃g,g=w.heap.size:=⟨_,rfl⟩;rw[←hgb] at S0 ⊢;have HGB:=q6q hgb;clear hgb;rw[show(ByteArray.mk #[])=S [] from rfl];go_loopw [15] (fun x wr=>∃i:Nat,i≤st.length∧x= .int .i64 i∧Hid (SI w gb wr ((st.take i).flatMap (qcy st)))) (fun x _=>st.length - (intOf x).toNat)
 case atStart=>exact⟨0,by omega,by go_num,S0⟩
 case round=>
  clear S0;obtain⟨i,hi,rfl,SI0⟩:=hrel;have HL:=qx5 HT.out HOK.out.bd h5 i;by_cases hlt:i<st.length
  ·obtain⟨sb,so,sa,sc,va,vc,rfl,hsb,m1,m2,m3,m4,⟨scs,hss,hsc⟩,_⟩:=HST.out.st.get hlt
   have hbel:=SI0.out.bel;replace m1:=(hbel.cell (p:=⟨sb,so+i*4,none⟩) hsb).trans m1;replace m2:=(hbel.cell (p:=⟨sb,so+i*4+1,none⟩) hsb).trans m2;replace m3:=(hbel.cell (p:=⟨sb,so+i*4+2,none⟩) hsb).trans m3;replace m4:=(hbel.cell (p:=⟨sb,so+i*4+3,none⟩) hsb).trans m4;have HSR:=q6q (RdT.of_own hss).rd;have HSC:=q6q hsc;have HX:=q6q (HT.out st[i] (List.getElem_mem hlt));have hs24:st[i].steps.length≤24:=(HOK.out.bd _ (List.getElem_mem hlt)).2;have HWF:=q6q (HOK.out.wf i hlt);have hbs:st[i].base<(st.length:Int):=by have:=HWF.out.1;omega
   have HTk:=q6q (qpn hlt);have hnl:=HX.out.1;have hil:(i:Int)<(st.length:Int):=by omega
   have htl:=qht HT.out st[i].base;have HHl:=q6q (qib HX.out HT.out);have S1:=q6q (SI0.out.alloc (.cells #[.string (S st[i].name),.int .i64 st[i].base,.slice sa st[i].steps.length sc,.slice va st[i].vars.length vc] qas));have Q1:=q6q (B4.new qas wr (.string (S st[i].name)) (.int .i64 st[i].base) (.slice sa st[i].steps.length sc) (.slice va st[i].vars.length vc));clear hss hsc hbel;obtain⟨acc,hacc⟩:∃a,a=(st.take i).flatMap (qcy st):=⟨_,rfl⟩;rw[←hacc] at HL HTk S1 SI0;have HA:=q6q hacc;clear hacc;go_wp2_with fail;refine(qmb st B _ c gp k0 _ st[i].base _ rfl (HP.out _ S1.out.bel) (HST.out.after S1.out.bel) hbs).mono ?_;rintro e2 w2 ⟨rfl,hb2⟩
   have S2:=q6q (S1.out.calls hb2);have Q2:=q6q (Q1.out.calls hb2);clear hb2 m1 m2 m3 m4;go_wp2_with fail;refine(qc2 S2.out.bld (by simp;omega) S2.out.bel.size).mono ?_;rintro e3 w3 ⟨rfl,h3,hb3,hk3⟩;have S3:=q6q (S2.out.wrote h3 hb3);have Q3:=q6q (Q2.out.wrote hk3 (by decide) (by decide));obtain⟨f1,f2,f3,f4,_⟩:=Q3.out.blk.facts;have hl3:=Q3.out.blk.lt;clear h3 hb3 hk3 S2 Q2 S1 Q1;have hways:st[i].name=[]∨st[i].name≠[]:=by by_cases h:st[i].name=[];exact .inl h;exact .inr h
   rcases hways with hn0|hn0
   all_goals first
    | (have hn1:(st[i].name==[])=true:=by(rw[hn0];rfl)
       have HH:=q6q (show qbd st st[i]=qiy++qb1 st st[i].base++[10] by unfold qbd;rw[if_pos hn0];simp);rw[hn0] at f1;clear hn0;go_wp2_with fail;refine(qdi (c:=10) (v:=10) rfl S3.out.bld (by simp;omega) S3.out.bel.size).mono ?_;rintro e4 w4 ⟨rfl,h4,hb4,hk4⟩;rw[show acc++70::82::79::77::32::qb1 st st[i].base++[10]=acc++qbd st st[i] from by rw[HH.out];simp[qiy]] at h4;have S4:=q6q (S3.out.wrote h4 hb4);have Q4:=q6q (Q3.out.wrote hk4 (by decide) (by decide));clear h4 hb4 hk4 S3 Q3 HH)
    | (have hn1:(st[i].name==[])=false:=by simpa using hn0
       have HH:=q6q (show qbd st st[i]=qiy++qb1 st st[i].base++(wSAS++st[i].name)++[10] by unfold qbd;rw[if_neg hn0]);clear hn0;go_wp2_with fail;refine(qc2 S3.out.bld (by simp;omega) S3.out.bel.size).mono ?_;rintro e4 w4 ⟨rfl,h4,hb4,hk4⟩;have S4:=q6q (S3.out.wrote h4 hb4);have Q4:=q6q (Q3.out.wrote hk4 (by decide) (by decide));clear h4 hb4 hk4;go_wp2_with fail;refine(qdi (c:=10) (v:=10) rfl S4.out.bld (by simp;omega) S4.out.bel.size).mono ?_;rintro e5 w5 ⟨rfl,h5',hb5,hk5⟩;rw[show acc++70::82::79::77::32::qb1 st st[i].base++32::65::83::32::st[i].name++[10]=acc++qbd st st[i] from by rw[HH.out];simp[qiy,wSAS]] at h5'
       have S5:=q6q (S4.out.wrote h5' hb5);have Q5:=q6q (Q4.out.wrote hk5 (by decide) (by decide));clear h5' hb5 hk5 S3 Q3 HH S4 Q4;have S4:=S5;have Q4:=Q5;clear S5 Q5)
   all_goals
    clear f1 f2 f3 f4 hl3;obtain⟨f1,f2,f3,f4,_⟩:=Q4.out.blk.facts;have hl3:=Q4.out.blk.lt;have hal:(acc++qbd st st[i]).length≤9700000:=by have:=HHl.out;rw[List.length_append];omega
    obtain⟨acc1,hacc1⟩:∃a,a=acc++qbd st st[i]:=⟨_,rfl⟩;rw[←hacc1] at hal S4;have HA1:=q6q hacc1;clear hacc1 HL htl;go_wp2;go_loopw [36] (fun x wr=>∃k:Nat,k≤st[i].steps.length∧x= .int .i64 k∧Hid (SI w gb wr (acc1++(st[i].steps.take k).flatMap (qej st)))) (fun x _=>st[i].steps.length - (intOf x).toNat)
    (case atStart=>exact⟨0,by omega,by go_num,by simpa using S4⟩)
    (case round=>
      clear f1 f2 f3 f4 hl3 Q4 S4;obtain⟨k,hk,rfl,SI1⟩:=hrel;have HL:=qmt HX.out HT.out hs24 k;obtain⟨acc2,hacc2⟩:∃a,a=acc1++(st[i].steps.take k).flatMap (qej st):=⟨_,rfl⟩;have hal2:acc2.length≤11700000:=by rw[hacc2,List.length_append];omega
      rw[←hacc2] at SI1;have HA2:=q6q hacc2;clear hacc2 HL;by_cases hlk:k<st[i].steps.length
      ·have hbel:=SI1.out.bel
       obtain⟨b2,o2,rfl,hb2,hc2⟩:=HSR.out.at (k*4) (by rw[HSC.out.len];omega);obtain⟨A',c',s1,s2,s3,s4,hwR⟩:=HSC.out.get k hlk;have HWR:=q6q hwR;have z0:=(hbel.cell (p:=⟨b2,o2+k*4,none⟩) hb2).trans (hc2 _ _ s1);have z1:=(hbel.cell (p:=⟨b2,o2+k*4+1,none⟩) hb2).trans (hc2 _ _ s2);have z2:=(hbel.cell (p:=⟨b2,o2+k*4+2,none⟩) hb2).trans (hc2 _ _ s3);have z3:=(hbel.cell (p:=⟨b2,o2+k*4+3,none⟩) hb2).trans (hc2 _ _ s4);have hkl:(k:Int)<(st[i].steps.length:Int):=by omega
       have HY:=q6q (HX.out.2 _ (List.getElem_mem hlk));have HTk2:=q6q (qrp (st:=st) hlk);have hop:=qmc HY.out.2.2;have HSH:=q6q (qi0 HY.out HT.out);have hstg:st[i].steps[k].stage<(i:Int):=HWF.out.2 _ (List.getElem_mem hlk);clear hwR s1 s2 s3 s4 hc2 hb2;obtain⟨x,hx⟩:∃x,x=st[i].steps[k]:=⟨_,rfl⟩;rw[←hx] at z0 z1 z2 z3 HY HTk2 hop HSH hstg HWR;have HXX:=q6q hx;clear hx;obtain⟨kn,hkn,hk8,hord⟩:=q4c HY.out.2.2;have HKN:=q6q hkn;rw[hkn] at z0;have hk8':(kn:Int)<8:=by omega
       have S1:=q6q (SI1.out.alloc (.cells #[.int .i64 (kn:Int),.slice A' x.words.length c',.int .i64 x.stage,.int .i64 x.at_] qai));have Q1:=q6q (B4.new qai wr (.int .i64 (kn:Int)) (.slice A' x.words.length c') (.int .i64 x.stage) (.int .i64 x.at_));have oc:=hord _ (HORD.out.after hbel);have olt:=q6r wr _ oc;clear hbel hord hkn;go_wp2_with fail;refine(qc2 S1.out.bld (by omega) S1.out.bel.size).mono ?_;rintro e3 w3 ⟨rfl,h3,hb3,hk3⟩;have S2:=q6q (S1.out.wrote h3 hb3);have Q2:=q6q (Q1.out.wrote hk3 (by decide) (by decide));obtain⟨f1,f2,f3,f4,_⟩:=Q2.out.blk.facts;have hl3:=Q2.out.blk.lt;clear h3 hb3 hk3 S1 Q1 z0 z1 z2 z3 oc olt
       have hways:x.stage<0∨0≤x.stage:=by omega
       rcases hways with hg|hg
       all_goals first
        | (have hg2:¬(0≤x.stage):=by omega
           have HH:=q6q (show qbp st x=x.op by unfold qbp;rw[if_neg hg2];simp);clear hg;rw[←HH.out] at S2;have S4:=S2;have Q4:=Q2;clear S2 Q2 HH)
        | (have HH:=q6q (show qbp st x=x.op++(qpb++qb1 st x.stage) by unfold qbp;rw[if_pos hg])
           have htl:=qht HT.out x.stage;have hxs:x.stage<(st.length:Int):=by omega
           go_wp2_with fail;refine(qmb st B _ c gp k0 _ x.stage _ rfl (HP.out _ S2.out.bel) (HST.out.after S2.out.bel) hxs).mono ?_;rintro e4 w4 ⟨rfl,hb4⟩;have S3:=q6q (S2.out.calls hb4);have Q3:=q6q (Q2.out.calls hb4);clear hb4;go_wp2_with fail;refine(qc2 S3.out.bld (by simp;omega) S3.out.bel.size).mono ?_;rintro e5 w5 ⟨rfl,h5',hb5,hk5⟩;rw[show acc2++x.op++32::45::45::102::114::111::109::61::qb1 st x.stage=acc2++qbp st x from by rw[HH.out];simp[qpb]] at h5';have S4:=q6q (S3.out.wrote h5' hb5);have Q4:=q6q (Q3.out.wrote hk5 (by decide) (by decide));clear h5' hb5 hk5 S2 Q2 S3 Q3 HH f1 f2 f3 f4 hl3;obtain⟨f1,f2,f3,f4,_⟩:=Q4.out.blk.facts
           have hl3:=Q4.out.blk.lt)
       all_goals
        have hal3:(acc2++qbp st x).length≤11800000:=by have:=HSH.out;rw[List.length_append];omega
        obtain⟨acc3,hacc3⟩:∃a,a=acc2++qbp st x:=⟨_,rfl⟩;rw[←hacc3] at hal3 S4;have HA3:=q6q hacc3;have hw3:=HY.out.1;clear hacc3;go_wp2;go_loopw [57] (fun y wr=>∃q:Nat,q≤x.words.length∧y= .int .i64 q∧Hid (SI w gb wr (acc3++qbt (x.words.take q)))) (fun y _=>x.words.length - (intOf y).toNat)
        (case atStart=>exact⟨0,by omega,by go_num,by simpa[qbt] using S4⟩)
        (case round=>
          clear f1 f2 f3 f4 hl3 Q4 S4;obtain⟨q,hq,rfl,SI2⟩:=hrel;have HL:=qmr HY.out q;have hal4:(acc3++qbt (x.words.take q)).length≤11900000:=by rw[List.length_append];omega
          by_cases hlq:q<x.words.length
          ·obtain⟨cs,r1,r2⟩:=HWR.out
           obtain⟨b3,o3,rfl,hb3,hc3⟩:=r1.rd.at (q*2) (by rw[r2.len];omega);obtain⟨ao3,c3',g1,g2,g3⟩:=r2.get q hlq;have hbel:=SI2.out.bel;have y0:=(hbel.cell (p:=⟨b3,o3+q*2,none⟩) hb3).trans (hc3 _ _ g1);have y1:=(hbel.cell (p:=⟨b3,o3+q*2+1,none⟩) hb3).trans (hc3 _ _ g2);have HGd:=q6q (HY.out.2.1 _ (List.getElem_mem hlq));have hfl:=(qqv HY.out.2.1 _ (List.getElem_mem hlq)).2;have hpl:x.words[q].pl.length≤100000:=by
            have h1:=(x.words[q].tb HGd.out.1).1;have h2:=HGd.out.2;omega
           have HF:=q6q (fun (wx:World) (hbx:Below w.heap.size w wx)=>qo8 x.words[q] ao3 _ c3' _ wx rfl rfl HGd.out.1 HGd.out.2 (qac g3 hbx) hpl);have HWt:=q6q (qo7 hlq);have hql:(q:Int)<(x.words.length:Int):=by omega
           have S5:=fun o=>q6q (SI2.out.alloc o)
           clear r1 r2 hc3 g1 g2 g3 hbel hpl;go_wp2_with fail;refine(HF.out _ (S5 _).out.bel).mono ?_;rintro e6 w6 ⟨rfl,hb6⟩;have S6:=q6q ((S5 _).out.calls hb6);clear hb6 S5;go_wp2_with fail;refine(qc2 S6.out.bld (by simp at hal4 ⊢;omega) S6.out.bel.size).mono ?_;rintro e7 w7 ⟨rfl,h7,hb7,hk7⟩;have S7:=q6q (S6.out.wrote h7 hb7);clear h7 hb7 hk7;go_wp2;go_roundw;(case rel=>exact⟨q+1,by omega,by go_num,by rw[HWt.out,←List.append_assoc];exact S7⟩)
           (case measure=>simp[intOf];omega)
          ·have hqe:q=x.words.length:=by omega
           have HQ:=q6q (show acc3++qbt (x.words.take q)++[10]=acc1++(st[i].steps.take (k+1)).flatMap (qej st) by
            rw[HTk2.out,HA3.out,HA2.out,hqe,List.take_length];simp)
           clear hqe;go_wp2_with fail;refine(qdi (c:=10) (v:=10) rfl SI2.out.bld (by omega) SI2.out.bel.size).mono ?_;rintro e7 w7 ⟨rfl,h7,hb7,hk7⟩;rw[HQ.out] at h7;have S7:=q6q (SI2.out.wrote h7 hb7);clear h7 hb7 hk7;go_wp2;go_roundw;(case rel=>exact⟨k+1,by omega,by go_num,S7⟩)
           (case measure=>simp[intOf];omega))
      ·have hke:k=st[i].steps.length:=by omega
       have HQ:=q6q (show acc2=(st.take (i+1)).flatMap (qcy st) by
        rw[HTk.out,HA2.out,HA1.out,hke,List.take_length];simp)
       clear hke;go_wp2;go_roundw;(case rel=>exact⟨i+1,by omega,by go_num,by rw[←HQ.out];exact SI1⟩)
       (case measure=>simp[intOf];omega))
  ·have hie:i=st.length:=by omega
   have HE:=q6q (show(st.take i).flatMap (qcy st)=qb4 st by rw[hie,List.take_length];rfl);clear hie;go_wp2_with fail;refine(qjk SI0.out.bld SI0.out.bel.size).mono ?_;rintro e2 w2 ⟨rfl,hb2⟩;rw[HE.out];have HB:=q6q (SI0.out.bel.trans hb2);clear hb2;go_wp2;go_ret;exact⟨rfl,HB.out⟩
theorem qoe(s:List UInt8)(w:World)(hs:s.length≤maxLen)(hg:ErrT w)(hord:Ord w):
 Calls Tryz.prog 30 #[.string (S s)] w fun e w'=>qld w w' e (qa8 s)∧Below w.heap.size w w':=by
 by_cases hl:1500<s.length
 ·rw[show qa8 s= .error (10,1500) by unfold qa8;rw[if_pos hl]]
  exact qsg s w hs hg hl
 ·exact qp6 s w hg hord (by omega)
def q3b(w':World)(e:Ending):Except Flt (List StageG)→Prop
 |.error (f,p)=>∃n,e= .returned (.tuple #[.string (S []),.iface qc3 (.pointer (some ⟨n,0,none⟩))])∧w'.cell? ⟨n,0,none⟩=some (.int .i64 f)∧w'.cell? ⟨n,1,none⟩=some (.int .i64 p)
 |.ok st=>e= .returned (.tuple #[.string (S (qb4 st)),.nilIface])
def q3a(e:Ending):Except Flt (List StageG)→Prop
 |.error (f,p)=>e= .returned (.tuple #[.string (S []),.int .i64 f,.int .i64 p])
 |.ok st=>e= .returned (.tuple #[.string (S (qb4 st)),.int .i64 0,.int .i64 (-1)])
theorem qff{t:TypeId}(h:w.heap[n]? =some (Obj.cells #[a,b] t (0,0))):w.cell? ⟨n,0,none⟩=some a∧w.cell? ⟨n,1,none⟩=some b:=by
 obtain⟨c1,c2,_,_⟩:=(show Blk2 w n a b from⟨t,h⟩).facts;exact⟨c1,c2⟩
theorem qqu(s:List UInt8)(w:World)(hs:s.length≤maxLen)(hg:ErrT w)(hord:Ord w):
 Calls Tryz.prog 18 #[.string (S s)] w fun e w'=>q3b w' e (qa8 s)∧Below w.heap.size w w':=by
 have HG:=q6q hg;have HO:=q6q hord;clear hg hord;cases hP:qa8 s with
 |error fp=>
  obtain⟨f,p⟩:=fp;have HP:=q6q hP;clear hP;go_enter Tryz.func18,Tryz.ntmps18;go_wp2_with (go_at_call 30;refine(qoe s _ hs HG.out HO.out).mono ?_;rintro e1 w1 ⟨ho1,hb1⟩;rw[HP.out] at ho1;obtain⟨n1,rfl,h1,h2⟩:=ho1;have HC:=q6q (qff h2))
  go_ret2;exact⟨⟨_,rfl,HC.out.1,HC.out.2⟩,hb1⟩
 |ok st=>
  have HP:=q6q hP;have HK:=q6q (qp7 hP);have HTx:=q6q (q2f hP);clear hP;go_enter Tryz.func18,Tryz.ntmps18;go_wp2_with (first
   |(go_at_call 30;refine(qoe s _ hs HG.out HO.out).mono ?_;rintro e1 w1 ⟨ho1,hb1⟩;rw[HP.out] at ho1;obtain⟨gp,ao,c,k,B,rfl,h1,h2⟩:=ho1;have HB:=q6q h1;have HS:=q6q h2;clear h1 h2)
   |(go_at_call 31;refine(qqx st B _ c gp k ao _ rfl HB.out HS.out (HO.out.after hb1) HK.out HTx.out).mono ?_;rintro e2 w2 ⟨rfl,hb2⟩))
  go_ret2;exact⟨rfl,hb1.trans (hb2.mono hb1.size)⟩
theorem qww(s:List UInt8)(w:World)(hs:s.length≤maxLen)(hg:ErrT w)(hord:Ord w):
 Calls Tryz.prog 7 #[.string (S s)] w fun e w'=>q3a e (qa8 s)∧Below w.heap.size w w':=by
 have HG:=q6q hg;have HO:=q6q hord;clear hg hord;cases hP:qa8 s with
 |error fp=>
  obtain⟨f,p⟩:=fp;have HP:=q6q hP;clear hP;go_enter Tryz.func7,Tryz.ntmps7;go_wp2_with (first
   |(go_at_call 18;refine(qqu s _ hs HG.out HO.out).mono ?_;rintro e1 w1 ⟨ho1,hb1⟩;rw[HP.out] at ho1;obtain⟨n1,rfl,h1,h2⟩:=ho1;have H1:=q6q h1;have H2:=q6q h2;clear h1 h2)
   |(go_at_call 19;refine(qx6 n1 0 f p _ (HG.out.below hb1) H1.out H2.out).mono ?_;rintro e2 w2 ⟨rfl,hb2⟩))
  go_ret3;exact⟨rfl,hb1.trans (hb2.mono hb1.size)⟩
 |ok st=>
  have HP:=q6q hP;clear hP;go_enter Tryz.func7,Tryz.ntmps7;go_wp2_with (first
   |(go_at_call 18;refine(qqu s _ hs HG.out HO.out).mono ?_;rintro e1 w1 ⟨ho1,hb1⟩;rw[HP.out] at ho1;obtain rfl:=ho1)
   |(go_at_call 19;refine(qtk _).mono ?_;rintro e2 w2 ⟨rfl,hb2⟩))
  go_ret3;exact⟨rfl,hb1.trans (hb2.mono hb1.size)⟩
theorem qu2{B:Nat}{v:Value}{l:List (List UInt8)}{x:List UInt8}(h:w.ownsRow B 9 1 v (l.length+1) (strs l++[.string (S x)])):w.ownsRow B 9 1 v (l++[x]).length (strs (l++[x])):=by
 rw[show strs (l++[x])=strs l++[.string (S x)] by simp[strs],List.length_append,List.length_singleton];exact h
theorem qow(w:World)(a:Value)(t:TypeId):∀j u,[a][j]? =some u→(w.alloc (.cells #[a] t)).cell? ((⟨w.heap.size,0,none⟩:Addr).add j)=some u:=ql9 w a t
theorem q2r(s:List UInt8):(qdw (qb9 s)).length≤2*s.length+2:=by
 have h1:=qmz (qb9 s);have h2:=qmv s s.length;rw[List.take_length] at h2;omega
def qcp(f:List UInt8→Option (List UInt8))(ws:List WordG):List (List UInt8):=ws.map fun y=>setE f y.pl
theorem qop(f:List UInt8→Option (List UInt8))(N mb:Nat)(x:StepG)(A:Option Addr)(c:Nat)(w:World)(hR:FWordsR w A x.words)(hord:Ord w)(hop:qbc x.op≠none)(hol:x.op.length≤100)(hv:EnvIs w mb N f)(hn:x.words.length≤4)(hl:∀y∈x.words,(setE f y.pl).length≤140000∧y.pl.length≤100000∧∀p∈y.pl,p.text.length≤100000):
 Calls Tryz.prog 58 #[.agg #[.int .i64 (qde x.op),.slice A x.words.length c,.int .i64 x.stage,.int .i64 x.at_],.map (some mb)] w fun e w'=>
  ∃v ln,e= .returned (.tuple #[v,.string (S ln)])∧w'.ownsRow w.heap.size 9 1 v (qcp f x.words).length (strs (qcp f x.words))∧Below w.heap.size w w':=by
 obtain⟨i0,hi,hz0,hz1,hz2⟩:=info_parts (show(Tryz.prog.info? 9).map (fun i=>(i.zero,i.size,i.bytes))=some (some (.string ByteArray.empty),1,16) by kernel_rfl);obtain⟨kn,hkn,hk8,ho⟩:=q4c hop;have hb1:Below w.heap.size w (w.alloc (.cells #[.int .i64 kn,.slice A x.words.length c,.int .i64 x.stage,.int .i64 x.at_] qai)):=(Below.refl _ _).alloc (Nat.le_refl _) _;have oc:=ho _ (hord.after hb1);have HR:=q6q hR;have HV:=q6q hv;have HL:=q6q hl;have hk8':(kn:Int)<8:=by omega
 rw[hkn];generalize x.op=op at hol oc;generalize x.stage=sg at*;generalize x.at_=xa at*;generalize hws:x.words=ws at*;clear hR hord hop hv hl ho hkn hws;go_enter Tryz.func58,Tryz.ntmps58;go_wp2;obtain⟨w1,hw1⟩:∃w1,w.alloc (.cells #[.int .i64 (kn:Int),.slice A ws.length c,.int .i64 sg,.int .i64 xa] qai)=w1:=⟨_,rfl⟩;rw[hw1] at hb1 oc ⊢;have HB1:=q6q hb1;clear hw1 hb1 oc
 go_loopw [16,4,5] (fun vi vl vs wr=>∃(q:Nat) (ln:List UInt8),q≤ws.length∧vi= .int .i64 q∧vs= .string (S ln)∧ln.length≤100+300000*q∧Hid (wr.ownsRow w.heap.size 9 1 vl (qcp f (ws.take q)).length (strs (qcp f (ws.take q))))∧Hid (Below w.heap.size w wr)) (fun vi _ _ _=>ws.length - (intOf vi).toNat)
 case atStart=>exact⟨0,op,Nat.zero_le _,rfl,rfl,by omega,q6q (World.ownsRow_nil _ _ _ _),HB1⟩
 case round=>
  obtain⟨q,ln,hq,rfl,rfl,hln,HO,HB⟩:=hrel;obtain⟨lv,lc,hv⟩:=qad HO.out;subst hv;have hwl:(qcp f (ws.take q)).length=q:=by unfold qcp;rw[List.length_map,List.length_take];omega
  by_cases hlt:q<ws.length
  ·obtain⟨cs,r1,r2⟩:=HR.out
   obtain⟨b3,o3,rfl,hb3,hc3⟩:=r1.rd.at (q*2) (by rw[r2.len];omega);obtain⟨ao3,c3',g1,g2,g3⟩:=r2.get q hlt;have y0:=(HB.out.cell (p:=⟨b3,o3+q*2,none⟩) hb3).trans (hc3 _ _ g1);have y1:=(HB.out.cell (p:=⟨b3,o3+q*2+1,none⟩) hb3).trans (hc3 _ _ g2);obtain⟨l1,l2,l3⟩:=HL.out _ (List.getElem_mem hlt);have HL3:=q6q l3;clear l3;have HWs:=q6q (show qcp f (ws.take (q+1))=qcp f (ws.take q)++[setE f ws[q].pl] by unfold qcp;rw[List.take_succ_eq_append_getElem hlt,List.map_append];rfl);have hql:(q:Int)<(ws.length:Int):=by omega
   obtain⟨y,hy⟩:∃y,ws[q]=y:=⟨_,rfl⟩;rw[hy] at y0 y1 g3 l1 l2 HL3 HWs;have HSt:=q6q (fun (wx:World) (hbx:Below w.heap.size w wx)=>q1x f N y.pl ao3 c3' y.at_ mb wx (qac g3 hbx) (by omega) (HV.out.below hbx) HL3.out (by omega));have HWr:=q6q (fun (wx:World)=>qg3 (setE f y.pl) wx (by omega));have hwr:=q2r (setE f y.pl);obtain⟨tx,htx⟩:∃tx,setE f y.pl=tx:=⟨_,rfl⟩;rw[htx] at HSt HWr HWs hwr l1;generalize y.pl=pl at y0 l2 HSt;generalize y.at_=ya at y1 HSt;generalize qdw (qb9 tx)=qt at HWr hwr;clear hy g1 g2 g3 r1 r2 hc3 htx;go_wp2_with fail;have HB2:=q6q ((HB.out.alloc HB.out.size (.cells #[.slice ao3 pl.length c3',.int .i64 ya] qbg)))
   have HO2:=q6q (HO.out.alloc (.cells #[.slice ao3 pl.length c3',.int .i64 ya] qbg));refine(HSt.out _ HB2.out).mono ?_;rintro _ w3 ⟨rfl,hb3'⟩;have HB3:=q6q (HB2.out.trans (hb3'.mono HB2.out.size));have HO3:=q6q (qac HO2.out hb3');clear hb3' HB2 HO2 HO HB HSt;generalize hWq:qcp f (ws.take q)=Wq at hwl HO3 HWs ⊢;subst hwl
   go_wp2_with (at_builtin;refine wpList_append_own _ rfl _ _ 26 rfl w.heap.size 9 i0 (.string (S [])) 1 16 Tryz.underlying26 hi hz0 hz1 hz2 rfl (by decide) _ _ _ rfl (HO3.out.alloc (.cells #[.string (S tx)] 9)) ⟨_,0,none⟩ 1 1 [.string (S tx)] rfl rfl (qow _ _ _) (by simp[Value.oneCell']) (by unfold maxLen;omega) (by omega) (by simp;have:=HB3.out.size;omega) ?_;intro v' w5 hown5 hgr5 _;have HB5:=q6q ((HB3.out.alloc HB3.out.size (.cells #[.string (S tx)] 9)).grown hgr5 (by have:=HB3.out.size;simp;omega) (fun q hq=>((HO3.out.alloc (.cells #[.string (S tx)] 9)).lt q hq).1));have HO5:=q6q (qu2 hown5);obtain⟨ao',c',rfl⟩:=qad hown5;clear hown5 hgr5)
   refine(HWr.out _).mono ?_;rintro _ w6 ⟨rfl,hb6⟩;have HB6:=q6q (HB5.out.trans (hb6.mono HB5.out.size));have HO6:=q6q (qac HO5.out hb6);clear hb6 HB5 HO5 HO3 HB3;go_wp2;go_roundw
   case rel=>exact⟨Wq.length+1,ln++([32]++qt),by omega,by go_num,qms (by simp),by simp only[List.length_append,List.length_cons,List.length_nil];omega,by rw[HWs.out];simpa using HO6,HB6⟩
   case measure=>simp[intOf];omega
  ·obtain rfl:q=ws.length:=by omega
   rw[List.take_length] at HO hwl ⊢;go_wp2;go_ret2;exact⟨_,ln,rfl,HO.out,HB.out⟩
end Go.Proofs.YtikdblkfjchjbaaGreatDoor
