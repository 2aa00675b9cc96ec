import Derived.Deep.RegionHeld3
import Derived.Test.YtikdblkfjchjbaaGreatDoorY10
import Derived.Test.YtikdblkfjchjbaaGreatDoorY36
set_option linter.unusedVariables false
set_option linter.unusedSimpArgs false
set_option maxHeartbeats 16000000
set_option maxRecDepth 100000
namespace Go.Proofs.YtikdblkfjchjbaaGreatDoor
open Go.RowKit
def quj(r:UnpR)(w:World)(e:Ending)(w':World):Prop:=(match r with
 |.ok l=>∃v,e= .returned (.tuple #[v,.int .i64 (-1)])∧OwnC w' w.heap.size v l
 |.bad a=>e= .returned (.tuple #[.slice none 0 0,.int .i64 (a:Int)])
 |.dies=>e= .panicked qml)∧Below w.heap.size w w'
theorem Rd.grownQ{w w':World}{g o:Nat}{cs:List Value}{row:Option Nat}(h:Rd w (some ⟨g,o,none⟩) cs)(hg:w.grownBy w' row)(hne:some g≠row):Rd w' (some ⟨g,o,none⟩) cs:=by
 rcases h with h|⟨b,o',e,hc⟩
 ·exact .inl h
 ·cases e;exact .inr ⟨_,_,rfl,fun i u hu=>hg.cell (hc i u hu) hne⟩
theorem qrl(s:List UInt8)(w:World)(hs:s.length≤100000)(hS:Std w)(hE:NumE w)(hT:Tz w):
 Calls Tryz.prog 133 #[.string (S s)] w (quj (unpX s (s.length+1) 0 []) w):=by
 obtain⟨i0,hi0,hz0,hz1,hz2⟩:=info_parts (show(Tryz.prog.info? 50).map (fun i=>(i.zero,i.size,i.bytes))=some (some entZ,4,48) by kernel_rfl);obtain⟨R,hR⟩:∃R,unpX s (s.length+1) 0 []=R:=⟨_,rfl⟩;have HR:=q6q hR;have HS:=q6q hS;have HT:=q6q hT;have HN:=q6q hE;have HQ:=q6q (show ∀r e w',R=r→quj r w e w'→quj R w e w' from fun r e w' h1 h2=>by rw[h1];exact h2);rw[hR];generalize hQQ:quj R w=Q at HQ ⊢;clear hQQ;have HZ:=q6q (fun wx=>(show Calls Tryz.prog 76 #[.string (S [0]),.int .i64 1024] wx fun e w'=>e= .returned (.string (S (List.replicate 1024 0)))∧Below wx.heap.size wx w' from qmw 0 1024 wx (by omega)))
 generalize hZn:List.replicate 1024 (0:UInt8)=Z at HZ;have HZn:=q6q hZn;clear hZn hS hT hE hR;go_enter Tryz.func133,Tryz.ntmps133;go_wp2;go_loopw [2,3] (fun vl va wr=>∃(f a:Nat) (D:List Ent),va= .int .i64 (a:Nat)∧a≤s.length∧s.length<a+f∧D.length≤a∧Hid (unpX s f a D=R)∧Hid (∀c∈D,Told1 c)∧Hid (OwnC wr w.heap.size vl D)∧Hid (Below w.heap.size w wr)) (fun _ va _=>s.length+1 - (intOf va).toNat)
 case atStart=>exact⟨s.length+1,0,[],rfl,by omega,by omega,by simp,HR,q6q (by simp),q6q (World.ownsRow_nil _ _ _ _),q6q (Below.refl _ _)⟩
 case round=>
  obtain⟨f,a,D,rfl,ha,hf,hDa,HU,HTd,HO,HB⟩:=hrel;obtain⟨f,rfl⟩:∃k,f=k+1:=⟨f - 1,by omega⟩;obtain⟨av,cv,hve⟩:=qad HO.out;subst hve;have HU0:=q6q (show(if s.drop a=Z then UnpR.ok D else if s.length<a+512 then .bad a
   else if (hdG ((s.drop a).take 512)).2<0∨4096<(hdG ((s.drop a).take 512)).2∨(s.length:Int)<a+512+(hdG ((s.drop a).take 512)).2 then .bad a
   else match entX (chX s a) with
    |none=> .dies
    |some o=>if o.isPrefixOf (s.drop a)=true∧mayL (D++[chX s a])=true then unpX s f (a+o.length) (D++[chX s a]) else .bad a)=R by
   rw[←HZn.out];exact HU.out)
  clear HU;go_upto_region 1 with fail;go_cut [11] (fun v wx=>v= .bool (decide (s.drop a=Z))∧Hid (OwnC wx w.heap.size (.slice av D.length cv) D)∧Hid (Below w.heap.size w wx))
  case first=>
   have t1:=fun (w1:World) (hb1:Below wr.drew.heap.size wr.drew w1)=>qac (w:=wr.drew) HO.out hb1
   have t2:=fun (w1:World) (hb1:Below wr.drew.heap.size wr.drew w1)=>((qgt HB.out).trans (hb1.mono HB.out.size))
   go_region_with (go_at_call 76;refine(HZ.out _).mono ?_;rintro e1 w1 ⟨rfl,hb1⟩;have HO1:=q6q (t1 w1 hb1);have HB1:=q6q (t2 w1 hb1);clear hb1)
   all_goals
    go_simp;go_wp2;go_meet
    exact⟨qhp (by rw[Bool.eq_iff_iff];simp),HO1,HB1⟩
  case rest=>
  obtain⟨rfl,HO1,HB1⟩:=hcut;clear HO HB;by_cases hz:s.drop a=Z
  ·have hzd:decide (s.drop a=Z)=true:=decide_eq_true hz
   have HUz:=q6q (show R= .ok D by rw[←HU0.out,if_pos hz]);clear hz;rw[hzd];go_wp2;exact HQ.out _ _ _ HUz.out ⟨⟨_,rfl,HO1.out⟩,HB1.out⟩
  have hzd:decide (s.drop a=Z)=false:=decide_eq_false hz;have HU1:=q6q (show _ from(if_neg hz).symm.trans HU0.out);clear hz HU0;rw[hzd];clear hzd;by_cases h5:s.length<a+512
  ·have HUz:=q6q (show R= .bad a by rw[←HU1.out,if_pos h5])
   have h5i:(s.length:Int) - (a:Int)<512:=by omega
   clear h5;go_wp2;exact HQ.out _ _ _ HUz.out ⟨rfl,HB1.out⟩
  have HU2:=q6q (show _ from(if_neg h5).symm.trans HU1.out);have h5i:¬((s.length:Int) - (a:Int)<512):=by omega
  have f3:a+512≤s.length:=by omega
  clear HU1 h5;have hbl:((s.drop a).take 512).length=512:=by rw[List.length_take,List.length_drop];omega
  have HGG:=q6q (fun (wx:World) (hx:Below w.heap.size w wx)=>(show Calls Tryz.prog 158 #[.string (S ((s.drop a).take 512))] wx fun e w'=>e= .returned (.tuple #[chgV (hdG ((s.drop a).take 512)).1,.int .i64 (hdG ((s.drop a).take 512)).2])∧Below wx.heap.size wx w' from
   qwn _ _ wx (HS.out.below hx) (HN.out.below hx) hbl (by rw[List.getD_eq_getElem?_getD,List.getElem?_eq_getElem (by rw[hbl];omega)];rfl)))
  have HTC:=q6q (fun h=>q3w s a h);have HDd:=q6q (qt3 ((s.drop a).take 512)).2;have HCX:=q6q (show chX s a=if (hdG ((s.drop a).take 512)).1.kind=2 then ⟨(hdG ((s.drop a).take 512)).1.path,2,(hdG ((s.drop a).take 512)).1.mode,(s.drop (a+512)).take (hdG ((s.drop a).take 512)).2.toNat⟩ else (hdG ((s.drop a).take 512)).1 from rfl);obtain⟨hd,hhd⟩:∃hd,hdG ((s.drop a).take 512)=hd:=⟨_,rfl⟩;rw[hhd] at HGG HU2 HTC HCX HDd;clear hhd hbl;obtain⟨⟨gp,gk,gm,gd⟩,n⟩:=hd;simp only at HGG HU2 HTC HCX HDd;generalize chX s a=c at*;unfold chgV at HGG;simp only at HGG;clear h5i;have h5i:decide ((s.length:Int) - (a:Int)<512)=false:=decide_eq_false (by omega)
  go_wp2_with fail;refine(HGG.out _ HB1.out).mono ?_;rintro _ w2 ⟨rfl,hb2⟩;have HO2:=q6q (qac HO1.out hb2);have HB3:=q6q (HB1.out.trans (hb2.mono HB1.out.size));clear hb2 HO1 HB1 HGG h5i;by_cases g1:n<0
  ·have HUz:=q6q (show R= .bad a by rw[←HU2.out,if_pos (.inl g1)])
   go_wp2;exact HQ.out _ _ _ HUz.out ⟨rfl,HB3.out.alloc HB3.out.size _⟩
  by_cases g2:4096<n
  ·have HUz:=q6q (show R= .bad a by rw[←HU2.out,if_pos (.inr (.inl g2))])
   go_wp2;exact HQ.out _ _ _ HUz.out ⟨rfl,HB3.out.alloc HB3.out.size _⟩
  by_cases g3:(s.length:Int)<(a:Int)+512+n
  ·have HUz:=q6q (show R= .bad a by rw[←HU2.out,if_pos (.inr (.inr g3))])
   go_wp2;exact HQ.out _ _ _ HUz.out ⟨rfl,HB3.out.alloc HB3.out.size _⟩
  have HU3:=q6q (show _ from(if_neg (by rintro(h|h|h) <;> omega)).symm.trans HU2.out);have HTc:=q6q (HTC.out (by omega));obtain⟨nn,rfl⟩:∃nn:Nat,n=nn:=⟨n.toNat,by omega⟩;clear HU2 HTC;go_upto_region 8 with fail;clear g1 g2;have f4:a+512+nn≤s.length:=by omega
  clear g3;have HA:=q6q (show ChgAt (w2.alloc (.cells #[.string (S gp),.int .i64 gk,.int .i64 gm,.string (S gd)] tChH)) w2.heap.size gp gk gm gd from heap_alloc_new w2 _);have HX:=q6q ((Below.refl w2.heap.size w2).alloc (Nat.le_refl _) (.cells #[.string (S gp),.int .i64 gk,.int .i64 gm,.string (S gd)] tChH));have HG4:=q6q (show w.heap.size≤w2.heap.size from HB3.out.size);obtain⟨gz,hgz⟩:∃gz,w2.heap.size=gz:=⟨_,rfl⟩;rw[hgz] at HA HX HG4 ⊢;have HGZ:=q6q hgz;clear hgz;generalize w2.alloc (.cells #[.string (S gp),.int .i64 gk,.int .i64 gm,.string (S gd)] tChH)=w4 at HA HX ⊢;obtain⟨K2,hK2⟩:∃K2,(gk==2)=K2:=⟨_,rfl⟩
  obtain⟨c0,c1,c2,c3,cf,cs⟩:=HA.out.cells;go_upto_if 46 with fail
  go_cut [46] (fun v wx=>v= .bool K2∧Hid (ChgAt wx gz c.path c.kind c.mode c.data)∧Hid (Below gz w2 wx))
  case first=>
   cases K2 with
   |true=>
    have hk:gk=2:=by simpa using hK2
    subst hk;rw[if_pos rfl] at HCX;obtain rfl:=HCX.out;try simp only[Int.toNat_natCast]
    go_wp2;go_meet
    exact⟨rfl,q6q (HA.out.setD _),q6q (HX.out.setCell (Nat.le_refl _) _)⟩
   |false=>
    have hk:gk≠2:=by simpa using hK2
    rw[if_neg hk] at HCX;obtain rfl:=HCX.out;clear hk;go_wp2;go_meet
    exact⟨rfl,HA,HX⟩
  case rest=>
   obtain⟨rfl,HA5,HX5⟩:=hcut;clear HA HX c0 c1 c2 c3 cf cs HCX HDd;obtain⟨c0,c1,c2,c3,cf,cs⟩:=HA5.out.cells;have HB5:=q6q (show Below w.heap.size w wc from HB3.out.trans (HX5.out.mono HG4.out));have HO5:=q6q (qac HO2.out (show Below w2.heap.size w2 wc by rw[HGZ.out];exact HX5.out));clear HX5 HO2 HB3 HGZ;go_wp2_with fail;refine(qw3 c HTc.out _ (HS.out.below HB5.out) (HT.out.below HB5.out)).mono ?_;intro e6 w6 ho;cases hex:entX c with
   |none=>
    unfold qj2 at ho;rw[hex] at ho;obtain⟨rfl,hb6⟩:=ho;have HU4:=HU3.out;rw[hex] at HU4;exact⟨rfl,HQ.out _ _ _ HU4.symm ⟨rfl,HB5.out.trans (hb6.mono HB5.out.size)⟩⟩
   |some o=>
   unfold qj2 at ho;rw[hex] at ho;obtain⟨A6,cap6,rfl,hr6,hb6,g6,o6,rfl,hg6⟩:=ho;have HU4:=q6q (show(if o.isPrefixOf (s.drop a)=true∧mayL (D++[c])=true then unpX s f (a+o.length) (D++[c]) else .bad a)=R by have h:=HU3.out;rw[hex] at h;exact h);have hol:=q3m hex;clear hex HU3;have HR6:=q6q hr6;have HA6:=q6q (HA5.out.below hb6);have HB6:=q6q (HB5.out.trans (hb6.mono HB5.out.size));have HO6:=q6q (qac HO5.out hb6);have HN6:=q6q (show some g6≠(Value.slice av D.length cv).ownBlock from fun e=>by have:=(HO5.out.lt g6 e.symm).2;omega);clear hr6 hb6 HA5 HB5 HO5 c0 c1 c2 c3 cf cs hg6;obtain⟨c0,c1,c2,c3,cf,cs⟩:=HA6.out.cells
   have hDl:D.length≤100000:=by omega
   go_upto_region 12 with(at_builtin;(refine wpList_append_own _ rfl _ _ 43 rfl w.heap.size 50 i0 entZ 4 48 Tryz.underlying43 hi0 hz0 hz1 hz2 rfl (by decide) _ _ _ rfl (HO6.out.alloc _) ⟨_,0,none⟩ 1 1 [.string (S c.path),.int .i64 c.kind,.int .i64 c.mode,.string (S c.data)] rfl rfl (qji _ _ _ _ _ _ _ (by simp)) (by simp[Value.oneCell']) (by unfold maxLen;omega) (by omega) (by simp;have:=HB6.out.size;omega) ?_;intro v' w7 hown7 hgr7 _;obtain⟨ao',c',rfl⟩:=qad hown7;have HB7:=q6q ((HB6.out.alloc HB6.out.size _).grown hgr7 (by have:=HB6.out.size;simp;omega) (fun kq hq=>((HO6.out.alloc (.cells #[.string (S c.path),.int .i64 c.kind,.int .i64 c.mode,.string (S c.data)] 50)).lt kq hq).1));have HO7:=q6q (qy9 hown7);have HR7:=q6q ((HR6.out.below ((Below.refl w6.heap.size w6).alloc (Nat.le_refl _) (.cells #[.string (S c.path),.int .i64 c.kind,.int .i64 c.mode,.string (S c.data)] 50))).grownQ hgr7 HN6.out);clear hown7 hgr7))
   clear c0 c1 c2 c3 cf cs HA6 HB6 HO6 HR6 HN6;have hcvN:=fun nn=>run_convert_bytes_back (P:=Tryz.prog) (w7.drewN nn) 113 9 5 ⟨g6,o6,none⟩ cap6 o (by kernel_rfl) (by kernel_rfl) (by kernel_rfl) (by
    intro j hj;rw[Addr.add_lit];rcases HR7.out with h0|⟨b',o',e',hc'⟩
    ·have:=congrArg List.length h0;rw[qh3,List.length_nil] at this;omega
    ·cases e'
     exact hc' j _ (by rw[qeo,List.getElem?_map,List.getElem?_eq_getElem hj];rfl))
   simp only[S_mk] at hcvN;have HPr:=q6q (fun wx=>qdb (s.drop a) o wx);have hpl:=q6q (show o.isPrefixOf (s.drop a)=true→a+o.length≤s.length from fun h=>by
    have:=(List.isPrefixOf_iff_prefix.1 h).length_le;rw[List.length_drop] at this;omega)
   have HVl:=q6q (fun (wx:World) (hx:Below w7.heap.size w7 wx)=>(show Calls Tryz.prog 38 #[.slice ao' (D.length+1) c'] wx fun e w'=>∃r,e= .returned (.int .i64 r)∧First (barP (D++[c])) (D++[c]).length r∧Below wx.heap.size wx w' by
    obtain⟨A',c'',hv',_,_,hrd⟩:=Rd.of_own (qac HO7.out hx);injection hv' with ea eb ec;subst ea ec;have hl1:(D++[c]).length=D.length+1:=by simp
    have:=qxv (D++[c]) ao' c' wx (HS.out.below (HB7.out.trans (hx.mono HB7.out.size))) hrd (by omega) (fun e he=>by
     have hfe:Told1 e:=by
      rcases List.mem_append.1 he with h|h
      ·exact HTd.out e h
      ·rw[List.mem_singleton.1 h];exact HTc.out
     have:=hfe.path;have:=hfe.data;omega)
    rw[hl1] at this;refine this.mono ?_;rintro e w' ⟨r,rfl,hr,hb⟩;exact⟨r,rfl,by rw[hl1];exact hr,hb⟩))
   have HO8:=q6q (fun (wx:World) (hx:Below w7.drew.heap.size w7.drew wx)=>qac (w:=w7.drew) HO7.out hx);have HB8:=q6q (fun (wx:World) (hx:Below w7.drew.heap.size w7.drew wx)=>((qgt HB7.out).trans (hx.mono HB7.out.size)));have HV8:=q6q (HVl.out w7.drew (qgt (Below.refl _ _)));have HTn:=q6q (show ∀e∈D++[c],Told1 e from fun e he=>(List.mem_append.1 he).elim (HTd.out e) fun h=>by rw[List.mem_singleton.1 h];exact HTc.out);by_cases hp:o.isPrefixOf (s.drop a)=true
   rotate_left
   ·have HUz:=q6q (show R= .bad a by rw[←HU4.out,if_neg (fun h=>hp h.1)])
    have HPr2:=q6q (fun wx=>(show Calls Tryz.prog 67 #[.string (S (s.drop a)),.string (S o)] wx fun e w'=>e= .returned (.bool false)∧w'=wx by
     have:=HPr.out wx;rw[show o.isPrefixOf (s.drop a)=false from Bool.eq_false_iff.2 hp] at this;exact this.mono fun _ _ h=>⟨h.1,h.2.symm⟩))
    have hcv:=hcvN;clear hp HPr HV8 HVl hpl hcvN;go_cut [73] (fun v wx=>v= .bool true∧Hid (Below w.heap.size w wx))
    case first=>
     go_quiet (first|(go_at_call 67;exact Calls.quiet_of_same (HPr2.out _)));go_wp2;go_meet
     exact⟨rfl,q6q (qa3 HB7.out _)⟩
    case rest=>
    obtain⟨rfl,HB9⟩:=hcut;go_wp2;exact HQ.out _ _ _ HUz.out ⟨rfl,HB9.out⟩
   have HPr2:=q6q (fun wx=>(show Calls Tryz.prog 67 #[.string (S (s.drop a)),.string (S o)] wx fun e w'=>e= .returned (.bool true)∧wx=w' by
    have:=HPr.out wx;rw[hp] at this;exact this))
   have f5:=hpl.out hp;have HU5:=q6q (show(if mayL (D++[c])=true then unpX s f (a+o.length) (D++[c]) else .bad a)=R by rw[←HU4.out];simp only[hp,true_and]);have hcv:=hcvN 1;clear hp HPr HVl hpl HU4 hcvN;rw[show w7.drewN 1=w7.drew from rfl] at hcv;go_cut [73] (fun v wx=>v= .bool (!mayL (D++[c]))∧Hid (OwnC wx w.heap.size (.slice ao' (D.length+1) c') (D++[c]))∧Hid (Below w.heap.size w wx))
   case first=>
    have HV9:=q6q (show Calls Tryz.prog 38 #[.slice ao' (D.length+1) c'] w7.drew fun e w'=>(∃r:Int,e= .returned (.int .i64 r)∧decide (0≤r)=!mayL (D++[c]))∧Below w7.drew.heap.size w7.drew w' from HV8.out.mono (by
     rintro e w' ⟨r,rfl,hr,hb⟩;refine⟨⟨r,rfl,?_⟩,hb⟩;rcases qwa hr with⟨h1,rfl⟩|⟨h1,j,rfl,_⟩
     ·rw[h1];rfl
     ·rw[h1];simp))
    generalize (!mayL (D++[c]))=mm at*;go_region_with (first
     |(go_at_call 67;refine(HPr2.out _).mono ?_;rintro e1 w8 ⟨rfl,rfl⟩)
     |(go_at_call 38;refine HV9.out.mono ?_;rintro e1 w8 ⟨⟨r,rfl,hr⟩,hb8⟩;have HO9:=q6q (HO8.out w8 hb8);have HB9:=q6q (HB8.out w8 hb8);clear hb8))
    all_goals
     go_wp2;go_meet
     exact⟨by first|rfl|exact qhp hr,HO9,HB9⟩
   case rest=>
    obtain⟨rfl,HO9,HB9⟩:=hcut;clear HO7 HB7 HR7 hcv HPr2 HO8 HB8 HV8;by_cases hm:mayL (D++[c])=true
    ·rw[hm]
     rw[if_pos hm] at HU5;clear hm;go_wp2;go_roundw
     case rel=>exact⟨f,a+o.length,D++[c],by go_num,f5,by omega,by simp;omega,HU5,HTn,q6q (q4z HO9.out (by simp) rfl),HB9⟩
     case measure=>simp[intOf];omega
    ·have hmf:mayL (D++[c])=false:=Bool.eq_false_iff.2 hm
     rw[if_neg hm] at HU5;rw[hmf];clear hm hmf;go_wp2;exact HQ.out _ _ _ HU5.out.symm ⟨rfl,HB9.out⟩
end Go.Proofs.YtikdblkfjchjbaaGreatDoor
