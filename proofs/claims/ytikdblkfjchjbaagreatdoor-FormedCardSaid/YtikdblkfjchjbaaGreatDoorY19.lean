import Derived.Deep.RegionHeld3
import Derived.Test.YtikdblkfjchjbaaGreatDoorY18
set_option linter.unusedVariables false
set_option linter.unusedSimpArgs false
set_option maxHeartbeats 16000000
set_option maxRecDepth 100000
namespace Go.Proofs.YtikdblkfjchjbaaGreatDoor
open Go.RowKit
theorem SBlk.new(w:World)(kd:Int)(A:Option Addr)(n c:Nat)(k:Int)(p:Nat):SBlk (w.alloc (.cells #[.int .i64 kd,.slice A n c,.int .i64 k,.int .i64 p] qai)) w.heap.size kd A n c k p:=⟨heap_alloc_new w _⟩
theorem qss(st:List StageG)(ws:List WordG)(B gp b o lw c kk:Nat)(ao:Option Addr)(w:World)(h5:st.length≤5)(hbd:StB 50 st)(hk24:kk≤24)(hp:PB w gp ao st.length c kk)(hst:FStagesR B w st ao c)(hB:B≤w.heap.size)(hgp:B≤gp)(hord:Ord w)
 (hw:FWordsR w (some ⟨b,o,none⟩) ws)(hg:GoodW ws)(hl1:1≤ws.length)(hl4:ws.length≤2000)(hlc:ws.length≤lw)(hlm:lw≤maxLen)(hf:qbc (nth ws 0).text=none):
 Calls Tryz.prog 45 #[.pointer (some ⟨gp,0,none⟩),.slice (some ⟨b,o,none⟩) ws.length lw] w fun e w'=>qdz B gp kk w w' e (qay st ws kk)∧Below B w w'∧KeepY w w':=by
 have HPB:=q6q hp;have HST:=q6q hst;have HW:=q6q hw;have HG:=q6q hg;have HO:=q6q hord;obtain⟨fa,fc,hb,m1,m2,ho⟩:=hw.one (k:=0) (by omega);rw[Nat.zero_mul,Nat.add_zero] at m1 m2;have hgx:=hg.nth 0 (by omega);have HPl:=q6q (show ∀wx:World,Below w.heap.size w wx→Calls Tryz.prog 80 #[.agg #[.slice fa (nth ws 0).pl.length fc,.int .i64 (nth ws 0).at_]] wx fun e w'=>e= .returned (.tuple #[.string (S (nth ws 0).text),.bool (nth ws 0).flat])∧Below wx.heap.size wx w' from
  fun wx hb=>qbu (nth ws 0) fa fc 0 _ wx hgx.1 hgx.2 rfl (qac ho hb))
 have hl0:(0:Int)<(ws.length:Int):=by omega
 have hl0n:0<ws.length:=by omega
 have hl1':(1:Int)≤(ws.length:Int):=by omega
 have hlc':(ws.length:Int)≤(lw:Int):=by omega
 have Y:=q6q (qwj (st:=st) (n:=kk) hf);have HFR:=q6q (qqq hf).1;have HKD:=q6q (qqq hf).2;clear hf;clear hp hst hw hg hord ho hgx;generalize (nth ws 0).text=t0 at*;generalize (nth ws 0).pl.length=q0 at*;generalize (nth ws 0).at_=pa0 at*;generalize (nth ws 0).flat=fl0 at*;by_cases hlw:lw=1
 ·have hlw':=hlw
  go_enter Tryz.func45,Tryz.ntmps45;go_wp2_with (first
   |(go_at_call 80;refine(HPl.out _ (Below.refl _ _)).mono ?_;rintro e1 w1 ⟨rfl,hb1⟩;have hO1:=q6q (HO.out.after hb1))
   |(go_at_call 81;refine(qau t0 _ hO1.out).mono ?_;rintro e2 w2 ⟨rfl,hb2⟩;rw[HFR.out];have hb12:=hb1.trans (hb2.mono hb1.size)))
  have hbA:Below w.heap.size w (w2.alloc (.cells #[.string (S []),.int .i64 0,.int .i64 0,.nilFunc] qa1)):=hb12.alloc hb12.size _;have HFB:=q6q (Blk4.new w2 (.string (S [])) (.int .i64 0) (.int .i64 0) (.nilFunc) qa1);have hgf:w.heap.size≤w2.heap.size:=hb12.size;generalize hWA:w2.alloc (.cells #[.string (S []),.int .i64 0,.int .i64 0,.nilFunc] qa1)=wA at*;generalize w2.heap.size=gf at*;clear hWA hb12 hb1 hb2 hO1;have k2A:=Below.cellAt hbA hb m2;have hOA:=q6q (HO.out.after hbA);have hzA:=hbA.size
  go_region_held3 (fun w'=>w'.cell? ⟨b,o+1,none⟩=some (.int .i64 pa0)) (go_keep) (first|(go_at_call 82;refine(qam t0 _ (by first|exact hOA.out.after (qab (Below.refl _ _))|exact hOA.out.after (qab (Below.alloc (Below.refl _ _) (Nat.le_refl _) _)))).mono ?_;rintro e3 w3 ⟨rfl,rfl⟩;rw[HKD.out]))
  all_goals
   go_wp2_with (go_at_call 43;refine(qaf 5 pa0 _).mono ?_;rintro e9 w9 ⟨rfl,rfl⟩)
   exact⟨rfl,qah Y.out ⟨_,rfl,by omega,qae _ _ _ (by simp)⟩,Below.alloc (Below.alloc (qab (hbA.mono hB)) (Nat.le_trans hB hzA) _) (by simp;omega) _,KeepY.below (Below.alloc (Below.alloc (qab hbA) hzA _) (by simp;omega) _)⟩
 ·skip
  go_enter Tryz.func45,Tryz.ntmps45;go_wp2_with (first
   |(go_at_call 80;refine(HPl.out _ (Below.refl _ _)).mono ?_;rintro e1 w1 ⟨rfl,hb1⟩;have hO1:=q6q (HO.out.after hb1))
   |(go_at_call 81;refine(qau t0 _ hO1.out).mono ?_;rintro e2 w2 ⟨rfl,hb2⟩;rw[HFR.out];have hb12:=hb1.trans (hb2.mono hb1.size)))
  have hbA:Below w.heap.size w (w2.alloc (.cells #[.string (S []),.int .i64 0,.int .i64 0,.nilFunc] qa1)):=hb12.alloc hb12.size _;have HFB:=q6q (Blk4.new w2 (.string (S [])) (.int .i64 0) (.int .i64 0) (.nilFunc) qa1);have hgf:w.heap.size≤w2.heap.size:=hb12.size;generalize hWA:w2.alloc (.cells #[.string (S []),.int .i64 0,.int .i64 0,.nilFunc] qa1)=wA at*;generalize w2.heap.size=gf at*;clear hWA hb12 hb1 hb2 hO1;have k2A:=Below.cellAt hbA hb m2;have hOA:=q6q (HO.out.after hbA);have hzA:=hbA.size
  go_region_held3 (fun w'=>w'.cell? ⟨b,o+1,none⟩=some (.int .i64 pa0)) (go_keep) (first|(go_at_call 82;refine(qam t0 _ (by first|exact hOA.out.after (qab (Below.refl _ _))|exact hOA.out.after (qab (Below.alloc (Below.refl _ _) (Nat.le_refl _) _)))).mono ?_;rintro e3 w3 ⟨rfl,rfl⟩;rw[HKD.out]))
  all_goals
   go_wp2_with (go_at_call 43;refine(qaf 5 pa0 _).mono ?_;rintro e9 w9 ⟨rfl,rfl⟩)
   exact⟨rfl,qah Y.out ⟨_,rfl,by omega,qae _ _ _ (by simp)⟩,Below.alloc (Below.alloc (qab (hbA.mono hB)) (Nat.le_trans hB hzA) _) (by simp;omega) _,KeepY.below (Below.alloc (Below.alloc (qab hbA) hzA _) (by simp;omega) _)⟩
theorem qsq(st:List StageG)(ws:List WordG)(B gp b o lw c kk:Nat)(ao:Option Addr)(w:World)(h5:st.length≤5)(hbd:StB 50 st)(hk24:kk≤24)(hp:PB w gp ao st.length c kk)(hst:FStagesR B w st ao c)(hB:B≤w.heap.size)(hgp:B≤gp)(hord:Ord w)
 (hw:FWordsR w (some ⟨b,o,none⟩) ws)(hg:GoodW ws)(hl1:1≤ws.length)(hl4:ws.length≤2000)(hlc:ws.length≤lw)(hlm:lw≤maxLen)(lo hi:Nat)(kd:Int)(hf:qfn (nth ws 0).text lo hi .nilFunc kd)(hkd:kd=0↔(nth ws 0).text=qcq)(hbad:(st=[]∧(nth ws 0).text≠qcq)∨ws.length<lo+1∨hi+1<ws.length):
 Calls Tryz.prog 45 #[.pointer (some ⟨gp,0,none⟩),.slice (some ⟨b,o,none⟩) ws.length lw] w fun e w'=>qdz B gp kk w w' e (qay st ws kk)∧Below B w w'∧KeepY w w':=by
 have HPB:=q6q hp;have HST:=q6q hst;have HW:=q6q hw;have HG:=q6q hg;have HO:=q6q hord;obtain⟨fa,fc,hb,m1,m2,ho⟩:=hw.one (k:=0) (by omega);rw[Nat.zero_mul,Nat.add_zero] at m1 m2;have hgx:=hg.nth 0 (by omega);have HPl:=q6q (show ∀wx:World,Below w.heap.size w wx→Calls Tryz.prog 80 #[.agg #[.slice fa (nth ws 0).pl.length fc,.int .i64 (nth ws 0).at_]] wx fun e w'=>e= .returned (.tuple #[.string (S (nth ws 0).text),.bool (nth ws 0).flat])∧Below wx.heap.size wx w' from
  fun wx hb=>qbu (nth ws 0) fa fc 0 _ wx hgx.1 hgx.2 rfl (qac ho hb))
 have hl0:(0:Int)<(ws.length:Int):=by omega
 have hl0n:0<ws.length:=by omega
 have hl1':(1:Int)≤(ws.length:Int):=by omega
 have hlc':(ws.length:Int)≤(lw:Int):=by omega
 obtain⟨hf1,hf2,hf3,hfv,_⟩:=hf;have Y:=q6q (qnb (st:=st) (n:=kk) hf3 hbad);have HFR:=q6q hf1;have HKD:=q6q hf2;have hways:(st.length=0∧kd≠0)∨(ws.length<lo+1∧st.length=0∧kd=0)∨(ws.length<lo+1∧st.length≠0)∨(¬ws.length<lo+1∧hi+1<ws.length∧st.length=0∧kd=0)∨(¬ws.length<lo+1∧hi+1<ws.length∧st.length≠0):=by
  have e:st=[]↔st.length=0:=by simp
  rw[e] at hbad;by_cases h0:st.length=0
  ·by_cases hk:kd=0
   ·have:=hkd.1 hk
    rcases hbad with h|h|h
    ·exact absurd this h.2
    ·exact .inr (.inl ⟨h,h0,hk⟩)
    ·by_cases hl:ws.length<lo+1
     ·exact .inr (.inl ⟨hl,h0,hk⟩)
     ·exact .inr (.inr (.inr (.inl ⟨hl,h,h0,hk⟩)))
   ·exact .inl ⟨h0,hk⟩
  ·rcases hbad with h|h|h
   ·exact absurd h.1 h0
   ·exact .inr (.inr (.inl ⟨h,h0⟩))
   ·by_cases hl:ws.length<lo+1
    ·exact .inr (.inr (.inl ⟨hl,h0⟩))
    ·exact .inr (.inr (.inr (.inr ⟨hl,h,h0⟩)))
 clear hf1 hf2 hf3 hbad hkd;clear hp hst hw hg hord ho hgx;generalize (nth ws 0).text=t0 at*;generalize (nth ws 0).pl.length=q0 at*;generalize (nth ws 0).at_=pa0 at*;generalize (nth ws 0).flat=fl0 at*;have hk0:kd=0→(kd != 0)=false:=by rintro rfl;rfl
 have hk1:kd≠0→(kd != 0)=true:=by intro h;rw[bne_iff_ne];exact h
 rcases hways with⟨h1,h2⟩|⟨h1,h2,h3⟩|⟨h1,h2⟩|⟨h1,h2,h3,h4⟩|⟨h1,h2,h3⟩
 ·have hkn:=hk1 h2
  have hs0:((st.length:Int)==0)=true:=by rw[beq_iff_eq];omega
  clear h1 h2 hk0 hk1;by_cases hlw:lw=1
  ·have hlw':=hlw
   go_enter Tryz.func45,Tryz.ntmps45;go_wp2_with (first
    |(go_at_call 80;refine(HPl.out _ (Below.refl _ _)).mono ?_;rintro e1 w1 ⟨rfl,hb1⟩;have hO1:=q6q (HO.out.after hb1))
    |(go_at_call 81;refine(qau t0 _ hO1.out).mono ?_;rintro e2 w2 ⟨rfl,hb2⟩;rw[HFR.out];have hb12:=hb1.trans (hb2.mono hb1.size)))
   have hbA:Below w.heap.size w (w2.alloc (.cells #[.string (S t0),.int .i64 lo,.int .i64 hi,.nilFunc] qa1)):=hb12.alloc hb12.size _;have HFB:=q6q (Blk4.new w2 (.string (S t0)) (.int .i64 lo) (.int .i64 hi) .nilFunc qa1);have hgf:w.heap.size≤w2.heap.size:=hb12.size;generalize hWA:w2.alloc (.cells #[.string (S t0),.int .i64 lo,.int .i64 hi,.nilFunc] qa1)=wA at*;generalize w2.heap.size=gf at*;clear hWA hb12 hb1 hb2 hO1;have k2A:=Below.cellAt hbA hb m2;have hOA:=q6q (HO.out.after hbA);have hzA:=hbA.size;obtain⟨p1,p2,p3,p4⟩:=(HPB.out.after (qab hbA)).blk2.facts;have hpl:=(HPB.out.after hbA).lt;obtain⟨f0,f1,f2,f3,_,_,_,_⟩:=HFB.out.facts
   have hfl:=HFB.out.lt;have hpA:wA.cell? ⟨gp,0,none⟩=some (.slice ao st.length c):=(HPB.out.after hbA).blk2.facts.1;go_region_held3 (fun w'=>w'.cell? ⟨b,o+1,none⟩=some (.int .i64 pa0)) (go_keep) (first|(go_at_call 82;refine(qam t0 _ (by first|exact hOA.out.after (qab (Below.refl _ _))|exact hOA.out.after (qab (Below.alloc (Below.refl _ _) (Nat.le_refl _) _)))).mono ?_;rintro e3 w3 ⟨rfl,rfl⟩;rw[HKD.out]))
   all_goals
    go_wp2_with (go_at_call 43;refine(qaf 5 pa0 _).mono ?_;rintro e9 w9 ⟨rfl,rfl⟩)
    exact⟨rfl,qah Y.out ⟨_,rfl,by omega,qae _ _ _ (by simp)⟩,Below.alloc (Below.alloc (qab (hbA.mono hB)) (Nat.le_trans hB hzA) _) (by simp;omega) _,KeepY.below (Below.alloc (Below.alloc (qab hbA) hzA _) (by simp;omega) _)⟩
  ·skip
   go_enter Tryz.func45,Tryz.ntmps45;go_wp2_with (first
    |(go_at_call 80;refine(HPl.out _ (Below.refl _ _)).mono ?_;rintro e1 w1 ⟨rfl,hb1⟩;have hO1:=q6q (HO.out.after hb1))
    |(go_at_call 81;refine(qau t0 _ hO1.out).mono ?_;rintro e2 w2 ⟨rfl,hb2⟩;rw[HFR.out];have hb12:=hb1.trans (hb2.mono hb1.size)))
   have hbA:Below w.heap.size w (w2.alloc (.cells #[.string (S t0),.int .i64 lo,.int .i64 hi,.nilFunc] qa1)):=hb12.alloc hb12.size _;have HFB:=q6q (Blk4.new w2 (.string (S t0)) (.int .i64 lo) (.int .i64 hi) .nilFunc qa1);have hgf:w.heap.size≤w2.heap.size:=hb12.size;generalize hWA:w2.alloc (.cells #[.string (S t0),.int .i64 lo,.int .i64 hi,.nilFunc] qa1)=wA at*;generalize w2.heap.size=gf at*;clear hWA hb12 hb1 hb2 hO1;have k2A:=Below.cellAt hbA hb m2;have hOA:=q6q (HO.out.after hbA);have hzA:=hbA.size;obtain⟨p1,p2,p3,p4⟩:=(HPB.out.after (qab hbA)).blk2.facts;have hpl:=(HPB.out.after hbA).lt;obtain⟨f0,f1,f2,f3,_,_,_,_⟩:=HFB.out.facts
   have hfl:=HFB.out.lt;have hpA:wA.cell? ⟨gp,0,none⟩=some (.slice ao st.length c):=(HPB.out.after hbA).blk2.facts.1;go_region_held3 (fun w'=>w'.cell? ⟨b,o+1,none⟩=some (.int .i64 pa0)) (go_keep) (first|(go_at_call 82;refine(qam t0 _ (by first|exact hOA.out.after (qab (Below.refl _ _))|exact hOA.out.after (qab (Below.alloc (Below.refl _ _) (Nat.le_refl _) _)))).mono ?_;rintro e3 w3 ⟨rfl,rfl⟩;rw[HKD.out]))
   all_goals
    go_wp2_with (go_at_call 43;refine(qaf 5 pa0 _).mono ?_;rintro e9 w9 ⟨rfl,rfl⟩)
    exact⟨rfl,qah Y.out ⟨_,rfl,by omega,qae _ _ _ (by simp)⟩,Below.alloc (Below.alloc (qab (hbA.mono hB)) (Nat.le_trans hB hzA) _) (by simp;omega) _,KeepY.below (Below.alloc (Below.alloc (qab hbA) hzA _) (by simp;omega) _)⟩
 ·have hkn:=hk0 h3
  have hs0:((st.length:Int)==0)=true:=by rw[beq_iff_eq];omega
  have hlng:((ws.length - 1:Nat):Int)<(lo:Int):=by omega
  have hlng2:ws.length - 1<lo:=by omega
  clear h1 h2 h3 hk0 hk1;by_cases hlw:lw=1
  ·have hlw':=hlw
   go_enter Tryz.func45,Tryz.ntmps45;go_wp2_with (first
    |(go_at_call 80;refine(HPl.out _ (Below.refl _ _)).mono ?_;rintro e1 w1 ⟨rfl,hb1⟩;have hO1:=q6q (HO.out.after hb1))
    |(go_at_call 81;refine(qau t0 _ hO1.out).mono ?_;rintro e2 w2 ⟨rfl,hb2⟩;rw[HFR.out];have hb12:=hb1.trans (hb2.mono hb1.size)))
   have hbA:Below w.heap.size w (w2.alloc (.cells #[.string (S t0),.int .i64 lo,.int .i64 hi,.nilFunc] qa1)):=hb12.alloc hb12.size _;have HFB:=q6q (Blk4.new w2 (.string (S t0)) (.int .i64 lo) (.int .i64 hi) .nilFunc qa1);have hgf:w.heap.size≤w2.heap.size:=hb12.size;generalize hWA:w2.alloc (.cells #[.string (S t0),.int .i64 lo,.int .i64 hi,.nilFunc] qa1)=wA at*;generalize w2.heap.size=gf at*;clear hWA hb12 hb1 hb2 hO1;have k2A:=Below.cellAt hbA hb m2;have hOA:=q6q (HO.out.after hbA);have hzA:=hbA.size;obtain⟨p1,p2,p3,p4⟩:=(HPB.out.after (qab hbA)).blk2.facts;have hpl:=(HPB.out.after hbA).lt;obtain⟨f0,f1,f2,f3,_,_,_,_⟩:=HFB.out.facts
   have hfl:=HFB.out.lt;have hpA:wA.cell? ⟨gp,0,none⟩=some (.slice ao st.length c):=(HPB.out.after hbA).blk2.facts.1;go_region_held3 (fun w'=>w'.cell? ⟨b,o+1,none⟩=some (.int .i64 pa0)) (go_keep) (first|(go_at_call 82;refine(qam t0 _ (by first|exact hOA.out.after (qab (Below.refl _ _))|exact hOA.out.after (qab (Below.alloc (Below.refl _ _) (Nat.le_refl _) _)))).mono ?_;rintro e3 w3 ⟨rfl,rfl⟩;rw[HKD.out]))
   all_goals
    go_wp2_with (go_at_call 43;refine(qaf 5 pa0 _).mono ?_;rintro e9 w9 ⟨rfl,rfl⟩)
    exact⟨rfl,qah Y.out ⟨_,rfl,by omega,qae _ _ _ (by simp)⟩,Below.alloc (Below.alloc (qab (hbA.mono hB)) (Nat.le_trans hB hzA) _) (by simp;omega) _,KeepY.below (Below.alloc (Below.alloc (qab hbA) hzA _) (by simp;omega) _)⟩
  ·skip
   go_enter Tryz.func45,Tryz.ntmps45;go_wp2_with (first
    |(go_at_call 80;refine(HPl.out _ (Below.refl _ _)).mono ?_;rintro e1 w1 ⟨rfl,hb1⟩;have hO1:=q6q (HO.out.after hb1))
    |(go_at_call 81;refine(qau t0 _ hO1.out).mono ?_;rintro e2 w2 ⟨rfl,hb2⟩;rw[HFR.out];have hb12:=hb1.trans (hb2.mono hb1.size)))
   have hbA:Below w.heap.size w (w2.alloc (.cells #[.string (S t0),.int .i64 lo,.int .i64 hi,.nilFunc] qa1)):=hb12.alloc hb12.size _;have HFB:=q6q (Blk4.new w2 (.string (S t0)) (.int .i64 lo) (.int .i64 hi) .nilFunc qa1);have hgf:w.heap.size≤w2.heap.size:=hb12.size;generalize hWA:w2.alloc (.cells #[.string (S t0),.int .i64 lo,.int .i64 hi,.nilFunc] qa1)=wA at*;generalize w2.heap.size=gf at*;clear hWA hb12 hb1 hb2 hO1;have k2A:=Below.cellAt hbA hb m2;have hOA:=q6q (HO.out.after hbA);have hzA:=hbA.size;obtain⟨p1,p2,p3,p4⟩:=(HPB.out.after (qab hbA)).blk2.facts;have hpl:=(HPB.out.after hbA).lt;obtain⟨f0,f1,f2,f3,_,_,_,_⟩:=HFB.out.facts
   have hfl:=HFB.out.lt;have hpA:wA.cell? ⟨gp,0,none⟩=some (.slice ao st.length c):=(HPB.out.after hbA).blk2.facts.1;go_region_held3 (fun w'=>w'.cell? ⟨b,o+1,none⟩=some (.int .i64 pa0)) (go_keep) (first|(go_at_call 82;refine(qam t0 _ (by first|exact hOA.out.after (qab (Below.refl _ _))|exact hOA.out.after (qab (Below.alloc (Below.refl _ _) (Nat.le_refl _) _)))).mono ?_;rintro e3 w3 ⟨rfl,rfl⟩;rw[HKD.out]))
   all_goals
    go_wp2_with (go_at_call 43;refine(qaf 5 pa0 _).mono ?_;rintro e9 w9 ⟨rfl,rfl⟩)
    exact⟨rfl,qah Y.out ⟨_,rfl,by omega,qae _ _ _ (by simp)⟩,Below.alloc (Below.alloc (qab (hbA.mono hB)) (Nat.le_trans hB hzA) _) (by simp;omega) _,KeepY.below (Below.alloc (Below.alloc (qab hbA) hzA _) (by simp;omega) _)⟩
 ·skip
  have hs0:((st.length:Int)==0)=false:=by rw[beq_eq_false_iff_ne];omega
  have hlng:((ws.length - 1:Nat):Int)<(lo:Int):=by omega
  have hlng2:ws.length - 1<lo:=by omega
  clear h1 h2 hk0 hk1;by_cases hlw:lw=1
  ·have hlw':=hlw
   go_enter Tryz.func45,Tryz.ntmps45;go_wp2_with (first
    |(go_at_call 80;refine(HPl.out _ (Below.refl _ _)).mono ?_;rintro e1 w1 ⟨rfl,hb1⟩;have hO1:=q6q (HO.out.after hb1))
    |(go_at_call 81;refine(qau t0 _ hO1.out).mono ?_;rintro e2 w2 ⟨rfl,hb2⟩;rw[HFR.out];have hb12:=hb1.trans (hb2.mono hb1.size)))
   have hbA:Below w.heap.size w (w2.alloc (.cells #[.string (S t0),.int .i64 lo,.int .i64 hi,.nilFunc] qa1)):=hb12.alloc hb12.size _;have HFB:=q6q (Blk4.new w2 (.string (S t0)) (.int .i64 lo) (.int .i64 hi) .nilFunc qa1);have hgf:w.heap.size≤w2.heap.size:=hb12.size;generalize hWA:w2.alloc (.cells #[.string (S t0),.int .i64 lo,.int .i64 hi,.nilFunc] qa1)=wA at*;generalize w2.heap.size=gf at*;clear hWA hb12 hb1 hb2 hO1;have k2A:=Below.cellAt hbA hb m2;have hOA:=q6q (HO.out.after hbA);have hzA:=hbA.size;obtain⟨p1,p2,p3,p4⟩:=(HPB.out.after (qab hbA)).blk2.facts;have hpl:=(HPB.out.after hbA).lt;obtain⟨f0,f1,f2,f3,_,_,_,_⟩:=HFB.out.facts
   have hfl:=HFB.out.lt;have hpA:wA.cell? ⟨gp,0,none⟩=some (.slice ao st.length c):=(HPB.out.after hbA).blk2.facts.1;go_region_held3 (fun w'=>w'.cell? ⟨b,o+1,none⟩=some (.int .i64 pa0)) (go_keep) (first|(go_at_call 82;refine(qam t0 _ (by first|exact hOA.out.after (qab (Below.refl _ _))|exact hOA.out.after (qab (Below.alloc (Below.refl _ _) (Nat.le_refl _) _)))).mono ?_;rintro e3 w3 ⟨rfl,rfl⟩;rw[HKD.out]))
   all_goals
    go_wp2_with (go_at_call 43;refine(qaf 5 pa0 _).mono ?_;rintro e9 w9 ⟨rfl,rfl⟩)
    exact⟨rfl,qah Y.out ⟨_,rfl,by omega,qae _ _ _ (by simp)⟩,Below.alloc (Below.alloc (qab (hbA.mono hB)) (Nat.le_trans hB hzA) _) (by simp;omega) _,KeepY.below (Below.alloc (Below.alloc (qab hbA) hzA _) (by simp;omega) _)⟩
  ·skip
   go_enter Tryz.func45,Tryz.ntmps45;go_wp2_with (first
    |(go_at_call 80;refine(HPl.out _ (Below.refl _ _)).mono ?_;rintro e1 w1 ⟨rfl,hb1⟩;have hO1:=q6q (HO.out.after hb1))
    |(go_at_call 81;refine(qau t0 _ hO1.out).mono ?_;rintro e2 w2 ⟨rfl,hb2⟩;rw[HFR.out];have hb12:=hb1.trans (hb2.mono hb1.size)))
   have hbA:Below w.heap.size w (w2.alloc (.cells #[.string (S t0),.int .i64 lo,.int .i64 hi,.nilFunc] qa1)):=hb12.alloc hb12.size _;have HFB:=q6q (Blk4.new w2 (.string (S t0)) (.int .i64 lo) (.int .i64 hi) .nilFunc qa1);have hgf:w.heap.size≤w2.heap.size:=hb12.size;generalize hWA:w2.alloc (.cells #[.string (S t0),.int .i64 lo,.int .i64 hi,.nilFunc] qa1)=wA at*;generalize w2.heap.size=gf at*;clear hWA hb12 hb1 hb2 hO1;have k2A:=Below.cellAt hbA hb m2;have hOA:=q6q (HO.out.after hbA);have hzA:=hbA.size;obtain⟨p1,p2,p3,p4⟩:=(HPB.out.after (qab hbA)).blk2.facts;have hpl:=(HPB.out.after hbA).lt;obtain⟨f0,f1,f2,f3,_,_,_,_⟩:=HFB.out.facts
   have hfl:=HFB.out.lt;have hpA:wA.cell? ⟨gp,0,none⟩=some (.slice ao st.length c):=(HPB.out.after hbA).blk2.facts.1;go_region_held3 (fun w'=>w'.cell? ⟨b,o+1,none⟩=some (.int .i64 pa0)) (go_keep) (first|(go_at_call 82;refine(qam t0 _ (by first|exact hOA.out.after (qab (Below.refl _ _))|exact hOA.out.after (qab (Below.alloc (Below.refl _ _) (Nat.le_refl _) _)))).mono ?_;rintro e3 w3 ⟨rfl,rfl⟩;rw[HKD.out]))
   all_goals
    go_wp2_with (go_at_call 43;refine(qaf 5 pa0 _).mono ?_;rintro e9 w9 ⟨rfl,rfl⟩)
    exact⟨rfl,qah Y.out ⟨_,rfl,by omega,qae _ _ _ (by simp)⟩,Below.alloc (Below.alloc (qab (hbA.mono hB)) (Nat.le_trans hB hzA) _) (by simp;omega) _,KeepY.below (Below.alloc (Below.alloc (qab hbA) hzA _) (by simp;omega) _)⟩
 ·have hkn:=hk0 h4
  have hlw:¬lw=1:=by omega
  have hs0:((st.length:Int)==0)=true:=by rw[beq_iff_eq];omega
  have hlng:decide (ws.length - 1<lo)=false:=by rw[decide_eq_false_iff_not];omega
  have hlng2:¬ws.length - 1<lo:=by omega
  have hhig:(hi:Int)<((ws.length - 1:Nat):Int):=by omega
  have hhig2:hi<ws.length - 1:=by omega
  clear h1 h2 h3 h4 hk0 hk1;go_enter Tryz.func45,Tryz.ntmps45;go_wp2_with (first
   |(go_at_call 80;refine(HPl.out _ (Below.refl _ _)).mono ?_;rintro e1 w1 ⟨rfl,hb1⟩;have hO1:=q6q (HO.out.after hb1))
   |(go_at_call 81;refine(qau t0 _ hO1.out).mono ?_;rintro e2 w2 ⟨rfl,hb2⟩;rw[HFR.out];have hb12:=hb1.trans (hb2.mono hb1.size)))
  have hbA:Below w.heap.size w (w2.alloc (.cells #[.string (S t0),.int .i64 lo,.int .i64 hi,.nilFunc] qa1)):=hb12.alloc hb12.size _;have HFB:=q6q (Blk4.new w2 (.string (S t0)) (.int .i64 lo) (.int .i64 hi) .nilFunc qa1);have hgf:w.heap.size≤w2.heap.size:=hb12.size;generalize hWA:w2.alloc (.cells #[.string (S t0),.int .i64 lo,.int .i64 hi,.nilFunc] qa1)=wA at*;generalize w2.heap.size=gf at*;clear hWA hb12 hb1 hb2 hO1;have k2A:=Below.cellAt hbA hb m2;have hOA:=q6q (HO.out.after hbA);have hzA:=hbA.size;obtain⟨p1,p2,p3,p4⟩:=(HPB.out.after (qab hbA)).blk2.facts;have hpl:=(HPB.out.after hbA).lt;obtain⟨f0,f1,f2,f3,_,_,_,_⟩:=HFB.out.facts
  have hfl:=HFB.out.lt;have hpA:wA.cell? ⟨gp,0,none⟩=some (.slice ao st.length c):=(HPB.out.after hbA).blk2.facts.1;go_region_held3 (fun w'=>w'.cell? ⟨b,o+1,none⟩=some (.int .i64 pa0)) (go_keep) (first|(go_at_call 82;refine(qam t0 _ (by first|exact hOA.out.after (qab (Below.refl _ _))|exact hOA.out.after (qab (Below.alloc (Below.refl _ _) (Nat.le_refl _) _)))).mono ?_;rintro e3 w3 ⟨rfl,rfl⟩;rw[HKD.out]))
  all_goals
   go_wp2_with (go_at_call 43;refine(qaf 5 pa0 _).mono ?_;rintro e9 w9 ⟨rfl,rfl⟩)
   exact⟨rfl,qah Y.out ⟨_,rfl,by omega,qae _ _ _ (by simp)⟩,Below.alloc (Below.alloc (qab (hbA.mono hB)) (Nat.le_trans hB hzA) _) (by simp;omega) _,KeepY.below (Below.alloc (Below.alloc (qab hbA) hzA _) (by simp;omega) _)⟩
 ·have hlw:¬lw=1:=by omega
  have hs0:((st.length:Int)==0)=false:=by rw[beq_eq_false_iff_ne];omega
  have hlng:decide (ws.length - 1<lo)=false:=by rw[decide_eq_false_iff_not];omega
  have hlng2:¬ws.length - 1<lo:=by omega
  have hhig:(hi:Int)<((ws.length - 1:Nat):Int):=by omega
  have hhig2:hi<ws.length - 1:=by omega
  clear h1 h2 h3 hk0 hk1;go_enter Tryz.func45,Tryz.ntmps45;go_wp2_with (first
   |(go_at_call 80;refine(HPl.out _ (Below.refl _ _)).mono ?_;rintro e1 w1 ⟨rfl,hb1⟩;have hO1:=q6q (HO.out.after hb1))
   |(go_at_call 81;refine(qau t0 _ hO1.out).mono ?_;rintro e2 w2 ⟨rfl,hb2⟩;rw[HFR.out];have hb12:=hb1.trans (hb2.mono hb1.size)))
  have hbA:Below w.heap.size w (w2.alloc (.cells #[.string (S t0),.int .i64 lo,.int .i64 hi,.nilFunc] qa1)):=hb12.alloc hb12.size _;have HFB:=q6q (Blk4.new w2 (.string (S t0)) (.int .i64 lo) (.int .i64 hi) .nilFunc qa1);have hgf:w.heap.size≤w2.heap.size:=hb12.size;generalize hWA:w2.alloc (.cells #[.string (S t0),.int .i64 lo,.int .i64 hi,.nilFunc] qa1)=wA at*;generalize w2.heap.size=gf at*;clear hWA hb12 hb1 hb2 hO1;have k2A:=Below.cellAt hbA hb m2;have hOA:=q6q (HO.out.after hbA);have hzA:=hbA.size;obtain⟨p1,p2,p3,p4⟩:=(HPB.out.after (qab hbA)).blk2.facts;have hpl:=(HPB.out.after hbA).lt;obtain⟨f0,f1,f2,f3,_,_,_,_⟩:=HFB.out.facts
  have hfl:=HFB.out.lt;have hpA:wA.cell? ⟨gp,0,none⟩=some (.slice ao st.length c):=(HPB.out.after hbA).blk2.facts.1;go_region_held3 (fun w'=>w'.cell? ⟨b,o+1,none⟩=some (.int .i64 pa0)) (go_keep) (first|(go_at_call 82;refine(qam t0 _ (by first|exact hOA.out.after (qab (Below.refl _ _))|exact hOA.out.after (qab (Below.alloc (Below.refl _ _) (Nat.le_refl _) _)))).mono ?_;rintro e3 w3 ⟨rfl,rfl⟩;rw[HKD.out]))
  all_goals
   go_wp2_with (go_at_call 43;refine(qaf 5 pa0 _).mono ?_;rintro e9 w9 ⟨rfl,rfl⟩)
   exact⟨rfl,qah Y.out ⟨_,rfl,by omega,qae _ _ _ (by simp)⟩,Below.alloc (Below.alloc (qab (hbA.mono hB)) (Nat.le_trans hB hzA) _) (by simp;omega) _,KeepY.below (Below.alloc (Below.alloc (qab hbA) hzA _) (by simp;omega) _)⟩
theorem qsr(st:List StageG)(ws:List WordG)(B gp b o lw c kk:Nat)(ao:Option Addr)(w:World)(h5:st.length≤5)(hbd:StB 50 st)(hk24:kk≤24)(hp:PB w gp ao st.length c kk)(hst:FStagesR B w st ao c)(hB:B≤w.heap.size)(hgp:B≤gp)(hord:Ord w)
 (hw:FWordsR w (some ⟨b,o,none⟩) ws)(hg:GoodW ws)(hl1:1≤ws.length)(hl4:ws.length≤2000)(hlc:ws.length≤lw)(hlm:lw≤maxLen)(lo hi:Nat)(F:Nat)(kd:Int)(hf:qfn (nth ws 0).text lo hi (.func (Fn.func F) #[] #[]) kd)(hkd:kd=0↔(nth ws 0).text=qcq)(hbad:(st=[]∧(nth ws 0).text≠qcq)∨ws.length<lo+1∨hi+1<ws.length):
 Calls Tryz.prog 45 #[.pointer (some ⟨gp,0,none⟩),.slice (some ⟨b,o,none⟩) ws.length lw] w fun e w'=>qdz B gp kk w w' e (qay st ws kk)∧Below B w w'∧KeepY w w':=by
 have HPB:=q6q hp;have HST:=q6q hst;have HW:=q6q hw;have HG:=q6q hg;have HO:=q6q hord;obtain⟨fa,fc,hb,m1,m2,ho⟩:=hw.one (k:=0) (by omega);rw[Nat.zero_mul,Nat.add_zero] at m1 m2;have hgx:=hg.nth 0 (by omega);have HPl:=q6q (show ∀wx:World,Below w.heap.size w wx→Calls Tryz.prog 80 #[.agg #[.slice fa (nth ws 0).pl.length fc,.int .i64 (nth ws 0).at_]] wx fun e w'=>e= .returned (.tuple #[.string (S (nth ws 0).text),.bool (nth ws 0).flat])∧Below wx.heap.size wx w' from
  fun wx hb=>qbu (nth ws 0) fa fc 0 _ wx hgx.1 hgx.2 rfl (qac ho hb))
 have hl0:(0:Int)<(ws.length:Int):=by omega
 have hl0n:0<ws.length:=by omega
 have hl1':(1:Int)≤(ws.length:Int):=by omega
 have hlc':(ws.length:Int)≤(lw:Int):=by omega
 obtain⟨hf1,hf2,hf3,hfv,_⟩:=hf;have Y:=q6q (qnb (st:=st) (n:=kk) hf3 hbad);have HFR:=q6q hf1;have HKD:=q6q hf2;have hways:(st.length=0∧kd≠0)∨(ws.length<lo+1∧st.length=0∧kd=0)∨(ws.length<lo+1∧st.length≠0)∨(¬ws.length<lo+1∧hi+1<ws.length∧st.length=0∧kd=0)∨(¬ws.length<lo+1∧hi+1<ws.length∧st.length≠0):=by
  have e:st=[]↔st.length=0:=by simp
  rw[e] at hbad;by_cases h0:st.length=0
  ·by_cases hk:kd=0
   ·have:=hkd.1 hk
    rcases hbad with h|h|h
    ·exact absurd this h.2
    ·exact .inr (.inl ⟨h,h0,hk⟩)
    ·by_cases hl:ws.length<lo+1
     ·exact .inr (.inl ⟨hl,h0,hk⟩)
     ·exact .inr (.inr (.inr (.inl ⟨hl,h,h0,hk⟩)))
   ·exact .inl ⟨h0,hk⟩
  ·rcases hbad with h|h|h
   ·exact absurd h.1 h0
   ·exact .inr (.inr (.inl ⟨h,h0⟩))
   ·by_cases hl:ws.length<lo+1
    ·exact .inr (.inr (.inl ⟨hl,h0⟩))
    ·exact .inr (.inr (.inr (.inr ⟨hl,h,h0⟩)))
 clear hf1 hf2 hf3 hbad hkd;clear hp hst hw hg hord ho hgx;generalize (nth ws 0).text=t0 at*;generalize (nth ws 0).pl.length=q0 at*;generalize (nth ws 0).at_=pa0 at*;generalize (nth ws 0).flat=fl0 at*;have hk0:kd=0→(kd != 0)=false:=by rintro rfl;rfl
 have hk1:kd≠0→(kd != 0)=true:=by intro h;rw[bne_iff_ne];exact h
 rcases hways with⟨h1,h2⟩|⟨h1,h2,h3⟩|⟨h1,h2⟩|⟨h1,h2,h3,h4⟩|⟨h1,h2,h3⟩
 ·have hkn:=hk1 h2
  have hs0:((st.length:Int)==0)=true:=by rw[beq_iff_eq];omega
  clear h1 h2 hk0 hk1;by_cases hlw:lw=1
  ·have hlw':=hlw
   go_enter Tryz.func45,Tryz.ntmps45;go_wp2_with (first
    |(go_at_call 80;refine(HPl.out _ (Below.refl _ _)).mono ?_;rintro e1 w1 ⟨rfl,hb1⟩;have hO1:=q6q (HO.out.after hb1))
    |(go_at_call 81;refine(qau t0 _ hO1.out).mono ?_;rintro e2 w2 ⟨rfl,hb2⟩;rw[HFR.out];have hb12:=hb1.trans (hb2.mono hb1.size)))
   have hbA:Below w.heap.size w (w2.alloc (.cells #[.string (S t0),.int .i64 lo,.int .i64 hi,(.func (Fn.func F) #[] #[])] qa1)):=hb12.alloc hb12.size _;have HFB:=q6q (Blk4.new w2 (.string (S t0)) (.int .i64 lo) (.int .i64 hi) (.func (Fn.func F) #[] #[]) qa1);have hgf:w.heap.size≤w2.heap.size:=hb12.size;generalize hWA:w2.alloc (.cells #[.string (S t0),.int .i64 lo,.int .i64 hi,(.func (Fn.func F) #[] #[])] qa1)=wA at*;generalize w2.heap.size=gf at*;clear hWA hb12 hb1 hb2 hO1;have k2A:=Below.cellAt hbA hb m2;have hOA:=q6q (HO.out.after hbA);have hzA:=hbA.size;obtain⟨p1,p2,p3,p4⟩:=(HPB.out.after (qab hbA)).blk2.facts;have hpl:=(HPB.out.after hbA).lt
   obtain⟨f0,f1,f2,f3,_,_,_,_⟩:=HFB.out.facts;have hfl:=HFB.out.lt;have hpA:wA.cell? ⟨gp,0,none⟩=some (.slice ao st.length c):=(HPB.out.after hbA).blk2.facts.1;go_region_held3 (fun w'=>w'.cell? ⟨b,o+1,none⟩=some (.int .i64 pa0)) (go_keep) (first|(go_at_call 82;refine(qam t0 _ (by first|exact hOA.out.after (qab (Below.refl _ _))|exact hOA.out.after (qab (Below.alloc (Below.refl _ _) (Nat.le_refl _) _)))).mono ?_;rintro e3 w3 ⟨rfl,rfl⟩;rw[HKD.out]))
   all_goals
    go_wp2_with (go_at_call 43;refine(qaf 5 pa0 _).mono ?_;rintro e9 w9 ⟨rfl,rfl⟩)
    exact⟨rfl,qah Y.out ⟨_,rfl,by omega,qae _ _ _ (by simp)⟩,Below.alloc (Below.alloc (qab (hbA.mono hB)) (Nat.le_trans hB hzA) _) (by simp;omega) _,KeepY.below (Below.alloc (Below.alloc (qab hbA) hzA _) (by simp;omega) _)⟩
  ·skip
   go_enter Tryz.func45,Tryz.ntmps45;go_wp2_with (first
    |(go_at_call 80;refine(HPl.out _ (Below.refl _ _)).mono ?_;rintro e1 w1 ⟨rfl,hb1⟩;have hO1:=q6q (HO.out.after hb1))
    |(go_at_call 81;refine(qau t0 _ hO1.out).mono ?_;rintro e2 w2 ⟨rfl,hb2⟩;rw[HFR.out];have hb12:=hb1.trans (hb2.mono hb1.size)))
   have hbA:Below w.heap.size w (w2.alloc (.cells #[.string (S t0),.int .i64 lo,.int .i64 hi,(.func (Fn.func F) #[] #[])] qa1)):=hb12.alloc hb12.size _;have HFB:=q6q (Blk4.new w2 (.string (S t0)) (.int .i64 lo) (.int .i64 hi) (.func (Fn.func F) #[] #[]) qa1);have hgf:w.heap.size≤w2.heap.size:=hb12.size;generalize hWA:w2.alloc (.cells #[.string (S t0),.int .i64 lo,.int .i64 hi,(.func (Fn.func F) #[] #[])] qa1)=wA at*;generalize w2.heap.size=gf at*;clear hWA hb12 hb1 hb2 hO1;have k2A:=Below.cellAt hbA hb m2;have hOA:=q6q (HO.out.after hbA);have hzA:=hbA.size;obtain⟨p1,p2,p3,p4⟩:=(HPB.out.after (qab hbA)).blk2.facts;have hpl:=(HPB.out.after hbA).lt
   obtain⟨f0,f1,f2,f3,_,_,_,_⟩:=HFB.out.facts;have hfl:=HFB.out.lt;have hpA:wA.cell? ⟨gp,0,none⟩=some (.slice ao st.length c):=(HPB.out.after hbA).blk2.facts.1;go_region_held3 (fun w'=>w'.cell? ⟨b,o+1,none⟩=some (.int .i64 pa0)) (go_keep) (first|(go_at_call 82;refine(qam t0 _ (by first|exact hOA.out.after (qab (Below.refl _ _))|exact hOA.out.after (qab (Below.alloc (Below.refl _ _) (Nat.le_refl _) _)))).mono ?_;rintro e3 w3 ⟨rfl,rfl⟩;rw[HKD.out]))
   all_goals
    go_wp2_with (go_at_call 43;refine(qaf 5 pa0 _).mono ?_;rintro e9 w9 ⟨rfl,rfl⟩)
    exact⟨rfl,qah Y.out ⟨_,rfl,by omega,qae _ _ _ (by simp)⟩,Below.alloc (Below.alloc (qab (hbA.mono hB)) (Nat.le_trans hB hzA) _) (by simp;omega) _,KeepY.below (Below.alloc (Below.alloc (qab hbA) hzA _) (by simp;omega) _)⟩
 ·have hkn:=hk0 h3
  have hs0:((st.length:Int)==0)=true:=by rw[beq_iff_eq];omega
  have hlng:((ws.length - 1:Nat):Int)<(lo:Int):=by omega
  have hlng2:ws.length - 1<lo:=by omega
  clear h1 h2 h3 hk0 hk1;by_cases hlw:lw=1
  ·have hlw':=hlw
   go_enter Tryz.func45,Tryz.ntmps45;go_wp2_with (first
    |(go_at_call 80;refine(HPl.out _ (Below.refl _ _)).mono ?_;rintro e1 w1 ⟨rfl,hb1⟩;have hO1:=q6q (HO.out.after hb1))
    |(go_at_call 81;refine(qau t0 _ hO1.out).mono ?_;rintro e2 w2 ⟨rfl,hb2⟩;rw[HFR.out];have hb12:=hb1.trans (hb2.mono hb1.size)))
   have hbA:Below w.heap.size w (w2.alloc (.cells #[.string (S t0),.int .i64 lo,.int .i64 hi,(.func (Fn.func F) #[] #[])] qa1)):=hb12.alloc hb12.size _;have HFB:=q6q (Blk4.new w2 (.string (S t0)) (.int .i64 lo) (.int .i64 hi) (.func (Fn.func F) #[] #[]) qa1);have hgf:w.heap.size≤w2.heap.size:=hb12.size;generalize hWA:w2.alloc (.cells #[.string (S t0),.int .i64 lo,.int .i64 hi,(.func (Fn.func F) #[] #[])] qa1)=wA at*;generalize w2.heap.size=gf at*;clear hWA hb12 hb1 hb2 hO1;have k2A:=Below.cellAt hbA hb m2;have hOA:=q6q (HO.out.after hbA);have hzA:=hbA.size;obtain⟨p1,p2,p3,p4⟩:=(HPB.out.after (qab hbA)).blk2.facts;have hpl:=(HPB.out.after hbA).lt
   obtain⟨f0,f1,f2,f3,_,_,_,_⟩:=HFB.out.facts;have hfl:=HFB.out.lt;have hpA:wA.cell? ⟨gp,0,none⟩=some (.slice ao st.length c):=(HPB.out.after hbA).blk2.facts.1;go_region_held3 (fun w'=>w'.cell? ⟨b,o+1,none⟩=some (.int .i64 pa0)) (go_keep) (first|(go_at_call 82;refine(qam t0 _ (by first|exact hOA.out.after (qab (Below.refl _ _))|exact hOA.out.after (qab (Below.alloc (Below.refl _ _) (Nat.le_refl _) _)))).mono ?_;rintro e3 w3 ⟨rfl,rfl⟩;rw[HKD.out]))
   all_goals
    go_wp2_with (go_at_call 43;refine(qaf 5 pa0 _).mono ?_;rintro e9 w9 ⟨rfl,rfl⟩)
    exact⟨rfl,qah Y.out ⟨_,rfl,by omega,qae _ _ _ (by simp)⟩,Below.alloc (Below.alloc (qab (hbA.mono hB)) (Nat.le_trans hB hzA) _) (by simp;omega) _,KeepY.below (Below.alloc (Below.alloc (qab hbA) hzA _) (by simp;omega) _)⟩
  ·skip
   go_enter Tryz.func45,Tryz.ntmps45;go_wp2_with (first
    |(go_at_call 80;refine(HPl.out _ (Below.refl _ _)).mono ?_;rintro e1 w1 ⟨rfl,hb1⟩;have hO1:=q6q (HO.out.after hb1))
    |(go_at_call 81;refine(qau t0 _ hO1.out).mono ?_;rintro e2 w2 ⟨rfl,hb2⟩;rw[HFR.out];have hb12:=hb1.trans (hb2.mono hb1.size)))
   have hbA:Below w.heap.size w (w2.alloc (.cells #[.string (S t0),.int .i64 lo,.int .i64 hi,(.func (Fn.func F) #[] #[])] qa1)):=hb12.alloc hb12.size _;have HFB:=q6q (Blk4.new w2 (.string (S t0)) (.int .i64 lo) (.int .i64 hi) (.func (Fn.func F) #[] #[]) qa1);have hgf:w.heap.size≤w2.heap.size:=hb12.size;generalize hWA:w2.alloc (.cells #[.string (S t0),.int .i64 lo,.int .i64 hi,(.func (Fn.func F) #[] #[])] qa1)=wA at*;generalize w2.heap.size=gf at*;clear hWA hb12 hb1 hb2 hO1;have k2A:=Below.cellAt hbA hb m2;have hOA:=q6q (HO.out.after hbA);have hzA:=hbA.size;obtain⟨p1,p2,p3,p4⟩:=(HPB.out.after (qab hbA)).blk2.facts;have hpl:=(HPB.out.after hbA).lt
   obtain⟨f0,f1,f2,f3,_,_,_,_⟩:=HFB.out.facts;have hfl:=HFB.out.lt;have hpA:wA.cell? ⟨gp,0,none⟩=some (.slice ao st.length c):=(HPB.out.after hbA).blk2.facts.1;go_region_held3 (fun w'=>w'.cell? ⟨b,o+1,none⟩=some (.int .i64 pa0)) (go_keep) (first|(go_at_call 82;refine(qam t0 _ (by first|exact hOA.out.after (qab (Below.refl _ _))|exact hOA.out.after (qab (Below.alloc (Below.refl _ _) (Nat.le_refl _) _)))).mono ?_;rintro e3 w3 ⟨rfl,rfl⟩;rw[HKD.out]))
   all_goals
    go_wp2_with (go_at_call 43;refine(qaf 5 pa0 _).mono ?_;rintro e9 w9 ⟨rfl,rfl⟩)
    exact⟨rfl,qah Y.out ⟨_,rfl,by omega,qae _ _ _ (by simp)⟩,Below.alloc (Below.alloc (qab (hbA.mono hB)) (Nat.le_trans hB hzA) _) (by simp;omega) _,KeepY.below (Below.alloc (Below.alloc (qab hbA) hzA _) (by simp;omega) _)⟩
 ·skip
  have hs0:((st.length:Int)==0)=false:=by rw[beq_eq_false_iff_ne];omega
  have hlng:((ws.length - 1:Nat):Int)<(lo:Int):=by omega
  have hlng2:ws.length - 1<lo:=by omega
  clear h1 h2 hk0 hk1;by_cases hlw:lw=1
  ·have hlw':=hlw
   go_enter Tryz.func45,Tryz.ntmps45;go_wp2_with (first
    |(go_at_call 80;refine(HPl.out _ (Below.refl _ _)).mono ?_;rintro e1 w1 ⟨rfl,hb1⟩;have hO1:=q6q (HO.out.after hb1))
    |(go_at_call 81;refine(qau t0 _ hO1.out).mono ?_;rintro e2 w2 ⟨rfl,hb2⟩;rw[HFR.out];have hb12:=hb1.trans (hb2.mono hb1.size)))
   have hbA:Below w.heap.size w (w2.alloc (.cells #[.string (S t0),.int .i64 lo,.int .i64 hi,(.func (Fn.func F) #[] #[])] qa1)):=hb12.alloc hb12.size _;have HFB:=q6q (Blk4.new w2 (.string (S t0)) (.int .i64 lo) (.int .i64 hi) (.func (Fn.func F) #[] #[]) qa1);have hgf:w.heap.size≤w2.heap.size:=hb12.size;generalize hWA:w2.alloc (.cells #[.string (S t0),.int .i64 lo,.int .i64 hi,(.func (Fn.func F) #[] #[])] qa1)=wA at*;generalize w2.heap.size=gf at*;clear hWA hb12 hb1 hb2 hO1;have k2A:=Below.cellAt hbA hb m2;have hOA:=q6q (HO.out.after hbA);have hzA:=hbA.size;obtain⟨p1,p2,p3,p4⟩:=(HPB.out.after (qab hbA)).blk2.facts;have hpl:=(HPB.out.after hbA).lt
   obtain⟨f0,f1,f2,f3,_,_,_,_⟩:=HFB.out.facts;have hfl:=HFB.out.lt;have hpA:wA.cell? ⟨gp,0,none⟩=some (.slice ao st.length c):=(HPB.out.after hbA).blk2.facts.1;go_region_held3 (fun w'=>w'.cell? ⟨b,o+1,none⟩=some (.int .i64 pa0)) (go_keep) (first|(go_at_call 82;refine(qam t0 _ (by first|exact hOA.out.after (qab (Below.refl _ _))|exact hOA.out.after (qab (Below.alloc (Below.refl _ _) (Nat.le_refl _) _)))).mono ?_;rintro e3 w3 ⟨rfl,rfl⟩;rw[HKD.out]))
   all_goals
    go_wp2_with (go_at_call 43;refine(qaf 5 pa0 _).mono ?_;rintro e9 w9 ⟨rfl,rfl⟩)
    exact⟨rfl,qah Y.out ⟨_,rfl,by omega,qae _ _ _ (by simp)⟩,Below.alloc (Below.alloc (qab (hbA.mono hB)) (Nat.le_trans hB hzA) _) (by simp;omega) _,KeepY.below (Below.alloc (Below.alloc (qab hbA) hzA _) (by simp;omega) _)⟩
  ·skip
   go_enter Tryz.func45,Tryz.ntmps45;go_wp2_with (first
    |(go_at_call 80;refine(HPl.out _ (Below.refl _ _)).mono ?_;rintro e1 w1 ⟨rfl,hb1⟩;have hO1:=q6q (HO.out.after hb1))
    |(go_at_call 81;refine(qau t0 _ hO1.out).mono ?_;rintro e2 w2 ⟨rfl,hb2⟩;rw[HFR.out];have hb12:=hb1.trans (hb2.mono hb1.size)))
   have hbA:Below w.heap.size w (w2.alloc (.cells #[.string (S t0),.int .i64 lo,.int .i64 hi,(.func (Fn.func F) #[] #[])] qa1)):=hb12.alloc hb12.size _;have HFB:=q6q (Blk4.new w2 (.string (S t0)) (.int .i64 lo) (.int .i64 hi) (.func (Fn.func F) #[] #[]) qa1);have hgf:w.heap.size≤w2.heap.size:=hb12.size;generalize hWA:w2.alloc (.cells #[.string (S t0),.int .i64 lo,.int .i64 hi,(.func (Fn.func F) #[] #[])] qa1)=wA at*;generalize w2.heap.size=gf at*;clear hWA hb12 hb1 hb2 hO1;have k2A:=Below.cellAt hbA hb m2;have hOA:=q6q (HO.out.after hbA);have hzA:=hbA.size;obtain⟨p1,p2,p3,p4⟩:=(HPB.out.after (qab hbA)).blk2.facts;have hpl:=(HPB.out.after hbA).lt
   obtain⟨f0,f1,f2,f3,_,_,_,_⟩:=HFB.out.facts;have hfl:=HFB.out.lt;have hpA:wA.cell? ⟨gp,0,none⟩=some (.slice ao st.length c):=(HPB.out.after hbA).blk2.facts.1;go_region_held3 (fun w'=>w'.cell? ⟨b,o+1,none⟩=some (.int .i64 pa0)) (go_keep) (first|(go_at_call 82;refine(qam t0 _ (by first|exact hOA.out.after (qab (Below.refl _ _))|exact hOA.out.after (qab (Below.alloc (Below.refl _ _) (Nat.le_refl _) _)))).mono ?_;rintro e3 w3 ⟨rfl,rfl⟩;rw[HKD.out]))
   all_goals
    go_wp2_with (go_at_call 43;refine(qaf 5 pa0 _).mono ?_;rintro e9 w9 ⟨rfl,rfl⟩)
    exact⟨rfl,qah Y.out ⟨_,rfl,by omega,qae _ _ _ (by simp)⟩,Below.alloc (Below.alloc (qab (hbA.mono hB)) (Nat.le_trans hB hzA) _) (by simp;omega) _,KeepY.below (Below.alloc (Below.alloc (qab hbA) hzA _) (by simp;omega) _)⟩
 ·have hkn:=hk0 h4
  have hlw:¬lw=1:=by omega
  have hs0:((st.length:Int)==0)=true:=by rw[beq_iff_eq];omega
  have hlng:decide (ws.length - 1<lo)=false:=by rw[decide_eq_false_iff_not];omega
  have hlng2:¬ws.length - 1<lo:=by omega
  have hhig:(hi:Int)<((ws.length - 1:Nat):Int):=by omega
  have hhig2:hi<ws.length - 1:=by omega
  clear h1 h2 h3 h4 hk0 hk1;go_enter Tryz.func45,Tryz.ntmps45;go_wp2_with (first
   |(go_at_call 80;refine(HPl.out _ (Below.refl _ _)).mono ?_;rintro e1 w1 ⟨rfl,hb1⟩;have hO1:=q6q (HO.out.after hb1))
   |(go_at_call 81;refine(qau t0 _ hO1.out).mono ?_;rintro e2 w2 ⟨rfl,hb2⟩;rw[HFR.out];have hb12:=hb1.trans (hb2.mono hb1.size)))
  have hbA:Below w.heap.size w (w2.alloc (.cells #[.string (S t0),.int .i64 lo,.int .i64 hi,(.func (Fn.func F) #[] #[])] qa1)):=hb12.alloc hb12.size _;have HFB:=q6q (Blk4.new w2 (.string (S t0)) (.int .i64 lo) (.int .i64 hi) (.func (Fn.func F) #[] #[]) qa1);have hgf:w.heap.size≤w2.heap.size:=hb12.size;generalize hWA:w2.alloc (.cells #[.string (S t0),.int .i64 lo,.int .i64 hi,(.func (Fn.func F) #[] #[])] qa1)=wA at*;generalize w2.heap.size=gf at*;clear hWA hb12 hb1 hb2 hO1;have k2A:=Below.cellAt hbA hb m2;have hOA:=q6q (HO.out.after hbA);have hzA:=hbA.size;obtain⟨p1,p2,p3,p4⟩:=(HPB.out.after (qab hbA)).blk2.facts;have hpl:=(HPB.out.after hbA).lt
  obtain⟨f0,f1,f2,f3,_,_,_,_⟩:=HFB.out.facts;have hfl:=HFB.out.lt;have hpA:wA.cell? ⟨gp,0,none⟩=some (.slice ao st.length c):=(HPB.out.after hbA).blk2.facts.1;go_region_held3 (fun w'=>w'.cell? ⟨b,o+1,none⟩=some (.int .i64 pa0)) (go_keep) (first|(go_at_call 82;refine(qam t0 _ (by first|exact hOA.out.after (qab (Below.refl _ _))|exact hOA.out.after (qab (Below.alloc (Below.refl _ _) (Nat.le_refl _) _)))).mono ?_;rintro e3 w3 ⟨rfl,rfl⟩;rw[HKD.out]))
  all_goals
   go_wp2_with (go_at_call 43;refine(qaf 5 pa0 _).mono ?_;rintro e9 w9 ⟨rfl,rfl⟩)
   exact⟨rfl,qah Y.out ⟨_,rfl,by omega,qae _ _ _ (by simp)⟩,Below.alloc (Below.alloc (qab (hbA.mono hB)) (Nat.le_trans hB hzA) _) (by simp;omega) _,KeepY.below (Below.alloc (Below.alloc (qab hbA) hzA _) (by simp;omega) _)⟩
 ·have hlw:¬lw=1:=by omega
  have hs0:((st.length:Int)==0)=false:=by rw[beq_eq_false_iff_ne];omega
  have hlng:decide (ws.length - 1<lo)=false:=by rw[decide_eq_false_iff_not];omega
  have hlng2:¬ws.length - 1<lo:=by omega
  have hhig:(hi:Int)<((ws.length - 1:Nat):Int):=by omega
  have hhig2:hi<ws.length - 1:=by omega
  clear h1 h2 h3 hk0 hk1;go_enter Tryz.func45,Tryz.ntmps45;go_wp2_with (first
   |(go_at_call 80;refine(HPl.out _ (Below.refl _ _)).mono ?_;rintro e1 w1 ⟨rfl,hb1⟩;have hO1:=q6q (HO.out.after hb1))
   |(go_at_call 81;refine(qau t0 _ hO1.out).mono ?_;rintro e2 w2 ⟨rfl,hb2⟩;rw[HFR.out];have hb12:=hb1.trans (hb2.mono hb1.size)))
  have hbA:Below w.heap.size w (w2.alloc (.cells #[.string (S t0),.int .i64 lo,.int .i64 hi,(.func (Fn.func F) #[] #[])] qa1)):=hb12.alloc hb12.size _;have HFB:=q6q (Blk4.new w2 (.string (S t0)) (.int .i64 lo) (.int .i64 hi) (.func (Fn.func F) #[] #[]) qa1);have hgf:w.heap.size≤w2.heap.size:=hb12.size;generalize hWA:w2.alloc (.cells #[.string (S t0),.int .i64 lo,.int .i64 hi,(.func (Fn.func F) #[] #[])] qa1)=wA at*;generalize w2.heap.size=gf at*;clear hWA hb12 hb1 hb2 hO1;have k2A:=Below.cellAt hbA hb m2;have hOA:=q6q (HO.out.after hbA);have hzA:=hbA.size;obtain⟨p1,p2,p3,p4⟩:=(HPB.out.after (qab hbA)).blk2.facts;have hpl:=(HPB.out.after hbA).lt
  obtain⟨f0,f1,f2,f3,_,_,_,_⟩:=HFB.out.facts;have hfl:=HFB.out.lt;have hpA:wA.cell? ⟨gp,0,none⟩=some (.slice ao st.length c):=(HPB.out.after hbA).blk2.facts.1;go_region_held3 (fun w'=>w'.cell? ⟨b,o+1,none⟩=some (.int .i64 pa0)) (go_keep) (first|(go_at_call 82;refine(qam t0 _ (by first|exact hOA.out.after (qab (Below.refl _ _))|exact hOA.out.after (qab (Below.alloc (Below.refl _ _) (Nat.le_refl _) _)))).mono ?_;rintro e3 w3 ⟨rfl,rfl⟩;rw[HKD.out]))
  all_goals
   go_wp2_with (go_at_call 43;refine(qaf 5 pa0 _).mono ?_;rintro e9 w9 ⟨rfl,rfl⟩)
   exact⟨rfl,qah Y.out ⟨_,rfl,by omega,qae _ _ _ (by simp)⟩,Below.alloc (Below.alloc (qab (hbA.mono hB)) (Nat.le_trans hB hzA) _) (by simp;omega) _,KeepY.below (Below.alloc (Below.alloc (qab hbA) hzA _) (by simp;omega) _)⟩
end Go.Proofs.YtikdblkfjchjbaaGreatDoor
