/-
  Proved: layerskeep.Formed returns true for every text, every list of raw lines and every list of raw things, and leaves both lists as they were.
  Conditions: the listed package-level variables hold what the program's text lays there (tied by the given text).
-/
import Derived.Test.YtikdblkfjchjbaaGreatDoorY47
import Derived.Test.YtikdblkfjchjbaaGreatDoorY49
import Derived.Test.YtikdblkfjchjbaaGreatDoorCards
import Derived.Test.YtikdblkfjchjbaaGreatDoorTie
import Derived.Deep.DeepWitnessRowRef
import Derived.Lay
import Derived.Lib.LaidU8
set_option linter.unusedVariables false
set_option linter.unusedSimpArgs false
set_option maxHeartbeats 16000000
set_option maxRecDepth 100000
namespace Go.Proofs.YtikdblkfjchjbaaGreatDoor.lawFormed
open Go.ChangeShapes Go.WideShapes Go.ChangeAt Go.RowKit
open Go.WideMaps Go.WideElems
open Go.ChangeMaps (setBlock shut_map_nil open_string shut_string keptBut_setBlock frozen?_setBlock heap_setBlock_same)
variable{W:World}
theorem own:ownKnob Tryz.prog.godebug=none:=by kernel_rfl
theorem et:Tryz.prog.globalNamed "errors.errorType" =some 1:=by kernel_rfl
theorem og:Tryz.prog.globalNamed "math/bits.deBruijn64tab" =some 9:=by kernel_rfl
theorem oo:Tryz.prog.globalNamed "layers/file.order" =some 0:=by kernel_rfl
theorem ot:(Tryz.prog.globals[0]?).map (·.type)=some 124:=by kernel_rfl
theorem oc:Tryz.prog.cellsOf 9=1:=by kernel_rfl
theorem rt:(Tryz.prog.cutTypes.find? (·.1== "internal/reflectlite.rtype")).map (·.2)=some 189:=by kernel_rfl
theorem laidOut:laidOutB Tryz.prog=true:=by kernel_rfl
theorem oneRow:((List.range 357).filter fun t=>Tryz.prog.rowNamed t [101,114,114,111,114])=[57]:=by kernel_rfl
theorem size:Tryz.prog.types.size=357:=by kernel_rfl
theorem handle_of_laid(h:laidMetH Tryz.prog Rows.formedRow.laid W):ErrT W:=by
 have h':laidMet Tryz.prog _ W∧handlesMet Tryz.prog [("errors.errorType",Rows.laid_errors_errorType)] W:=h;obtain ⟨name,u,ty,e1,e2,e3,e4,e5⟩:=h'.2 _ (List.mem_singleton.2 rfl);have en:name=[101,114,114,111,114]:=(Option.some.inj e1).symm;subst en;obtain rfl:=Option.some.inj (rt.symm.trans e2);have hm:ty∈(List.range 357).filter fun t=>Tryz.prog.rowNamed t [101,114,114,111,114]:=List.mem_filter.2 ⟨List.mem_range.2 (by rw [←size];exact e3),e4⟩
 rw[oneRow] at hm;obtain rfl:=List.mem_singleton.1 hm;have hh:typeHandle Tryz.prog 57= .pointer (some ⟨10,57,none⟩):=by kernel_rfl
 rw[hh] at e5;unfold ErrT;simpa using World.var?_cell et e5 0
theorem tz_of_laid(h:laidMetH Tryz.prog Rows.formedRow.laid W):Tz W:=by
 have h':laidMet Tryz.prog [("math/bits.deBruijn32tab",Rows.laid_math_bits_deBruijn32tab),("math/bits.deBruijn64tab",Rows.laid_math_bits_deBruijn64tab),("internal/strconv.uint64pow10",Rows.laid_internal_strconv_uint64pow10),("unicode/utf8.acceptRanges",Rows.laid_unicode_utf8_acceptRanges),("strconv.ErrRange",Rows.laid_strconv_ErrRange),("strconv.ErrSyntax",Rows.laid_strconv_ErrSyntax),("layers/file.order",Rows.laid_layers_file_order),("unicode/utf8.first",Rows.laid_unicode_utf8_first)] W∧handlesMet Tryz.prog _ W:=h;obtain ⟨g,t,cs,fuel,p,hg,hty,hvar,hd⟩:=Lib.laidMet.reads h'.1 (List.mem_cons_of_mem _ List.mem_cons_self)
 obtain rfl:=Option.some.inj (og.symm.trans hg);obtain⟨fuel',d,q,hdi,he⟩:=Lib.array_elem (show Tryz.prog.underlying t=some (.array 64 5) from by
  obtain rfl:=Option.some.inj ((show Tryz.prog.globals[9]?.map (·.type)=some 327 by kernel_rfl).symm.trans hty);exact Tryz.underlying327) hd 7 (by omega)
 have hb':some d=some (DataW.lit (.int .u8 3)):=hdi.symm.trans rfl;obtain rfl:=Option.some.inj hb';rw[show Tryz.prog.cellsOf 5=1 by kernel_rfl] at he;obtain⟨n,hs,hx,_⟩:=DataW.trod_int Tryz.underlying5 he;simp only[Prod.mk.injEq,DataW.lit.injEq,Lit.int.injEq] at hx;obtain rfl:=hx.1.2.symm;unfold Tz;rw[World.var?_cell hg hvar 7,←Array.getElem?_toList];have:=congrArg (·[0]?) hs;simp only[List.getElem?_take,List.getElem?_drop] at this;simpa using this
theorem order_of_laid(h:laidMetH Tryz.prog Rows.formedRow.laid W):Ord W:=by
 have h':laidMet Tryz.prog [("math/bits.deBruijn32tab",Rows.laid_math_bits_deBruijn32tab),("math/bits.deBruijn64tab",Rows.laid_math_bits_deBruijn64tab),("internal/strconv.uint64pow10",Rows.laid_internal_strconv_uint64pow10),("unicode/utf8.acceptRanges",Rows.laid_unicode_utf8_acceptRanges),("strconv.ErrRange",Rows.laid_strconv_ErrRange),("strconv.ErrSyntax",Rows.laid_strconv_ErrSyntax),("layers/file.order",Rows.laid_layers_file_order),("unicode/utf8.first",Rows.laid_unicode_utf8_first)] W∧handlesMet Tryz.prog _ W:=h
 obtain⟨g,t,cs,fuel,p,hg,hty,hvar,hd⟩:=Lib.laidMet.reads h'.1 (List.mem_cons_of_mem _ (List.mem_cons_of_mem _ (List.mem_cons_of_mem _ (List.mem_cons_of_mem _ (List.mem_cons_of_mem _ (List.mem_cons_of_mem _ (List.mem_cons_self)))))));obtain rfl:=Option.some.inj (oo.symm.trans hg);obtain rfl:=Option.some.inj (ot.symm.trans hty);have key:∀(i:Nat) (b:List UInt8),i<8→(match (Rows.laid_layers_file_order:DataW Unit) with|.agg ds=>ds[i]?|_=>none)=some (.lit (.string b))→W.cell? ⟨0,i,none⟩=some (.string (S b)):=by
  intro i b hi hb;obtain⟨fuel',d,q,hdi,he⟩:=Lib.array_elem Tryz.underlying124 hd i hi;have hb':some d=some (DataW.lit (.string b)):=hdi.symm.trans hb;obtain rfl:=Option.some.inj hb';rw[oc] at he;obtain⟨s,hs,hx,_⟩:=DataW.trod_string Tryz.underlying9 he;simp only[Prod.mk.injEq,DataW.lit.injEq,Lit.string.injEq] at hx;rw[World.var?_cell hg hvar i,←Array.getElem?_toList];have:=congrArg (·[0]?) hs;simp only[List.getElem?_take,List.getElem?_drop] at this;rw[hx.1,S_of];simpa using this
 have hlt:0<W.heap.size:=q6r W _ (key 0 qcq (by omega) rfl);exact⟨key 0 _ (by omega) rfl,key 1 _ (by omega) rfl,key 2 _ (by omega) rfl,key 3 _ (by omega) rfl,key 4 _ (by omega) rfl,key 5 _ (by omega) rfl,key 6 _ (by omega) rfl,key 7 _ (by omega) rfl,hlt⟩
theorem er:Tryz.prog.globalNamed "strconv.ErrRange" =some 5:=by kernel_rfl
theorem es:Tryz.prog.globalNamed "strconv.ErrSyntax" =some 4:=by kernel_rfl
theorem ert:(Tryz.prog.globals[5]?).map (·.type)=some 57:=by kernel_rfl
theorem est:(Tryz.prog.globals[4]?).map (·.type)=some 57:=by kernel_rfl
theorem rowS(u:TypeId)(h:Tryz.prog.typeName? 3 u=some "*errors.errorString"):u=328:=
 typeName_ptr_named (nm:= "errors.errorString") (by rw [show "*" ++ "errors.errorString" = "*errors.errorString" by decide];kernel_rfl) (by kernel_rfl) (by decide) u (by rw [show "*" ++ "errors.errorString" = "*errors.errorString" by decide];exact h)
theorem numE_of_laid(h:laidMetH Tryz.prog Rows.formedRow.laid W):NumE W:=by
 have h':laidMet Tryz.prog [("math/bits.deBruijn32tab",Rows.laid_math_bits_deBruijn32tab),("math/bits.deBruijn64tab",Rows.laid_math_bits_deBruijn64tab),("internal/strconv.uint64pow10",Rows.laid_internal_strconv_uint64pow10),("unicode/utf8.acceptRanges",Rows.laid_unicode_utf8_acceptRanges),("strconv.ErrRange",Rows.laid_strconv_ErrRange),("strconv.ErrSyntax",Rows.laid_strconv_ErrSyntax),("layers/file.order",Rows.laid_layers_file_order),("unicode/utf8.first",Rows.laid_unicode_utf8_first)] W∧handlesMet Tryz.prog _ W:=h
 have key:∀(n:String) (g0:Nat) (d:DataW Unit),(n,DataW.iface "*errors.errorString" d)∈([("math/bits.deBruijn32tab",Rows.laid_math_bits_deBruijn32tab),("math/bits.deBruijn64tab",Rows.laid_math_bits_deBruijn64tab),("internal/strconv.uint64pow10",Rows.laid_internal_strconv_uint64pow10),("unicode/utf8.acceptRanges",Rows.laid_unicode_utf8_acceptRanges),("strconv.ErrRange",Rows.laid_strconv_ErrRange),("strconv.ErrSyntax",Rows.laid_strconv_ErrSyntax),("layers/file.order",Rows.laid_layers_file_order),("unicode/utf8.first",Rows.laid_unicode_utf8_first)]:List (String×DataW Unit))→Tryz.prog.globalNamed n=some g0→(Tryz.prog.globals[g0]?).map (·.type)=some 57→∃v,W.cell? ⟨g0,0,none⟩=some (.iface 328 v):=by
  intro n g0 d hm hn ht;obtain⟨g,t,cs,fuel,p,hg,hty,hvar,hd⟩:=Lib.laidMet.reads h'.1 hm;obtain rfl:=Option.some.inj (hn.symm.trans hg);obtain rfl:=Option.some.inj (ht.symm.trans hty);obtain⟨f1,u,v,hcs,hu,_⟩:=iface_of_trod Tryz.underlying57 hd;obtain rfl:=rowS u hu;exact⟨v,by rw[World.var?_cell hg hvar 0,←Array.getElem?_toList,hcs];rfl⟩
 exact ⟨key "strconv.ErrSyntax" _ _ (List.mem_cons_of_mem _ (List.mem_cons_of_mem _ (List.mem_cons_of_mem _ (List.mem_cons_of_mem _ (List.mem_cons_of_mem _ (List.mem_cons_self)))))) es est,key "strconv.ErrRange" _ _ (List.mem_cons_of_mem _ (List.mem_cons_of_mem _ (List.mem_cons_of_mem _ (List.mem_cons_of_mem _ (List.mem_cons_self))))) er ert⟩
noncomputable def laidWorld(os:Os):World:=
 let w0:=World.laidAll Tryz.prog os [("math/bits.deBruijn32tab",Rows.laid_math_bits_deBruijn32tab),("math/bits.deBruijn64tab",Rows.laid_math_bits_deBruijn64tab),("internal/strconv.uint64pow10",Rows.laid_internal_strconv_uint64pow10),("unicode/utf8.acceptRanges",Rows.laid_unicode_utf8_acceptRanges),("strconv.ErrRange",Rows.laid_strconv_ErrRange),("strconv.ErrSyntax",Rows.laid_strconv_ErrSyntax),("layers/file.order",Rows.laid_layers_file_order),("unicode/utf8.first",Rows.laid_unicode_utf8_first)]
 {w0 with heap:=w0.heap.modify 1 fun
  |.cells _ t frozen=> .cells #[.iface 189 (.agg #[.pointer (some ⟨10,57,none⟩)])] t frozen
  |o=>o}
theorem laid_met(os:Os):laidMetH Tryz.prog Rows.formedRow.laid ((laidWorld os).forCall (fun _ _=>0) ⟨#[],#[.string ByteArray.empty,.slice none 0 0,.slice none 0 0],[]⟩).memory:=
 laidMetH_of_parts3 (fuel:=8) (laidMet_of_run' 8 (by kernel_rfl) (by kernel_rfl)) (by kernel_rfl) (by kernel_rfl)
theorem reads(os:Os){H:Type}(enc:TypeId×Value→H):∃places,DataW.whole enc Tryz.prog ((laidWorld os).forCall (fun _ _=>0) ⟨#[],#[.string ByteArray.empty,.slice none 0 0,.slice none 0 0],[]⟩).memory Tryz.f3.params.toList Rows.formedSpec.vars false #[Value.string ByteArray.empty,.slice none 0 0,.slice none 0 0].toList 8=some ([.lit (.string []),.nil,.nil],[],places):=
 ⟨[],by kernel_rfl⟩
theorem lifted(os:Os)(started:os.Started)(H:Type)(enc:TypeId×Value→H)(F:Stop.Interp):
 ReturnsInHanded {} Tryz.checked os 3 .any ((OpenSpec.ofChange Rows.formedSpec).preRow enc Tryz.prog Tryz.f3 Rows.formedRow.domain false Rows.formedRow.laid) (((OpenSpec.ofChange Rows.formedSpec).at F).post enc Tryz.prog Tryz.f3 false true false false):=by
 obtain⟨places,hx⟩:=reads os enc;refine returnsInHanded_of_row (C:=Tryz.checked) (s:=OpenSpec.ofChange Rows.formedSpec) own started (by kernel_rfl) Tryz.func3
  (witness_row_atRef (enc:=enc) (C:=Tryz.checked) false (laidWorld os) #[.string ByteArray.empty,.slice none 0 0,.slice none 0 0] rfl (by kernel_rfl) (by kernel_rfl) (by kernel_rfl)
    (OpenSpec.preRow_of_cond 8 hx (by kernel_rfl) (fun k hk=>by cases hk) (by kernel_rfl) (laid_met os))) ?_
 intro W base args ds gs before hval hW _ hcond _ hL hsh _;have hW':=hW;obtain⟨p,q,hA0,hV,rfl,hfz,hnd⟩:=hW;have hA:DataW.TrodAll enc Tryz.prog W 0 (fun _=>true) true Tryz.f3.params.toList args.toList ds p:=hA0;rw[Tryz.params3] at hA hval;obtain⟨v2,v0,v1,d2,d0,d1,p2,p0,p1,rfl,rfl,rfl,h2,h0,h1⟩:=trodAll_three hA;obtain⟨rfl,rfl⟩:=trodVars_none hV;obtain⟨s2,rfl,rfl,rfl,w2⟩:=open_string Tryz.underlying9 (hval 0 9 v2 rfl rfl) h2;have hv0:=hval 1 22 v0 rfl rfl;have hv1:=hval 2 23 v1 rfl rfl;have ho0:v0.cells.toList=[v0]:=by obtain⟨a,len,cap,rfl⟩:=okWide_slice Tryz.underlying22 hv0;rfl
 have ho1:v1.cells.toList=[v1]:=by obtain⟨a,len,cap,rfl⟩:=okWide_slice Tryz.underlying23 hv1;rfl
 obtain⟨la,A,capA,rfl,ra,hla,sa,ia⟩:=open_thingsX Tryz.underlying22 Tryz.underlying54 (by kernel_rfl) (by kernel_rfl) Tryz.underlying3 Tryz.underlying3 Tryz.underlying3 Tryz.underlying9 ho0 h0;obtain⟨lb,B,capB,rfl,rb,hlb,sb,ib⟩:=open_thingsX Tryz.underlying23 Tryz.underlying67 (by kernel_rfl) (by kernel_rfl) Tryz.underlying3 Tryz.underlying3 Tryz.underlying3 Tryz.underlying9 ho1 h1;clear hA0;simp only[List.append_nil,List.nil_append] at hW';have hstd:Std W:=⟨Tryz.laysM219.s1_3 W hsh⟩;have hlt:∀x∈p0++p1,x.block<W.heap.size:=fun x hx=>by simpa using hW'.lt x hx
 have walk:=qwt s2.data.toList la lb A B capA capB W (by simpa using w2) hstd (tz_of_laid hL) (handle_of_laid hL) (order_of_laid hL) (numE_of_laid hL) ra (Nat.le_trans hla (by decide)) (fun c hc=>Nat.le_trans (sa c hc) (by decide)) ia rb (Nat.le_trans hlb (by decide)) (fun c hc=>Nat.le_trans (sb c hc) (by decide)) ib;rw[S_of] at walk;refine walk.mono fun e W' ⟨he,hg⟩=>?_
 subst he;exact⟨_,rfl,_,_,_,[],p0++p1,[],hW',trodAll_mk1 (shut_bool Tryz.underlying4 _),trodAll_mk3 (shut_string Tryz.underlying9 w2) (Below.trod laidOut (by kernel_rfl) (of_decide_eq_true (by kernel_rfl)) h0 hg (fun x hx=>hlt x (List.mem_append_left _ hx))) (Below.trod laidOut (by kernel_rfl) (of_decide_eq_true (by kernel_rfl)) h1 hg (fun x hx=>hlt x (List.mem_append_right _ hx))),rfl,hg.frame _,fun h=>by cases h⟩
theorem said:Rows.FormedSaid:=
 OpenClaim.holds_of_cond 3 Tryz.f3 rfl rfl rfl rfl rfl rfl rfl ⟨rfl,rfl,rfl,rfl,rfl⟩ rfl rfl rfl rfl rfl (by kernel_rfl) Tryz.func3 (by kernel_rfl)
  (of_decide_eq_true (by kernel_rfl)) (by unfold Func.isWrapper;first|(rw[if_pos (by decide+kernel)];kernel_rfl)|(rw[if_neg (by decide+kernel)];exact⟨rfl,rfl⟩))
  (fun os started H enc _ F=>by rw[OpenClaim.pre_eq_preRow];exact lifted os started H enc F)
theorem plain(f:FuncId)(fn:Func)(hf:Tryz.pinned.checked.prog.funcNamed "layers/layerskeep.Formed" =some f)(hfn:Tryz.pinned.checked.prog.funcs[f]? =some fn):
 true=Tryz.pinned.checked.prog.looks []∧∀(j:Nat) t,fn.params[j]? =some t→Tryz.pinned.checked.prog.wantsStandIn t=false:=by
 obtain rfl:f=3:=Option.some.inj ((show Tryz.prog.funcNamed "layers/layerskeep.Formed" =some 3 by kernel_rfl).symm.trans hf) |>.symm
 obtain rfl:fn=Tryz.f3:=(Option.some.inj (Tryz.func3.symm.trans hfn)).symm;refine⟨by kernel_rfl,fun j t ht=>?_⟩;rw[Tryz.params3] at ht;have hm:t∈[9,22,23]:=by simpa using Array.mem_of_getElem? ht
 simp only[List.mem_cons,List.mem_nil_iff,or_false] at hm;rcases hm with rfl|rfl|rfl
 ·exact(show Tryz.prog.wantsStandIn 9=false by kernel_rfl)
 ·exact(show Tryz.prog.wantsStandIn 22=false by kernel_rfl)
 ·exact(show Tryz.prog.wantsStandIn 23=false by kernel_rfl)
theorem card:Rows.FormedCardSaid:=
 Claim7.holds_tied_plain_at .later [] _ _ _ _ said (fun _ h=>by cases h) (by kernel_rfl) (fun _ h=>by cases h) formed_row_tie rfl ⟨rfl,rfl⟩ (by kernel_rfl) rfl plain (by kernel_rfl)
end Go.Proofs.YtikdblkfjchjbaaGreatDoor.lawFormed
