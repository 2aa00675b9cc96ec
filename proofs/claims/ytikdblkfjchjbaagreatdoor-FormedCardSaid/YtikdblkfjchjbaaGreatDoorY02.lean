import Derived.Stop.Asserts
import Derived.RowKitTokens
import Derived.Test.YtikdblkfjchjbaaGreatDoorY00
set_option linter.unusedVariables false
set_option linter.unusedSimpArgs false
set_option maxHeartbeats 16000000
set_option maxRecDepth 100000
namespace Go.Proofs.YtikdblkfjchjbaaGreatDoor
open Go.RowKit Go.Extern.Stop Go.Stop Go.Extern
theorem rlm(z:Sem Value)(f:TypeId→Addr→Nat→Nat→Sem Value)(v:Value):
 ReflectliteValue.method z f #[v]=(do match←ReflectliteValue.parts v with|none=>z|some (t,a,fl)=>f t a fl (fl %32)):=rfl
theorem rls(v x:Value):ReflectliteValue.set #[v,x]=(do
 let (some (dst,a,fl),some (src,b,_)):=(←ReflectliteValue.parts v,←ReflectliteValue.parts x)
  |unsupported (.noEntry "extern/(internal/reflectlite.Value).Set.zeroValue")
 if fl / ReflectliteValue.flagAddr %2==0 then unsupported (.noEntry "extern/(internal/reflectlite.Value).Set.unaddressable")
 let val←loadVar src b
 if←Rtype.directlyAssignable dst src then storeVar dst a val
 else if←Rtype.implements dst src then
  if (←Rtype.kind src)==20 then
   match val with
   |.nilIface=>unsupported (.noEntry "extern/reflectlite: a nil value of one interface type handed on as a value of another")
   |_=>storeVar dst a val
  else storeVar dst a (.iface src val)
 else panicString ("reflectlite.Set: value of type " ++(←Rtype.spelt src)++ " is not assignable to type " ++(←Rtype.spelt dst))
 pure (.tuple #[])):=rfl
theorem qv7(h:Value)(w:World):(Go.method 457 189 (.agg #[h]) "Kind").run Tryz.prog w= .ok (254,h) w:=by kernel_rfl
theorem qv8(h:Value)(w:World):(Go.method 457 189 (.agg #[h]) "Elem").run Tryz.prog w= .ok (268,.agg #[h]) w:=by kernel_rfl
theorem qkf(h:Value)(w:World):(Go.method 457 189 (.agg #[h]) "Implements").run Tryz.prog w= .ok (269,.agg #[h]) w:=by kernel_rfl
theorem qi5(h:Value)(w:World):(Go.method 457 189 (.agg #[h]) "AssignableTo").run Tryz.prog w= .ok (266,.agg #[h]) w:=by kernel_rfl
theorem q31(t:Addr)(w:World):(ReflectliteValue.unpack (.iface 82 (.pointer (some t)))).run Tryz.prog w
 = .ok (.agg #[.pointer (some ⟨10,82,none⟩),.pointer (some ⟨w.heap.size,0,none⟩),.int .u64 150]) (w.alloc (.cells #[.pointer (some t)] 82)):=by kernel_rfl
theorem q6k(a:Addr)(w:World):(ReflectliteValue.methodAny (ReflectliteValue.valueError "reflectlite.Value.Type" 0) (fun t _ _ _=>ReflectliteType.toType t) #[.agg #[.pointer (some ⟨10,82,none⟩),.pointer (some a),.int .u64 150]]).run Tryz.prog w
 = .ok (.iface 189 (.agg #[.pointer (some ⟨10,82,none⟩)])) w:=by kernel_rfl
theorem q6b(w:World):((ReflectliteType.abiMethod fun t=>(fun a:Nat=>Value.int IntKind.u8 (a:Int))<$>Rtype.kind t) #[.pointer (some ⟨10,82,none⟩)]).run Tryz.prog w= .ok (.int .u8 22) w:=by kernel_rfl
theorem q6l(w:World):((ReflectliteType.abiMethod fun t=>(fun a:Nat=>Value.int IntKind.u8 (a:Int))<$>Rtype.kind t) #[.pointer (some ⟨10,80,none⟩)]).run Tryz.prog w= .ok (.int .u8 22) w:=by kernel_rfl
theorem q4h(a:Addr)(w:World):(ReflectliteValue.parts (.agg #[.pointer (some ⟨10,82,none⟩),.pointer (some a),.int .u64 150])).run Tryz.prog w= .ok (some (82,a,150)) w:=by kernel_rfl
theorem q6c(a p:Addr)(W:World)(ha:W.cell? a=some (.pointer (some p))):
 (ReflectliteValue.method (ReflectliteValue.valueError "reflectlite.Value.IsNil" 0) ReflectliteValue.isNil #[.agg #[.pointer (some ⟨10,82,none⟩),.pointer (some a),.int .u64 150]]).run Tryz.prog W= .ok (.bool false) W:=by
 rw[rlm];simp only[Sem.run_bind,q4h,Result.andThen];simp[ReflectliteValue.isNil,loadVar,isAgg,underlying,Tryz.underlying82,ha,Result.andThen]
theorem q6m(w:World):(ReflectliteType.method ReflectliteType.elem #[.agg #[.pointer (some ⟨10,82,none⟩)]]).run Tryz.prog w= .ok (.iface 189 (.agg #[.pointer (some ⟨10,80,none⟩)])) w:=by kernel_rfl
theorem qtb(w:World):(ReflectliteType.relation "Implements" ReflectliteType.implements_ #[.agg #[.pointer (some ⟨10,80,none⟩)],.iface 189 (.agg #[.pointer (some ⟨10,57,none⟩)])]).run Tryz.prog w= .ok (.bool true) w:=by kernel_rfl
theorem q5q(v:Value)(w:World):(ReflectliteType.typeOf #[.iface 80 v]).run Tryz.prog w= .ok (.iface 189 (.agg #[.pointer (some ⟨10,80,none⟩)])) w:=by kernel_rfl
theorem qtc(w:World):(ReflectliteType.relation "AssignableTo" ReflectliteType.assignableTo #[.agg #[.pointer (some ⟨10,80,none⟩)],.iface 189 (.agg #[.pointer (some ⟨10,80,none⟩)])]).run Tryz.prog w= .ok (.bool true) w:=by kernel_rfl
theorem q01(e:Addr)(w:World):(ReflectliteValue.unpack (.iface 80 (.pointer (some e)))).run Tryz.prog w
 = .ok (.agg #[.pointer (some ⟨10,80,none⟩),.pointer (some ⟨w.heap.size,0,none⟩),.int .u64 150]) (w.alloc (.cells #[.pointer (some e)] 80)):=by kernel_rfl
theorem q5t(w:World):(Rtype.elem? 82).run Tryz.prog w= .ok (some 80) w:=by kernel_rfl
theorem aMk(p:Addr)(w:World):(ReflectliteValue.mk 80 p ReflectliteValue.flagAddr).run Tryz.prog w= .ok (.agg #[.pointer (some ⟨10,80,none⟩),.pointer (some p),.int .u64 406]) w:=by kernel_rfl
theorem q6d(a p:Addr)(W:World)(ha:W.cell? a=some (.pointer (some p))):
 (ReflectliteValue.method (ReflectliteValue.valueError "reflectlite.Value.Elem" 0) ReflectliteValue.elem #[.agg #[.pointer (some ⟨10,82,none⟩),.pointer (some a),.int .u64 150]]).run Tryz.prog W
   = .ok (.agg #[.pointer (some ⟨10,80,none⟩),.pointer (some p),.int .u64 406]) W:=by
 rw[rlm];simp only[Sem.run_bind,q4h,Result.andThen];simp[ReflectliteValue.elem,loadVar,isAgg,underlying,Tryz.underlying82,ha,Result.andThen,q5t,aMk]
theorem q5s(a:Addr)(w:World):(ReflectliteValue.parts (.agg #[.pointer (some ⟨10,80,none⟩),.pointer (some a),.int .u64 406])).run Tryz.prog w= .ok (some (80,a,406)) w:=by kernel_rfl
theorem q5r(a:Addr)(w:World):(ReflectliteValue.parts (.agg #[.pointer (some ⟨10,80,none⟩),.pointer (some a),.int .u64 150])).run Tryz.prog w= .ok (some (80,a,150)) w:=by kernel_rfl
theorem q5u(w:World):(Rtype.directlyAssignable 80 80).run Tryz.prog w= .ok true w:=by kernel_rfl
theorem aSet(ta b e:Addr)(old:Value)(W:World)(hb:W.cell? b=some (.pointer (some e)))(ht:W.cell? ta=some old)(hf:W.frozen? ta=false):
 (ReflectliteValue.set #[.agg #[.pointer (some ⟨10,80,none⟩),.pointer (some ta),.int .u64 406],.agg #[.pointer (some ⟨10,80,none⟩),.pointer (some b),.int .u64 150]]).run Tryz.prog W
   = .ok (.tuple #[]) (W.setCell ta (.pointer (some e))):=by
 rw[rls];simp only[Sem.run_bind,q5s,q5r,Result.andThen];simp[ReflectliteValue.flagAddr,loadVar,isAgg,underlying,Tryz.underlying80,hb,Result.andThen,q5u,storeVar,Value.cells,storeCells,Addr.add]
 rw[run_store Tryz.prog W ta _ _ (by rfl)];simp[ht,hf]
def ErrT(w:World):Prop:=w.cell? ⟨1,0,none⟩=some (.iface 189 (.agg #[.pointer (some ⟨10,57,none⟩)]))
theorem ErrT.below{w w':World}(h:ErrT w)(hb:Below w.heap.size w w'):ErrT w':=(hb.cell (q6r w _ h)).trans h
theorem q5p(e t:Addr)(old:Value)(w:World)(hg:ErrT w)(ht0:w.cell? t=some old)(hf0:w.frozen? t=false):
 Calls Tryz.prog 32 #[.iface 80 (.pointer (some e)),.iface 82 (.pointer (some t))] w fun ev w'=>ev= .returned (.bool true)∧w'=((((w.alloc (.cells #[.pointer (some t)] 82)).alloc (.cells #[.pointer (some ⟨10,82,none⟩),.pointer (some ⟨w.heap.size,0,none⟩),.int .u64 150] 131)).alloc (.cells #[.pointer (some ⟨10,82,none⟩),.pointer (some ⟨w.heap.size,0,none⟩),.int .u64 150] 131)).alloc (.cells #[.pointer (some e)] 80)).setCell t (.pointer (some e)):=by
 have h6:=@run_callFunc_extern Tryz.prog 51 _ (fun args=>ReflectliteValue.unpack (args.getD 0 (.tuple #[]))) Tryz.func51 (by kernel_rfl) (by kernel_rfl) (by kernel_rfl) (by kernel_rfl);have h7:=@run_callFunc_extern Tryz.prog 52 _ (ReflectliteValue.methodAny (ReflectliteValue.valueError "reflectlite.Value.Type" 0) (fun t _ _ _=>ReflectliteType.toType t)) Tryz.func52 (by kernel_rfl) (by kernel_rfl) (by kernel_rfl) (by kernel_rfl);have h8:=@run_callFunc_extern Tryz.prog 53 _ (ReflectliteValue.method (ReflectliteValue.valueError "reflectlite.Value.IsNil" 0) ReflectliteValue.isNil) Tryz.func53 (by kernel_rfl) (by kernel_rfl) (by kernel_rfl) (by kernel_rfl)
 have h27:=@run_callFunc_extern Tryz.prog 254 _ (ReflectliteType.abiMethod fun t=>do pure (.int .u8 (←Rtype.kind t))) Tryz.func254 (by kernel_rfl) (by kernel_rfl) (by kernel_rfl) (by kernel_rfl);have h37:=@run_callFunc_extern Tryz.prog 268 _ (ReflectliteType.method ReflectliteType.elem) Tryz.func268 (by kernel_rfl) (by kernel_rfl) (by kernel_rfl) (by kernel_rfl);have h38:=@run_callFunc_extern Tryz.prog 269 _ (ReflectliteType.relation "Implements" ReflectliteType.implements_) Tryz.func269 (by kernel_rfl) (by kernel_rfl) (by kernel_rfl) (by kernel_rfl)
 have h10:=@run_callFunc_extern Tryz.prog 87 _ (ReflectliteType.typeOf) Tryz.func87 (by kernel_rfl) (by kernel_rfl) (by kernel_rfl) (by kernel_rfl);have h35:=@run_callFunc_extern Tryz.prog 266 _ (ReflectliteType.relation "AssignableTo" ReflectliteType.assignableTo) Tryz.func266 (by kernel_rfl) (by kernel_rfl) (by kernel_rfl) (by kernel_rfl);have h11:=@run_callFunc_extern Tryz.prog 88 _ (ReflectliteValue.method (ReflectliteValue.valueError "reflectlite.Value.Elem" 0) ReflectliteValue.elem) Tryz.func88 (by kernel_rfl) (by kernel_rfl) (by kernel_rfl) (by kernel_rfl)
 have h12:=@run_callFunc_extern Tryz.prog 89 _ (ReflectliteValue.set) Tryz.func89 (by kernel_rfl) (by kernel_rfl) (by kernel_rfl) (by kernel_rfl);have tO:=q5q;have mA:=qi5;have a25:=qtc;have v25:=q01;have f6:=q31;have f7:=q6k;have mK:=qv7;have mE:=qv8;have mI:=qkf;have k27:=q6b;have k25:=q6l;have e27:=q6m;have i25:=qtb;have n8:=q6c ⟨w.heap.size,0,none⟩ t ((w.alloc (.cells #[.pointer (some t)] 82)).alloc (.cells #[.pointer (some ⟨10,82,none⟩),.pointer (some ⟨w.heap.size,0,none⟩),.int .u64 150] 131)) (by simp);unfold ErrT at hg;have hlt:1<w.heap.size:=q6r w _ hg
 have hg2:((w.alloc (.cells #[.pointer (some t)] 82)).alloc (.cells #[.pointer (some ⟨10,82,none⟩),.pointer (some ⟨w.heap.size,0,none⟩),.int .u64 150] 131)).cell? ⟨1,0,none⟩=some (.iface 189 (.agg #[.pointer (some ⟨10,57,none⟩)])):=by
  rw[World.cell?_alloc_lt _ _ ⟨1,0,none⟩ (by simp <;> omega),World.cell?_alloc_lt _ _ ⟨1,0,none⟩ hlt];exact hg
 have htl:t.block<w.heap.size:=q6r w _ ht0;have el:=q6d ⟨w.heap.size,0,none⟩ t (((w.alloc (.cells #[.pointer (some t)] 82)).alloc (.cells #[.pointer (some ⟨10,82,none⟩),.pointer (some ⟨w.heap.size,0,none⟩),.int .u64 150] 131)).alloc (.cells #[.pointer (some ⟨10,82,none⟩),.pointer (some ⟨w.heap.size,0,none⟩),.int .u64 150] 131)) (by rw[World.cell?_alloc_lt _ _ ⟨w.heap.size,0,none⟩ (by simp;omega)];simp)
 have st:=aSet t ⟨w.heap.size+1+1+1,0,none⟩ e old ((((w.alloc (.cells #[.pointer (some t)] 82)).alloc (.cells #[.pointer (some ⟨10,82,none⟩),.pointer (some ⟨w.heap.size,0,none⟩),.int .u64 150] 131)).alloc (.cells #[.pointer (some ⟨10,82,none⟩),.pointer (some ⟨w.heap.size,0,none⟩),.int .u64 150] 131)).alloc (.cells #[.pointer (some e)] 80))
  (by rw[World.cell?_alloc_at _ _ _ _ (by simp)];rfl)
  (by rw[World.cell?_alloc_lt _ _ t (by simp;omega),World.cell?_alloc_lt _ _ t (by simp;omega),World.cell?_alloc_lt _ _ t (by simp;omega),World.cell?_alloc_lt _ _ t htl];exact ht0)
  (by rw[World.frozen?_alloc_old _ _ t (by simp;omega),World.frozen?_alloc_old _ _ t (by simp;omega),World.frozen?_alloc_old _ _ t (by simp;omega),World.frozen?_alloc_old _ _ t (Nat.ne_of_lt htl)];exact hf0)
 go_enter Tryz.func32,Tryz.ntmps32;go_wp2;refine wp_loop_rounds 1 ?_;rw[rounds_succ];go_wp2;go_ret;exact⟨rfl,rfl⟩
end Go.Proofs.YtikdblkfjchjbaaGreatDoor
