import Derived.Test.YtfpjfoajonbndaaGreatDoorCh2
import Derived.Test.YtfpjfoajonbndaaGreatDoorRows
import Derived.LaidEql
import Derived.Stop.Asserts
import Derived.RowKitTokens
namespace Go
set_option maxHeartbeats 8000000
set_option maxRecDepth 100000
open Go.RowKit
set_option maxRecDepth 100000
set_option maxHeartbeats 8000000
section
variable {P:Program} (w:World)
theorem YtfpjfoajonbndaaGreatDoor_run_equalIn_iface_int(d:Nat){ti tn:TypeId}{ms:Array (String×TypeId)}{i:TypeInfo}{k:IntKind}(a b:Int)
  (hi:P.underlying ti=some (.interface ms)) (hn:P.underlying tn=some (.int k)) (hinfo:P.info? tn=some i) (hcomp:i.comparable=true) :
  (Op.equalIn (d+2) ti (.iface tn (.int k a)) (.iface tn (.int k b))).run P w=.ok (a == b) w:=by
 simp [Op.equalIn,run_underlying hi,run_underlying hn,typeInfo,hinfo,hcomp]
theorem YtfpjfoajonbndaaGreatDoor_run_eql_iface_int{ti tn:TypeId}{ms:Array (String×TypeId)}{i:TypeInfo}{k:IntKind}(a b:Int)
  (hi:P.underlying ti=some (.interface ms)) (hn:P.underlying tn=some (.int k)) (hinfo:P.info? tn=some i) (hcomp:i.comparable=true) :
  (binOp .eql ti (.iface tn (.int k a)) (.iface tn (.int k b))).run P w=.ok (.bool (a == b)) w:=by
 simp only [binOp]
 simp [Op.equal,Op.maxDepth,YtfpjfoajonbndaaGreatDoor_run_equalIn_iface_int w 9998 a b hi hn hinfo hcomp]
end
end Go
namespace Go.Proofs.YtfpjfoajonbndaaGreatDoor
set_option maxRecDepth 100000
set_option maxHeartbeats 8000000
open Go.RowKit Go.Extern.Stop Go.Stop Go.Extern
def errV (k:Int):Value:=if k=0 then .nilIface else .iface 99 (.int .i64 k)
theorem errV_zero:errV 0=.nilIface:=rfl
theorem errV_ne{k:Int}(h:k≠0):errV k=.iface 99 (.int .i64 k):=if_neg h
theorem Tryz.isTypeOf(v:Value)(w:World):(Extern.ReflectliteType.typeOf #[.iface 99 v]).run Tryz.prog w=.ok (.iface 231 (.agg #[.pointer (some ⟨4,99,none⟩)])) w:=by kernel_rfl
def cmpEntry:Array Value→Sem Value:=Extern.ReflectliteType.method fun t=>do Go.Extern.Rtype.noPackHeld "Comparable" t;pure (.bool (←typeInfo t).comparable)
theorem Tryz.isComparable(w:World):(cmpEntry #[.agg #[.pointer (some ⟨4,99,none⟩)]]).run Tryz.prog w=.ok (.bool true) w:=by kernel_rfl
theorem Tryz.isMethodComparable(v:Value)(w:World):(Go.method 439 231 v "Comparable").run Tryz.prog w=.ok (237,v) w:=by kernel_rfl
theorem Tryz.isComp:(Tryz.prog.info? 99).map (·.comparable)=some true:=by kernel_rfl
theorem Tryz.noIsC(v:Value)(xT:TypeId)(w:World):(Instr.typeAssert (.iface 99 v) xT 233 true).run Tryz.prog w=.ok (.tuple #[.nilIface,.bool false]) w:=run_typeAssert_lacksB Tryz.underlying233 (by kernel_rfl) (by kernel_rfl) v xT w
theorem Tryz.noUnwrapC(v:Value)(xT:TypeId)(w:World):(Instr.typeAssert (.iface 99 v) xT 236 true).run Tryz.prog w=.ok (.tuple #[.nilIface,.bool false]) w:=run_typeAssert_lacksB Tryz.underlying236 (by kernel_rfl) (by kernel_rfl) v xT w
theorem Tryz.noUnwrapsC(v:Value)(xT:TypeId)(w:World):(Instr.typeAssert (.iface 99 v) xT 237 true).run Tryz.prog w=.ok (.tuple #[.nilIface,.bool false]) w:=run_typeAssert_lacksB Tryz.underlying237 (by kernel_rfl) (by kernel_rfl) v xT w

theorem is_same(k:Int)(w:World) :
  Calls Tryz.prog 49 #[.iface 99 (.int .i64 k),.iface 99 (.int .i64 k)] w fun e w'=>e=.returned (.bool true)∧w=w':=by
 obtain ⟨i,hi,hcmp⟩:=Option.map_eq_some_iff.1 Tryz.isComp
 have h8:=@run_callFunc_extern Tryz.prog 99 _ Extern.ReflectliteType.typeOf Tryz.func99 (by kernel_rfl) (by kernel_rfl) (by kernel_rfl) (by kernel_rfl)
 have h32:=@run_callFunc_extern Tryz.prog 237 _ cmpEntry Tryz.func237 (by kernel_rfl) (by kernel_rfl) (by kernel_rfl) (by kernel_rfl)
 have tT:=Tryz.isTypeOf
 have cT:=Tryz.isComparable
 have mR:=Tryz.isMethodComparable
 have heq:=YtfpjfoajonbndaaGreatDoor_run_eql_iface_int (P:=Tryz.prog) w k k Tryz.underlying30 Tryz.underlying99 hi hcmp
 rw [beq_self_eq_true] at heq
 clear hi hcmp
 go_enter Tryz.func49,Tryz.ntmps49
 go_wp2
 refine wp_loop_rounds 1 ?_
 rw [rounds_succ]
 go_wp2
 go_ret
 exact ⟨rfl,rfl⟩

theorem is_other(k c:Int)(hne:k≠c)(w:World) :
  Calls Tryz.prog 49 #[.iface 99 (.int .i64 k),.iface 99 (.int .i64 c)] w fun e w'=>e=.returned (.bool false)∧w=w':=by
 obtain ⟨i,hi,hcmp⟩:=Option.map_eq_some_iff.1 Tryz.isComp
 have h8:=@run_callFunc_extern Tryz.prog 99 _ Extern.ReflectliteType.typeOf Tryz.func99 (by kernel_rfl) (by kernel_rfl) (by kernel_rfl) (by kernel_rfl)
 have h32:=@run_callFunc_extern Tryz.prog 237 _ cmpEntry Tryz.func237 (by kernel_rfl) (by kernel_rfl) (by kernel_rfl) (by kernel_rfl)
 have tT:=Tryz.isTypeOf
 have cT:=Tryz.isComparable
 have mR:=Tryz.isMethodComparable
 have nE:=Tryz.noIsC
 have uE:=Tryz.noUnwrapC
 have vE:=Tryz.noUnwrapsC
 have heq:=YtfpjfoajonbndaaGreatDoor_run_eql_iface_int (P:=Tryz.prog) w k c Tryz.underlying30 Tryz.underlying99 hi hcmp
 rw [show (k == c)=false from beq_eq_false_iff_ne.2 hne] at heq
 clear hi hcmp hne
 go_enter Tryz.func49,Tryz.ntmps49
 go_wp2
 refine wp_loop_rounds 1 ?_
 rw [rounds_succ]
 go_wp2
 go_ret
 exact ⟨rfl,rfl⟩
theorem code_nil(w:World):Calls Tryz.prog 14 #[.nilIface] w fun e w'=>e=.returned (.int .i64 0)∧w=w':=by
 go_enter Tryz.func14,Tryz.ntmps14
 go_wp2
 go_ret
 exact ⟨rfl,rfl⟩
theorem code_some(k:Int)(h1:1≤k)(h2:k≤17)(w:World) :
  Calls Tryz.prog 14 #[.iface 99 (.int .i64 k)] w fun e w'=>e=.returned (.int .i64 k)∧w=w':=by
 have hn:=run_eql_iface_nil_left (P:=Tryz.prog) w 99 (.int .i64 k) Tryz.underlying30
 go_enter Tryz.func14,Tryz.ntmps14
 go_wp2
 go_loop [3] (fun c=>∃ j:Nat,1≤j∧(j:Int)≤k∧c=.int .i64 j) (fun c=>18 - (intOf c).toNat)
 case atStart=>exact ⟨1,by omega,by omega,rfl⟩
 case round=>
  obtain ⟨j,hj1,hj2,rfl⟩:=hrel
  by_cases he:k=(j:Int)
  ·subst he
   clear hj2 hn
   go_wp2_with (go_at_call 49;refine (is_same _ _).mono ?_;rintro e w' ⟨rfl,rfl⟩)
   go_ret
   exact ⟨rfl,rfl⟩
  ·go_wp2_with (go_at_call 49;refine (is_other _ _ (by omega) _).mono ?_;rintro e w' ⟨rfl,rfl⟩)
   go_round
   case rel=>exact ⟨j+1,by omega,by omega,by go_num⟩
   case measure=>simp [intOf];omega
theorem code_any(k:Int)(h1:0≤k)(h2:k≤17)(w:World) :
  Calls Tryz.prog 14 #[errV k] w fun e w'=>e=.returned (.int .i64 k)∧w=w':=by
 by_cases h:k=0
 ·subst h;exact code_nil w
 ·rw [errV_ne h];exact code_some k (by omega) h2 w
end Go.Proofs.YtfpjfoajonbndaaGreatDoor
