import Derived.WalkKit
import Derived.WalkSpells
import Derived.WalkLawsBesides
import Derived.Lib.Hide
import Derived.BigQuiet
import Derived.Deep.QuietTactic
import Derived.Orders
namespace Go.Proofs.YtfpjfoajonbndaaGreatDoor
open Go.RowKit
open Go.RowKit
theorem Hd{p:Prop}(h:p):Go.RowKit.Hid p:=Lib.hid h
theorem belo{B:Nat}{w w2:World}(h:Go.RowKit.Below B w w2:=by repeat (first|(with_reducible first|exact .refl _ _|refine .setCell ?_ ?_ _|refine .alloc ?_ ?_ _|refine .drewN ?_ _|refine .drew ?_|exact Nat.le_refl _)|(focus (simp only [World.size_alloc,World.size_setCell,World.size_drew,World.size_drewN];omega))|omega|exact Nat.le_refl _|(focus (simp;done))|(focus (simp;omega)))):Go.RowKit.Below B w w2:=h

structure Keeps (F:Nat→Prop) (w w':World):Prop where
  os:w'.os=w.os
  tape:w'.tape=w.tape
  output:w'.output=w.output
  size:w.heap.size≤w'.heap.size
  block:∀ k,k<w.heap.size→¬ F k→w'.heap[k]? = w.heap[k]?

theorem Keeps.refl(F:Nat→Prop)(w:World):Keeps F w w:=⟨rfl,rfl,rfl,Nat.le_refl _,fun _ _ _=>rfl⟩
theorem Keeps.mono{F G:Nat→Prop}{w w':World}(h:Keeps F w w')(hs:∀ k,k<w.heap.size→F k→G k):Keeps G w w':=
  ⟨h.os,h.tape,h.output,h.size,fun k hk hn=>h.block k hk (fun hf=>hn (hs k hk hf))⟩
theorem Keeps.trans{F G:Nat→Prop}{a b c:World}(h:Keeps F a b)(k:Keeps G b c)(hs:∀ i,i<a.heap.size→G i→F i):Keeps F a c:=
  ⟨k.os.trans h.os,k.tape.trans h.tape,k.output.trans h.output,Nat.le_trans h.size k.size,
   fun i hi hn=>(k.block i (Nat.lt_of_lt_of_le hi h.size) (fun hg=>hn (hs i hi hg))).trans (h.block i hi hn)⟩
theorem Keeps.of_below{F:Nat→Prop}{B:Nat}{w w':World}(h:Below B w w')(hB:∀ k,k<w.heap.size→¬ F k→k<B):Keeps F w w':=
  ⟨h.os,h.tape,h.output,h.size,fun k hk hn=>h.block k (hB k hk hn)⟩
theorem Keeps.below{F:Nat→Prop}{B:Nat}{w w':World}(h:Keeps F w w')(hB:B≤w.heap.size)(hF:∀ k,F k→B≤k):Below B w w':=
  ⟨h.os,h.tape,h.output,h.size,fun k hk=>h.block k (by omega) (fun hf=>by have:=hF k hf;omega)⟩
theorem Keeps.drew{F:Nat→Prop}{a w:World}(h:Keeps F a w):Keeps F a w.drew:=⟨h.os,h.tape,h.output,h.size,h.block⟩
theorem Keeps.drewN{F:Nat→Prop}{a w:World}(h:Keeps F a w)(n:Nat):Keeps F a (w.drewN n):=⟨h.os,h.tape,h.output,h.size,h.block⟩
theorem Keeps.alloc{F:Nat→Prop}{a w:World}(h:Keeps F a w)(o:Obj):Keeps F a (w.alloc o):=
  ⟨h.os,h.tape,h.output,Nat.le_trans h.size (by simp),fun k hk hn=>by
    rw [Below.heap_alloc w o k (Nat.lt_of_lt_of_le hk h.size)];exact h.block k hk hn⟩
theorem Keeps.setCell{F:Nat→Prop}{a w:World}(h:Keeps F a w)(p:Addr)(u:Value)(hp:p.block<a.heap.size→F p.block):Keeps F a (w.setCell p u):=
  ⟨h.os,h.tape,h.output,by have:=h.size;simpa [World.setCell] using this,fun k hk hn=>by
    rw [Below.heap_setCell w p u k (fun e=>hn (e ▸ hp (e ▸ hk)))];exact h.block k hk hn⟩
theorem Keeps.grown{F:Nat→Prop}{a w w':World}{row:Option Nat}(h:Keeps F a w)(hg:w.grownBy w' row)(hr:∀ k,row=some k→k<a.heap.size→F k):Keeps F a w':=
  ⟨hg.os.trans h.os,hg.tape.trans h.tape,hg.output.trans h.output,Nat.le_trans h.size hg.size,fun k hk hn=>
    (hg.block k (Nat.lt_of_lt_of_le hk h.size) (fun e=>hn (hr k e.symm hk))).trans (h.block k hk hn)⟩
theorem Keeps.cell{F:Nat→Prop}{w w':World}(h:Keeps F w w'){b:Nat}(hb:b<w.heap.size)(hn:¬ F b)(o:Nat):w'.cell? ⟨b,o,none⟩=w.cell? ⟨b,o,none⟩:=
  World.cell?_of_block (w:=w) (h.block b hb hn)
theorem Keeps.frozen{F:Nat→Prop}{w w':World}(h:Keeps F w w'){b:Nat}(hb:b<w.heap.size)(hn:¬ F b)(o:Nat):w'.frozen? ⟨b,o,none⟩=w.frozen? ⟨b,o,none⟩:=
  World.frozen?_of_block (w:=w) (h.block b hb hn)

theorem ownsRow_at{w w':World}{base:Nat}{e:TypeId}{size:Nat}{v:Value}{n:Nat}{xs:List Value}(h:w.ownsRow base e size v n xs)
    (hk:∀ k,v.ownBlock=some k→w'.heap[k]? = w.heap[k]?):w'.ownsRow base e size v n xs:=by
  obtain ⟨h1,h2⟩:=h
  refine ⟨h1,?_⟩
  rcases h2 with h2|⟨g,cap,cur,rfl,hg,hh,r⟩
  · exact .inl h2
  · exact .inr ⟨g,cap,cur,rfl,hg,by rw [hk g rfl];exact hh,r⟩
theorem ownsRow_mono{w:World}{base base':Nat}{e:TypeId}{size:Nat}{v:Value}{n:Nat}{xs:List Value}(h:w.ownsRow base e size v n xs)(hb:base'≤base) :
    w.ownsRow base' e size v n xs:=by
  obtain ⟨h1,h2⟩:=h
  refine ⟨h1,?_⟩
  rcases h2 with h2|⟨g,cap,cur,rfl,hg,r⟩
  · exact .inl h2
  · exact .inr ⟨g,cap,cur,rfl,Nat.le_trans hb hg,r⟩
theorem ownsRow_keeps{F:Nat→Prop}{w w':World}{base:Nat}{e:TypeId}{size:Nat}{v:Value}{n:Nat}{xs:List Value}(h:w.ownsRow base e size v n xs)
    (hk:Keeps F w w') (hn:∀ k,v.ownBlock=some k→¬ F k):w'.ownsRow base e size v n xs:=
  ownsRow_at h fun k hv=>hk.block k (h.lt k hv).2 (hn k hv)
theorem ownsRow_len{w:World}{base:Nat}{e:TypeId}{size:Nat}{v:Value}{n:Nat}{xs:List Value}(h:w.ownsRow base e size v n xs) :
    ∃ a c,v=.slice a n c:=by
  rcases h.2 with ⟨rfl,rfl⟩|⟨g,cap,cur,rfl,_⟩
  · exact ⟨_,_,rfl⟩
  · exact ⟨_,_,rfl⟩

theorem getElem?_flatMap_row{α:Type}(f:α→List Value)(s:Nat)(hf:∀ x,(f x).length=s)(l:List α)(i j:Nat)(hj:j<s) :
    (l.flatMap f)[i * s+j]? = l[i]?.bind fun x=>(f x)[j]?:=by
  induction l generalizing i with
  | nil=>simp
  | cons x l ih=>
    rw [List.flatMap_cons]
    cases i with
    | zero=>rw [List.getElem?_append_left (by rw [hf];omega)];simp
    | succ i=>
      rw [List.getElem?_append_right (by rw [hf,Nat.succ_mul];omega),hf,show (i+1) * s+j - s=i * s+j by rw [Nat.succ_mul];omega,ih]
      simp
theorem length_flatMap_row{α:Type}(f:α→List Value)(s:Nat)(hf:∀ x,(f x).length=s)(l:List α):(l.flatMap f).length=l.length * s:=by
  induction l with
  | nil=>simp
  | cons x l ih=>rw [List.flatMap_cons,List.length_append,hf,ih,List.length_cons,Nat.succ_mul];omega
theorem ownsRow_cell{α:Type}{w:World}{base:Nat}{e:TypeId}{g n cap:Nat}(f:α→List Value)(s:Nat)(hf:∀ x,(f x).length=s)(l:List α)
    (h:w.ownsRow base e s (.slice (some ⟨g,0,none⟩) n cap) n (l.flatMap f)) (i j:Nat) (x:α) (hx:l[i]? = some x) (hj:j<s) :
    w.cell? ⟨g,i * s+j,none⟩=(f x)[j]?:=by
  have hl:n=l.length:=by
    have h1:=h.1
    rw [length_flatMap_row f s hf] at h1
    exact (Nat.eq_of_mul_eq_mul_right (by omega) h1).symm
  have hi:i<l.length:=(List.getElem?_eq_some_iff.1 hx).1
  have hlt:i * s+j<n * s:=by
    have:(i+1) * s≤l.length * s:=Nat.mul_le_mul_right s hi
    rw [Nat.succ_mul] at this
    rw [hl];omega
  rw [h.cellAt (i * s+j) hlt,getElem?_flatMap_row f s hf l i j hj,hx]
  rfl
theorem flatMap_set{α:Type}(f:α→List Value)(s:Nat)(hf:∀ x,(f x).length=s)(l:List α)(i:Nat)(x:α)(hi:i<l.length) :
    (l.set i x).flatMap f=(l.flatMap f).take (i * s) ++ f x ++ (l.flatMap f).drop (i * s+s):=by
  induction l generalizing i with
  | nil=>simp at hi
  | cons y l ih=>
    cases i with
    | zero=>simp [List.flatMap_cons,hf]
    | succ i=>
      have hi':i<l.length:=by simpa using hi
      have e1:(i+1) * s - s=i * s:=by rw [Nat.succ_mul];omega
      have e2:(i+1) * s+s - s=i * s+s:=by rw [Nat.succ_mul];omega
      have t1:List.take ((i+1) * s) (f y)=f y:=List.take_of_length_le (by rw [hf,Nat.succ_mul];omega)
      have t2:List.drop ((i+1) * s+s) (f y)=[]:=List.drop_eq_nil_of_le (by rw [hf,Nat.succ_mul];omega)
      rw [List.set_cons_succ,List.flatMap_cons,List.flatMap_cons,ih i hi',List.take_append,List.drop_append,hf,e1,e2,t1,t2]
      simp
theorem ret_int{k:IntKind}{a b:Int}(h:a=b):Ending.returned (.int k a)=.returned (.int k b):=by rw [h]
theorem ret_bool{a b:Bool}(h:a=b):Ending.returned (.bool a)=.returned (.bool b):=by rw [h]
theorem _root_.Go.RowKit.Below.drewN{B:Nat}{a w:World}(h:Below B a w)(n:Nat):Below B a (w.drewN n):=⟨h.os,h.tape,h.output,h.size,h.block⟩
@[go_sem] theorem setCell_drewN (w:World) (n:Nat) (a:Addr) (v:Value):(w.drewN n).setCell a v=(w.setCell a v).drewN n:=rfl
@[go_sem] theorem alloc_drewN (w:World) (n:Nat) (o:Obj):(w.drewN n).alloc o=(w.alloc o).drewN n:=rfl
theorem ownsRow_cast{w:World}{base:Nat}{e:TypeId}{size:Nat}{v:Value}{n m:Nat}{xs ys:List Value}(h:w.ownsRow base e size v n xs)(hn:n=m)(hx:xs=ys):w.ownsRow base e size v m ys:=by
  subst hn hx;exact h
theorem ownsRow_below{w w':World}{base:Nat}{e:TypeId}{size:Nat}{v:Value}{n:Nat}{xs:List Value}(h:w.ownsRow base e size v n xs)(hb:Below w.heap.size w w'):w'.ownsRow base e size v n xs:=
  ownsRow_at h (fun k hk=>hb.block k (h.lt k hk).2)
def Reads (w:World) (sz:Nat) (v:Value) (n:Nat) (xs:List Value):Prop:=
  xs.length=n * sz∧((v=.slice none 0 0∧n=0)∨∃ a c,v=.slice (some a) n c∧n≤maxLen∧∀ j u,xs[j]? = some u→w.cell? (a.add j)=some u)
theorem reads_of_owns{w:World}{base:Nat}{e:TypeId}{size:Nat}{v:Value}{n:Nat}{xs:List Value}(h:w.ownsRow base e size v n xs):Reads w size v n xs:=by
  refine ⟨h.1,?_⟩
  rcases h.2 with h2|⟨g,cap,cur,rfl,_,_,hn,hc,_⟩
  · exact .inl h2
  · exact .inr ⟨_,_,rfl,Nat.le_trans hn hc,h.cells (g:=g) rfl⟩
def CloneOut (w:World) (E sz:Nat) (v:Value) (n:Nat) (xs:List Value) (e:Ending) (w':World):Prop:=
  ∃ v',e=.returned v'∧w'.ownsRow w.heap.size E sz v' n xs∧(v'=.slice none 0 0↔v=.slice none 0 0)∧Below w.heap.size w w'
def bv (x:UInt8):Value:=.int .u8 (x.toNat:Int)
theorem bv_one(bs:List UInt8):∀ u∈bs.map bv,u.oneCell'=true:=by
  intro u hu
  obtain ⟨x,_,rfl⟩:=List.mem_map.1 hu
  rfl
theorem spot_none{w:World}{a:Addr}{u:Value}(h:w.cell? a=some u):a=⟨a.block,a.off,none⟩:=by
  have hs:a.spot=none:=by
    cases hs:a.spot with
    | none=>rfl
    | some s=>simp [World.cell?,hs] at h;split at h <;> simp_all
  cases a
  simp_all
theorem reads_len{w:World}{sz:Nat}{v:Value}{n:Nat}{xs:List Value}(h:Reads w sz v n xs):∃ a c,v=.slice a n c:=by
  obtain ⟨_,⟨rfl,rfl⟩|⟨a,c,rfl,_⟩⟩:=h
  · exact ⟨none,0,rfl⟩
  · exact ⟨some a,c,rfl⟩
theorem sl_inj{a b:Option Addr}{n m c d:Nat}(h:Value.slice a n c=.slice b m d):a=b∧n=m∧c=d:=by simpa using h
theorem Reads.below{w w':World}{sz:Nat}{v:Value}{n:Nat}{xs:List Value}(h:Reads w sz v n xs)(hb:Below w.heap.size w w'):Reads w' sz v n xs:=by
  refine ⟨h.1,h.2.imp id ?_⟩
  rintro ⟨a,c,rfl,hn,hc⟩
  exact ⟨a,c,rfl,hn,fun j u hu=>cell_later hb (hc j u hu)⟩
theorem Reads.le{w:World}{sz:Nat}{v:Value}{n:Nat}{xs:List Value}(h:Reads w sz v n xs):n≤maxLen:=by
  obtain ⟨_,⟨_,rfl⟩|⟨_,_,_,h,_⟩⟩:=h
  · exact Nat.zero_le _
  · exact h

def waitsFor (ops:Array Oper):Nat→Nat→Nat→Bool
  | 0,_,_=>false
  | n+1,j,i=>match ops[j]? with
    | some o=>o.after.any fun e=>Region.binds .any e && (e.on == i || waitsFor ops n e.on i)
    | none=>false
def unlisted (listed:Array Bool) (j:Nat):Bool := !listed.getD j true
def needs (ops:Array Oper) (rds:List Nat) (j:Nat):Bool:=rds.any fun r=>r != j && !waitsFor ops ops.size j r
def freeOf (ops:Array Oper) (rds:List Nat) (rd:Bool) (listed:Array Bool) (i:Nat) (oi:Oper):Bool:=
  (List.range ops.size).all fun j=>j == i || !unlisted listed j || waitsFor ops ops.size j i || match ops[j]? with
    | some oj=>oi.apart ops oj && (!rd || needs ops rds j)
    | none=>true
def okOrder (ops:Array Oper) (rds:List Nat):Bool→Array Bool→List (Nat×Nat)→Bool
  | _,listed,[]=>(Region.ready .any ops listed).isEmpty
  | has,listed,(i,k) :: rest=>(match ops[i]? with
    | some oi=>(Region.ready .any ops listed).contains i &&
      (match k with
       | 0=>freeOf ops rds false listed i oi && okOrder ops rds has (listed.setIfInBounds i true) rest
       | 1=>(Region.ready .any ops listed == [i]) && okOrder ops rds (has && needs ops rds i) (listed.setIfInBounds i true) rest
       | _=>has && freeOf ops rds true listed i oi && okOrder ops rds has (listed.setIfInBounds i true) rest)
    | none=>false)

section
variable {P:Program} {ops:Array Oper} {Q:Exit→Act→World→Prop} {S:World→Prop} {rds:List Nat}
def wpAnyN (P:Program) (ops:Array Oper) (rds:List Nat) (Q:Exit→Act→World→Prop) (S:World→Prop):Nat→Array Bool→Act→World→Prop
  | 0,listed,a,w=>Region.ready .any ops listed=[]∧Q .normal a w
  | fuel+1,listed,a,w=>
    (Region.ready .any ops listed=[]→Q .normal a w) ∧
    ∀ i∈Region.ready .any ops listed,wpOp P ops Q i (fun a' w'=>(needs ops rds i=true→S w→S w')∧wpAnyN P ops rds Q S fuel (listed.setIfInBounds i true) a' w') a w
theorem wpAny_of_N:∀ (fuel:Nat) (listed:Array Bool) (a:Act) (w:World),wpAnyN P ops rds Q S fuel listed a w→wpAny P .any ops Q fuel listed a w
  | 0,_,_,_,h=>h
  | fuel+1,_,_,_,h=>⟨h.1,fun i hi=>wpOp_mono (fun a' w' h'=>wpAny_of_N fuel _ a' w' h'.2) (h.2 i hi)⟩

def YieldsT (P:Program) (ops:Array Oper) (T:World→Prop) (o:Oper) (v:Value) (a:Act):Prop:=
  (Region.wanted o (yielded ops a.tmps)=true∧∀ w,T w→(execOp a.eval o).run P w=.ok (.value v) w) ∨
  (Region.wanted o (yielded ops a.tmps)=false∧v=undef)
theorem YieldsT.wpOp{T:World→Prop}{i:Nat}{o:Oper}{v:Value}{a:Act}(hi:ops[i]? = some o)(hy:YieldsT P ops T o v a)
    {K:Act→World→Prop} {w:World} (hT:T w) (h:K (a.put o.dst v) w):wpOp P ops Q i K a w:=by
  unfold Go.wpOp
  simp only [hi]
  rcases hy with ⟨hw,hv⟩|⟨hw,rfl⟩
  · simp only [hw,if_true,Oper.wp,hv w hT,Oper.upon];exact .inl h
  · simp only [hw,Bool.false_eq_true,if_false];exact h
theorem YieldsT.of_same{T:World→Prop}{o:Oper}{v:Value}{a a':Act}(hy:YieldsT P ops T o v a)(he:execOp a'.eval o=execOp a.eval o)
    (hw:Region.wanted o (yielded ops a'.tmps)=Region.wanted o (yielded ops a.tmps)):YieldsT P ops T o v a':=by
  unfold YieldsT at *
  rw [he,hw]
  exact hy
theorem wpOp_putT{T:World→Prop}{j:Nat}{oi oj:Oper}{v:Value}(hj:ops[j]? = some oj)(hap:oi.apart ops oj=true)
    (hsi:∀ cs b,oi.op≠.select cs b) (hsj:∀ cs b,oj.op≠.select cs b)
    (hQ:∀ c a w,Q (.panic c) (a.put oi.dst v) w→Q (.panic c) a w) {K:Act→World→Prop} {a:Act} {w:World}
    (hy:YieldsT P ops T oi v a) (h:wpOp P ops Q j K (a.put oi.dst v) w) :
    wpOp P ops Q j (fun a' w'=>YieldsT P ops T oi v a'∧K (a'.put oi.dst v) w') a w:=by
  obtain ⟨h1,h2,h3⟩:=Oper.apart_spec hap
  have keep:∀ (a:Act),YieldsT P ops T oi v a→∀ u,YieldsT P ops T oi v (a.put oj.dst u):=fun a hy u=>
    hy.of_same (execOp_put oi hsi a oj.dst u h3) (wanted_put oi a oj.dst u h3)
  have keepD:∀ d,YieldsT P ops T oi v { a with defers:=d :: a.defers }:=fun d=>hy.of_same rfl rfl
  unfold wpOp at *
  simp only [hj] at *
  rw [wanted_put oj a oi.dst v h1] at h
  split
  · rename_i hw
    simp only [hw,if_true] at h
    rcases h with h|⟨hasks,hlets⟩
    case inr=>exact .inr ⟨by unfold Oper.asks at *;rw [execOp_put oj hsj a oi.dst v h1] at hasks;exact hasks,hlets⟩
    refine .inl ?_
    unfold Oper.wp at *
    rw [execOp_put oj hsj a oi.dst v h1] at h
    generalize (execOp a.eval oj).run P w=r at *
    cases r with
    | ok n w'=>
      cases n <;> simp only [Oper.upon] at h ⊢
      case value u=>exact ⟨keep a hy u,by rw [←Act.put_comm a v u h2];exact h⟩
      case skip=>exact ⟨keep a hy _,by rw [←Act.put_comm a v undef h2];exact h⟩
      case defer d=>
        refine ⟨keep _ (keepD d) _,?_⟩
        rw [←Act.put_comm _ v undef h2,←Act.put_defers]
        exact h
      case enter f args=>
        refine Calls.mono h fun e w'' he=>?_
        cases e with
        | returned u=>exact ⟨keep a hy u,by rw [←Act.put_comm a v u h2];exact he⟩
        | panicked c=>exact hQ _ _ _ he
        | outgrown=>exact he
      case row row args=>exact Rows.mono h fun u w'' he=>⟨keep a hy u,by rw [←Act.put_comm a v u h2];exact he⟩
    | halt x w'=>
      cases x <;> simp only [Oper.upon] at h ⊢
      case panic u=>exact hQ _ _ _ h
  · rename_i hw
    simp only [hw] at h
    exact ⟨keep a hy _,by rw [←Act.put_comm a v undef h2];exact h⟩

def Closed (ops:Array Oper) (listed:Array Bool):Prop:=
  ∀ j o,ops[j]? = some o→listed.getD j true=true→∀ e∈o.after,Region.binds .any e=true→listed.getD e.on false=true
theorem getD_true_of_false{listed:Array Bool}{j:Nat}(h:listed.getD j false=true):listed.getD j true=true:=by
  rcases Nat.lt_or_ge j listed.size with h'|h'
  · simp [h'] at h ⊢;exact h
  · simp [Array.getElem?_eq_none h'] at h
theorem Closed.waits{listed:Array Bool}(hc:Closed ops listed):∀ (n j i:Nat) (o:Oper),ops[j]? = some o→(∀ e∈o.after,Region.binds .any e=true→listed.getD e.on false=true) →
    waitsFor ops n j i=true→listed.getD i false=true
  | 0,_,_,_,_,_,h=>by simp [waitsFor] at h
  | n+1,j,i,o,ho,hall,h=>by
    simp only [waitsFor,ho] at h
    obtain ⟨e,he,hb⟩:=Array.any_eq_true'.1 h
    simp only [Bool.and_eq_true,Bool.or_eq_true,beq_iff_eq] at hb
    obtain ⟨hb1,hb2⟩:=hb
    rcases hb2 with rfl|hb2
    · exact hall e he hb1
    · have hon:=hall e he hb1
      cases ho':ops[e.on]? with
      | none=>cases n <;> simp [waitsFor,ho'] at hb2
      | some o'=>exact Closed.waits hc n e.on i o' ho' (hc e.on o' ho' (getD_true_of_false hon)) hb2
theorem Closed.ready{listed:Array Bool}(hc:Closed ops listed){j:Nat}(hj:j∈Region.ready .any ops listed):Closed ops (listed.setIfInBounds j true):=by
  obtain ⟨hun,oj,hoj,hall⟩:=mem_ready.1 hj
  intro k o ho hk e he hb
  by_cases hjk:j=k
  · subst hjk
    rw [hoj] at ho
    cases ho
    exact getD_set_true (hall e he hb)
  · rw [getD_set_ne true hjk] at hk
    exact getD_set_true (hc k o ho hk e he hb)

theorem wpAnyN_first{T:World→Prop}{i:Nat}{oi:Oper}{v:Value}{rd:Bool}(hi:ops[i]? = some oi)(hsel:∀ (j:Nat) (o:Oper) cs b,ops[j]? = some o→o.op≠.select cs b)
    (hQ:∀ c a w,Q (.panic c) (a.put oi.dst v) w→Q (.panic c) a w) (hTS:rd=true→∀ w,S w→T w) (hST:rd=true→∀ w,T w→S w) (hT0:rd=false→∀ w,T w) :
    ∀ (fuel:Nat) (listed:Array Bool) (a:Act) (w:World),Closed ops listed →
      (∀ j oj,ops[j]? = some oj→j≠i→listed.getD j true=false→waitsFor ops ops.size j i=true∨(oi.apart ops oj=true∧(rd=true→needs ops rds j=true))) →
      i∈Region.ready .any ops listed→T w→YieldsT P ops T oi v a →
      wpAnyN P ops rds Q S fuel (listed.setIfInBounds i true) (a.put oi.dst v) w→wpAnyN P ops rds Q S (fuel+1) listed a w:=by
  intro fuel
  induction fuel with
  | zero=>
    intro listed a w _ _ hr hT hy H
    refine ⟨fun h=>(by rw [h] at hr;cases hr),fun j hj=>?_⟩
    by_cases hji:j=i
    · subst hji;exact hy.wpOp hi hT ⟨fun _ h=>h,H⟩
    · have:=ready_mono hj hji
      rw [H.1] at this
      cases this
  | succ fuel ih=>
    intro listed a w hcl hfree hr hT hy H
    refine ⟨fun h=>(by rw [h] at hr;cases hr),fun j hj=>?_⟩
    by_cases hji:j=i
    · subst hji;exact hy.wpOp hi hT ⟨fun _ h=>h,H⟩
    · have h1:=H.2 j (ready_mono hj hji)
      obtain ⟨hjun,oj,hoj,hall⟩:=mem_ready.1 hj
      have hiun:=(mem_ready.1 hr).1
      have hnot:¬ waitsFor ops ops.size j i=true:=fun hw=>by
        have h1:=hcl.waits _ j i oj hoj hall hw
        have h2:=getD_true_of_false h1
        rw [hiun] at h2
        cases h2
      obtain ⟨hap,hnd⟩:=(hfree j oj hoj hji hjun).resolve_left hnot
      have h2:=wpOp_putT hoj hap (fun cs b=>hsel i oi cs b hi) (fun cs b=>hsel j oj cs b hoj) hQ hy h1
      have hfree':∀ k ok,ops[k]? = some ok→k≠i→(listed.setIfInBounds j true).getD k true=false →
          waitsFor ops ops.size k i=true∨(oi.apart ops ok=true∧(rd=true→needs ops rds k=true)):=fun k ok hk hki hun=>by
        refine hfree k ok hk hki ?_
        by_cases hjk:j=k
        · subst hjk;exact hjun
        · rw [getD_set_ne true hjk] at hun;exact hun
      refine wpOp_mono (fun a' w' h3=>?_) h2
      obtain ⟨h4,h5,h6⟩:=h3
      refine ⟨h5,?_⟩
      have hT':T w':=by
        cases hrd:rd with
        | true=>exact hTS hrd w' (h5 (hnd hrd) (hST hrd w hT))
        | false=>exact hT0 hrd w'
      refine ih (listed.setIfInBounds j true) a' w' (hcl.ready hj) hfree' (ready_mono hr (Ne.symm hji)) hT' h4 ?_
      rw [Array.setIfInBounds_comm _ _ hji]
      exact h6

theorem unlisted_of{listed:Array Bool}{j:Nat}(h:listed.getD j true=false):unlisted listed j=true:=by simp [unlisted,h]
theorem free_spec{rd:Bool}{listed:Array Bool}{i:Nat}{oi:Oper}(h:freeOf ops rds rd listed i oi=true)(j:Nat)(oj:Oper)(hj:ops[j]? = some oj)(hne:j≠i)(hun:listed.getD j true=false) :
    waitsFor ops ops.size j i=true∨(oi.apart ops oj=true∧(rd=true→needs ops rds j=true)):=by
  simp only [freeOf,List.all_eq_true,List.mem_range] at h
  have h1:=h j (Array.getElem?_eq_some_iff.1 hj).1
  simp only [hj,Bool.or_eq_true,Bool.and_eq_true,beq_iff_eq,hne,false_or,unlisted_of hun,Bool.not_true,Bool.false_eq_true,Bool.not_eq_true'] at h1
  rcases h1 with h1|⟨h1,h2⟩
  · exact .inl h1
  · exact .inr ⟨h1,fun hr=>h2.resolve_left (by simp [hr])⟩

def wpE (P:Program) (ops:Array Oper) (rds:List Nat) (Q:Exit→Act→World→Prop) (S:World→Prop):List (Nat×Nat)→Act→World→Prop
  | [],a,w=>Q .normal a w
  | (i,k) :: rest,a,w=>match ops[i]? with
    | none=>False
    | some oi=>match k with
      | 0=>∃ v,YieldsT P ops (fun _=>True) oi v a∧wpE P ops rds Q S rest (a.put oi.dst v) w
      | 1=>wpOp P ops Q i (fun a' w'=>(needs ops rds i=true→S w→S w')∧wpE P ops rds Q S rest a' w') a w
      | _=>∃ v,YieldsT P ops S oi v a∧wpE P ops rds Q S rest (a.put oi.dst v) w
theorem wpN_of_E(hsel:∀ (j:Nat) (o:Oper) cs b,ops[j]? = some o→o.op≠.select cs b)(hQ:∀ c a d v w,Q (.panic c) (a.put d v) w→Q (.panic c) a w) :
    ∀ (l:List (Nat×Nat)) (has:Bool) (listed:Array Bool) (a:Act) (w:World),Closed ops listed→okOrder ops rds has listed l=true→(has=true→S w) →
      wpE P ops rds Q S l a w→wpAnyN P ops rds Q S l.length listed a w
  | [],has,listed,a,w,_,hok,_,h=>⟨by simpa [okOrder] using hok,h⟩
  | (i,k) :: rest,has,listed,a,w,hcl,hok,hS,h=>by
    cases hi:ops[i]? with
    | none=>simp [okOrder,hi] at hok
    | some oi=>
      simp only [okOrder,hi,Bool.and_eq_true,List.contains_iff_mem] at hok
      obtain ⟨hr,hok⟩:=hok
      simp only [wpE,hi] at h
      match k,hok,h with
      | 0,hok,h=>
        simp only [Bool.and_eq_true] at hok
        obtain ⟨v,hy,h⟩:=h
        refine wpAnyN_first (T:=fun _=>True) (rd:=false) hi hsel (fun c a w=>hQ c a _ _ w) (fun e=>by cases e) (fun e=>by cases e) (fun _ _=>trivial) rest.length listed a w hcl (free_spec hok.1) hr trivial hy ?_
        exact wpN_of_E hsel hQ rest has _ _ w (hcl.ready hr) hok.2 hS h
      | 1,hok,h=>
        simp only [Bool.and_eq_true,beq_iff_eq] at hok
        refine ⟨fun e=>(by rw [e] at hr;cases hr),fun j hj=>?_⟩
        rw [hok.1] at hj
        have hji:j=i:=by simpa using hj
        subst hji
        refine wpOp_mono (fun a' w' h'=>⟨h'.1,wpN_of_E hsel hQ rest (has && needs ops rds j) _ a' w' (hcl.ready hr) hok.2 (fun e=>?_) h'.2⟩) h
        simp only [Bool.and_eq_true] at e
        exact h'.1 e.2 (hS e.1)
      | k+2,hok,h=>
        simp only [Bool.and_eq_true] at hok
        obtain ⟨v,hy,h⟩:=h
        refine wpAnyN_first (T:=S) (rd:=true) hi hsel (fun c a w=>hQ c a _ _ w) (fun _ _ h=>h) (fun _ _ h=>h) (fun e=>by cases e) rest.length listed a w hcl (free_spec hok.1.2) hr (hS hok.1.1) hy ?_
        exact wpN_of_E hsel hQ rest has _ _ w (hcl.ready hr) hok.2 hS h
theorem wp_region_order{id:Nat}{a:Act}{w:World}(S:World→Prop)(rds:List Nat)(l:List (Nat×Nat))(hm:P.follows .mixedOrders=true)(hsel:Region.noSelect ops=true)
    (hlen:l.length=ops.size) (hok:okOrder ops rds true (Array.replicate ops.size false) l=true) (hQ:∀ c a d v w,Q (.panic c) (a.put d v) w→Q (.panic c) a w)
    (hS:S w.drew) (h:wpE P ops rds Q S l a w.drew):(Code.region id ops true).wp P Q a w:=by
  refine wp_region_any hm (wpAny_of_N (rds:=rds) (S:=S) _ _ _ _ ?_)
  rw [←hlen]
  refine wpN_of_E (fun j o cs b=>Region.noSelect_spec hsel j o cs b) hQ l true _ a _ ?_ (by rw [hlen];exact hok) (fun _=>hS) h
  intro j o ho hj
  rcases Nat.lt_or_ge j l.length with h'|h'
  · simp [h'] at hj
  · have:=(Array.getElem?_eq_some_iff.1 ho).1
    omega
theorem wp_region_now{id:Nat}{a:Act}{w:World}(rds:List Nat)(l:List (Nat×Nat))(hm:P.follows .mixedOrders=true)(hsel:Region.noSelect ops=true)
    (hlen:l.length=ops.size) (hok:okOrder ops rds true (Array.replicate ops.size false) l=true) (hQ:∀ c a d v w,Q (.panic c) (a.put d v) w→Q (.panic c) a w)
    (h:wpE P ops rds Q (fun w'=>w'=w.drew) l a w.drew):(Code.region id ops true).wp P Q a w:=
  wp_region_order (fun w'=>w'=w.drew) rds l hm hsel hlen hok hQ rfl h
def onlyNormal (Q:Exit→Act→World→Prop):Exit→Act→World→Prop:=fun e a w=>match e with | .normal=>Q .normal a w|_=>False
theorem wp_region_order0{id:Nat}{a:Act}{w:World}(S:World→Prop)(rds:List Nat)(l:List (Nat×Nat))(hm:P.follows .mixedOrders=true)(hsel:Region.noSelect ops=true)
    (hlen:l.length=ops.size) (hok:okOrder ops rds true (Array.replicate ops.size false) l=true)
    (hS:S w.drew) (h:wpE P ops rds (onlyNormal Q) S l a w.drew):(Code.region id ops true).wp P Q a w:=
  wp_mono (wp_region_order (Q:=onlyNormal Q) S rds l hm hsel hlen hok (fun _ _ _ _ _ h=>h) hS h) (fun e a w h=>by cases e <;> first|exact h|exact False.elim h)
theorem wp_region_now0{id:Nat}{a:Act}{w:World}(rds:List Nat)(l:List (Nat×Nat))(hm:P.follows .mixedOrders=true)(hsel:Region.noSelect ops=true)
    (hlen:l.length=ops.size) (hok:okOrder ops rds true (Array.replicate ops.size false) l=true)
    (h:wpE P ops rds (onlyNormal Q) (fun w'=>w'=w.drew) l a w.drew):(Code.region id ops true).wp P Q a w:=
  wp_region_order0 (fun w'=>w'=w.drew) rds l hm hsel hlen hok rfl h
section
variable {o:Oper} {i:Nat} {rest:List (Nat×Nat)} {a:Act} {w:World}
theorem stepEnil0(h:Q .normal a w):wpE P ops rds (onlyNormal Q) S [] a w:=h
theorem stepE0(ho:ops[i]? = some o)(hw:Region.wanted o (yielded ops a.tmps)=true)
    (h:∀ K:Act→Prop,(∀ a,wpE P ops rds Q S rest a w→K a)→∃ v,(∀ w1:World,(execOp a.eval o).run P w1=.ok (.value v) w1)∧K (a.put o.dst v)):wpE P ops rds Q S ((i,0) :: rest) a w:=by
  obtain ⟨v,h1,h2⟩:=h _ (fun _ h=>h)
  simp only [wpE,ho]
  exact ⟨v,.inl ⟨hw,fun w1 _=>h1 w1⟩,h2⟩
theorem stepE2(ho:ops[i]? = some o)(hw:Region.wanted o (yielded ops a.tmps)=true)(v:Value)(h1:∀ w1:World,S w1→(execOp a.eval o).run P w1=.ok (.value v) w1)
    (h:∀ K:Act→Prop,(∀ a,wpE P ops rds Q S rest a w→K a)→K (a.put o.dst v)):wpE P ops rds Q S ((i,2) :: rest) a w:=by
  have h2:=h _ (fun _ h=>h)
  simp only [wpE,ho]
  exact ⟨v,.inl ⟨hw,h1⟩,h2⟩
theorem stepE1(ho:ops[i]? = some o)(hw:Region.wanted o (yielded ops a.tmps)=true)(hn:needs ops rds i=false)
    (h:∀ K:Act→World→Prop,(∀ a' w',wpE P ops rds Q S rest a' w'→K a' w')→o.wp P a w K Q):wpE P ops rds Q S ((i,1) :: rest) a w:=by
  simp only [wpE,ho,wpOp,hw,if_true]
  exact .inl (h _ fun a' w' h=>⟨fun e=>absurd e (by rw [hn];simp),h⟩)
theorem stepE1S(ho:ops[i]? = some o)(hw:Region.wanted o (yielded ops a.tmps)=true)
    (h:∀ K:Act→World→Prop,(∀ a' w',S w'∧wpE P ops rds Q S rest a' w'→K a' w')→o.wp P a w K Q):wpE P ops rds Q S ((i,1) :: rest) a w:=by
  simp only [wpE,ho,wpOp,hw,if_true]
  exact .inl (h _ fun a' w' h=>⟨fun _ _=>h.1,h.2⟩)
theorem stepEnil(h:Q .normal a w):wpE P ops rds Q S [] a w:=h
end
end
inductive Plan where
  | nil
  | op (i k:Nat) (rest:Plan)
  | two (i:Nat) (pi:Plan) (j:Nat) (pj:Plan)
def Plan.len:Plan→Nat
  | .nil=>0
  | .op _ _ r=>r.len+1
  | .two _ p _ _=>p.len+1
section
variable {P:Program} {ops:Array Oper} {Q:Exit→Go.Act→World→Prop} {S:World→Prop} {rds:List Nat}
section
variable {o:Oper} {i:Nat} {rest:Plan} {a:Go.Act} {w:World}
end
end
def bitOf (ms:List Nat) (j i:Nat):Bool:=(ms.getD j 0).testBit i
def stepMask (ms:List Nat) (o:Oper) (j:Nat):Nat:=o.after.toList.foldl (fun m e=>if (Region.binds .any e && decide (e.on<j))=true then m ||| (2 ^ e.on ||| ms.getD e.on 0) else m) 0
def okMasks (ops:Array Oper) (ms:List Nat):Bool:=(List.range ops.size).all fun j=>match ops[j]? with|some o=>ms.getD j 0 == stepMask ms o j|none=>true
theorem fold_bit(ms:List Nat)(j i:Nat):∀ (l:List Edge) (m:Nat),(l.foldl (fun m e=>if (Region.binds .any e && decide (e.on<j))=true then m ||| (2 ^ e.on ||| ms.getD e.on 0) else m) m).testBit i=true →
    m.testBit i=true∨∃ e∈l,Region.binds .any e=true∧e.on<j∧(e.on=i∨bitOf ms e.on i=true)
  | [],m,h=>.inl h
  | e :: l,m,h=>by
    rw [List.foldl_cons] at h
    rcases fold_bit ms j i l _ h with h1|⟨e',he,h2⟩
    · split at h1
      · rename_i hb
        simp only [Bool.and_eq_true,decide_eq_true_eq] at hb
        rw [Nat.testBit_or,Nat.testBit_or,Nat.testBit_two_pow] at h1
        simp only [Bool.or_eq_true,decide_eq_true_eq] at h1
        rcases h1 with h1|h1|h1
        · exact .inl h1
        · exact .inr ⟨e,List.mem_cons_self,hb.1,hb.2,.inl h1⟩
        · exact .inr ⟨e,List.mem_cons_self,hb.1,hb.2,.inr h1⟩
      · exact .inl h1
    · exact .inr ⟨e',List.mem_cons_of_mem _ he,h2⟩
theorem Closed.bits{ops:Array Oper}{ms:List Nat}{listed:Array Bool}(hc:Closed ops listed)(hm:okMasks ops ms=true)(i:Nat):∀ (n j:Nat),j<n→∀ (o:Oper),ops[j]? = some o→(∀ e∈o.after,Region.binds .any e=true→listed.getD e.on false=true) →
    bitOf ms j i=true→listed.getD i false=true
  | 0,_,h,_,_,_,_=>by omega
  | n+1,j,hj,o,ho,hall,h=>by
    have hjs:=(Array.getElem?_eq_some_iff.1 ho).1
    simp only [okMasks,List.all_eq_true,List.mem_range] at hm
    have h1:=hm j hjs
    rw [ho] at h1
    simp only [beq_iff_eq] at h1
    unfold bitOf at h
    rw [h1] at h
    rcases fold_bit ms j i _ _ h with h2|⟨e,he,hb,hlt,h3⟩
    · simp at h2
    · have hon:=hall e (by simpa using he) hb
      rcases h3 with rfl|h3
      · exact hon
      · have ho':ops[e.on]? = some ops[e.on]:=Array.getElem?_eq_getElem (by omega)
        refine Closed.bits hc (by simp only [okMasks,List.all_eq_true,List.mem_range];exact hm) i n e.on (by omega) _ ho' (hc e.on _ ho' (getD_true_of_false hon)) h3
def needsM (ms:List Nat) (rds:List Nat) (j:Nat):Bool:=rds.any fun r=>r != j && !bitOf ms j r
def freeM (ops:Array Oper) (ms:List Nat) (rds:List Nat) (rd:Bool) (listed:Array Bool) (i:Nat) (oi:Oper):Bool:=
  (List.range ops.size).all fun j=>j == i || !unlisted listed j || bitOf ms j i || match ops[j]? with
    | some oj=>oi.apart ops oj && (!rd || needsM ms rds j)
    | none=>true
section
variable {P:Program} {ops:Array Oper} {Q:Exit→Go.Act→World→Prop} {S:World→Prop} {rds ms:List Nat}
def wpAnyM (P:Program) (ops:Array Oper) (ms:List Nat) (rds:List Nat) (Q:Exit→Go.Act→World→Prop) (S:World→Prop):Nat→Array Bool→Go.Act→World→Prop
  | 0,listed,a,w=>Region.ready .any ops listed=[]∧Q .normal a w
  | fuel+1,listed,a,w=>
    (Region.ready .any ops listed=[]→Q .normal a w) ∧
    ∀ i∈Region.ready .any ops listed,wpOp P ops Q i (fun a' w'=>(needsM ms rds i=true→S w→S w')∧wpAnyM P ops ms rds Q S fuel (listed.setIfInBounds i true) a' w') a w
theorem wpAny_of_M:∀ (fuel:Nat) (listed:Array Bool) (a:Go.Act) (w:World),wpAnyM P ops ms rds Q S fuel listed a w→wpAny P .any ops Q fuel listed a w
  | 0,_,_,_,h=>h
  | fuel+1,_,_,_,h=>⟨h.1,fun i hi=>wpOp_mono (fun a' w' h'=>wpAny_of_M fuel _ a' w' h'.2) (h.2 i hi)⟩

theorem wpAnyM_first(hms:okMasks ops ms=true){T:World→Prop}{i:Nat}{oi:Oper}{v:Value}{rd:Bool}(hi:ops[i]? = some oi)(hsel:∀ (j:Nat) (o:Oper) cs b,ops[j]? = some o→o.op≠.select cs b)
    (hQ:∀ c a w,Q (.panic c) (a.put oi.dst v) w→Q (.panic c) a w) (hTS:rd=true→∀ w,S w→T w) (hST:rd=true→∀ w,T w→S w) (hT0:rd=false→∀ w,T w) :
    ∀ (fuel:Nat) (listed:Array Bool) (a:Go.Act) (w:World),Closed ops listed →
      (∀ j oj,ops[j]? = some oj→j≠i→listed.getD j true=false→bitOf ms j i=true∨(oi.apart ops oj=true∧(rd=true→needsM ms rds j=true))) →
      i∈Region.ready .any ops listed→T w→YieldsT P ops T oi v a →
      wpAnyM P ops ms rds Q S fuel (listed.setIfInBounds i true) (a.put oi.dst v) w→wpAnyM P ops ms rds Q S (fuel+1) listed a w:=by
  intro fuel
  induction fuel with
  | zero=>
    intro listed a w _ _ hr hT hy H
    refine ⟨fun h=>(by rw [h] at hr;cases hr),fun j hj=>?_⟩
    by_cases hji:j=i
    · subst hji;exact hy.wpOp hi hT ⟨fun _ h=>h,H⟩
    · have:=ready_mono hj hji
      rw [H.1] at this
      cases this
  | succ fuel ih=>
    intro listed a w hcl hfree hr hT hy H
    refine ⟨fun h=>(by rw [h] at hr;cases hr),fun j hj=>?_⟩
    by_cases hji:j=i
    · subst hji;exact hy.wpOp hi hT ⟨fun _ h=>h,H⟩
    · have h1:=H.2 j (ready_mono hj hji)
      obtain ⟨hjun,oj,hoj,hall⟩:=mem_ready.1 hj
      have hiun:=(mem_ready.1 hr).1
      have hnot:¬ bitOf ms j i=true:=fun hw=>by
        have h1:=hcl.bits hms i _ j (Nat.lt_succ_self j) oj hoj hall hw
        have h2:=getD_true_of_false h1
        rw [hiun] at h2
        cases h2
      obtain ⟨hap,hnd⟩:=(hfree j oj hoj hji hjun).resolve_left hnot
      have h2:=wpOp_putT hoj hap (fun cs b=>hsel i oi cs b hi) (fun cs b=>hsel j oj cs b hoj) hQ hy h1
      have hfree':∀ k ok,ops[k]? = some ok→k≠i→(listed.setIfInBounds j true).getD k true=false →
          bitOf ms k i=true∨(oi.apart ops ok=true∧(rd=true→needsM ms rds k=true)):=fun k ok hk hki hun=>by
        refine hfree k ok hk hki ?_
        by_cases hjk:j=k
        · subst hjk;exact hjun
        · rw [getD_set_ne true hjk] at hun;exact hun
      refine wpOp_mono (fun a' w' h3=>?_) h2
      obtain ⟨h4,h5,h6⟩:=h3
      refine ⟨h5,?_⟩
      have hT':T w':=by
        cases hrd:rd with
        | true=>exact hTS hrd w' (h5 (hnd hrd) (hST hrd w hT))
        | false=>exact hT0 hrd w'
      refine ih (listed.setIfInBounds j true) a' w' (hcl.ready hj) hfree' (ready_mono hr (Ne.symm hji)) hT' h4 ?_
      rw [Array.setIfInBounds_comm _ _ hji]
      exact h6

theorem freeM_spec{rd:Bool}{listed:Array Bool}{i:Nat}{oi:Oper}(h:freeM ops ms rds rd listed i oi=true)(j:Nat)(oj:Oper)(hj:ops[j]? = some oj)(hne:j≠i)(hun:listed.getD j true=false) :
    bitOf ms j i=true∨(oi.apart ops oj=true∧(rd=true→needsM ms rds j=true)):=by
  simp only [freeM,List.all_eq_true,List.mem_range] at h
  have h1:=h j (Array.getElem?_eq_some_iff.1 hj).1
  simp only [hj,Bool.or_eq_true,Bool.and_eq_true,beq_iff_eq,hne,false_or,unlisted_of hun,Bool.not_true,Bool.false_eq_true,Bool.not_eq_true'] at h1
  rcases h1 with h1|⟨h1,h2⟩
  · exact .inl h1
  · exact .inr ⟨h1,fun hr=>h2.resolve_left (by simp [hr])⟩

def okPlanM (ops:Array Oper) (ms rds:List Nat):Bool→Array Bool→Plan→Bool
  | _,listed,.nil=>(Region.ready .any ops listed).isEmpty
  | has,listed,.op i k rest=>(match ops[i]? with
    | some oi=>(Region.ready .any ops listed).contains i &&
      (match k with
       | 0=>freeM ops ms rds false listed i oi && okPlanM ops ms rds has (listed.setIfInBounds i true) rest
       | 1=>(Region.ready .any ops listed == [i]) && okPlanM ops ms rds (has && needsM ms rds i) (listed.setIfInBounds i true) rest
       | _=>has && freeM ops ms rds true listed i oi && okPlanM ops ms rds has (listed.setIfInBounds i true) rest)
    | none=>false)
  | has,listed,.two i pi j pj=>(ops[i]?).isSome && (ops[j]?).isSome && (Region.ready .any ops listed == [i,j]) && (pi.len == pj.len) &&
      okPlanM ops ms rds (has && needsM ms rds i) (listed.setIfInBounds i true) pi && okPlanM ops ms rds (has && needsM ms rds j) (listed.setIfInBounds j true) pj
def wpM (P:Program) (ops:Array Oper) (ms:List Nat) (rds:List Nat) (Q:Exit→Go.Act→World→Prop) (S:World→Prop):Plan→Go.Act→World→Prop
  | .nil,a,w=>Q .normal a w
  | .op i k rest,a,w=>match ops[i]? with
    | none=>False
    | some oi=>match k with
      | 0=>∃ v,YieldsT P ops (fun _=>True) oi v a∧wpM P ops ms rds Q S rest (a.put oi.dst v) w
      | 1=>wpOp P ops Q i (fun a' w'=>(needsM ms rds i=true→S w→S w')∧wpM P ops ms rds Q S rest a' w') a w
      | _=>∃ v,YieldsT P ops S oi v a∧wpM P ops ms rds Q S rest (a.put oi.dst v) w
  | .two i pi j pj,a,w=>wpOp P ops Q i (fun a' w'=>(needsM ms rds i=true→S w→S w')∧wpM P ops ms rds Q S pi a' w') a w ∧
      wpOp P ops Q j (fun a' w'=>(needsM ms rds j=true→S w→S w')∧wpM P ops ms rds Q S pj a' w') a w
theorem wpN_of_M(hms:okMasks ops ms=true)(hsel:∀ (j:Nat) (o:Oper) cs b,ops[j]? = some o→o.op≠.select cs b)(hQ:∀ c a d v w,Q (.panic c) (a.put d v) w→Q (.panic c) a w) :
    ∀ (l:Plan) (has:Bool) (listed:Array Bool) (a:Go.Act) (w:World),Closed ops listed→okPlanM ops ms rds has listed l=true→(has=true→S w) →
      wpM P ops ms rds Q S l a w→wpAnyM P ops ms rds Q S l.len listed a w
  | .nil,has,listed,a,w,_,hok,_,h=>⟨by simpa [okPlanM] using hok,h⟩
  | .two i pi j pj,has,listed,a,w,hcl,hok,hS,h=>by
    simp only [okPlanM,Bool.and_eq_true,beq_iff_eq] at hok
    obtain ⟨⟨⟨⟨⟨_,_⟩,hr⟩,hlen⟩,ho1⟩,ho2⟩:=hok
    have hri:i∈Region.ready .any ops listed:=by rw [hr];simp
    have hrj:j∈Region.ready .any ops listed:=by rw [hr];simp
    refine ⟨fun e=>(by rw [e] at hr;cases hr),fun m hm=>?_⟩
    rw [hr] at hm
    rcases List.mem_cons.1 hm with hmi|hm
    · subst hmi
      refine wpOp_mono (fun a' w' h'=>⟨h'.1,wpN_of_M hms hsel hQ pi (has && needsM ms rds m) _ a' w' (hcl.ready hri) ho1 (fun e=>?_) h'.2⟩) h.1
      simp only [Bool.and_eq_true] at e
      exact h'.1 e.2 (hS e.1)
    · have hmj:m=j:=by simpa using hm
      subst hmj
      refine wpOp_mono (fun a' w' h'=>⟨h'.1,?_⟩) h.2
      have:=wpN_of_M hms hsel hQ pj (has && needsM ms rds m) _ a' w' (hcl.ready hrj) ho2 (fun e=>by
        simp only [Bool.and_eq_true] at e
        exact h'.1 e.2 (hS e.1)) h'.2
      rwa [←hlen] at this
  | .op i k rest,has,listed,a,w,hcl,hok,hS,h=>by
    cases hi:ops[i]? with
    | none=>simp [okPlanM,hi] at hok
    | some oi=>
      simp only [okPlanM,hi,Bool.and_eq_true,List.contains_iff_mem] at hok
      obtain ⟨hr,hok⟩:=hok
      simp only [wpM,hi] at h
      match k,hok,h with
      | 0,hok,h=>
        simp only [Bool.and_eq_true] at hok
        obtain ⟨v,hy,h⟩:=h
        refine wpAnyM_first hms (T:=fun _=>True) (rd:=false) hi hsel (fun c a w=>hQ c a _ _ w) (fun e=>by cases e) (fun e=>by cases e) (fun _ _=>trivial) rest.len listed a w hcl (freeM_spec hok.1) hr trivial hy ?_
        exact wpN_of_M hms hsel hQ rest has _ _ w (hcl.ready hr) hok.2 hS h
      | 1,hok,h=>
        simp only [Bool.and_eq_true,beq_iff_eq] at hok
        refine ⟨fun e=>(by rw [e] at hr;cases hr),fun j hj=>?_⟩
        rw [hok.1] at hj
        have hji:j=i:=by simpa using hj
        subst hji
        refine wpOp_mono (fun a' w' h'=>⟨h'.1,wpN_of_M hms hsel hQ rest (has && needsM ms rds j) _ a' w' (hcl.ready hr) hok.2 (fun e=>?_) h'.2⟩) h
        simp only [Bool.and_eq_true] at e
        exact h'.1 e.2 (hS e.1)
      | k+2,hok,h=>
        simp only [Bool.and_eq_true] at hok
        obtain ⟨v,hy,h⟩:=h
        refine wpAnyM_first hms (T:=S) (rd:=true) hi hsel (fun c a w=>hQ c a _ _ w) (fun _ _ h=>h) (fun _ _ h=>h) (fun e=>by cases e) rest.len listed a w hcl (freeM_spec hok.1.2) hr (hS hok.1.1) hy ?_
        exact wpN_of_M hms hsel hQ rest has _ _ w (hcl.ready hr) hok.2 hS h
theorem wp_region_mask0{id:Nat}{a:Go.Act}{w:World}(S:World→Prop)(rds ms:List Nat)(l:Plan)(hm:P.follows .mixedOrders=true)(hsel:Region.noSelect ops=true)
    (hlen:l.len=ops.size) (hms:okMasks ops ms=true) (hok:okPlanM ops ms rds true (Array.replicate ops.size false) l=true)
    (hS:S w.drew) (h:wpM P ops ms rds (onlyNormal Q) S l a w.drew):(Code.region id ops true).wp P Q a w:=by
  refine wp_mono (?_:(Code.region id ops true).wp P (onlyNormal Q) a w) (fun e a w h=>by cases e <;> first|exact h|exact False.elim h)
  refine wp_region_any hm (wpAny_of_M (ms:=ms) (rds:=rds) (S:=S) _ _ _ _ ?_)
  rw [←hlen]
  refine wpN_of_M hms (fun j o cs b=>Region.noSelect_spec hsel j o cs b) (fun _ _ _ _ _ h=>h) l true _ a _ ?_ (by rw [hlen];exact hok) (fun _=>hS) h
  intro j o ho hj
  rcases Nat.lt_or_ge j l.len with h'|h'
  · simp [h'] at hj
  · have:=(Array.getElem?_eq_some_iff.1 ho).1
    omega
section
variable {o:Oper} {i:Nat} {rest:Plan} {a:Go.Act} {w:World}
theorem stepMnil0(h:Q .normal a w):wpM P ops ms rds (onlyNormal Q) S .nil a w:=h
theorem stepM0(ho:ops[i]? = some o)(hw:Region.wanted o (yielded ops a.tmps)=true)
    (h:∀ K:Go.Act→Prop,(∀ a,wpM P ops ms rds Q S rest a w→K a)→∃ v,(∀ w1:World,(execOp a.eval o).run P w1=.ok (.value v) w1)∧K (a.put o.dst v)):wpM P ops ms rds Q S (.op i 0 rest) a w:=by
  obtain ⟨v,h1,h2⟩:=h _ (fun _ h=>h)
  simp only [wpM,ho]
  exact ⟨v,.inl ⟨hw,fun w1 _=>h1 w1⟩,h2⟩
theorem stepM2(ho:ops[i]? = some o)(hw:Region.wanted o (yielded ops a.tmps)=true)(v:Value)(h1:∀ w1:World,S w1→(execOp a.eval o).run P w1=.ok (.value v) w1)
    (h:∀ K:Go.Act→Prop,(∀ a,wpM P ops ms rds Q S rest a w→K a)→K (a.put o.dst v)):wpM P ops ms rds Q S (.op i 2 rest) a w:=by
  have h2:=h _ (fun _ h=>h)
  simp only [wpM,ho]
  exact ⟨v,.inl ⟨hw,h1⟩,h2⟩
theorem stepM1(ho:ops[i]? = some o)(hw:Region.wanted o (yielded ops a.tmps)=true)(hn:needsM ms rds i=false)
    (h:∀ K:Go.Act→World→Prop,(∀ a' w',wpM P ops ms rds Q S rest a' w'→K a' w')→o.wp P a w K Q):wpM P ops ms rds Q S (.op i 1 rest) a w:=by
  simp only [wpM,ho,wpOp,hw,if_true]
  exact .inl (h _ fun a' w' h=>⟨fun e=>absurd e (by rw [hn];simp),h⟩)
theorem stepM1S(ho:ops[i]? = some o)(hw:Region.wanted o (yielded ops a.tmps)=true)
    (h:∀ K:Go.Act→World→Prop,(∀ a' w',S w'∧wpM P ops ms rds Q S rest a' w'→K a' w')→o.wp P a w K Q):wpM P ops ms rds Q S (.op i 1 rest) a w:=by
  simp only [wpM,ho,wpOp,hw,if_true]
  exact .inl (h _ fun a' w' h=>⟨fun _ _=>h.1,h.2⟩)
theorem stepMy0(ho:ops[i]? = some o)(hw:Region.wanted o (yielded ops a.tmps)=false)
    (h:∀ K:Go.Act→Prop,(∀ a,wpM P ops ms rds Q S rest a w→K a)→K (a.put o.dst undef)):wpM P ops ms rds Q S (.op i 0 rest) a w:=by
  have h2:=h _ (fun _ h=>h)
  simp only [wpM,ho]
  exact ⟨undef,.inr ⟨hw,rfl⟩,h2⟩
theorem stepMy2(ho:ops[i]? = some o)(hw:Region.wanted o (yielded ops a.tmps)=false)
    (h:∀ K:Go.Act→Prop,(∀ a,wpM P ops ms rds Q S rest a w→K a)→K (a.put o.dst undef)):wpM P ops ms rds Q S (.op i 2 rest) a w:=by
  have h2:=h _ (fun _ h=>h)
  simp only [wpM,ho]
  exact ⟨undef,.inr ⟨hw,rfl⟩,h2⟩
theorem stepMy1(ho:ops[i]? = some o)(hw:Region.wanted o (yielded ops a.tmps)=false)
    (h:∀ K:Go.Act→Prop,(∀ a,wpM P ops ms rds Q S rest a w→K a)→K (a.put o.dst undef)):wpM P ops ms rds Q S (.op i 1 rest) a w:=by
  have h2:=h _ (fun _ h=>h)
  simp only [wpM,ho,wpOp,hw,Bool.false_eq_true,if_false]
  exact ⟨fun _ h=>h,h2⟩
theorem stepMtwo{pi pj:Plan}{j:Nat}(h1:wpM P ops ms rds Q S (.op i 1 pi) a w)(h2:wpM P ops ms rds Q S (.op j 1 pj) a w)(hi:(ops[i]?).isSome=true)(hj:(ops[j]?).isSome=true):wpM P ops ms rds Q S (.two i pi j pj) a w:=by
  obtain ⟨oi,hi⟩:=Option.isSome_iff_exists.1 hi
  obtain ⟨oj,hj⟩:=Option.isSome_iff_exists.1 hj
  simp only [wpM,hi] at h1
  simp only [wpM,hj] at h2
  exact ⟨h1,h2⟩
end
end
inductive Plan3 where
  | op (i k:Nat) (rest:Plan3)
  | three (i:Nat) (pi:Plan) (j:Nat) (pj:Plan) (q:Nat) (pq:Plan)
def Plan3.len:Plan3→Nat
  | .op _ _ r=>r.len+1
  | .three _ p _ _ _ _=>p.len+1
def okPlan3 (ops:Array Oper) (ms rds:List Nat):Bool→Array Bool→Plan3→Bool
  | has,listed,.op i k rest=>(match ops[i]? with
    | some oi=>(Region.ready .any ops listed).contains i &&
      (match k with
       | 0=>freeM ops ms rds false listed i oi && okPlan3 ops ms rds has (listed.setIfInBounds i true) rest
       | _=>has && freeM ops ms rds true listed i oi && okPlan3 ops ms rds has (listed.setIfInBounds i true) rest)
    | none=>false)
  | has,listed,.three i pi j pj q pq=>(ops[i]?).isSome && (ops[j]?).isSome && (ops[q]?).isSome && (Region.ready .any ops listed == [i,j,q]) && (pi.len == pj.len) && (pi.len == pq.len) &&
      okPlanM ops ms rds (has && needsM ms rds i) (listed.setIfInBounds i true) pi && okPlanM ops ms rds (has && needsM ms rds j) (listed.setIfInBounds j true) pj && okPlanM ops ms rds (has && needsM ms rds q) (listed.setIfInBounds q true) pq
section
variable {P:Program} {ops:Array Oper} {Q:Exit→Go.Act→World→Prop} {S:World→Prop} {rds ms:List Nat}
def wp3 (P:Program) (ops:Array Oper) (ms:List Nat) (rds:List Nat) (Q:Exit→Go.Act→World→Prop) (S:World→Prop):Plan3→Go.Act→World→Prop
  | .op i k rest,a,w=>match ops[i]? with
    | none=>False
    | some oi=>match k with
      | 0=>∃ v,YieldsT P ops (fun _=>True) oi v a∧wp3 P ops ms rds Q S rest (a.put oi.dst v) w
      | _=>∃ v,YieldsT P ops S oi v a∧wp3 P ops ms rds Q S rest (a.put oi.dst v) w
  | .three i pi j pj q pq,a,w=>wpOp P ops Q i (fun a' w'=>(needsM ms rds i=true→S w→S w')∧wpM P ops ms rds Q S pi a' w') a w ∧
      wpOp P ops Q j (fun a' w'=>(needsM ms rds j=true→S w→S w')∧wpM P ops ms rds Q S pj a' w') a w ∧
      wpOp P ops Q q (fun a' w'=>(needsM ms rds q=true→S w→S w')∧wpM P ops ms rds Q S pq a' w') a w
theorem wpN_of_3(hms:okMasks ops ms=true)(hsel:∀ (j:Nat) (o:Oper) cs b,ops[j]? = some o→o.op≠.select cs b)(hQ:∀ c a d v w,Q (.panic c) (a.put d v) w→Q (.panic c) a w) :
    ∀ (l:Plan3) (has:Bool) (listed:Array Bool) (a:Go.Act) (w:World),Closed ops listed→okPlan3 ops ms rds has listed l=true→(has=true→S w) →
      wp3 P ops ms rds Q S l a w→wpAnyM P ops ms rds Q S l.len listed a w
  | .three i pi j pj q pq,has,listed,a,w,hcl,hok,hS,h=>by
    simp only [okPlan3,Bool.and_eq_true,beq_iff_eq] at hok
    obtain ⟨⟨⟨⟨⟨⟨⟨⟨_,_⟩,_⟩,hr⟩,hlen⟩,hlen2⟩,ho1⟩,ho2⟩,ho3⟩:=hok
    have hri:i∈Region.ready .any ops listed:=by rw [hr];simp
    have hrj:j∈Region.ready .any ops listed:=by rw [hr];simp
    have hrq:q∈Region.ready .any ops listed:=by rw [hr];simp
    refine ⟨fun e=>(by rw [e] at hr;cases hr),fun m hm=>?_⟩
    rw [hr] at hm
    rcases List.mem_cons.1 hm with hmi|hm
    · subst hmi
      refine wpOp_mono (fun a' w' h'=>⟨h'.1,wpN_of_M hms hsel hQ pi (has && needsM ms rds m) _ a' w' (hcl.ready hri) ho1 (fun e=>?_) h'.2⟩) h.1
      simp only [Bool.and_eq_true] at e
      exact h'.1 e.2 (hS e.1)
    rcases List.mem_cons.1 hm with hmj|hm
    · subst hmj
      refine wpOp_mono (fun a' w' h'=>⟨h'.1,?_⟩) h.2.1
      have:=wpN_of_M hms hsel hQ pj (has && needsM ms rds m) _ a' w' (hcl.ready hrj) ho2 (fun e=>by
        simp only [Bool.and_eq_true] at e
        exact h'.1 e.2 (hS e.1)) h'.2
      rwa [←hlen] at this
    · have hmq:m=q:=by simpa using hm
      subst hmq
      refine wpOp_mono (fun a' w' h'=>⟨h'.1,?_⟩) h.2.2
      have:=wpN_of_M hms hsel hQ pq (has && needsM ms rds m) _ a' w' (hcl.ready hrq) ho3 (fun e=>by
        simp only [Bool.and_eq_true] at e
        exact h'.1 e.2 (hS e.1)) h'.2
      rwa [←hlen2] at this
  | .op i k rest,has,listed,a,w,hcl,hok,hS,h=>by
    cases hi:ops[i]? with
    | none=>simp [okPlan3,hi] at hok
    | some oi=>
      simp only [okPlan3,hi,Bool.and_eq_true,List.contains_iff_mem] at hok
      obtain ⟨hr,hok⟩:=hok
      simp only [wp3,hi] at h
      match k,hok,h with
      | 0,hok,h=>
        simp only [Bool.and_eq_true] at hok
        obtain ⟨v,hy,h⟩:=h
        refine wpAnyM_first hms (T:=fun _=>True) (rd:=false) hi hsel (fun c a w=>hQ c a _ _ w) (fun e=>by cases e) (fun e=>by cases e) (fun _ _=>trivial) rest.len listed a w hcl (freeM_spec hok.1) hr trivial hy ?_
        exact wpN_of_3 hms hsel hQ rest has _ _ w (hcl.ready hr) hok.2 hS h
      | k+1,hok,h=>
        simp only [Bool.and_eq_true] at hok
        obtain ⟨v,hy,h⟩:=h
        refine wpAnyM_first hms (T:=S) (rd:=true) hi hsel (fun c a w=>hQ c a _ _ w) (fun _ _ h=>h) (fun _ _ h=>h) (fun e=>by cases e) rest.len listed a w hcl (freeM_spec hok.1.2) hr (hS hok.1.1) hy ?_
        exact wpN_of_3 hms hsel hQ rest has _ _ w (hcl.ready hr) hok.2 hS h
theorem wp_region_three0{id:Nat}{a:Go.Act}{w:World}(S:World→Prop)(rds ms:List Nat)(l:Plan3)(hm:P.follows .mixedOrders=true)(hsel:Region.noSelect ops=true)
    (hlen:l.len=ops.size) (hms:okMasks ops ms=true) (hok:okPlan3 ops ms rds true (Array.replicate ops.size false) l=true)
    (hS:S w.drew) (h:wp3 P ops ms rds (onlyNormal Q) S l a w.drew):(Code.region id ops true).wp P Q a w:=by
  refine wp_mono (?_:(Code.region id ops true).wp P (onlyNormal Q) a w) (fun e a w h=>by cases e <;> first|exact h|exact False.elim h)
  refine wp_region_any hm (wpAny_of_M (ms:=ms) (rds:=rds) (S:=S) _ _ _ _ ?_)
  rw [←hlen]
  refine wpN_of_3 hms (fun j o cs b=>Region.noSelect_spec hsel j o cs b) (fun _ _ _ _ _ h=>h) l true _ a _ ?_ (by rw [hlen];exact hok) (fun _=>hS) h
  intro j o ho hj
  rcases Nat.lt_or_ge j l.len with h'|h'
  · simp [h'] at hj
  · have:=(Array.getElem?_eq_some_iff.1 ho).1
    omega
variable {o:Oper} {i:Nat} {rest:Plan3} {a:Go.Act} {w:World}
theorem step30(ho:ops[i]? = some o)(hw:Region.wanted o (yielded ops a.tmps)=true)
    (h:∀ K:Go.Act→Prop,(∀ a,wp3 P ops ms rds Q S rest a w→K a)→∃ v,(∀ w1:World,(execOp a.eval o).run P w1=.ok (.value v) w1)∧K (a.put o.dst v)):wp3 P ops ms rds Q S (.op i 0 rest) a w:=by
  obtain ⟨v,h1,h2⟩:=h _ (fun _ h=>h)
  simp only [wp3,ho]
  exact ⟨v,.inl ⟨hw,fun w1 _=>h1 w1⟩,h2⟩
theorem step32(ho:ops[i]? = some o)(hw:Region.wanted o (yielded ops a.tmps)=true)(v:Value)(h1:∀ w1:World,S w1→(execOp a.eval o).run P w1=.ok (.value v) w1)
    (h:∀ K:Go.Act→Prop,(∀ a,wp3 P ops ms rds Q S rest a w→K a)→K (a.put o.dst v)):wp3 P ops ms rds Q S (.op i 2 rest) a w:=by
  have h2:=h _ (fun _ h=>h)
  simp only [wp3,ho]
  exact ⟨v,.inl ⟨hw,h1⟩,h2⟩
theorem step3three{pi pj pq:Plan}{j q:Nat}(h1:wpM P ops ms rds Q S (.op i 1 pi) a w)(h2:wpM P ops ms rds Q S (.op j 1 pj) a w)(h3:wpM P ops ms rds Q S (.op q 1 pq) a w)(hi:(ops[i]?).isSome=true)(hj:(ops[j]?).isSome=true)(hq:(ops[q]?).isSome=true):wp3 P ops ms rds Q S (.three i pi j pj q pq) a w:=by
  obtain ⟨oi,hi⟩:=Option.isSome_iff_exists.1 hi
  obtain ⟨oj,hj⟩:=Option.isSome_iff_exists.1 hj
  obtain ⟨oq,hq⟩:=Option.isSome_iff_exists.1 hq
  simp only [wpM,hi] at h1
  simp only [wpM,hj] at h2
  simp only [wpM,hq] at h3
  exact ⟨h1,h2,h3⟩
end
end Go.Proofs.YtfpjfoajonbndaaGreatDoor
