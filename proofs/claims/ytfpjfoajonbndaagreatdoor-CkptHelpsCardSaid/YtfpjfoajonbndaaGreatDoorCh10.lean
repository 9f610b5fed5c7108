import Derived.Test.YtfpjfoajonbndaaGreatDoorDiskPlain
import Derived.Test.YtfpjfoajonbndaaGreatDoorCh1
import Derived.Test.YtfpjfoajonbndaaGreatDoorIxPlain
import Derived.Lib.ItoaNum
namespace Go.Proofs.YtfpjfoajonbndaaGreatDoor
structure Vl where
 num:Nat
 gen:Nat
 epoch:Nat
 shut:Bool
 most:Nat
 size:Nat
 idx:List Ps
def numN (n:Nat):Nm:=Go.Lib.decDigits n
def vName (v g:Nat):Nm:=118 :: (numN v ++ 46 :: numN g)
def cName (v g:Nat):Nm:=99 :: (numN v ++ 46 :: numN g)
def mName (v:Nat):Nm:=109 :: numN v
def sName (v:Nat):Nm:=mName v ++ [46,116]
def Vl.file (v:Vl):Nm:=vName v.num v.gen
def wordsB (l:List Nat):List UInt8:=l.flatMap (le 4)
def sealB (b:List UInt8):List UInt8:=b ++ le 4 (sumOf b).toNat
def superB (v g:Nat):List UInt8:=sealB (wordsB [0x43524942,v,g])
def manB (v g e:Nat) (s:Bool):List UInt8:=sealB (wordsB [0x4D414E49,v,g,e,if s then 1 else 0])
theorem wordsB_len:∀ l:List Nat,(wordsB l).length=4 * l.length
 | []=>rfl
 | a :: r=>by
  show (le 4 a ++ wordsB r).length=_
  rw [List.length_append,le_len,wordsB_len r,List.length_cons]
  omega
theorem superB_len(v g:Nat):(superB v g).length=16:=by simp [superB,sealB,wordsB_len,le_len]
theorem manB_len(v g e:Nat)(s:Bool):(manB v g e s).length=24:=by simp [manB,sealB,wordsB_len,le_len]
def Dk.fresh (d:Dk) (s:Nm) (b:List UInt8):Nat×Dk:=
 if (d.create s).1≠0 then d.create s else
 if ((d.create s).2.append s b).1≠0 then (d.create s).2.append s b else
 ((d.create s).2.append s b).2.sync s
def hasName (d:Dk) (s:Nm):Bool:=(dirGet d.now s).isSome
def rightV (v g e:Nat):Bool:=decide (1≤v) && (decide (v≤65535) && (decide (1≤g) && (decide (g≤2147483647) && decide (e≤2147483647))))
def Dk.layTo (d:Dk) (v g e:Nat) (s:Bool):Nat×Dk:=
 if (d.fresh (sName v) (manB v g e s)).1≠0 then d.fresh (sName v) (manB v g e s) else
 if ((d.fresh (sName v) (manB v g e s)).2.rename (sName v) (mName v)).1≠0 then (d.fresh (sName v) (manB v g e s)).2.rename (sName v) (mName v) else
 ((d.fresh (sName v) (manB v g e s)).2.rename (sName v) (mName v)).2.syncNames
def Dk.lay (d:Dk) (v g e:Nat) (s:Bool):Nat×Dk:=
 if rightV v g e=false then (1,d) else
 if hasName d (sName v)=true then (if (d.remove (sName v)).1≠0 then d.remove (sName v) else (d.remove (sName v)).2.layTo v g e s) else d.layTo v g e s
def posOf (off:Nat) (n:Nd):Ps:=⟨n.key,off,n.data.length,n.cookie,n.gone⟩
def Vl.room (v:Vl) (key n:Nat):Bool:=decide (v.size+n≤v.most) && ((ixFind v.idx key).isSome || decide (v.idx.length<4096))
def Vl.write (v:Vl) (d:Dk) (n:Nd):Nat×Dk×Vl:=
 if ndCheck n≠0 then (ndCheck n,d,v) else
 if v.room n.key (ndSize n.data.length)=false then (11,d,v) else
 if (d.append v.file (ndBytes n)).1≠0 then ((d.append v.file (ndBytes n)).1,(d.append v.file (ndBytes n)).2,v) else
 (((d.append v.file (ndBytes n)).2.sync v.file).1,((d.append v.file (ndBytes n)).2.sync v.file).2,{ v with idx:=ixPut v.idx (posOf v.size n),size:=v.size+ndSize n.data.length })
def Vl.find (v:Vl) (key cookie:Nat):Nat×Ps:=
 match ixFind v.idx key with
 | none=>(6,⟨0,0,0,0,false⟩)
 | some p=>if p.gone=true then (7,⟨0,0,0,0,false⟩) else if p.cookie≠cookie then (9,⟨0,0,0,0,false⟩) else (0,p)
def Vl.put (v:Vl) (d:Dk) (n:Nd):Nat×Dk×Vl:=
 if n.gone=true then (1,d,v) else
 if ndCheck n≠0 then (ndCheck n,d,v) else
 if v.shut=true then (10,d,v) else
 match ixFind v.idx n.key with
 | some p=>(if p.gone=true then 7 else 8,d,v)
 | none=>v.write d n
def Vl.del (v:Vl) (d:Dk) (key cookie:Nat):Nat×Dk×Vl:=
 if (v.find key cookie).1≠0 then ((v.find key cookie).1,d,v) else
 if v.shut=true then (10,d,v) else v.write d ⟨key,cookie,true,[]⟩
def Vl.get (v:Vl) (d:Dk) (key cookie:Nat):Nat×Bool×Nd:=
 if (v.find key cookie).1≠0 then ((v.find key cookie).1,false,⟨0,0,false,[]⟩) else
 if (d.read v.file (v.find key cookie).2.off (ndSize (v.find key cookie).2.len)).1≠0 then ((d.read v.file (v.find key cookie).2.off (ndSize (v.find key cookie).2.len)).1,false,⟨0,0,false,[]⟩) else
 if (ndGet (d.read v.file (v.find key cookie).2.off (ndSize (v.find key cookie).2.len)).2).1≠0 then ((ndGet (d.read v.file (v.find key cookie).2.off (ndSize (v.find key cookie).2.len)).2).1,true,⟨0,0,false,[]⟩) else
 if posOf (v.find key cookie).2.off (ndGet (d.read v.file (v.find key cookie).2.off (ndSize (v.find key cookie).2.len)).2).2.1≠(v.find key cookie).2 then (4,true,⟨0,0,false,[]⟩) else
 (0,false,(ndGet (d.read v.file (v.find key cookie).2.off (ndSize (v.find key cookie).2.len)).2).2.1)
def Vl.keys (v:Vl) (key:Nat) (most:Int):List Ps:=if most<1 then [] else (v.idx.drop (ixAt v.idx key)).take most.toNat
def Vl.set (v:Vl) (d:Dk) (e:Int) (s:Bool):Nat×Dk×Vl:=
 if e<0∨2147483647<e then (1,d,v) else if e<v.epoch then (13,d,v) else
 if (d.lay v.num v.gen e.toNat s).1≠0 then ((d.lay v.num v.gen e.toNat s).1,(d.lay v.num v.gen e.toNat s).2,v) else
 (0,(d.lay v.num v.gen e.toNat s).2,{ v with epoch:=e.toNat,shut:=s })
def Vl.lay (v:Vl) (d:Dk) (n:Nd):Nat×Dk×Vl:=
 if ndCheck n≠0 then (ndCheck n,d,v) else
 match ixFind v.idx n.key with
 | none=>v.write d n
 | some p=>
  if p.cookie≠n.cookie then (9,d,v) else if p.gone=true then (0,d,v) else if n.gone=true then v.write d n else
  if (v.get d n.key n.cookie).1≠0 then ((v.get d n.key n.cookie).1,d,v) else
  if (v.get d n.key n.cookie).2.2=n then (0,d,v) else (8,d,v)
def goneN (l:List Ps):Nat:=l.countP fun p=>p.gone
def Dk.make (d:Dk) (num most epoch:Nat):Nat×Dk×Vl:=
 let v:Vl:=⟨num,1,epoch,false,most,16,[]⟩
 if hasName d (mName num)=true then (8,d,v) else
 if (d.fresh (vName num 1) (superB num 1)).1≠0 then ((d.fresh (vName num 1) (superB num 1)).1,(d.fresh (vName num 1) (superB num 1)).2,v) else
 (((d.fresh (vName num 1) (superB num 1)).2.lay num 1 epoch false).1,((d.fresh (vName num 1) (superB num 1)).2.lay num 1 epoch false).2,v)
def ndsB (l:List Nd):List UInt8:=l.flatMap ndBytes
theorem ndsB_append(a b:List Nd):ndsB (a ++ b)=ndsB a ++ ndsB b:=List.flatMap_append
def newest:List Nd→Nat→Nat→Option (Nat×Nd)
 | [],_,_=>none
 | n :: r,off,k=>match newest r (off+(ndBytes n).length) k with|some x=>some x|none=>if n.key=k then some (off,n) else none
theorem newest_snoc:∀ (l:List Nd) (n:Nd) (off k:Nat),newest (l ++ [n]) off k=if n.key=k then some (off+(ndsB l).length,n) else newest l off k
 | [],n,off,k=>by simp [newest,ndsB]
 | a :: r,n,off,k=>by
  show (match newest (r ++ [n]) (off+(ndBytes a).length) k with|some x=>some x|none=>if a.key=k then some (off,a) else none)=_
  rw [newest_snoc r n]
  by_cases h:n.key=k
  ·rw [if_pos h,if_pos h]
   show some _=some _
   congr 2
   show off+(ndBytes a).length+(ndsB r).length=off+(ndBytes a ++ ndsB r).length
   rw [List.length_append]
   omega
  ·rw [if_neg h,if_neg h]
   rfl
theorem newest_some:∀ {l:List Nd} {off k o:Nat} {n:Nd},newest l off k=some (o,n)→n∈l∧n.key=k∧∃ a b,l=a ++ n :: b∧o=off+(ndsB a).length
 | [],_,_,_,_,h=>by cases h
 | a :: r,off,k,o,n,h=>by
  unfold newest at h
  split at h
  ·rename_i x hx
   cases h
   obtain ⟨h1,h2,p,q,h3,h4⟩:=newest_some hx
   refine ⟨List.mem_cons_of_mem _ h1,h2,a :: p,q,by rw [h3];rfl,?_⟩
   rw [h4]
   show _=off+(ndBytes a ++ ndsB p).length
   rw [List.length_append]
   omega
  ·split at h
   ·rename_i hk
    cases h
    exact ⟨List.mem_cons_self,hk,[],r,rfl,by simp [ndsB]⟩
   ·cases h
structure VI (d:Dk) (v:Vl) (ns:List Nd):Prop where
 armed:d.armed = -1
 cap:d.cap=1048576
 num:1≤v.num∧v.num≤65535
 gen:v.gen=1
 epoch:v.epoch≤2147483647
 now:∃ f g,f≠g∧d.now.length=2∧dirGet d.now v.file=some f∧dirGet d.now (mName v.num)=some g∧(d.fileAt f).b=superB v.num 1 ++ ndsB ns∧(d.fileAt g).b.length=24
 size:v.size=16+(ndsB ns).length
 most:v.size≤v.most
 ok:∀ n∈ns,NdOk n
 srt:IxS v.idx
 idx:∀ k,ixFind v.idx k=(newest ns 16 k).map fun x=>posOf x.1 x.2
 len:v.idx.length≤ns.length
theorem digits_ok(n:Nat):(numN n).all okc=true∧numN n≠[]:=by
 unfold numN
 induction n using Nat.strongRecOn with
 | _ n ih=>
  have hd:∀ k,k<10→okc (UInt8.ofNat (48+k))=true:=by decide
  rw [Go.Lib.decDigits]
  split
  ·rename_i h
   refine ⟨?_,by simp⟩
   rw [List.all_cons,hd n h]
   rfl
  ·rename_i h
   obtain ⟨h1,h2⟩:=ih (n / 10) (by omega)
   refine ⟨?_,by simp⟩
   rw [List.all_append,h1,List.all_cons,hd (n % 10) (Nat.mod_lt _ (by omega))]
   rfl
theorem digits_len{n k:Nat}(h:n<10 ^ k)(hk:0<k):(numN n).length≤k:=by
 unfold numN
 rw [Go.Lib.decDigits_length]
 induction k generalizing n with
 | zero=>omega
 | succ k ih=>
  by_cases h1:n<10
  ·rw [Go.Lib.nDigits_small h1];omega
  ·rw [Go.Lib.nDigits_big h1]
   have:n / 10<10 ^ k:=by rw [Nat.pow_succ] at h;omega
   by_cases hk0:0<k
   ·have:=ih this hk0;omega
   ·have:k=0:=by omega
    subst this
    omega
theorem named_v{v g:Nat}(hv:v≤65535)(hg:g≤2147483647):namedB (vName v g)=true:=by
 have h1:=digits_ok v
 have h2:=digits_ok g
 have h3:=digits_len (n:=v) (k:=5) (by omega) (by omega)
 have h4:=digits_len (n:=g) (k:=10) (by omega) (by omega)
 unfold namedB vName
 simp only [List.isEmpty_cons,Bool.not_false,Bool.true_and,List.all_cons,List.all_append,h1.1,h2.1,Bool.and_true]
 have:(118 :: (numN v ++ 46 :: numN g)).length≤32:=by simp;omega
 simp only [this,decide_true,Bool.true_and]
 decide
theorem named_m{v:Nat}(hv:v≤65535):namedB (mName v)=true:=by
 have h1:=digits_ok v
 have h3:=digits_len (n:=v) (k:=5) (by omega) (by omega)
 unfold namedB mName
 simp only [List.isEmpty_cons,Bool.not_false,Bool.true_and,List.all_cons,h1.1,Bool.and_true]
 have:(109 :: numN v).length≤32:=by simp;omega
 simp only [this,decide_true,Bool.true_and]
 decide
theorem named_s{v:Nat}(hv:v≤65535):namedB (sName v)=true:=by
 have h1:=digits_ok v
 have h3:=digits_len (n:=v) (k:=5) (by omega) (by omega)
 unfold namedB sName mName
 simp only [List.cons_append,List.isEmpty_cons,Bool.not_false,Bool.true_and,List.all_cons,List.all_append,h1.1]
 have:(109 :: (numN v ++ [46,116])).length≤32:=by simp;omega
 simp only [this,decide_true,Bool.true_and]
 decide
theorem v_ne_m(v g u:Nat):vName v g≠mName u:=fun e=>by injection e with e _;exact absurd e (by decide)
theorem v_ne_s(v g u:Nat):vName v g≠sName u:=fun e=>by injection e with e _;exact absurd e (by decide)
theorem s_ne_m(v:Nat):sName v≠mName v:=fun e=>by
 have:=congrArg List.length e
 simp [sName] at this
theorem fileAt_set{d:Dk}{f:Nat}{x:DFile}(h:f<d.files.length):(d.setF f x).fileAt f=x:=by
 unfold Dk.fileAt Dk.setF
 simp [h]
theorem fileAt_ne{d:Dk}{f g:Nat}{x:DFile}(h:f≠g):(d.setF f x).fileAt g=d.fileAt g:=by
 unfold Dk.fileAt Dk.setF
 simp [h]
theorem fileAt_lt{d:Dk}{f:Nat}(h:(d.fileAt f).b≠[]):f<d.files.length:=by
 apply Classical.byContradiction
 intro hf
 apply h
 unfold Dk.fileAt
 rw [List.getElem?_eq_none (by omega)]
 rfl
theorem did_off{d:Dk}(h:d.armed = -1):d.did=d:=by
 unfold Dk.did
 rw [if_neg (by omega)]
theorem used_two{d:Dk}{a b:Nm}{f g:Nat}(hl:d.now.length=2)(ha:dirGet d.now a=some f)(hb:dirGet d.now b=some g)(hab:a≠b):d.used=(d.fileAt f).b.length+(d.fileAt g).b.length:=by
 have h1:=get_mem ha
 have h2:=get_mem hb
 unfold Dk.used
 match e:d.now,hl with
 | [x,y],_=>
  rw [e] at h1 h2
  simp only [List.map_cons,List.map_nil,List.sum_cons,List.sum_nil]
  rcases List.mem_cons.1 h1 with h1|h1
  ·rcases List.mem_cons.1 h2 with h2|h2
   ·rw [←h1] at h2
    exact absurd (congrArg Prod.fst h2).symm hab
   ·rcases List.mem_cons.1 h2 with h2|h2
    ·rw [←h1,←h2];simp
    ·exact absurd h2 List.not_mem_nil
  ·rcases List.mem_cons.1 h1 with h1|h1
   ·rcases List.mem_cons.1 h2 with h2|h2
    ·rw [←h1,←h2];simp;omega
    ·rcases List.mem_cons.1 h2 with h2|h2
     ·rw [←h1] at h2
      exact absurd (congrArg Prod.fst h2).symm hab
     ·exact absurd h2 List.not_mem_nil
   ·exact absurd h1 List.not_mem_nil
theorem ndCheck_ok{n:Nd}(h:ndCheck n=0):n.data.length≤4096∧(n.gone=true→n.data=[]):=by
 unfold ndCheck at h
 split at h
 ·cases h
 ·split at h
  ·cases h
  ·rename_i h1 h2
   refine ⟨by omega,fun hg=>?_⟩
   have:¬ 0<n.data.length:=fun e=>h2 ⟨hg,e⟩
   exact List.eq_nil_of_length_eq_zero (by omega)
theorem VI.write{d:Dk}{v:Vl}{ns:List Nd}{n:Nd}(h:VI d v ns)(hk:n.key<18446744073709551616)(hck:n.cookie<4294967296)(hc:ndCheck n=0)(hr:v.room n.key (ndSize n.data.length)=true)(hcap:v.size+ndSize n.data.length+24≤1048576) :
  ∃ d' v',v.write d n=(0,d',v')∧VI d' v' (ns ++ [n])∧v' = { v with idx:=ixPut v.idx (posOf v.size n),size:=v.size+ndSize n.data.length }:=by
 obtain ⟨f,g,hfg,hl,hf,hg,hfb,hgb⟩:=h.now
 have hck2:=ndCheck_ok hc
 have hnd:NdOk n:=⟨hk,hck,hck2.1,hck2.2⟩
 have hflen:(d.fileAt f).b.length=v.size:=by rw [hfb,List.length_append,superB_len,h.size]
 have hlt:f<d.files.length:=fileAt_lt (by intro e;rw [e] at hflen;have:=h.size;simp at hflen;omega)
 have ha:d.armed≠0:=by rw [h.armed];decide
 have hfnd:d.fnd v.file=(0,f):=by unfold Dk.fnd;rw [if_neg ha,hf]
 have hu:=used_two hl hf hg (v_ne_m _ _ _)
 rw [hflen,hgb] at hu
 have hb:=ndBytes_len n
 have hap:d.append v.file (ndBytes n)=(0,d.setF f ⟨(d.fileAt f).b ++ ndBytes n,(d.fileAt f).lasts⟩):=by
  unfold Dk.append
  rw [hfnd,if_neg (by simp),if_neg (by rw [hflen,hb];omega),if_neg (by rw [hu,hb,h.cap];omega)]
  rw [did_off (by show d.armed = -1;exact h.armed)]
 obtain ⟨d1,hd1⟩:∃ d1,d1=d.setF f ⟨(d.fileAt f).b ++ ndBytes n,(d.fileAt f).lasts⟩:=⟨_,rfl⟩
 rw [←hd1] at hap
 have h1a:d1.armed = -1:=by rw [hd1];exact h.armed
 have h1n:d1.now=d.now:=by rw [hd1];rfl
 have h1f:(d1.fileAt f)=⟨(d.fileAt f).b ++ ndBytes n,(d.fileAt f).lasts⟩:=by rw [hd1];exact fileAt_set hlt
 have h1g:d1.fileAt g=d.fileAt g:=by rw [hd1];exact fileAt_ne hfg
 have h1l:d1.files.length=d.files.length:=by rw [hd1];simp [Dk.setF]
 have hfnd1:d1.fnd v.file=(0,f):=by unfold Dk.fnd;rw [if_neg (by rw [h1a];decide),h1n,hf]
 have hsy:d1.sync v.file=(0,d1.setF f ⟨(d1.fileAt f).b,(d1.fileAt f).b.length⟩):=by
  unfold Dk.sync
  rw [hfnd1,if_neg (by simp)]
  rw [did_off (by show d1.armed = -1;exact h1a)]
 refine ⟨d1.setF f ⟨(d1.fileAt f).b,(d1.fileAt f).b.length⟩,{ v with idx:=ixPut v.idx (posOf v.size n),size:=v.size+ndSize n.data.length },?_,?_,rfl⟩
 ·unfold Vl.write
  rw [if_neg (by rw [hc];simp),if_neg (by rw [hr];simp),hap,if_neg (by simp),hsy]
 ·have hix:=ixFind_put v.idx (posOf v.size n)
  refine ⟨h1a,by show d1.cap=_;rw [hd1];exact h.cap,h.num,h.gen,h.epoch,⟨f,g,hfg,by show d1.now.length=2;rw [h1n];exact hl,by show dirGet d1.now _=_;rw [h1n];exact hf,by show dirGet d1.now _=_;rw [h1n];exact hg,?_,?_⟩,?_,?_,?_,h.srt.put,?_,?_⟩
  ·rw [fileAt_set (by rw [h1l];exact hlt),h1f]
   show (d.fileAt f).b ++ ndBytes n=superB v.num 1 ++ ndsB (ns ++ [n])
   rw [hfb,ndsB_append,List.append_assoc]
   congr 2
   simp [ndsB]
  ·rw [fileAt_ne hfg,h1g]
   exact hgb
  ·show v.size+ndSize n.data.length=16+(ndsB (ns ++ [n])).length
   rw [ndsB_append,List.length_append,h.size]
   have:(ndsB [n]).length=ndSize n.data.length:=by simp [ndsB,hb]
   omega
  ·show v.size+ndSize n.data.length≤v.most
   unfold Vl.room at hr
   simp only [Bool.and_eq_true,decide_eq_true_eq] at hr
   exact hr.1
  ·intro m hm
   rcases List.mem_append.1 hm with hm|hm
   ·exact h.ok m hm
   ·obtain rfl:m=n:=by simpa using hm
    exact hnd
  ·intro k
   show ixFind (ixPut v.idx (posOf v.size n)) k=_
   rw [hix k h.srt,newest_snoc]
   by_cases e:n.key=k
   ·have e':(posOf v.size n).key=k:=e
    rw [if_pos e',if_pos e,Option.map_some,h.size]
   ·have e':¬ (posOf v.size n).key=k:=e
    rw [if_neg e',if_neg e]
    exact h.idx k
  ·show (ixPut v.idx (posOf v.size n)).length≤(ns ++ [n]).length
   rw [ixPut_len h.srt,List.length_append]
   have:=h.len
   split <;> simp <;> omega
theorem VI.find{d:Dk}{v:Vl}{ns:List Nd}(h:VI d v ns)(key cookie:Nat):(v.find key cookie).1=(match newest ns 16 key with|none=>6|some x=>if x.2.gone=true then 7 else if x.2.cookie≠cookie then 9 else 0)∧∀ x,newest ns 16 key=some x→x.2.gone=false→x.2.cookie=cookie→v.find key cookie=(0,posOf x.1 x.2):=by
 unfold Vl.find
 rw [h.idx key]
 cases e:newest ns 16 key with
 | none=>exact ⟨rfl,fun x hx=>by cases hx⟩
 | some x=>
  obtain ⟨o,n⟩:=x
  simp only [Option.map_some]
  refine ⟨?_,fun y hy hg hc=>?_⟩
  ·show (if n.gone=true then _ else if n.cookie≠cookie then _ else _:Nat×Ps).1=_
   by_cases hg:n.gone=true
   ·rw [if_pos hg,if_pos hg]
   ·rw [if_neg hg,if_neg hg]
    by_cases hc:n.cookie≠cookie
    ·rw [if_pos hc,if_pos hc]
    ·rw [if_neg hc,if_neg hc]
  ·cases hy
   simp only at hg hc
   show (if n.gone=true then _ else if n.cookie≠cookie then _ else _:Nat×Ps)=_
   rw [if_neg (by rw [hg];simp),if_neg (by rw [hc];simp)]
theorem VI.got{d:Dk}{v:Vl}{ns:List Nd}(h:VI d v ns){key o:Nat}{n:Nd}(hx:newest ns 16 key=some (o,n))(hg:n.gone=false):v.get d key n.cookie=(0,false,n):=by
 obtain ⟨f,g,hfg,hl,hf,hgn,hfb,hgb⟩:=h.now
 obtain ⟨hm,hk,a,b,hab,ho⟩:=newest_some hx
 have hok:=h.ok n hm
 have hfd:=(h.find key n.cookie).2 (o,n) hx hg rfl
 have ha:d.armed≠0:=by rw [h.armed];decide
 have hfnd:d.fnd v.file=(0,f):=by unfold Dk.fnd;rw [if_neg ha,hf]
 have hb:=ndBytes_len n
 have hlen:(d.fileAt f).b.length=16+(ndsB a).length+ndSize n.data.length+(ndsB b).length:=by
  rw [hfb,List.length_append,superB_len,hab,ndsB_append,List.length_append]
  show 16+((ndsB a).length+(ndBytes n ++ ndsB b).length)=_
  rw [List.length_append,hb]
  omega
 have hcut:((d.fileAt f).b.drop (16+(ndsB a).length)).take (ndSize n.data.length)=ndBytes n:=by
  have e:(d.fileAt f).b=(superB v.num 1 ++ ndsB a) ++ (ndBytes n ++ ndsB b):=by
   rw [hfb,hab,ndsB_append,List.append_assoc]
   rfl
  have l:(superB v.num 1 ++ ndsB a).length=16+(ndsB a).length:=by rw [List.length_append,superB_len]
  rw [e,←l,List.drop_left,←hb,List.take_left]
 have hrd:d.read v.file o (ndSize n.data.length)=(0,ndBytes n):=by
  unfold Dk.read
  rw [hfnd,if_neg (by simp),if_neg (by omega),if_neg (by rw [hlen,ho];omega)]
  rw [ho]
  have e1:((16+(ndsB a).length:Nat):Int).toNat=16+(ndsB a).length:=rfl
  have e2:((ndSize n.data.length:Nat):Int).toNat=ndSize n.data.length:=rfl
  rw [e1,e2,hcut]
 have hget:=ndGet_put hok []
 rw [List.append_nil] at hget
 unfold Vl.get
 have hrd':d.read v.file (posOf o n).off (ndSize (posOf o n).len)=(0,ndBytes n):=hrd
 rw [hfd]
 simp only [ne_eq,not_true_eq_false,if_false,hrd',hget]
 rw [if_neg (fun e=>e rfl)]
theorem del_none{l:Dir}{s:Nm}(h:∀ p∈l,p.1≠s):dirDel l s=l:=by
 unfold dirDel
 rw [List.filter_eq_self]
 intro p hp
 simpa using h p hp
theorem del_ins(f:Nat){s:Nm}:∀ {l:Dir},(∀ p∈l,p.1≠s)→dirDel (dirIns (s,f) l) s=l
 | [],_=>by simp [dirIns,dirDel]
 | y :: r,h=>by
  have hy:=h y List.mem_cons_self
  have hr:=fun p hp=>h p (List.mem_cons_of_mem _ hp)
  unfold dirIns
  split
  ·show dirDel ((s,f) :: y :: r) s=_
   have:dirDel ((s,f) :: y :: r) s=dirDel (y :: r) s:=by simp [dirDel]
   rw [this,del_none h]
  ·have e:dirDel (y :: dirIns (s,f) r) s=y :: dirDel (dirIns (s,f) r) s:=by
    have:(y.1 == s)=false:=by simpa using hy
    simp [dirDel,this]
   rw [e,del_ins f hr]
theorem sum_ins(g:Nm×Nat→Nat)(x:Nm×Nat):∀ l:Dir,((dirIns x l).map g).sum=g x+(l.map g).sum
 | []=>by simp [dirIns]
 | y :: r=>by
  unfold dirIns
  split
  ·simp
  ·simp only [List.map_cons,List.sum_cons,sum_ins g x r]
   omega
theorem set_last{α:Type}(l:List α)(x y:α):(l ++ [x]).set l.length y=l ++ [y]:=by
 rw [List.set_append_right _ _ (Nat.le_refl _)]
 simp
theorem fresh_new{d:Dk}{s:Nm}{b:List UInt8}(ha:d.armed = -1)(hn:namedB s=true)(hg:dirGet d.now s=none)(h64:d.now.length<64)(hb:b.length≤16777216)(hc:d.used+b.length≤d.cap)(hf:∀ p∈d.now,p.2<d.files.length) :
  d.fresh s b=(0,{ d with files:=d.files ++ [⟨b,b.length⟩],now:=dirPut d.now s d.files.length,deeds:=d.deeds ++ [⟨0,[],s,d.files.length⟩] }):=by
 have h0:d.armed≠0:=by rw [ha];decide
 have hno:=get_none hg
 obtain ⟨d1,hd1⟩:∃ d1:Dk,d1 = { d with files:=d.files ++ [⟨[],0⟩],now:=dirPut d.now s d.files.length,deeds:=d.deeds ++ [⟨0,[],s,d.files.length⟩] }:=⟨_,rfl⟩
 have hcr:d.create s=(0,d1):=by
  unfold Dk.create
  rw [if_neg h0,if_neg (by rw [hn];simp),if_neg (by rw [hg];simp),if_neg (by omega)]
  congr 1
  unfold Dk.turn
  rw [did_off (by show d.armed = -1;exact ha),hd1]
  rfl
 have h1a:d1.armed = -1:=by rw [hd1];exact ha
 have h1f:d1.fnd s=(0,d.files.length):=by
  unfold Dk.fnd
  rw [if_neg (by rw [h1a];decide)]
  have:dirGet d1.now s=some d.files.length:=by rw [hd1];exact get_put_same _ _ _
  rw [this]
 have h1at:∀ i,i<d.files.length→d1.fileAt i=d.fileAt i:=fun i hi=>by
  rw [hd1]
  unfold Dk.fileAt
  simp only [List.getElem?_append_left hi]
 have h1n:d1.fileAt d.files.length=⟨[],0⟩:=by
  rw [hd1]
  unfold Dk.fileAt
  simp
 have hu:d1.used=d.used:=by
  unfold Dk.used
  have:d1.now=dirIns (s,d.files.length) d.now:=by rw [hd1];show dirPut _ _ _=_;unfold dirPut;rw [del_none hno]
  rw [this,sum_ins]
  show (d1.fileAt d.files.length).b.length+_=_
  rw [h1n]
  simp only [List.length_nil,Nat.zero_add]
  congr 1
  exact List.map_congr_left fun p hp=>by rw [h1at p.2 (hf p hp)]
 obtain ⟨d2,hd2⟩:∃ d2,d2=d1.setF d.files.length ⟨b,0⟩:=⟨_,rfl⟩
 have hap:d1.append s b=(0,d2):=by
  unfold Dk.append
  have hcap:d1.cap=d.cap:=by rw [hd1]
  rw [h1f,if_neg (by simp),if_neg (by rw [h1n];simp;omega),if_neg (by rw [hu,hcap];omega)]
  rw [did_off (by show d1.armed = -1;exact h1a),h1n,hd2]
  rfl
 have h2a:d2.armed = -1:=by rw [hd2];exact h1a
 have h2n:d2.now=d1.now:=by rw [hd2];rfl
 have h2l:d.files.length<d1.files.length:=by rw [hd1];simp
 have h2f:d2.fnd s=(0,d.files.length):=by
  unfold Dk.fnd
  rw [if_neg (by rw [h2a];decide),h2n]
  have:dirGet d1.now s=some d.files.length:=by rw [hd1];exact get_put_same _ _ _
  rw [this]
 have h2at:d2.fileAt d.files.length=⟨b,0⟩:=by rw [hd2];exact fileAt_set h2l
 have hsy:d2.sync s=(0,d2.setF d.files.length ⟨b,b.length⟩):=by
  unfold Dk.sync
  rw [h2f,if_neg (by simp),h2at]
  rw [did_off (by show d2.armed = -1;exact h2a)]
 unfold Dk.fresh
 rw [hcr,if_neg (by simp),hap,if_neg (by simp),hsy,hd2,hd1]
 congr 1
 unfold Dk.setF
 simp only [set_last]
theorem VI.make{num most epoch:Nat}(h1:1≤num)(h2:num≤65535)(hm:16≤most)(he:epoch≤2147483647) :
  ∃ d,(Dk.new 1048576).make num most epoch=(0,d,⟨num,1,epoch,false,most,16,[]⟩)∧VI d ⟨num,1,epoch,false,most,16,[]⟩ []:=by
 have hs:=superB_len num 1
 have hmn:=manB_len num 1 epoch false
 have hvm:=v_ne_m num 1 num
 have hvs:=v_ne_s num 1 num
 have hsm:=s_ne_m num
 have f1:=fresh_new (d:=Dk.new 1048576) (s:=vName num 1) (b:=superB num 1) rfl (named_v h2 (by omega)) rfl (by show 0<64;omega) (by omega) (by show 0+(superB num 1).length≤1048576;omega) (fun p hp=>absurd hp List.not_mem_nil)
 obtain ⟨d1,hd1⟩:∃ d1:Dk,d1=⟨1048576,[(vName num 1,0)],[],[⟨0,[],vName num 1,0⟩],[⟨superB num 1,(superB num 1).length⟩],-1⟩:=⟨_,rfl⟩
 have f1':(Dk.new 1048576).fresh (vName num 1) (superB num 1)=(0,d1):=by rw [f1,hd1];rfl
 have n1:dirGet d1.now (sName num)=none:=by
  rw [hd1]
  have:(vName num 1 == sName num)=false:=by simpa using hvs
  simp [dirGet,this]
 have u1:d1.used=16:=by rw [hd1];simp [Dk.used,Dk.fileAt,hs]
 have f2:=fresh_new (d:=d1) (s:=sName num) (b:=manB num 1 epoch false) (by rw [hd1]) (named_s h2) n1 (by rw [hd1];show 1<64;omega) (by omega) (by rw [u1,hmn,hd1];show 16+24≤1048576;omega) (fun p hp=>by rw [hd1] at hp ⊢;obtain rfl:=List.mem_singleton.1 hp;show 0<1;omega)
 obtain ⟨d2,hd2⟩:∃ d2:Dk,d2 = { d1 with files:=d1.files ++ [⟨manB num 1 epoch false,(manB num 1 epoch false).length⟩],now:=dirPut d1.now (sName num) d1.files.length,deeds:=d1.deeds ++ [⟨0,[],sName num,d1.files.length⟩] }:=⟨_,rfl⟩
 rw [←hd2] at f2
 have l1:d1.files.length=1:=by rw [hd1];rfl
 have a2:d2.armed = -1:=by rw [hd2,hd1]
 have g2:d2.fnd (sName num)=(0,1):=by
  unfold Dk.fnd
  rw [if_neg (by rw [a2];decide)]
  have:dirGet d2.now (sName num)=some 1:=by rw [hd2,l1];exact get_put_same _ _ _
  rw [this]
 obtain ⟨d3,hd3⟩:∃ d3:Dk,d3 = { d2 with now:=dirPut [(vName num 1,0)] (mName num) 1,deeds:=d2.deeds ++ [⟨1,sName num,mName num,1⟩] }:=⟨_,rfl⟩
 have e1:d1.now=[(vName num 1,0)]:=by rw [hd1]
 have hno:∀ p∈d1.now,p.1≠sName num:=get_none n1
 have e2:dirDel d2.now (sName num)=[(vName num 1,0)]:=by
  rw [hd2,l1]
  show dirDel (dirPut d1.now (sName num) 1) (sName num)=_
  unfold dirPut
  rw [del_none hno,del_ins 1 hno,e1]
 have r3:d2.rename (sName num) (mName num)=(0,d3):=by
  unfold Dk.rename
  rw [g2,if_neg (by simp),if_neg (by rw [named_m h2];simp)]
  congr 1
  unfold Dk.turn
  rw [did_off (by show d2.armed = -1;exact a2),hd3]
  have:(⟨1,sName num,mName num,1⟩:Deed).app d2.now=dirPut (dirDel d2.now (sName num)) (mName num) 1:=rfl
  rw [this,e2]
 have a3:d3.armed = -1:=by rw [hd3];exact a2
 have s3:d3.syncNames=(0,{ d3 with lasting:=d3.now,deeds:=[] }):=by
  unfold Dk.syncNames
  rw [if_neg (by rw [a3];decide),did_off (by show d3.armed = -1;exact a3)]
 refine ⟨{ d3 with lasting:=d3.now,deeds:=[] },?_,?_⟩
 ·unfold Dk.make
  have hh:hasName (Dk.new 1048576) (mName num)=false:=rfl
  have hr:rightV num 1 epoch=true:=by unfold rightV;simp;omega
  have hh2:hasName d1 (sName num)=false:=by unfold hasName;rw [n1];rfl
  have hl:d1.lay num 1 epoch false=(0,{ d3 with lasting:=d3.now,deeds:=[] }):=by
   unfold Dk.lay
   rw [if_neg (by rw [hr];simp),if_neg (by rw [hh2];simp)]
   unfold Dk.layTo
   rw [f2,if_neg (by simp),r3,if_neg (by simp),s3]
  rw [if_neg (by rw [hh];simp),f1',if_neg (by simp),hl]
 ·have n4:d3.now=dirPut [(vName num 1,0)] (mName num) 1:=by rw [hd3]
  have fl:d3.files=[⟨superB num 1,(superB num 1).length⟩,⟨manB num 1 epoch false,(manB num 1 epoch false).length⟩]:=by rw [hd3,hd2,hd1];rfl
  refine ⟨a3,by show d3.cap=_;rw [hd3,hd2,hd1],⟨h1,h2⟩,rfl,he,⟨0,1,by omega,?_,?_,?_,?_,?_⟩,by simp [ndsB],hm,fun n hn=>absurd hn List.not_mem_nil,List.Pairwise.nil,fun k=>rfl,Nat.le_refl _⟩
  ·show d3.now.length=2
   rw [n4]
   unfold dirPut
   rw [del_none (fun p hp=>by obtain rfl:=List.mem_singleton.1 hp;exact hvm),len_ins]
   rfl
  ·show dirGet d3.now (vName num 1)=some 0
   rw [n4,get_put_other _ _ hvm]
   simp [dirGet]
  ·show dirGet d3.now (mName num)=some 1
   rw [n4,get_put_same]
  ·show (d3.fileAt 0).b=_
   unfold Dk.fileAt
   rw [fl]
   simp [ndsB]
  ·show (d3.fileAt 1).b.length=_
   unfold Dk.fileAt
   rw [fl]
   exact hmn
theorem two_mem{l:Dir}{a b:Nm}{f g:Nat}(hl:l.length=2)(ha:dirGet l a=some f)(hb:dirGet l b=some g)(hab:a≠b):l=[(a,f),(b,g)]∨l=[(b,g),(a,f)]:=by
 have h1:=get_mem ha
 have h2:=get_mem hb
 match l,hl with
 | [x,y],_=>
  rcases List.mem_cons.1 h1 with h1|h1
  ·rcases List.mem_cons.1 h2 with h2|h2
   ·rw [←h1] at h2
    exact absurd (congrArg Prod.fst h2).symm hab
   ·rcases List.mem_cons.1 h2 with h2|h2
    ·exact .inl (by rw [h1,h2])
    ·exact absurd h2 List.not_mem_nil
  ·rcases List.mem_cons.1 h1 with h1|h1
   ·rcases List.mem_cons.1 h2 with h2|h2
    ·exact .inr (by rw [h1,h2])
    ·rcases List.mem_cons.1 h2 with h2|h2
     ·rw [←h1] at h2
      exact absurd (congrArg Prod.fst h2).symm hab
     ·exact absurd h2 List.not_mem_nil
   ·exact absurd h1 List.not_mem_nil
theorem VI.lay{d:Dk}{v:Vl}{ns:List Nd}(h:VI d v ns)(e:Nat)(s:Bool)(he:e≤2147483647)(hcap:v.size+48≤1048576):∃ d',d.lay v.num v.gen e s=(0,d')∧VI d' { v with epoch:=e,shut:=s } ns:=by
 obtain ⟨f,g,hfg,hl,hf,hg,hfb,hgb⟩:=h.now
 have hvm:v.file≠mName v.num:=v_ne_m _ _ _
 have hvs:v.file≠sName v.num:=v_ne_s _ _ _
 have hsm:=s_ne_m v.num
 have hflen:(d.fileAt f).b.length=v.size:=by rw [hfb,List.length_append,superB_len,h.size]
 have hltf:f<d.files.length:=fileAt_lt (by intro e;rw [e] at hflen;have:=h.size;simp at hflen;omega)
 have hltg:g<d.files.length:=fileAt_lt (by intro e;rw [e] at hgb;simp at hgb)
 have htwo:=two_mem hl hf hg hvm
 have hno:∀ p∈d.now,p.1≠sName v.num:=fun p hp=>by
  rcases htwo with e|e <;> rw [e] at hp <;> simp only [List.mem_cons,List.not_mem_nil,or_false] at hp <;> rcases hp with rfl|rfl
  ·exact hvs
  ·exact fun e=>hsm e.symm
  ·exact fun e=>hsm e.symm
  ·exact hvs
 have hin:∀ p∈d.now,p.2<d.files.length:=fun p hp=>by
  rcases htwo with e|e <;> rw [e] at hp <;> simp only [List.mem_cons,List.not_mem_nil,or_false] at hp <;> rcases hp with rfl|rfl <;> assumption
 have hsn:dirGet d.now (sName v.num)=none:=by
  cases e:dirGet d.now (sName v.num) with
  | none=>rfl
  | some x=>exact absurd rfl (hno _ (get_mem e))
 have hu:=used_two hl hf hg hvm
 rw [hflen,hgb] at hu
 have hml:=manB_len v.num v.gen e s
 have f2:=fresh_new (d:=d) (s:=sName v.num) (b:=manB v.num v.gen e s) h.armed (named_s h.num.2) hsn (by omega) (by omega) (by rw [hu,hml,h.cap];omega) hin
 obtain ⟨N,hN⟩:∃ N,N=d.files.length:=⟨_,rfl⟩
 rw [←hN] at f2 hltf hltg
 obtain ⟨d2,hd2⟩:∃ d2:Dk,d2 = { d with files:=d.files ++ [⟨manB v.num v.gen e s,(manB v.num v.gen e s).length⟩],now:=dirPut d.now (sName v.num) N,deeds:=d.deeds ++ [⟨0,[],sName v.num,N⟩] }:=⟨_,rfl⟩
 rw [←hd2] at f2
 have a2:d2.armed = -1:=by rw [hd2];exact h.armed
 have g2:d2.fnd (sName v.num)=(0,N):=by
  unfold Dk.fnd
  rw [if_neg (by rw [a2];decide)]
  have:dirGet d2.now (sName v.num)=some N:=by rw [hd2];exact get_put_same _ _ _
  rw [this]
 obtain ⟨d3,hd3⟩:∃ d3:Dk,d3 = { d2 with now:=dirPut d.now (mName v.num) N,deeds:=d2.deeds ++ [⟨1,sName v.num,mName v.num,N⟩] }:=⟨_,rfl⟩
 have e2:dirDel d2.now (sName v.num)=d.now:=by
  rw [hd2]
  show dirDel (dirPut d.now (sName v.num) N) (sName v.num)=_
  unfold dirPut
  rw [del_none hno,del_ins N hno]
 have r3:d2.rename (sName v.num) (mName v.num)=(0,d3):=by
  unfold Dk.rename
  rw [g2,if_neg (by simp),if_neg (by rw [named_m h.num.2];simp)]
  congr 1
  unfold Dk.turn
  rw [did_off (by show d2.armed = -1;exact a2),hd3]
  have:(⟨1,sName v.num,mName v.num,N⟩:Deed).app d2.now=dirPut (dirDel d2.now (sName v.num)) (mName v.num) N:=rfl
  rw [this,e2]
 have a3:d3.armed = -1:=by rw [hd3];exact a2
 have s3:d3.syncNames=(0,{ d3 with lasting:=d3.now,deeds:=[] }):=by
  unfold Dk.syncNames
  rw [if_neg (by rw [a3];decide),did_off (by show d3.armed = -1;exact a3)]
 refine ⟨{ d3 with lasting:=d3.now,deeds:=[] },?_,?_⟩
 ·have hr:rightV v.num v.gen e=true:=by
   have h1:=h.num
   have h2:=h.gen
   unfold rightV
   simp
   omega
  have hh2:hasName d (sName v.num)=false:=by unfold hasName;rw [hsn];rfl
  unfold Dk.lay
  rw [if_neg (by rw [hr];simp),if_neg (by rw [hh2];simp)]
  unfold Dk.layTo
  rw [f2,if_neg (by simp),r3,if_neg (by simp),s3]
 ·have n4:d3.now=dirPut d.now (mName v.num) N:=by rw [hd3]
  have fl:d3.files=d.files ++ [⟨manB v.num v.gen e s,(manB v.num v.gen e s).length⟩]:=by rw [hd3,hd2]
  have hfe:d3.fileAt f=d.fileAt f:=by
   unfold Dk.fileAt
   rw [fl,List.getElem?_append_left (by omega)]
  refine ⟨a3,by show d3.cap=_;rw [hd3,hd2];exact h.cap,h.num,h.gen,he,⟨f,N,by omega,?_,?_,?_,?_,?_⟩,h.size,h.most,h.ok,h.srt,h.idx,h.len⟩
  ·show d3.now.length=2
   rw [n4]
   unfold dirPut
   rw [len_ins]
   have hb1:(v.file == mName v.num)=false:=by simpa using hvm
   rcases htwo with e|e <;> rw [e] <;> simp [dirDel,hb1]
  ·show dirGet d3.now v.file=some f
   rw [n4,get_put_other _ _ hvm]
   exact hf
  ·show dirGet d3.now (mName v.num)=some N
   rw [n4,get_put_same]
  ·show (d3.fileAt f).b=_
   rw [hfe]
   exact hfb
  ·show (d3.fileAt N).b.length=_
   unfold Dk.fileAt
   rw [fl,hN]
   simp [hml]
structure Rv where
 num:Nat
 most:Nat
 epoch:Nat
 size:Nat
 shut:Bool
 l:List Ps
 d:List Nd
def Rv.of (v:Vl) (ns:List Nd):Rv:=⟨v.num,v.most,v.epoch,v.size,v.shut,v.idx,ns⟩
def lastOf:List Nd→Nat→Option Nd
 | [],_=>none
 | n :: r,k=>match lastOf r k with|some x=>some x|none=>if n.key=k then some n else none
theorem newest_last:∀ (l:List Nd) (off k:Nat),(newest l off k).map (·.2)=lastOf l k
 | [],_,_=>rfl
 | n :: r,off,k=>by
  have ih:=newest_last r (off+(ndBytes n).length) k
  unfold newest lastOf
  cases e:newest r (off+(ndBytes n).length) k with
  | some x=>
   rw [e] at ih
   rw [←ih]
   rfl
  | none=>
   rw [e] at ih
   rw [←ih]
   show Option.map _ (if n.key=k then some (off,n) else none)=if n.key=k then some n else none
   split <;> rfl
def Rv.write (v:Rv) (n:Nd):Nat×Rv:=
 if v.most<v.size+ndSize n.data.length∨(ixFind v.l n.key=none∧4096≤v.l.length) then (11,v) else
 (0,{ v with l:=ixPut v.l (posOf v.size n),d:=v.d ++ [n],size:=v.size+ndSize n.data.length })
def Rv.look (v:Rv) (key cookie:Nat):Nat:=
 match lastOf v.d key with|none=>6|some n=>if n.gone=true then 7 else if n.cookie≠cookie then 9 else 0
def Rv.put (v:Rv) (n:Nd):Nat×Rv:=
 if n.gone=true then (1,v) else if ndCheck n≠0 then (ndCheck n,v) else if v.shut=true then (10,v) else
 match lastOf v.d n.key with|some o=>(if o.gone=true then 7 else 8,v)|none=>v.write n
def Rv.del (v:Rv) (key cookie:Nat):Nat×Rv:=
 if v.look key cookie≠0 then (v.look key cookie,v) else if v.shut=true then (10,v) else v.write ⟨key,cookie,true,[]⟩
def Rv.set (v:Rv) (e:Int) (s:Bool):Nat×Rv:=
 if e<0∨2147483647<e then (1,v) else if e<v.epoch then (13,v) else (0,{ v with epoch:=e.toNat,shut:=s })
structure VAct where
 kind:Int
 m:Int
 n:Nd
def Rv.act (v:Rv) (a:VAct):Nat×Rv:=
 if a.kind=0 then v.put a.n else if a.kind=1 then v.del a.n.key a.n.cookie else if a.kind=2 then (v.look a.n.key a.n.cookie,v) else if a.kind=3 then (0,v) else if a.kind=4 then v.set a.m a.n.gone else (0,v)
def Vl.act (v:Vl) (d:Dk) (a:VAct):Nat×Dk×Vl:=
 if a.kind=0 then v.put d a.n else if a.kind=1 then v.del d a.n.key a.n.cookie else if a.kind=2 then ((v.get d a.n.key a.n.cookie).1,d,v) else if a.kind=3 then (0,d,v) else if a.kind=4 then v.set d a.m a.n.gone else (0,d,v)
theorem VI.write_r{d:Dk}{v:Vl}{ns:List Nd}{n:Nd}(h:VI d v ns)(hk:n.key<18446744073709551616)(hck:n.cookie<4294967296)(hc:ndCheck n=0)(hcap:v.size+ndSize n.data.length+24≤1048576) :
  ∃ d' v' ns',v.write d n=(((Rv.of v ns).write n).1,d',v')∧VI d' v' ns'∧Rv.of v' ns'=((Rv.of v ns).write n).2∧v'.size≤v.size+ndSize n.data.length∧ns'.length≤ns.length+1:=by
 cases hr:v.room n.key (ndSize n.data.length) with
 | true=>
  obtain ⟨d',v',h1,h2,h3⟩:=h.write hk hck hc hr hcap
  have e:(Rv.of v ns).write n=(0,Rv.of v' (ns ++ [n])):=by
   unfold Rv.write
   have hr2:=hr
   unfold Vl.room at hr2
   simp only [Bool.and_eq_true,Bool.or_eq_true,decide_eq_true_eq,Option.isSome_iff_ne_none] at hr2
   rw [if_neg (by
    show ¬ (v.most<v.size+ndSize n.data.length∨(ixFind v.idx n.key=none∧4096≤v.idx.length))
    rintro (e|⟨e1,e2⟩)
    ·omega
    ·rcases hr2.2 with e3|e3
     ·exact e3 e1
     ·omega),h3]
   rfl
  refine ⟨d',v',ns ++ [n],?_,h2,?_,?_,?_⟩
  ·rw [e];exact h1
  ·rw [e]
  ·rw [h3];exact Nat.le_refl _
  ·simp
 | false=>
  have e:(Rv.of v ns).write n=(11,Rv.of v ns):=by
   unfold Rv.write
   unfold Vl.room at hr
   simp only [Bool.and_eq_false_iff,Bool.or_eq_false_iff,decide_eq_false_iff_not] at hr
   rw [if_pos (by
    show v.most<v.size+ndSize n.data.length∨(ixFind v.idx n.key=none∧4096≤v.idx.length)
    rcases hr with e|⟨e1,e2⟩
    ·exact .inl (by omega)
    ·refine .inr ⟨?_,by omega⟩
     cases e3:ixFind v.idx n.key with
     | none=>rfl
     | some x=>rw [e3] at e1;cases e1)]
  refine ⟨d,v,ns,?_,h,?_,by omega,by omega⟩
  ·rw [e]
   unfold Vl.write
   rw [if_neg (by rw [hc];simp),if_pos hr]
  ·rw [e]
theorem VI.look{d:Dk}{v:Vl}{ns:List Nd}(h:VI d v ns)(key cookie:Nat):(v.find key cookie).1=(Rv.of v ns).look key cookie:=by
 rw [(h.find key cookie).1]
 unfold Rv.look
 show _=match lastOf ns key with|none=>6|some n=>if n.gone=true then 7 else if n.cookie≠cookie then 9 else 0
 rw [←newest_last ns 16 key]
 cases newest ns 16 key <;> rfl
theorem VI.gets{d:Dk}{v:Vl}{ns:List Nd}(h:VI d v ns)(key cookie:Nat):(v.get d key cookie).1=(Rv.of v ns).look key cookie∧((Rv.of v ns).look key cookie=0→∃ n,lastOf ns key=some n∧n.gone=false∧n.cookie=cookie∧v.get d key cookie=(0,false,n)):=by
 have hl:=h.look key cookie
 by_cases h0:(Rv.of v ns).look key cookie=0
 ·have e:(Rv.of v ns).look key cookie=match lastOf ns key with|none=>6|some n=>if n.gone=true then 7 else if n.cookie≠cookie then 9 else 0:=rfl
  rw [h0] at e
  rw [←newest_last ns 16 key] at e
  cases hx:newest ns 16 key with
  | none=>rw [hx] at e;cases e
  | some x=>
   obtain ⟨o,n⟩:=x
   rw [hx] at e
   simp only [Option.map_some] at e
   cases hg:n.gone with
   | true=>rw [hg] at e;cases e
   | false=>
    by_cases hc:n.cookie=cookie
    ·subst hc
     have:=h.got hx hg
     refine ⟨by rw [this,h0],fun _=>⟨n,by rw [←newest_last ns 16 key,hx];rfl,hg,rfl,this⟩⟩
    ·rw [hg,if_neg (by simp),if_pos hc] at e
     cases e
 ·refine ⟨?_,fun e=>absurd e h0⟩
  unfold Vl.get
  rw [if_pos (by rw [hl];exact h0)]
  exact hl
theorem VI.act{d:Dk}{v:Vl}{ns:List Nd}(h:VI d v ns)(a:VAct)(hk:a.n.key<18446744073709551616)(hck:a.n.cookie<4294967296)(hcap:v.size+ndSize a.n.data.length+56≤1048576) :
  ∃ d' v' ns',v.act d a=(((Rv.of v ns).act a).1,d',v')∧VI d' v' ns'∧Rv.of v' ns'=((Rv.of v ns).act a).2∧v'.size≤v.size+ndSize a.n.data.length∧ns'.length≤ns.length+1:=by
 have hstay:∀ e,∃ d' v' ns',((e,d,v):Nat×Dk×Vl)=(e,d',v')∧VI d' v' ns'∧Rv.of v' ns'=Rv.of v ns∧v'.size≤v.size+ndSize a.n.data.length∧ns'.length≤ns.length+1:=fun e=>⟨d,v,ns,rfl,h,rfl,by omega,by omega⟩
 unfold Vl.act Rv.act
 split
 ·unfold Vl.put Rv.put
  split
  ·exact hstay 1
  split
  ·exact hstay _
  rename_i hc
  have hsh:(Rv.of v ns).shut=v.shut:=rfl
  rw [hsh]
  split
  ·exact hstay 10
  ·have hx:=h.idx a.n.key
   have hn:=newest_last ns 16 a.n.key
   show ∃ d' v' ns',(match ixFind v.idx a.n.key with|some p=>(if p.gone=true then 7 else 8,d,v)|none=>v.write d a.n)=((match lastOf ns a.n.key with|some o=>(if o.gone=true then 7 else 8,Rv.of v ns)|none=>(Rv.of v ns).write a.n).1,d',v')∧VI d' v' ns'∧Rv.of v' ns'=(match lastOf ns a.n.key with|some o=>(if o.gone=true then 7 else 8,Rv.of v ns)|none=>(Rv.of v ns).write a.n).2∧_
   rw [hx,←hn]
   cases newest ns 16 a.n.key with
   | none=>exact h.write_r hk hck (by omega) (by omega)
   | some x=>exact hstay _
 split
 ·unfold Vl.del Rv.del
  rw [h.look]
  split
  ·exact hstay _
  have hsh:(Rv.of v ns).shut=v.shut:=rfl
  rw [hsh]
  split
  ·exact hstay 10
  ·obtain ⟨d',v',ns',h1,h2,h3,h4,h5⟩:=h.write_r (n:=⟨a.n.key,a.n.cookie,true,[]⟩) hk hck rfl (by
    show v.size+ndSize 0+24≤1048576
    have:ndSize 0=32:=rfl
    omega)
   refine ⟨d',v',ns',h1,h2,h3,Nat.le_trans h4 ?_,h5⟩
   have:ndSize 0=32:=rfl
   have h9:32≤ndSize a.n.data.length:=by unfold ndSize;omega
   show v.size+ndSize 0≤_
   omega
 split
 ·rw [(h.gets _ _).1]
  exact hstay _
 split
 ·exact hstay 0
 split
 ·unfold Vl.set Rv.set
  split
  ·exact hstay 1
  have he:(Rv.of v ns).epoch=v.epoch:=rfl
  rw [he]
  split
  ·exact hstay 13
  ·rename_i h1 h2
   have h9:32≤ndSize a.n.data.length:=by unfold ndSize;omega
   obtain ⟨d',e1,e2⟩:=h.lay a.m.toNat a.n.gone (by omega) (by omega)
   rw [e1,if_neg (by simp)]
   exact ⟨d',_,ns,rfl,e2,rfl,by show v.size≤_;omega,by omega⟩
 ·exact hstay 0
def posL:Nat→List Nd→List Ps
 | _,[]=>[]
 | off,n :: r=>posOf off n :: posL (off+ndSize n.data.length) r
def putAll (l ps:List Ps):List Ps:=ps.foldl ixPut l
def ixOf (ns:List Nd):List Ps:=putAll [] (posL 16 ns)
theorem posL_len:∀ (off:Nat) (ns:List Nd),(posL off ns).length=ns.length
 | _,[]=>rfl
 | off,n :: r=>by
  show (posL _ r).length+1=r.length+1
  rw [posL_len]
theorem posL_append:∀ (off:Nat) (a b:List Nd),posL off (a ++ b)=posL off a ++ posL (off+(ndsB a).length) b
 | off,[],b=>by simp [posL,ndsB]
 | off,n :: r,b=>by
  show posOf off n :: posL _ (r ++ b)=posOf off n :: (posL _ r ++ _)
  rw [posL_append]
  congr 3
  show _=off+(ndBytes n ++ ndsB r).length
  rw [List.length_append,ndBytes_len]
  omega
theorem putAll_snoc(l ps:List Ps)(p:Ps):putAll l (ps ++ [p])=ixPut (putAll l ps) p:=by
 unfold putAll
 rw [List.foldl_append]
 rfl
theorem putAll_append(l a b:List Ps):putAll l (a ++ b)=putAll (putAll l a) b:=List.foldl_append
theorem putAll_srt:∀ {ps l:List Ps},IxS l→IxS (putAll l ps)
 | [],_,h=>h
 | _ :: r,_,h=>putAll_srt (ps:=r) h.put
theorem putAll_find:∀ (ns:List Nd) (off:Nat) (l:List Ps) (k:Nat),IxS l→ixFind (putAll l (posL off ns)) k=match newest ns off k with|some x=>some (posOf x.1 x.2)|none=>ixFind l k
 | [],_,_,_,_=>rfl
 | n :: r,off,l,k,h=>by
  show ixFind (putAll (ixPut l (posOf off n)) (posL (off+ndSize n.data.length) r)) k=_
  rw [putAll_find r _ _ k h.put,ixFind_put l _ k h]
  rw [show newest (n :: r) off k=(match newest r (off+(ndBytes n).length) k with|some x=>some x|none=>if n.key=k then some (off,n) else none) from rfl]
  rw [ndBytes_len]
  cases newest r (off+ndSize n.data.length) k with
  | some x=>rfl
  | none=>
   show (if n.key=k then some (posOf off n) else ixFind l k)=(match (if n.key=k then some (off,n) else none) with|some x=>some (posOf x.1 x.2)|none=>ixFind l k)
   by_cases e:n.key=k
   ·rw [if_pos e,if_pos e]
   ·rw [if_neg e,if_neg e]
theorem ixS_ext:∀ {a b:List Ps},IxS a→IxS b→(∀ k,ixFind a k=ixFind b k)→a=b
 | [],[],_,_,_=>rfl
 | [],y :: r,_,_,h=>by
  have:=h y.key
  simp [ixFind] at this
 | x :: r,[],_,_,h=>by
  have:=h x.key
  simp [ixFind] at this
 | x :: r,y :: s,ha,hb,h=>by
  have pa:=List.pairwise_cons.1 ha
  have pb:=List.pairwise_cons.1 hb
  have hx:=h x.key
  have hy:=h y.key
  have exy:x=y:=by
   simp only [ixFind,if_true] at hx hy
   by_cases e:y.key=x.key
   ·rw [if_pos e] at hx
    exact Option.some.inj hx
   ·rw [if_neg e] at hx
    rw [if_neg (fun q=>e q.symm)] at hy
    have h1:=mem_of_ixFind hx.symm
    have h2:=mem_of_ixFind hy
    have h3:=pb.1 x h1.1
    have h4:=pa.1 y h2.1
    omega
  subst exy
  congr 1
  refine ixS_ext pa.2 pb.2 fun k=>?_
  have hk:=h k
  unfold ixFind at hk
  by_cases e:x.key=k
  ·have n1:ixFind r k=none:=by
    cases e1:ixFind r k with
    | none=>rfl
    | some q=>
     have h1:=mem_of_ixFind e1
     have:=pa.1 q h1.1
     omega
   have n2:ixFind s k=none:=by
    cases e1:ixFind s k with
    | none=>rfl
    | some q=>
     have h1:=mem_of_ixFind e1
     have:=pb.1 q h1.1
     omega
   rw [n1,n2]
  ·rw [if_neg e,if_neg e] at hk
   exact hk
theorem VI.ixOf{d:Dk}{v:Vl}{ns:List Nd}(h:VI d v ns):ixOf ns=v.idx:=by
 refine ixS_ext (putAll_srt List.Pairwise.nil) h.srt fun k=>?_
 rw [h.idx k]
 show ixFind (putAll [] (posL 16 ns)) k=_
 rw [putAll_find ns 16 [] k List.Pairwise.nil]
 cases newest ns 16 k <;> rfl
theorem ixPut_grows{l:List Ps}{p:Ps}(h:IxS l):l.length≤(ixPut l p).length:=by
 rw [ixPut_len h]
 split <;> omega
theorem putAll_grows:∀ {ps l:List Ps},IxS l→l.length≤(putAll l ps).length
 | [],_,_=>Nat.le_refl _
 | p :: r,l,h=>Nat.le_trans (ixPut_grows (p:=p) h) (putAll_grows (ps:=r) h.put)
def Dk.tidyL (o:Nm→Bool):List Nm→Bool→Dk→Nat×Dk
 | [],m,d=>if m=true then d.syncNames else (0,d)
 | s :: r,m,d=>if o s=true then (if (d.remove s).1≠0 then d.remove s else Dk.tidyL o r true (d.remove s).2) else Dk.tidyL o r m d
theorem tidyL_none{o:Nm→Bool}{d:Dk}:∀ {l:List Nm},(∀ s∈l,o s=false)→Dk.tidyL o l false d=(0,d)
 | [],_=>rfl
 | s :: r,h=>by
  unfold Dk.tidyL
  rw [if_neg (by rw [h s List.mem_cons_self];simp)]
  exact tidyL_none fun x hx=>h x (List.mem_cons_of_mem _ hx)
def Dk.whole (d:Dk) (s:Nm):Nat×List UInt8:=if (d.size s).1≠0 then ((d.size s).1,[]) else d.read s 0 (d.size s).2
theorem whole_at{d:Dk}{s:Nm}{f:Nat}(ha:d.armed≠0)(h:dirGet d.now s=some f):d.whole s=(0,(d.fileAt f).b):=by
 have hf:d.fnd s=(0,f):=by unfold Dk.fnd;rw [if_neg ha,h]
 have hs:d.size s=(0,(d.fileAt f).b.length):=by unfold Dk.size;rw [hf];simp
 unfold Dk.whole
 rw [hs,if_neg (by simp)]
 unfold Dk.read
 rw [hf,if_neg (by simp),if_neg (by omega),if_neg (by simp)]
 simp
structure Opens (d:Dk) (v:Vl) (ns:List Nd) (t:List UInt8):Prop where
 armed:d.armed≠0
 num:1≤v.num∧v.num≤65535
 gen:1≤v.gen∧v.gen≤2147483647
 epoch:v.epoch≤2147483647
 man:∃ g,dirGet d.now (mName v.num)=some g∧(d.fileAt g).b=manB v.num v.gen v.epoch v.shut
 data:∃ f,dirGet d.now v.file=some f∧(d.fileAt f).b=superB v.num v.gen ++ (ndsB ns ++ t)
 tail:t=[]∨(ndGet t).1≠0
 ok:∀ n∈ns,NdOk n
 size:v.size=16+(ndsB ns).length
structure OpensB (d:Dk) (v:Vl) (D t:List UInt8):Prop where
 armed:d.armed≠0
 num:1≤v.num∧v.num≤65535
 gen:1≤v.gen∧v.gen≤2147483647
 epoch:v.epoch≤2147483647
 man:∃ g,dirGet d.now (mName v.num)=some g∧(d.fileAt g).b=manB v.num v.gen v.epoch v.shut
 data:∃ f,dirGet d.now v.file=some f∧(d.fileAt f).b=superB v.num v.gen ++ (D ++ t)
 tail:t=[]∨(ndGet t).1≠0
 size:v.size=16+D.length
theorem Opens.b{d:Dk}{v:Vl}{ns:List Nd}{t:List UInt8}(h:Opens d v ns t):OpensB d v (ndsB ns) t:=⟨h.armed,h.num,h.gen,h.epoch,h.man,h.data,h.tail,h.size⟩
def Dk.mendT (d:Dk) (v:Vl) (t:List UInt8):Dk:=if t=[] then d else (d.cut v.file v.size).2
structure VD (d:Dk) (v:Vl) (ns:List Nd):Prop where
 vi:VI d v ns
 man:∃ g,dirGet d.now (mName v.num)=some g∧(d.fileAt g).b=manB v.num 1 v.epoch v.shut
 last:d.lasting=d.now
 deeds:d.deeds=[]
 sync:∀ x∈d.files,x.lasts=x.b.length
theorem VD.opens{d:Dk}{v:Vl}{ns:List Nd}(h:VD d v ns):Opens d v ns []:=by
 obtain ⟨f,g,hfg,hl,hf,hg,hfb,hgb⟩:=h.vi.now
 have e:=h.vi.gen
 refine ⟨by rw [h.vi.armed];decide,h.vi.num,by omega,h.vi.epoch,?_,⟨f,hf,?_⟩,.inl rfl,h.vi.ok,h.vi.size⟩
 ·rw [e];exact h.man
 ·rw [e,hfb,List.append_nil]
theorem settle_same{f:DFile}(h:f.lasts=f.b.length)(p:DPick):f.settle p=f:=by
 obtain ⟨b,n⟩:=f
 simp only at h
 subst h
 have hk:keepN ⟨b,b.length⟩ p=0:=by unfold keepN;simp
 unfold DFile.settle
 rw [hk]
 simp
theorem crash_same{d:Dk}(ha:d.armed = -1)(hl:d.lasting=d.now)(hd:d.deeds=[])(hs:∀ x∈d.files,x.lasts=x.b.length)(p:DPicks):d.crash p=d:=by
 have h1:d.lastDir p=d.now:=by unfold Dk.lastDir;rw [hd,hl,List.take_nil];rfl
 have h2:settleAll d.now p d.files=d.files:=by
  unfold settleAll
  refine List.ext_getElem (by simp) fun i h3 h4=>?_
  simp only [List.getElem_mapIdx]
  split
  ·exact settle_same (hs _ (List.getElem_mem _)) _
  ·rfl
 unfold Dk.crash
 rw [h1,h2]
 obtain ⟨c,n,l,dd,f,a⟩:=d
 simp only at ha hl hd
 subst ha hl hd
 rfl
theorem VD.crash{d:Dk}{v:Vl}{ns:List Nd}(h:VD d v ns)(p:DPicks):d.crash p=d:=crash_same h.vi.armed h.last h.deeds h.sync p
theorem setF_twice(d:Dk)(f:Nat)(x y:DFile):(d.setF f x).setF f y=d.setF f y:=by
 unfold Dk.setF
 simp [List.set_set]
theorem app_sync{d:Dk}{s:Nm}{b:List UInt8}(ha:d.armed = -1)(h:(d.append s b).1=0)(hf:(d.fnd s).2<d.files.length):((d.append s b).2.sync s)=(0,d.setF (d.fnd s).2 ⟨(d.fileAt (d.fnd s).2).b ++ b,((d.fileAt (d.fnd s).2).b ++ b).length⟩):=by
 obtain ⟨f,hfe⟩:∃ f,f=(d.fnd s).2:=⟨_,rfl⟩
 have h0:(d.fnd s).1=0:=by
  apply Classical.byContradiction
  intro e
  unfold Dk.append at h
  rw [if_pos e] at h
  exact e h
 rw [←hfe] at hf ⊢
 have hgt:=(fnd_get (d:=d) (s:=s) (by omega)).2
 rw [←hfe] at hgt
 have hap:(d.append s b).2=d.setF f ⟨(d.fileAt f).b ++ b,(d.fileAt f).lasts⟩:=by
  unfold Dk.append at h ⊢
  rw [if_neg (by omega),←hfe] at h ⊢
  split at h
  ·cases h
  ·split at h
   ·cases h
   ·rename_i h1 h2
    rw [if_neg h1,if_neg h2]
    exact did_off (by show d.armed = -1;exact ha)
 rw [hap]
 have hfn:(d.setF f ⟨(d.fileAt f).b ++ b,(d.fileAt f).lasts⟩).fnd s=(0,f):=by
  unfold Dk.fnd
  rw [if_neg (by show ¬ d.armed=0;rw [ha];decide)]
  show (match dirGet d.now s with|none=>_|some i=>_)=_
  rw [hgt]
 unfold Dk.sync
 rw [hfn,if_neg (by simp),fileAt_set hf,setF_twice,did_off (by show d.armed = -1;exact ha)]
theorem set_mem_sync{l:List DFile}{i:Nat}{x:DFile}(h:∀ y∈l,y.lasts=y.b.length)(hx:x.lasts=x.b.length):∀ y∈l.set i x,y.lasts=y.b.length:=fun y hy=>by
 rcases List.mem_or_eq_of_mem_set hy with h1|rfl
 ·exact h y h1
 ·exact hx
theorem VD.write{d:Dk}{v:Vl}{ns:List Nd}(h:VD d v ns)(n:Nd):(v.write d n).2.1.lasting=(v.write d n).2.1.now∧(v.write d n).2.1.deeds=[]∧(∀ x∈(v.write d n).2.1.files,x.lasts=x.b.length)∧∃ g,dirGet (v.write d n).2.1.now (mName v.num)=some g∧((v.write d n).2.1.fileAt g).b=manB v.num 1 v.epoch v.shut:=by
 obtain ⟨g,hg,hgb⟩:=h.man
 obtain ⟨f,g',hfg,hl,hf,hg',hfb,hgb'⟩:=h.vi.now
 obtain rfl:g=g':=Option.some.inj (hg.symm.trans hg')
 have hstay:=fun (e:Nat)=>(show (((e,d,v):Nat×Dk×Vl)).2.1.lasting=(((e,d,v):Nat×Dk×Vl)).2.1.now∧(((e,d,v):Nat×Dk×Vl)).2.1.deeds=[]∧(∀ x∈(((e,d,v):Nat×Dk×Vl)).2.1.files,x.lasts=x.b.length)∧∃ g,dirGet (((e,d,v):Nat×Dk×Vl)).2.1.now (mName v.num)=some g∧((((e,d,v):Nat×Dk×Vl)).2.1.fileAt g).b=manB v.num 1 v.epoch v.shut from ⟨h.last,h.deeds,h.sync,g,hg,hgb⟩)
 unfold Vl.write
 split
 ·exact hstay _
 split
 ·exact hstay _
 have hfn:d.fnd v.file=(0,f):=by unfold Dk.fnd;rw [if_neg (by rw [h.vi.armed];decide),hf]
 have hlt:f<d.files.length:=fileAt_lt (by rw [hfb];intro e;have:=congrArg List.length e;rw [List.length_append,superB_len] at this;simp at this)
 split
 ·rename_i h1
  have:(d.append v.file (ndBytes n)).2=d:=by
   unfold Dk.append at h1 ⊢
   split
   ·rfl
   split
   ·rfl
   split
   ·rfl
   ·rename_i a b c
    rw [if_neg a,if_neg b,if_neg c] at h1
    exact absurd rfl h1
  show (d.append v.file (ndBytes n)).2.lasting=_∧_
  rw [this]
  exact hstay 0
 ·rename_i h1
  have hs:=app_sync (s:=v.file) (b:=ndBytes n) h.vi.armed (by omega) (by rw [hfn];exact hlt)
  rw [hs,hfn]
  refine ⟨h.last,h.deeds,set_mem_sync h.sync rfl,g,hg,?_⟩
  show ((d.setF f _).fileAt g).b=_
  rw [fileAt_ne hfg]
  exact hgb
theorem lay_last_eq{d:Dk}{v:Vl}{ns:List Nd}(h:VI d v ns)(e:Nat)(s:Bool)(he:e≤2147483647)(hcap:v.size+48≤1048576) :
  d.lay v.num v.gen e s=(0,{ d with files:=d.files ++ [⟨manB v.num v.gen e s,(manB v.num v.gen e s).length⟩],now:=dirPut d.now (mName v.num) d.files.length,lasting:=dirPut d.now (mName v.num) d.files.length,deeds:=[] }):=by
 obtain ⟨f,g,hfg,hl,hf,hg,hfb,hgb⟩:=h.now
 have hvm:v.file≠mName v.num:=v_ne_m _ _ _
 have hvs:v.file≠sName v.num:=v_ne_s _ _ _
 have hsm:=s_ne_m v.num
 have hflen:(d.fileAt f).b.length=v.size:=by rw [hfb,List.length_append,superB_len,h.size]
 have hltf:f<d.files.length:=fileAt_lt (by intro e;rw [e] at hflen;have:=h.size;simp at hflen;omega)
 have hltg:g<d.files.length:=fileAt_lt (by intro e;rw [e] at hgb;simp at hgb)
 have htwo:=two_mem hl hf hg hvm
 have hno:∀ p∈d.now,p.1≠sName v.num:=fun p hp=>by
  rcases htwo with e|e <;> rw [e] at hp <;> simp only [List.mem_cons,List.not_mem_nil,or_false] at hp <;> rcases hp with rfl|rfl
  ·exact hvs
  ·exact fun e=>hsm e.symm
  ·exact fun e=>hsm e.symm
  ·exact hvs
 have hin:∀ p∈d.now,p.2<d.files.length:=fun p hp=>by
  rcases htwo with e|e <;> rw [e] at hp <;> simp only [List.mem_cons,List.not_mem_nil,or_false] at hp <;> rcases hp with rfl|rfl <;> assumption
 have hsn:dirGet d.now (sName v.num)=none:=by
  cases e:dirGet d.now (sName v.num) with
  | none=>rfl
  | some x=>exact absurd rfl (hno _ (get_mem e))
 have hu:=used_two hl hf hg hvm
 rw [hflen,hgb] at hu
 have hml:=manB_len v.num v.gen e s
 have f2:=fresh_new (d:=d) (s:=sName v.num) (b:=manB v.num v.gen e s) h.armed (named_s h.num.2) hsn (by omega) (by omega) (by rw [hu,hml,h.cap];omega) hin
 obtain ⟨N,hN⟩:∃ N,N=d.files.length:=⟨_,rfl⟩
 rw [←hN] at f2 hltf hltg ⊢
 obtain ⟨d2,hd2⟩:∃ d2:Dk,d2 = { d with files:=d.files ++ [⟨manB v.num v.gen e s,(manB v.num v.gen e s).length⟩],now:=dirPut d.now (sName v.num) N,deeds:=d.deeds ++ [⟨0,[],sName v.num,N⟩] }:=⟨_,rfl⟩
 rw [←hd2] at f2
 have a2:d2.armed = -1:=by rw [hd2];exact h.armed
 have g2:d2.fnd (sName v.num)=(0,N):=by
  unfold Dk.fnd
  rw [if_neg (by rw [a2];decide)]
  have:dirGet d2.now (sName v.num)=some N:=by rw [hd2];exact get_put_same _ _ _
  rw [this]
 have e2:dirDel d2.now (sName v.num)=d.now:=by
  rw [hd2]
  show dirDel (dirPut d.now (sName v.num) N) (sName v.num)=_
  unfold dirPut
  rw [del_none hno,del_ins N hno]
 have r3:d2.rename (sName v.num) (mName v.num)=(0,{ d2 with now:=dirPut d.now (mName v.num) N,deeds:=d2.deeds ++ [⟨1,sName v.num,mName v.num,N⟩] }):=by
  unfold Dk.rename
  rw [g2,if_neg (by simp),if_neg (by rw [named_m h.num.2];simp)]
  congr 1
  unfold Dk.turn
  rw [did_off (by show d2.armed = -1;exact a2)]
  have:(⟨1,sName v.num,mName v.num,N⟩:Deed).app d2.now=dirPut (dirDel d2.now (sName v.num)) (mName v.num) N:=rfl
  rw [this,e2]
 have hr:rightV v.num v.gen e=true:=by
  have h1:=h.num
  have h2:=h.gen
  unfold rightV
  simp
  omega
 have hh2:hasName d (sName v.num)=false:=by unfold hasName;rw [hsn];rfl
 unfold Dk.lay
 rw [if_neg (by rw [hr];simp),if_neg (by rw [hh2];simp)]
 unfold Dk.layTo
 rw [f2,if_neg (by simp),r3,if_neg (by simp)]
 unfold Dk.syncNames
 rw [if_neg (by show ¬ d2.armed=0;rw [a2];decide),did_off (by show d2.armed = -1;exact a2),hd2]
theorem VD.lay{d:Dk}{v:Vl}{ns:List Nd}(h:VD d v ns)(e:Nat)(s:Bool)(he:e≤2147483647)(hcap:v.size+48≤1048576):∃ d',d.lay v.num v.gen e s=(0,d')∧VD d' { v with epoch:=e,shut:=s } ns:=by
 obtain ⟨d',h1,h2⟩:=h.vi.lay e s he hcap
 have h3:=lay_last_eq h.vi e s he hcap
 refine ⟨d',h1,?_⟩
 obtain rfl:d'=_:=congrArg Prod.snd (h1.symm.trans h3)
 refine ⟨h2,⟨d.files.length,get_put_same _ _ _,?_⟩,rfl,rfl,?_⟩
 ·unfold Dk.fileAt
  simp [h.vi.gen]
 ·intro x hx
  rcases List.mem_append.1 hx with hx|hx
  ·exact h.sync x hx
  ·obtain rfl:=List.mem_singleton.1 hx
   rfl
theorem VD.act{d:Dk}{v:Vl}{ns:List Nd}(h:VD d v ns)(a:VAct)(hcap:v.size+ndSize a.n.data.length+56≤1048576){e:Nat}{d':Dk}{v':Vl}{ns':List Nd}(ha:v.act d a=(e,d',v'))(hi:VI d' v' ns')(hnum:v'.num=v.num):VD d' v' ns':=by
 have hstay:∀ k,((k,d,v):Nat×Dk×Vl)=(e,d',v')→VD d' v' ns':=fun k q=>by
  cases q
  exact ⟨hi,h.man,h.last,h.deeds,h.sync⟩
 have hwr:∀ n,v.write d n=(e,d',v')→VD d' v' ns':=fun n q=>by
  obtain ⟨h1,h2,h3,g,h4,h5⟩:=h.write n
  have hv:(v.write d n).2.2.epoch=v.epoch∧(v.write d n).2.2.shut=v.shut:=by
   unfold Vl.write
   split
   ·exact ⟨rfl,rfl⟩
   split
   ·exact ⟨rfl,rfl⟩
   split <;> exact ⟨rfl,rfl⟩
  rw [q] at h1 h2 h3 h4 h5 hv
  refine ⟨hi,⟨g,?_,?_⟩,h1,h2,h3⟩
  ·rw [hnum];exact h4
  ·rw [hnum,hv.1,hv.2];exact h5
 unfold Vl.act at ha
 split at ha
 ·unfold Vl.put at ha
  split at ha
  ·exact hstay _ ha
  split at ha
  ·exact hstay _ ha
  split at ha
  ·exact hstay _ ha
  split at ha
  ·exact hstay _ ha
  ·exact hwr _ ha
 split at ha
 ·unfold Vl.del at ha
  split at ha
  ·exact hstay _ ha
  split at ha
  ·exact hstay _ ha
  ·exact hwr _ ha
 split at ha
 ·exact hstay _ ha
 split at ha
 ·exact hstay _ ha
 split at ha
 ·unfold Vl.set at ha
  split at ha
  ·exact hstay _ ha
  split at ha
  ·exact hstay _ ha
  rename_i h1 h2
  have h9:32≤ndSize a.n.data.length:=by unfold ndSize;omega
  obtain ⟨d2,e1,e2⟩:=h.lay a.m.toNat a.n.gone (by omega) (by omega)
  rw [e1,if_neg (by simp)] at ha
  cases ha
  exact ⟨hi,e2.man,e2.last,e2.deeds,e2.sync⟩
 ·exact hstay _ ha
theorem VD.make{num most epoch:Nat}(h1:1≤num)(h2:num≤65535)(hm:16≤most)(he:epoch≤2147483647) :
  ∃ d,(Dk.new 1048576).make num most epoch=(0,d,⟨num,1,epoch,false,most,16,[]⟩)∧VD d ⟨num,1,epoch,false,most,16,[]⟩ []:=by
 have hs:=superB_len num 1
 have hmn:=manB_len num 1 epoch false
 have hvm:=v_ne_m num 1 num
 have hvs:=v_ne_s num 1 num
 have hsm:=s_ne_m num
 have f1:=fresh_new (d:=Dk.new 1048576) (s:=vName num 1) (b:=superB num 1) rfl (named_v h2 (by omega)) rfl (by show 0<64;omega) (by omega) (by show 0+(superB num 1).length≤1048576;omega) (fun p hp=>absurd hp List.not_mem_nil)
 obtain ⟨d1,hd1⟩:∃ d1:Dk,d1=⟨1048576,[(vName num 1,0)],[],[⟨0,[],vName num 1,0⟩],[⟨superB num 1,(superB num 1).length⟩],-1⟩:=⟨_,rfl⟩
 have f1':(Dk.new 1048576).fresh (vName num 1) (superB num 1)=(0,d1):=by rw [f1,hd1];rfl
 have n1:dirGet d1.now (sName num)=none:=by
  rw [hd1]
  have:(vName num 1 == sName num)=false:=by simpa using hvs
  simp [dirGet,this]
 have u1:d1.used=16:=by rw [hd1];simp [Dk.used,Dk.fileAt,hs]
 have f2:=fresh_new (d:=d1) (s:=sName num) (b:=manB num 1 epoch false) (by rw [hd1]) (named_s h2) n1 (by rw [hd1];show 1<64;omega) (by omega) (by rw [u1,hmn,hd1];show 16+24≤1048576;omega) (fun p hp=>by rw [hd1] at hp ⊢;obtain rfl:=List.mem_singleton.1 hp;show 0<1;omega)
 obtain ⟨d2,hd2⟩:∃ d2:Dk,d2 = { d1 with files:=d1.files ++ [⟨manB num 1 epoch false,(manB num 1 epoch false).length⟩],now:=dirPut d1.now (sName num) d1.files.length,deeds:=d1.deeds ++ [⟨0,[],sName num,d1.files.length⟩] }:=⟨_,rfl⟩
 rw [←hd2] at f2
 have l1:d1.files.length=1:=by rw [hd1];rfl
 have a2:d2.armed = -1:=by rw [hd2,hd1]
 have g2:d2.fnd (sName num)=(0,1):=by
  unfold Dk.fnd
  rw [if_neg (by rw [a2];decide)]
  have:dirGet d2.now (sName num)=some 1:=by rw [hd2,l1];exact get_put_same _ _ _
  rw [this]
 obtain ⟨d3,hd3⟩:∃ d3:Dk,d3 = { d2 with now:=dirPut [(vName num 1,0)] (mName num) 1,deeds:=d2.deeds ++ [⟨1,sName num,mName num,1⟩] }:=⟨_,rfl⟩
 have e1:d1.now=[(vName num 1,0)]:=by rw [hd1]
 have hno:∀ p∈d1.now,p.1≠sName num:=get_none n1
 have e2:dirDel d2.now (sName num)=[(vName num 1,0)]:=by
  rw [hd2,l1]
  show dirDel (dirPut d1.now (sName num) 1) (sName num)=_
  unfold dirPut
  rw [del_none hno,del_ins 1 hno,e1]
 have r3:d2.rename (sName num) (mName num)=(0,d3):=by
  unfold Dk.rename
  rw [g2,if_neg (by simp),if_neg (by rw [named_m h2];simp)]
  congr 1
  unfold Dk.turn
  rw [did_off (by show d2.armed = -1;exact a2),hd3]
  have:(⟨1,sName num,mName num,1⟩:Deed).app d2.now=dirPut (dirDel d2.now (sName num)) (mName num) 1:=rfl
  rw [this,e2]
 have a3:d3.armed = -1:=by rw [hd3];exact a2
 have s3:d3.syncNames=(0,{ d3 with lasting:=d3.now,deeds:=[] }):=by
  unfold Dk.syncNames
  rw [if_neg (by rw [a3];decide),did_off (by show d3.armed = -1;exact a3)]
 refine ⟨{ d3 with lasting:=d3.now,deeds:=[] },?_,?_⟩
 ·unfold Dk.make
  have hh:hasName (Dk.new 1048576) (mName num)=false:=rfl
  have hr:rightV num 1 epoch=true:=by unfold rightV;simp;omega
  have hh2:hasName d1 (sName num)=false:=by unfold hasName;rw [n1];rfl
  have hl:d1.lay num 1 epoch false=(0,{ d3 with lasting:=d3.now,deeds:=[] }):=by
   unfold Dk.lay
   rw [if_neg (by rw [hr];simp),if_neg (by rw [hh2];simp)]
   unfold Dk.layTo
   rw [f2,if_neg (by simp),r3,if_neg (by simp),s3]
  rw [if_neg (by rw [hh];simp),f1',if_neg (by simp),hl]
 ·have n4:d3.now=dirPut [(vName num 1,0)] (mName num) 1:=by rw [hd3]
  have fl:d3.files=[⟨superB num 1,(superB num 1).length⟩,⟨manB num 1 epoch false,(manB num 1 epoch false).length⟩]:=by rw [hd3,hd2,hd1];rfl
  refine ⟨?_,⟨1,?_,?_⟩,rfl,rfl,?_⟩
  rotate_left
  ·show dirGet d3.now (mName num)=some 1
   rw [n4,get_put_same]
  ·show (d3.fileAt 1).b=_
   unfold Dk.fileAt
   rw [fl]
   rfl
  ·intro x hx
   rw [show ({ d3 with lasting:=d3.now,deeds:=[] }:Dk).files=d3.files from rfl,fl] at hx
   simp only [List.mem_cons,List.not_mem_nil,or_false] at hx
   rcases hx with rfl|rfl <;> rfl
  refine ⟨a3,by show d3.cap=_;rw [hd3,hd2,hd1],⟨h1,h2⟩,rfl,he,⟨0,1,by omega,?_,?_,?_,?_,?_⟩,by simp [ndsB],hm,fun n hn=>absurd hn List.not_mem_nil,List.Pairwise.nil,fun k=>rfl,Nat.le_refl _⟩
  ·show d3.now.length=2
   rw [n4]
   unfold dirPut
   rw [del_none (fun p hp=>by obtain rfl:=List.mem_singleton.1 hp;exact hvm),len_ins]
   rfl
  ·show dirGet d3.now (vName num 1)=some 0
   rw [n4,get_put_other _ _ hvm]
   simp [dirGet]
  ·show dirGet d3.now (mName num)=some 1
   rw [n4,get_put_same]
  ·show (d3.fileAt 0).b=_
   unfold Dk.fileAt
   rw [fl]
   simp [ndsB]
  ·show (d3.fileAt 1).b.length=_
   unfold Dk.fileAt
   rw [fl]
   exact hmn
theorem get_cons(p:Nm×Nat)(r:Dir)(a:Nm):dirGet (p :: r) a=if p.1=a then some p.2 else dirGet r a:=by
 unfold dirGet
 rw [List.find?_cons]
 by_cases h:p.1=a
 ·rw [if_pos h];simp [h]
 ·rw [if_neg h]
  have:(p.1 == a)=false:=by simpa using h
  rw [this]
theorem sum_swap(F G:Nat→Nat){a:Nm}{f:Nat}:∀ {l:Dir},(l.map (·.1)).Nodup→dirGet l a=some f→(∀ p∈l,p.1≠a→F p.2=G p.2)→(l.map fun p=>F p.2).sum+G f=(l.map fun p=>G p.2).sum+F f
 | [],_,h,_=>by cases h
 | p :: r,hn,h,hne=>by
  rw [List.map_cons,List.nodup_cons] at hn
  rw [get_cons] at h
  simp only [List.map_cons,List.sum_cons]
  by_cases hp:p.1=a
  ·rw [if_pos hp] at h
   have hf:p.2=f:=by injection h
   have e:(r.map fun q=>F q.2)=r.map fun q=>G q.2:=List.map_congr_left fun q hq=>hne q (List.mem_cons_of_mem _ hq) fun e=>hn.1 (by rw [hp,←e];exact List.mem_map_of_mem (f:=(·.1)) hq)
   rw [e,hf]
   omega
  ·rw [if_neg hp] at h
   have ih:=sum_swap F G hn.2 h fun q hq=>hne q (List.mem_cons_of_mem _ hq)
   have:=hne p List.mem_cons_self hp
   omega
theorem del_cons(p:Nm×Nat)(r:Dir)(a:Nm):dirDel (p :: r) a=if p.1=a then dirDel r a else p :: dirDel r a:=by
 unfold dirDel
 rw [List.filter_cons]
 by_cases h:p.1=a
 ·rw [if_pos h];simp [h]
 ·rw [if_neg h]
  have:(p.1 == a)=false:=by simpa using h
  simp [this]
theorem sum_del(F:Nat→Nat){a:Nm}{f:Nat}:∀ {l:Dir},(l.map (·.1)).Nodup→dirGet l a=some f→((dirDel l a).map fun p=>F p.2).sum+F f=(l.map fun p=>F p.2).sum∧(dirDel l a).length+1=l.length
 | [],_,h=>by cases h
 | p :: r,hn,h=>by
  rw [List.map_cons,List.nodup_cons] at hn
  rw [get_cons] at h
  rw [del_cons]
  by_cases hp:p.1=a
  ·rw [if_pos hp] at h ⊢
   have hf:p.2=f:=by injection h
   have e:dirDel r a=r:=del_none fun q hq e=>hn.1 (by rw [hp,←e];exact List.mem_map_of_mem (f:=(·.1)) hq)
   rw [e,List.map_cons,List.sum_cons,hf,List.length_cons]
   exact ⟨by omega,rfl⟩
  ·rw [if_neg hp] at h ⊢
   obtain ⟨h1,h2⟩:=sum_del F hn.2 h
   simp only [List.map_cons,List.sum_cons,List.length_cons]
   omega
theorem nod_del{l:Dir}(a:Nm)(h:(l.map (·.1)).Nodup):((dirDel l a).map (·.1)).Nodup:=h.sublist ((List.filter_sublist (l:=l)).map _)
theorem ins_permK(a:Nm×Nat):∀ l:Dir,(dirIns a l).Perm (a :: l)
 | []=>List.Perm.refl _
 | y :: r=>by
  unfold dirIns
  split
  ·exact List.Perm.refl _
  ·exact ((ins_permK a r).cons y).trans (List.Perm.swap a y r)
theorem nod_put{l:Dir}(a:Nm)(f:Nat)(h:(l.map (·.1)).Nodup):((dirPut l a f).map (·.1)).Nodup:=by
 unfold dirPut
 rw [((ins_permK (a,f) (dirDel l a)).map (·.1)).nodup_iff,List.map_cons,List.nodup_cons]
 refine ⟨fun hm=>?_,nod_del a h⟩
 obtain ⟨p,hp,e⟩:=List.mem_map.1 hm
 have:=(List.mem_filter.1 hp).2
 simp at this
 exact this e
def SynN (S:Nm→Prop) (d:Dk):Prop:=∀ p∈d.now,S p.1∨(d.fileAt p.2).lasts=(d.fileAt p.2).b.length
def RestK (d:Dk):Prop:=d.lasting=d.now∧d.deeds=[]∧SynN (fun _=>False) d
def ManAt (d:Dk) (v:Vl):Prop:=∃ g,dirGet d.now (mName v.num)=some g∧(d.fileAt g).b=manB v.num v.gen v.epoch v.shut
structure VK (d:Dk) (v:Vl) (ns:List Nd) (X:Nat):Prop where
 armed:d.armed = -1
 cap:d.cap=1048576
 num:1≤v.num∧v.num≤65535
 gen:v.gen=1
 epoch:v.epoch≤2147483647
 now:∃ f g,f≠g∧dirGet d.now v.file=some f∧dirGet d.now (mName v.num)=some g∧(d.fileAt f).b=superB v.num 1 ++ ndsB ns∧(d.fileAt g).b.length=24∧(∀ p∈d.now,p.1≠v.file→p.2≠f)∧(∀ p∈d.now,p.1≠mName v.num→p.2≠g)
 few:d.now.length≤32
 nod:(d.now.map (·.1)).Nodup
 ins:∀ p∈d.now,p.2<d.files.length
 nos:dirGet d.now (sName v.num)=none
 used:d.used=v.size+24+X
 size:v.size=16+(ndsB ns).length
 most:v.size≤v.most
 ok:∀ n∈ns,NdOk n
 srt:IxS v.idx
 idx:∀ k,ixFind v.idx k=(newest ns 16 k).map fun x=>posOf x.1 x.2
 len:v.idx.length≤ns.length
theorem VK.of{d:Dk}{v:Vl}{ns:List Nd}(h:VI d v ns)(hd:(d.now.map (·.1)).Nodup):VK d v ns 0:=by
 obtain ⟨f,g,hfg,hl,hf,hg,hfb,hgb⟩:=h.now
 have hvm:v.file≠mName v.num:=v_ne_m _ _ _
 have hflen:(d.fileAt f).b.length=v.size:=by rw [hfb,List.length_append,superB_len,h.size]
 have hltf:f<d.files.length:=fileAt_lt (by intro e;rw [e] at hflen;have:=h.size;simp at hflen;omega)
 have hltg:g<d.files.length:=fileAt_lt (by intro e;rw [e] at hgb;simp at hgb)
 have htwo:=two_mem hl hf hg hvm
 have hu:=used_two hl hf hg hvm
 rw [hflen,hgb] at hu
 have hmem:∀ p∈d.now,p=(v.file,f)∨p=(mName v.num,g):=fun p hp=>by
  rcases htwo with e|e <;> rw [e] at hp <;> simp only [List.mem_cons,List.not_mem_nil,or_false] at hp <;> rcases hp with rfl|rfl <;> simp
 refine ⟨h.armed,h.cap,h.num,h.gen,h.epoch,⟨f,g,hfg,hf,hg,hfb,hgb,fun p hp hne e=>?_,fun p hp hne e=>?_⟩,by omega,hd,fun p hp=>?_,?_,by omega,h.size,h.most,h.ok,h.srt,h.idx,h.len⟩
 ·rcases hmem p hp with rfl|rfl
  ·exact hne rfl
  ·exact hfg e.symm
 ·rcases hmem p hp with rfl|rfl
  ·exact hfg e
  ·exact hne rfl
 ·rcases hmem p hp with rfl|rfl <;> assumption
 ·cases e:dirGet d.now (sName v.num) with
  | none=>rfl
  | some x=>
   rcases hmem _ (get_mem e) with h1|h1
   ·exact absurd (congrArg Prod.fst h1).symm (v_ne_s _ _ _)
   ·exact absurd (congrArg Prod.fst h1) (s_ne_m _)
theorem VK.write{d:Dk}{v:Vl}{ns:List Nd}{X:Nat}{n:Nd}(h:VK d v ns X)(hk:n.key<18446744073709551616)(hck:n.cookie<4294967296)(hc:ndCheck n=0)(hr:v.room n.key (ndSize n.data.length)=true)(hcap:v.size+ndSize n.data.length+24+X≤1048576) :
  ∃ d' v',v.write d n=(0,d',v')∧VK d' v' (ns ++ [n]) X∧v' = { v with idx:=ixPut v.idx (posOf v.size n),size:=v.size+ndSize n.data.length }∧d'.now=d.now∧(∀ i,dirGet d.now v.file≠some i→d'.fileAt i=d.fileAt i)∧(d.lasting=d.now→d.deeds=[]→d'.lasting=d'.now∧d'.deeds=[])∧(∀ S,SynN S d→SynN S d'):=by
 obtain ⟨f,g,hfg,hf,hg,hfb,hgb,hof,hog⟩:=h.now
 have hck2:=ndCheck_ok hc
 have hnd:NdOk n:=⟨hk,hck,hck2.1,hck2.2⟩
 have hflen:(d.fileAt f).b.length=v.size:=by rw [hfb,List.length_append,superB_len,h.size]
 have hlt:f<d.files.length:=h.ins _ (get_mem hf)
 have ha:d.armed≠0:=by rw [h.armed];decide
 have hfnd:d.fnd v.file=(0,f):=by unfold Dk.fnd;rw [if_neg ha,hf]
 have hu:=h.used
 have hb:=ndBytes_len n
 have hsz2:(d.fileAt f).b.length+(ndBytes n).length≤16777216:=by rw [hflen,hb];omega
 have hap:d.append v.file (ndBytes n)=(0,d.setF f ⟨(d.fileAt f).b ++ ndBytes n,(d.fileAt f).lasts⟩):=by
  unfold Dk.append
  rw [hfnd,if_neg (by simp),if_neg (Nat.not_lt.2 hsz2),if_neg (by rw [hu,hb,h.cap];omega)]
  rw [did_off (by show d.armed = -1;exact h.armed)]
 obtain ⟨d1,hd1⟩:∃ d1,d1=d.setF f ⟨(d.fileAt f).b ++ ndBytes n,(d.fileAt f).lasts⟩:=⟨_,rfl⟩
 rw [←hd1] at hap
 have h1a:d1.armed = -1:=by rw [hd1];exact h.armed
 have h1n:d1.now=d.now:=by rw [hd1];rfl
 have h1f:(d1.fileAt f)=⟨(d.fileAt f).b ++ ndBytes n,(d.fileAt f).lasts⟩:=by rw [hd1];exact fileAt_set hlt
 have h1l:d1.files.length=d.files.length:=by rw [hd1];simp [Dk.setF]
 have hfnd1:d1.fnd v.file=(0,f):=by unfold Dk.fnd;rw [if_neg (by rw [h1a];decide),h1n,hf]
 have hsy:d1.sync v.file=(0,d1.setF f ⟨(d1.fileAt f).b,(d1.fileAt f).b.length⟩):=by
  unfold Dk.sync
  rw [hfnd1,if_neg (by simp)]
  rw [did_off (by show d1.armed = -1;exact h1a)]
 obtain ⟨d2,hd2⟩:∃ d2,d2=d1.setF f ⟨(d1.fileAt f).b,(d1.fileAt f).b.length⟩:=⟨_,rfl⟩
 have h2n:d2.now=d.now:=by rw [hd2];exact h1n
 have h2l:d2.files.length=d.files.length:=by rw [hd2];simp [Dk.setF,h1l]
 have h2f:(d2.fileAt f).b=(d.fileAt f).b ++ ndBytes n:=by rw [hd2,fileAt_set (by rw [h1l];exact hlt),h1f]
 have h2o:∀ i,i≠f→d2.fileAt i=d.fileAt i:=fun i hi=>by rw [hd2,fileAt_ne (Ne.symm hi),hd1,fileAt_ne (Ne.symm hi)]
 have h2u:d2.used=d.used+ndSize n.data.length:=by
  have:=sum_swap (fun i=>(d2.fileAt i).b.length) (fun i=>(d.fileAt i).b.length) h.nod hf fun p hp hne=>by
   show (d2.fileAt p.2).b.length=_
   rw [h2o p.2 (hof p hp hne)]
  simp only [h2f,List.length_append,hb] at this
  unfold Dk.used
  rw [h2n]
  omega
 rw [←hd2] at hsy
 refine ⟨d2,{ v with idx:=ixPut v.idx (posOf v.size n),size:=v.size+ndSize n.data.length },?_,?_,rfl,h2n,fun i hi=>h2o i fun e=>hi (by rw [e];exact hf),fun hr1 hr2=>⟨by rw [h2n,hd2,hd1];exact hr1,by rw [hd2,hd1];exact hr2⟩,fun S hS p hp=>?_⟩
 ·unfold Vl.write
  rw [if_neg (by rw [hc];simp),if_neg (by rw [hr];simp),hap,if_neg (by simp),hsy]
 ·have hix:=ixFind_put v.idx (posOf v.size n)
  refine ⟨by rw [hd2];exact h1a,by rw [hd2];show d1.cap=_;rw [hd1];exact h.cap,h.num,h.gen,h.epoch,⟨f,g,hfg,by rw [h2n];exact hf,by rw [h2n];exact hg,?_,?_,by rw [h2n];exact hof,by rw [h2n];exact hog⟩,by rw [h2n];exact h.few,by rw [h2n];exact h.nod,by rw [h2n,h2l];exact h.ins,by rw [h2n];exact h.nos,?_,?_,?_,?_,h.srt.put,?_,?_⟩
  ·rw [h2f,hfb,ndsB_append,List.append_assoc]
   congr 2
   simp [ndsB]
  ·rw [h2o g (Ne.symm hfg)]
   exact hgb
  ·show d2.used=v.size+ndSize n.data.length+24+X
   omega
  ·show v.size+ndSize n.data.length=16+(ndsB (ns ++ [n])).length
   rw [ndsB_append,List.length_append,h.size]
   have:(ndsB [n]).length=ndSize n.data.length:=by simp [ndsB,hb]
   omega
  ·show v.size+ndSize n.data.length≤v.most
   unfold Vl.room at hr
   simp only [Bool.and_eq_true,decide_eq_true_eq] at hr
   exact hr.1
  ·intro m hm
   rcases List.mem_append.1 hm with hm|hm
   ·exact h.ok m hm
   ·obtain rfl:m=n:=by simpa using hm
    exact hnd
  ·intro k
   show ixFind (ixPut v.idx (posOf v.size n)) k=_
   rw [hix k h.srt,newest_snoc]
   by_cases e:n.key=k
   ·have e':(posOf v.size n).key=k:=e
    rw [if_pos e',if_pos e,Option.map_some,h.size]
   ·have e':¬ (posOf v.size n).key=k:=e
    rw [if_neg e',if_neg e]
    exact h.idx k
  ·show (ixPut v.idx (posOf v.size n)).length≤(ns ++ [n]).length
   rw [ixPut_len h.srt,List.length_append]
   have:=h.len
   split <;> simp <;> omega
 ·rw [h2n] at hp
  by_cases e:p.2=f
  ·refine .inr ?_
   rw [e,hd2,fileAt_set (by rw [h1l];exact hlt)]
  ·rw [h2o p.2 e]
   exact hS p hp
theorem VK.lay{d:Dk}{v:Vl}{ns:List Nd}{X:Nat}(h:VK d v ns X)(e:Nat)(s:Bool)(he:e≤2147483647)(hcap:v.size+48+X≤1048576):∃ d',d.lay v.num v.gen e s=(0,d')∧VK d' { v with epoch:=e,shut:=s } ns X∧∃ N,d'.now=dirPut d.now (mName v.num) N∧(d'.fileAt N).b=manB v.num v.gen e s∧(∀ i,i<d.files.length→d'.fileAt i=d.fileAt i)∧(d.lasting=d.now→d.deeds=[]→d'.lasting=d'.now∧d'.deeds=[])∧(∀ S,SynN S d→SynN S d'):=by
 obtain ⟨f,g,hfg,hf,hg,hfb,hgb,hof,hog⟩:=h.now
 have hvm:v.file≠mName v.num:=v_ne_m _ _ _
 have hvs:v.file≠sName v.num:=v_ne_s _ _ _
 have hsm:=s_ne_m v.num
 have hltf:f<d.files.length:=h.ins _ (get_mem hf)
 have hltg:g<d.files.length:=h.ins _ (get_mem hg)
 have hsn:=h.nos
 have hno:∀ p∈d.now,p.1≠sName v.num:=get_none hsn
 have hin:=h.ins
 have hu:=h.used
 have hfew:=h.few
 have hml:=manB_len v.num v.gen e s
 have f2:=fresh_new (d:=d) (s:=sName v.num) (b:=manB v.num v.gen e s) h.armed (named_s h.num.2) hsn (by omega) (by omega) (by rw [hu,hml,h.cap];omega) hin
 obtain ⟨N,hN⟩:∃ N,N=d.files.length:=⟨_,rfl⟩
 rw [←hN] at f2 hltf hltg
 obtain ⟨d2,hd2⟩:∃ d2:Dk,d2 = { d with files:=d.files ++ [⟨manB v.num v.gen e s,(manB v.num v.gen e s).length⟩],now:=dirPut d.now (sName v.num) N,deeds:=d.deeds ++ [⟨0,[],sName v.num,N⟩] }:=⟨_,rfl⟩
 rw [←hd2] at f2
 have a2:d2.armed = -1:=by rw [hd2];exact h.armed
 have g2:d2.fnd (sName v.num)=(0,N):=by
  unfold Dk.fnd
  rw [if_neg (by rw [a2];decide)]
  have:dirGet d2.now (sName v.num)=some N:=by rw [hd2];exact get_put_same _ _ _
  rw [this]
 obtain ⟨d3,hd3⟩:∃ d3:Dk,d3 = { d2 with now:=dirPut d.now (mName v.num) N,deeds:=d2.deeds ++ [⟨1,sName v.num,mName v.num,N⟩] }:=⟨_,rfl⟩
 have e2:dirDel d2.now (sName v.num)=d.now:=by
  rw [hd2]
  show dirDel (dirPut d.now (sName v.num) N) (sName v.num)=_
  unfold dirPut
  rw [del_none hno,del_ins N hno]
 have r3:d2.rename (sName v.num) (mName v.num)=(0,d3):=by
  unfold Dk.rename
  rw [g2,if_neg (by simp),if_neg (by rw [named_m h.num.2];simp)]
  congr 1
  unfold Dk.turn
  rw [did_off (by show d2.armed = -1;exact a2),hd3]
  have:(⟨1,sName v.num,mName v.num,N⟩:Deed).app d2.now=dirPut (dirDel d2.now (sName v.num)) (mName v.num) N:=rfl
  rw [this,e2]
 have a3:d3.armed = -1:=by rw [hd3];exact a2
 have s3:d3.syncNames=(0,{ d3 with lasting:=d3.now,deeds:=[] }):=by
  unfold Dk.syncNames
  rw [if_neg (by rw [a3];decide),did_off (by show d3.armed = -1;exact a3)]
 have n4:d3.now=dirPut d.now (mName v.num) N:=by rw [hd3]
 have fl:d3.files=d.files ++ [⟨manB v.num v.gen e s,(manB v.num v.gen e s).length⟩]:=by rw [hd3,hd2]
 have hfo:∀ i,i<d.files.length→d3.fileAt i=d.fileAt i:=fun i hi=>by
  unfold Dk.fileAt
  rw [fl,List.getElem?_append_left hi]
 have hfN:(d3.fileAt N).b=manB v.num v.gen e s:=by
  unfold Dk.fileAt
  rw [fl,hN]
  simp
 have hmem:∀ p∈d3.now,p=(mName v.num,N)∨(p∈d.now∧p.1≠mName v.num):=fun p hp=>by
  rw [n4] at hp
  unfold dirPut at hp
  rcases mem_ins.1 hp with h1|h1
  ·exact .inl h1
  ·have h2:=List.mem_filter.1 h1
   exact .inr ⟨h2.1,by simpa using h2.2⟩
 have hdl:=sum_del (fun i=>(d3.fileAt i).b.length) h.nod hg
 refine ⟨{ d3 with lasting:=d3.now,deeds:=[] },?_,?_,N,n4,hfN,hfo,fun _ _=>⟨rfl,rfl⟩,fun S hS p hp=>?_⟩
 ·have hr:rightV v.num v.gen e=true:=by
   have h1:=h.num
   have h2:=h.gen
   unfold rightV
   simp
   omega
  have hh2:hasName d (sName v.num)=false:=by unfold hasName;rw [hsn];rfl
  unfold Dk.lay
  rw [if_neg (by rw [hr];simp),if_neg (by rw [hh2];simp)]
  unfold Dk.layTo
  rw [f2,if_neg (by simp),r3,if_neg (by simp),s3]
 ·refine ⟨a3,by show d3.cap=_;rw [hd3,hd2];exact h.cap,h.num,h.gen,he,⟨f,N,by omega,?_,?_,?_,?_,?_,?_⟩,?_,?_,?_,?_,?_,h.size,h.most,h.ok,h.srt,h.idx,h.len⟩
  ·show dirGet d3.now v.file=some f
   rw [n4,get_put_other _ _ hvm]
   exact hf
  ·show dirGet d3.now (mName v.num)=some N
   rw [n4,get_put_same]
  ·show (d3.fileAt f).b=_
   rw [hfo f (by omega)]
   exact hfb
  ·show (d3.fileAt N).b.length=_
   rw [hfN,hml]
  ·intro p hp hne
   rcases hmem p hp with rfl|⟨h1,-⟩
   ·show N≠f
    omega
   ·exact hof p h1 hne
  ·intro p hp hne
   rcases hmem p hp with rfl|⟨h1,-⟩
   ·exact absurd rfl hne
   ·have:=hin p h1
    omega
  ·show d3.now.length≤32
   rw [n4]
   unfold dirPut
   rw [len_ins]
   omega
  ·show (d3.now.map (·.1)).Nodup
   rw [n4]
   exact nod_put _ _ h.nod
  ·intro p hp
   show p.2<d3.files.length
   rw [fl,List.length_append,←hN]
   rcases hmem p hp with rfl|⟨h1,-⟩
   ·simp
   ·have:=hin p h1
    simp
    omega
  ·show dirGet d3.now (sName v.num)=none
   rw [n4,get_put_other _ _ hsm]
   exact hsn
  ·show (d3.now.map fun p=>(d3.fileAt p.2).b.length).sum=_
   have h1:(d.now.map fun p=>(d3.fileAt p.2).b.length).sum=d.used:=by
    unfold Dk.used
    congr 1
    exact List.map_congr_left fun p hp=>by rw [hfo p.2 (hin p hp)]
   rw [h1] at hdl
   rw [n4]
   unfold dirPut
   rw [sum_ins]
   show (d3.fileAt N).b.length+_=v.size+24+X
   have h2:=hdl.1
   simp only [hfo g (by omega),hgb] at h2
   rw [hfN,hml]
   omega
 ·rcases hmem p hp with rfl|⟨h1,-⟩
  ·refine .inr ?_
   show (d3.fileAt N).lasts=(d3.fileAt N).b.length
   unfold Dk.fileAt
   rw [fl,hN]
   simp
  ·show S p.1∨(d3.fileAt p.2).lasts=(d3.fileAt p.2).b.length
   rw [hfo p.2 (hin p h1)]
   exact hS p h1
def KeptK (v:Vl) (d d':Dk):Prop:=(∀ s i,s≠v.file→s≠mName v.num→dirGet d.now s=some i→dirGet d'.now s=some i∧d'.fileAt i=d.fileAt i)∧d'.now.length=d.now.length∧(d.lasting=d.now→d.deeds=[]→d'.lasting=d'.now∧d'.deeds=[])∧(∀ p∈d'.now,p.1∈d.now.map (·.1))∧∀ S,SynN S d→SynN S d'
theorem KeptK.refl(v:Vl)(d:Dk):KeptK v d d:=⟨fun _ _ _ _ h=>⟨h,rfl⟩,rfl,fun a b=>⟨a,b⟩,fun _ hp=>List.mem_map_of_mem hp,fun _=>id⟩
theorem KeptK.trans{v v':Vl}{a b c:Dk}(h:KeptK v a b)(h2:KeptK v' b c)(e:v'.file=v.file)(e2:v'.num=v.num):KeptK v a c:=
 ⟨fun s i h3 h4 h5=>by
  obtain ⟨h6,h7⟩:=h.1 s i h3 h4 h5
  obtain ⟨h8,h9⟩:=h2.1 s i (by rw [e];exact h3) (by rw [e2];exact h4) h6
  exact ⟨h8,h9.trans h7⟩,h2.2.1.trans h.2.1,fun a b=>h2.2.2.1 (h.2.2.1 a b).1 (h.2.2.1 a b).2,fun p hp=>by
  obtain ⟨q,hq,e⟩:=List.mem_map.1 (h2.2.2.2.1 p hp)
  rw [←e]
  exact h.2.2.2.1 q hq,fun D hD=>h2.2.2.2.2 D (h.2.2.2.2 D hD)⟩
theorem KeptK.rest{v:Vl}{d d':Dk}(h:KeptK v d d')(hr:RestK d):RestK d':=⟨(h.2.2.1 hr.1 hr.2.1).1,(h.2.2.1 hr.1 hr.2.1).2,h.2.2.2.2 _ hr.2.2⟩
def Dk.two (d:Dk) (v:Vl) (f g:Nat):Dk:={ d with now:=[(v.file,f),(mName v.num,g)] }
theorem VK.vi{d:Dk}{v:Vl}{ns:List Nd}{X:Nat}(h:VK d v ns X):∃ f g,VI (d.two v f g) v ns∧∀ o n,(d.two v f g).read v.file o n=d.read v.file o n:=by
 obtain ⟨f,g,hfg,hf,hg,hfb,hgb,-,-⟩:=h.now
 have hvm:v.file≠mName v.num:=v_ne_m _ _ _
 have g1:dirGet (d.two v f g).now v.file=some f:=by show dirGet [_,_] _=_;rw [get_cons,if_pos rfl]
 refine ⟨f,g,⟨h.armed,h.cap,h.num,h.gen,h.epoch,⟨f,g,hfg,rfl,g1,?_,hfb,hgb⟩,h.size,h.most,h.ok,h.srt,h.idx,h.len⟩,fun o n=>?_⟩
 ·show dirGet [_,_] _=_
  rw [get_cons,if_neg hvm,get_cons,if_pos rfl]
 ·have e:(d.two v f g).fnd v.file=d.fnd v.file:=by
   unfold Dk.fnd
   rw [g1,hf]
   rfl
  unfold Dk.read
  rw [e]
  rfl
theorem VK.get_two{d:Dk}{v:Vl}{f g:Nat}(h:∀ o n,(d.two v f g).read v.file o n=d.read v.file o n)(key cookie:Nat):v.get (d.two v f g) key cookie=v.get d key cookie:=by
 unfold Vl.get
 simp only [h]
theorem VK.write_r{d:Dk}{v:Vl}{ns:List Nd}{n:Nd}{X:Nat}(h:VK d v ns X)(hk:n.key<18446744073709551616)(hck:n.cookie<4294967296)(hc:ndCheck n=0)(hcap:v.size+ndSize n.data.length+24+X≤1048576) :
  ∃ d' v' ns',v.write d n=(((Rv.of v ns).write n).1,d',v')∧VK d' v' ns' X∧Rv.of v' ns'=((Rv.of v ns).write n).2∧v'.size≤v.size+ndSize n.data.length∧ns'.length≤ns.length+1∧KeptK v d d'∧v'.num=v.num∧(ManAt d v→ManAt d' v')∧ns <+: ns':=by
 cases hr:v.room n.key (ndSize n.data.length) with
 | true=>
  obtain ⟨d',v',h1,h2,h3,h4,h5,h6,h7⟩:=h.write hk hck hc hr hcap
  have e:(Rv.of v ns).write n=(0,Rv.of v' (ns ++ [n])):=by
   unfold Rv.write
   have hr2:=hr
   unfold Vl.room at hr2
   simp only [Bool.and_eq_true,Bool.or_eq_true,decide_eq_true_eq,Option.isSome_iff_ne_none] at hr2
   rw [if_neg (by
    show ¬ (v.most<v.size+ndSize n.data.length∨(ixFind v.idx n.key=none∧4096≤v.idx.length))
    rintro (e|⟨e1,e2⟩)
    ·omega
    ·rcases hr2.2 with e3|e3
     ·exact e3 e1
     ·omega),h3]
   rfl
  refine ⟨d',v',ns ++ [n],?_,h2,?_,?_,?_,⟨fun s i hs1 hs2 hs3=>⟨by rw [h4];exact hs3,h5 i fun e=>?_⟩,by rw [h4],h6,fun p hp=>by rw [h4] at hp;exact List.mem_map_of_mem hp,h7⟩,by rw [h3],fun ⟨g,hg,hgb⟩=>⟨g,?_,?_⟩,List.prefix_append _ _⟩
  ·rw [e];exact h1
  ·rw [e]
  ·rw [h3];exact Nat.le_refl _
  ·simp
  ·obtain ⟨f,g,hfg,hf,hg,hfb,hgb,hof,hog⟩:=h.now
   rw [hf] at e
   exact hof _ (get_mem hs3) hs1 (by injection e with e;exact e.symm)
  ·rw [h3,h4];exact hg
  ·rw [h5 g fun e=>?_,h3]
   ·exact hgb
   ·obtain ⟨f,g',hfg,hf,hg',-⟩:=h.now
    rw [hf] at e
    rw [hg'] at hg
    injection e with e
    injection hg with hg
    exact hfg (by rw [e,hg])
 | false=>
  have e:(Rv.of v ns).write n=(11,Rv.of v ns):=by
   unfold Rv.write
   unfold Vl.room at hr
   simp only [Bool.and_eq_false_iff,Bool.or_eq_false_iff,decide_eq_false_iff_not] at hr
   rw [if_pos (by
    show v.most<v.size+ndSize n.data.length∨(ixFind v.idx n.key=none∧4096≤v.idx.length)
    rcases hr with e|⟨e1,e2⟩
    ·exact .inl (by omega)
    ·refine .inr ⟨?_,by omega⟩
     cases e3:ixFind v.idx n.key with
     | none=>rfl
     | some x=>rw [e3] at e1;cases e1)]
  refine ⟨d,v,ns,?_,h,?_,by omega,by omega,KeptK.refl _ _,rfl,id,List.prefix_refl _⟩
  ·rw [e]
   unfold Vl.write
   rw [if_neg (by rw [hc];simp),if_pos hr]
  ·rw [e]
theorem VK.act{d:Dk}{v:Vl}{ns:List Nd}{X:Nat}(h:VK d v ns X)(a:VAct)(hk:a.n.key<18446744073709551616)(hck:a.n.cookie<4294967296)(hcap:v.size+ndSize a.n.data.length+56+X≤1048576) :
  ∃ d' v' ns',v.act d a=(((Rv.of v ns).act a).1,d',v')∧VK d' v' ns' X∧Rv.of v' ns'=((Rv.of v ns).act a).2∧v'.size≤v.size+ndSize a.n.data.length∧ns'.length≤ns.length+1∧KeptK v d d'∧v'.num=v.num∧(ManAt d v→ManAt d' v')∧ns <+: ns':=by
 obtain ⟨f,g,hv2,hrd⟩:=h.vi
 have hlook:=fun k c=>hv2.look k c
 have hgets:=fun k c=>hv2.gets k c
 simp only [VK.get_two hrd] at hgets
 have hstay:∀ e,∃ d' v' ns',((e,d,v):Nat×Dk×Vl)=(e,d',v')∧VK d' v' ns' X∧Rv.of v' ns'=Rv.of v ns∧v'.size≤v.size+ndSize a.n.data.length∧ns'.length≤ns.length+1∧KeptK v d d'∧v'.num=v.num∧(ManAt d v→ManAt d' v')∧ns <+: ns':=fun e=>⟨d,v,ns,rfl,h,rfl,by omega,by omega,KeptK.refl _ _,rfl,id,List.prefix_refl _⟩
 unfold Vl.act Rv.act
 split
 ·unfold Vl.put Rv.put
  split
  ·exact hstay 1
  split
  ·exact hstay _
  rename_i hc
  have hsh:(Rv.of v ns).shut=v.shut:=rfl
  rw [hsh]
  split
  ·exact hstay 10
  ·have hx:=h.idx a.n.key
   have hn:=newest_last ns 16 a.n.key
   show ∃ d' v' ns',(match ixFind v.idx a.n.key with|some p=>(if p.gone=true then 7 else 8,d,v)|none=>v.write d a.n)=((match lastOf ns a.n.key with|some o=>(if o.gone=true then 7 else 8,Rv.of v ns)|none=>(Rv.of v ns).write a.n).1,d',v')∧VK d' v' ns' X∧Rv.of v' ns'=(match lastOf ns a.n.key with|some o=>(if o.gone=true then 7 else 8,Rv.of v ns)|none=>(Rv.of v ns).write a.n).2∧_
   rw [hx,←hn]
   cases newest ns 16 a.n.key with
   | none=>exact h.write_r hk hck (by omega) (by omega)
   | some x=>exact hstay _
 split
 ·unfold Vl.del Rv.del
  rw [hlook]
  split
  ·exact hstay _
  have hsh:(Rv.of v ns).shut=v.shut:=rfl
  rw [hsh]
  split
  ·exact hstay 10
  ·obtain ⟨d',v',ns',h1,h2,h3,h4,h5,h6⟩:=h.write_r (n:=⟨a.n.key,a.n.cookie,true,[]⟩) hk hck rfl (by
    show v.size+ndSize 0+24+X≤1048576
    have:ndSize 0=32:=rfl
    omega)
   refine ⟨d',v',ns',h1,h2,h3,Nat.le_trans h4 ?_,h5,h6⟩
   have:ndSize 0=32:=rfl
   have h9:32≤ndSize a.n.data.length:=by unfold ndSize;omega
   show v.size+ndSize 0≤_
   omega
 split
 ·rw [(hgets _ _).1]
  exact hstay _
 split
 ·exact hstay 0
 split
 ·unfold Vl.set Rv.set
  split
  ·exact hstay 1
  have he:(Rv.of v ns).epoch=v.epoch:=rfl
  rw [he]
  split
  ·exact hstay 13
  ·rename_i h1 h2
   have h9:32≤ndSize a.n.data.length:=by unfold ndSize;omega
   obtain ⟨d',e1,e2,N,e3,e4,e5,e6,e7⟩:=h.lay a.m.toNat a.n.gone (by omega) (by omega)
   rw [e1,if_neg (by simp)]
   refine ⟨d',_,ns,rfl,e2,rfl,by show v.size≤_;omega,by omega,⟨fun s i hs1 hs2 hs3=>⟨by rw [e3,get_put_other _ _ hs2];exact hs3,e5 i (h.ins _ (get_mem hs3))⟩,?_,e6,fun p hp=>?_,e7⟩,rfl,fun _=>⟨N,by rw [e3];exact get_put_same _ _ _,e4⟩,List.prefix_refl _⟩
   ·obtain ⟨f',g',-,-,hg',-⟩:=h.now
    have:=(sum_del (fun _=>0) h.nod hg').2
    rw [e3]
    unfold dirPut
    rw [len_ins]
    exact this
   ·rw [e3] at hp
    obtain ⟨f',g',-,-,hg',-⟩:=h.now
    rcases mem_put.1 hp with rfl|⟨hp,-⟩
    ·exact List.mem_map_of_mem (f:=(·.1)) (get_mem hg')
    ·exact List.mem_map_of_mem (f:=(·.1)) hp
 ·exact hstay 0
theorem VK.opens{d:Dk}{v:Vl}{ns:List Nd}{X:Nat}(h:VK d v ns X)(hm:ManAt d v):Opens d v ns []:=by
 obtain ⟨f,g,hfg,hf,hg,hfb,hgb,-,-⟩:=h.now
 have e:=h.gen
 refine ⟨by rw [h.armed];decide,h.num,by omega,h.epoch,hm,⟨f,hf,?_⟩,.inl rfl,h.ok,h.size⟩
 rw [e,hfb,List.append_nil]
theorem VK.ixOf{d:Dk}{v:Vl}{ns:List Nd}{X:Nat}(h:VK d v ns X):Go.Proofs.YtfpjfoajonbndaaGreatDoor.ixOf ns=v.idx:=by
 obtain ⟨f,g,hv,-⟩:=h.vi
 exact hv.ixOf
theorem ixOf_from(a b:List Nd):putAll (ixOf a) (posL (16+(ndsB a).length) b)=ixOf (a ++ b):=by
 unfold ixOf
 rw [posL_append,putAll_append]
theorem KeptK.whole{v:Vl}{d d':Dk}(h:KeptK v d d')(ha:d.armed≠0)(ha':d'.armed≠0){s:Nm}{i:Nat}(h1:s≠v.file)(h2:s≠mName v.num)(hs:dirGet d.now s=some i):d'.whole s=d.whole s:=by
 obtain ⟨h3,h4⟩:=h.1 s i h1 h2 hs
 rw [whole_at ha' h3,whole_at ha hs,h4]
structure DG (d:Dk):Prop where
 armed:d.armed = -1
 fnow:∀ p∈d.now,p.2<d.files.length
structure NewF (d:Dk) (s:Nm) (e:Dk):Prop where
 ok:DG e
 cap:e.cap=d.cap
 used:e.used=d.used
 now:e.now=dirPut d.now s d.files.length
 len:e.now.length≤d.now.length+1
 get:dirGet e.now s=some d.files.length
 fls:e.files.length=d.files.length+1
 new:e.fileAt d.files.length=⟨[],0⟩
 old:∀ i,i<d.files.length→e.fileAt i=d.fileAt i
theorem create_new{d:Dk}{s:Nm}(h:DG d)(hn:namedB s=true)(hg:dirGet d.now s=none)(h64:d.now.length<64):∃ e,d.create s=(0,e)∧NewF d s e:=by
 have h0:d.armed≠0:=by rw [h.armed];decide
 have hno:=get_none hg
 refine ⟨{ d with files:=d.files ++ [⟨[],0⟩],now:=dirPut d.now s d.files.length,deeds:=d.deeds ++ [⟨0,[],s,d.files.length⟩] },?_,?_⟩
 ·unfold Dk.create
  rw [if_neg h0,if_neg (by rw [hn];simp),if_neg (by rw [hg];simp),if_neg (by omega)]
  unfold Dk.turn Dk.did Deed.app
  simp [h.armed]
 ·have h1at:∀ i,i<d.files.length→(d.files ++ [⟨[],0⟩]:List DFile)[i]?.getD ⟨[],0⟩=d.fileAt i:=fun i hi=>by
   unfold Dk.fileAt
   rw [List.getElem?_append_left hi]
  refine ⟨⟨h.armed,fun p hp=>?_⟩,rfl,?_,rfl,len_put _ _ _,get_put_same _ _ _,by simp,by unfold Dk.fileAt;simp,fun i hi=>h1at i hi⟩
  ·show p.2<(d.files ++ [⟨[],0⟩]:List DFile).length
   rw [List.length_append,List.length_singleton]
   rcases mem_put.1 hp with rfl|⟨hp,-⟩
   ·show d.files.length<_;omega
   ·have:=h.fnow p hp;omega
  ·unfold Dk.used
   show ((dirPut d.now s d.files.length).map _).sum=_
   unfold dirPut
   rw [del_none hno,sum_ins]
   have e0:(Dk.fileAt { d with files:=d.files ++ [⟨[],0⟩],now:=dirIns (s,d.files.length) d.now,deeds:=d.deeds ++ [⟨0,[],s,d.files.length⟩] } d.files.length)=⟨[],0⟩:=by unfold Dk.fileAt;simp
   rw [e0]
   simp only [List.length_nil,Nat.zero_add]
   congr 1
   exact List.map_congr_left fun p hp=>by
    show ((d.files ++ [⟨[],0⟩]:List DFile)[p.2]?.getD ⟨[],0⟩).b.length=_
    rw [h1at p.2 (h.fnow p hp)]
theorem NewF.fnd{d e:Dk}{s:Nm}(h:NewF d s e):e.fnd s=(0,d.files.length):=by
 unfold Dk.fnd
 rw [if_neg (by rw [h.ok.armed];decide),h.get]
structure FullF (d e:Dk) (s:Nm) (b:List UInt8) (x:Dk):Prop where
 ok:DG x
 cap:x.cap=d.cap
 used:x.used=d.used+b.length
 now:x.now=e.now
 fls:x.files.length=d.files.length+1
 new:(x.fileAt d.files.length).b=b
 old:∀ i,i<d.files.length→x.fileAt i=d.fileAt i
theorem NewF.append{d e:Dk}{s:Nm}{b:List UInt8}(h:NewF d s e)(hd:DG d)(hg:dirGet d.now s=none)(hb:b.length≤16777216)(hc:d.used+b.length≤d.cap):∃ x,e.append s b=(0,x)∧FullF d e s b x:=by
 have hno:=get_none hg
 refine ⟨(e.setF d.files.length ⟨b,0⟩).did,?_,?_⟩
 ·unfold Dk.append
  rw [h.fnd,if_neg (by simp)]
  simp only
  rw [h.new,if_neg (by simp;omega),h.cap,h.used,if_neg (by omega)]
  simp
 ·have hat:∀ i,((e.setF d.files.length ⟨b,0⟩).did).fileAt i=if i=d.files.length then ⟨b,0⟩ else e.fileAt i:=fun i=>by
   show (e.files.set d.files.length ⟨b,0⟩)[i]?.getD ⟨[],0⟩=_
   by_cases hi:i=d.files.length
   ·subst hi
    rw [if_pos rfl,List.getElem?_set_self (by rw [h.fls];omega)]
    rfl
   ·rw [if_neg hi,List.getElem?_set_ne (Ne.symm hi)]
    rfl
  refine ⟨⟨?_,fun p hp=>?_⟩,h.cap,?_,rfl,?_,?_,fun i hi=>?_⟩
  ·show (if 0<e.armed then e.armed - 1 else e.armed) = -1
   rw [h.ok.armed]
   rfl
  ·show p.2<(e.files.set d.files.length ⟨b,0⟩).length
   rw [List.length_set]
   exact h.ok.fnow p hp
  ·unfold Dk.used
   show (e.now.map fun p=>(((e.setF d.files.length ⟨b,0⟩).did).fileAt p.2).b.length).sum=_
   rw [h.now]
   unfold dirPut
   rw [del_none hno,sum_ins,hat,if_pos rfl,Nat.add_comm]
   congr 1
   refine congrArg List.sum (List.map_congr_left fun p hp=>?_)
   have:=hd.fnow p hp
   rw [hat,if_neg (by omega),h.old p.2 this]
  ·show (e.files.set d.files.length ⟨b,0⟩).length=_
   rw [List.length_set,h.fls]
  ·rw [hat,if_pos rfl]
  ·rw [hat,if_neg (by omega),h.old i hi]
def OthN (v:Vl) (s:Nm):Prop:=s≠v.file∧s≠mName v.num∧s≠sName v.num
theorem VK.move{d d':Dk}{v:Vl}{ns:List Nd}{X X':Nat}(h:VK d v ns X)(ha:d'.armed = -1)(hc:d'.cap=d.cap)
  (hfg:∀ i,(dirGet d.now v.file=some i∨dirGet d.now (mName v.num)=some i)→d'.fileAt i=d.fileAt i)
  (hget:∀ s,s=v.file∨s=mName v.num∨s=sName v.num→dirGet d'.now s=dirGet d.now s)
  (hold:∀ p∈d'.now,p∈d.now∨(p.1≠v.file∧p.1≠mName v.num∧((∃ q∈d.now,q.2=p.2∧q.1≠v.file∧q.1≠mName v.num)∨d.files.length≤p.2)))
  (hfew:d'.now.length≤32) (hnod:(d'.now.map (·.1)).Nodup) (hins:∀ p∈d'.now,p.2<d'.files.length) (hu:d'.used=v.size+24+X'):VK d' v ns X':=by
 obtain ⟨f,g,hf,hf1,hg1,hfb,hgb,hof,hog⟩:=h.now
 have hlf:=h.ins _ (get_mem hf1)
 have hlg:=h.ins _ (get_mem hg1)
 refine ⟨ha,by rw [hc];exact h.cap,h.num,h.gen,h.epoch,⟨f,g,hf,by rw [hget _ (.inl rfl)];exact hf1,by rw [hget _ (.inr (.inl rfl))];exact hg1,by rw [hfg f (.inl hf1)];exact hfb,by rw [hfg g (.inr hg1)];exact hgb,fun p hp hne=>?_,fun p hp hne=>?_⟩,hfew,hnod,hins,by rw [hget _ (.inr (.inr rfl))];exact h.nos,hu,h.size,h.most,h.ok,h.srt,h.idx,h.len⟩
 ·rcases hold p hp with h1|⟨-,-,⟨q,h1,h2,h3,h4⟩|h1⟩
  ·exact hof p h1 hne
  ·rw [←h2];exact hof q h1 h3
  ·have:f<d.files.length:=hlf
   omega
 ·rcases hold p hp with h1|⟨-,-,⟨q,h1,h2,h3,h4⟩|h1⟩
  ·exact hog p h1 hne
  ·rw [←h2];exact hog q h1 h4
  ·have:g<d.files.length:=hlg
   omega
theorem VK.fg_lt{d:Dk}{v:Vl}{ns:List Nd}{X i:Nat}(h:VK d v ns X)(hi:dirGet d.now v.file=some i∨dirGet d.now (mName v.num)=some i):i<d.files.length:=by
 rcases hi with e|e <;> exact h.ins _ (get_mem e)
theorem VK.fg_ne{d:Dk}{v:Vl}{ns:List Nd}{X i j:Nat}{s:Nm}(h:VK d v ns X)(hi:dirGet d.now v.file=some i∨dirGet d.now (mName v.num)=some i)(hs:OthN v s)(hj:dirGet d.now s=some j):i≠j:=by
 obtain ⟨f,g,hf,hf1,hg1,hfb,hgb,hof,hog⟩:=h.now
 rcases hi with e|e
 ·rw [hf1] at e
  injection e with e
  rw [←e]
  exact fun e2=>hof _ (get_mem hj) hs.1 e2.symm
 ·rw [hg1] at e
  injection e with e
  rw [←e]
  exact fun e2=>hog _ (get_mem hj) hs.2.1 e2.symm
theorem used_files{d d':Dk}(hn:d'.now=d.now)(h:∀ p∈d.now,(d'.fileAt p.2).b.length=(d.fileAt p.2).b.length):d'.used=d.used:=by
 unfold Dk.used
 rw [hn]
 congr 1
 exact List.map_congr_left h
def Dk.createO (d:Dk) (s:Nm):Dk:={ d with files:=d.files ++ [⟨[],0⟩],now:=dirPut d.now s d.files.length,deeds:=d.deeds ++ [⟨0,[],s,d.files.length⟩] }
theorem VK.create_o{d:Dk}{v:Vl}{ns:List Nd}{X:Nat}{s:Nm}(h:VK d v ns X)(hs:OthN v s)(hn:namedB s=true)(hg:dirGet d.now s=none)(hl:d.now.length≤31) :
  d.create s=(0,d.createO s)∧VK (d.createO s) v ns X∧(d.createO s).now.length=d.now.length+1:=by
 have hno:=get_none hg
 have hat:∀ i,i<d.files.length→(d.createO s).fileAt i=d.fileAt i:=fun i hi=>by
  unfold Dk.fileAt Dk.createO
  rw [List.getElem?_append_left hi]
 have hln:(d.createO s).now.length=d.now.length+1:=by
  show (dirPut _ _ _).length=_
  unfold dirPut
  rw [len_ins,del_none hno]
 refine ⟨?_,h.move h.armed rfl (fun i hi=>hat i (h.fg_lt hi)) (fun t ht=>?_) (fun p hp=>?_) (by omega) (nod_put _ _ h.nod) (fun p hp=>?_) ?_,hln⟩
 ·unfold Dk.create
  rw [if_neg (by rw [h.armed];decide),if_neg (by rw [hn];simp),if_neg (by rw [hg];simp),if_neg (by omega)]
  unfold Dk.turn
  rw [did_off (by show d.armed = -1;exact h.armed)]
  rfl
 ·refine get_put_other _ _ ?_
  rcases ht with rfl|rfl|rfl
  ·exact Ne.symm hs.1
  ·exact Ne.symm hs.2.1
  ·exact Ne.symm hs.2.2
 ·rcases mem_put.1 hp with rfl|⟨hp,-⟩
  ·exact .inr ⟨hs.1,hs.2.1,.inr (Nat.le_refl _)⟩
  ·exact .inl hp
 ·show p.2<(d.files ++ [_]).length
  rw [List.length_append,List.length_singleton]
  rcases mem_put.1 hp with rfl|⟨hp,-⟩
  ·show d.files.length<_;omega
  ·have:=h.ins p hp;omega
 ·show ((dirPut d.now s d.files.length).map fun p=>((d.createO s).fileAt p.2).b.length).sum=_
  unfold dirPut
  rw [del_none hno,sum_ins]
  have e0:(d.createO s).fileAt d.files.length=⟨[],0⟩:=by unfold Dk.fileAt Dk.createO;simp
  rw [e0]
  have:=h.used
  unfold Dk.used at this
  rw [←this]
  simp only [List.length_nil,Nat.zero_add]
  congr 1
  exact List.map_congr_left fun p hp=>by
   rw [hat p.2 (h.ins p hp)]
theorem VK.fnd_o{d:Dk}{v:Vl}{ns:List Nd}{X i:Nat}{s:Nm}(h:VK d v ns X)(hg:dirGet d.now s=some i):d.fnd s=(0,i):=by
 unfold Dk.fnd
 rw [if_neg (by rw [h.armed];decide),hg]
theorem VK.setF_o{d:Dk}{v:Vl}{ns:List Nd}{X X' i:Nat}{s:Nm}(h:VK d v ns X)(hs:OthN v s)(hg:dirGet d.now s=some i)(hof:∀ p∈d.now,p.1≠s→p.2≠i)(x:DFile)(hX:X'+(d.fileAt i).b.length=X+x.b.length):VK (d.setF i x) v ns X':=by
 have hlt:=h.ins _ (get_mem hg)
 have hat:∀ j,j≠i→(d.setF i x).fileAt j=d.fileAt j:=fun j hj=>fileAt_ne (Ne.symm hj)
 refine h.move h.armed rfl (fun j hj=>hat j (h.fg_ne hj hs hg)) (fun t ht=>rfl) (fun p hp=>.inl hp) h.few h.nod (fun p hp=>by show p.2<(d.files.set i x).length;rw [List.length_set];exact h.ins p hp) ?_
 have:=sum_swap (fun j=>((d.setF i x).fileAt j).b.length) (fun j=>(d.fileAt j).b.length) h.nod hg fun p hp hne=>by
  show ((d.setF i x).fileAt p.2).b.length=_
  rw [hat p.2 (hof p hp hne)]
 simp only [fileAt_set hlt] at this
 have h2:=h.used
 unfold Dk.used at h2 ⊢
 rw [show (d.setF i x).now=d.now from rfl]
 omega
theorem VK.append_o{d:Dk}{v:Vl}{ns:List Nd}{X i:Nat}{s:Nm}(h:VK d v ns X)(hs:OthN v s)(hg:dirGet d.now s=some i)(hof:∀ p∈d.now,p.1≠s→p.2≠i)(b:List UInt8)(hb:(d.fileAt i).b.length+b.length≤16777216)(hc:v.size+24+X+b.length≤1048576) :
  d.append s b=(0,d.setF i ⟨(d.fileAt i).b ++ b,(d.fileAt i).lasts⟩)∧VK (d.setF i ⟨(d.fileAt i).b ++ b,(d.fileAt i).lasts⟩) v ns (X+b.length):=by
 refine ⟨?_,h.setF_o hs hg hof _ (by simp;omega)⟩
 unfold Dk.append
 rw [h.fnd_o hg,if_neg (by simp),if_neg (by simpa using hb),if_neg (by rw [h.cap,h.used];omega)]
 congr 1
 exact did_off (by show d.armed = -1;exact h.armed)
theorem VK.sync_o{d:Dk}{v:Vl}{ns:List Nd}{X i:Nat}{s:Nm}(h:VK d v ns X)(hs:OthN v s)(hg:dirGet d.now s=some i)(hof:∀ p∈d.now,p.1≠s→p.2≠i) :
  d.sync s=(0,d.setF i ⟨(d.fileAt i).b,(d.fileAt i).b.length⟩)∧VK (d.setF i ⟨(d.fileAt i).b,(d.fileAt i).b.length⟩) v ns X:=by
 refine ⟨?_,h.setF_o hs hg hof _ rfl⟩
 unfold Dk.sync
 rw [h.fnd_o hg,if_neg (by simp)]
 congr 1
 exact did_off (by show d.armed = -1;exact h.armed)
theorem VK.syncNames_o{d:Dk}{v:Vl}{ns:List Nd}{X:Nat}(h:VK d v ns X) :
  d.syncNames=(0,{ d with lasting:=d.now,deeds:=[] })∧VK { d with lasting:=d.now,deeds:=[] } v ns X:=by
 refine ⟨?_,h.move h.armed rfl (fun i hi=>rfl) (fun t ht=>rfl) (fun p hp=>.inl hp) h.few h.nod h.ins h.used⟩
 unfold Dk.syncNames
 rw [if_neg (by rw [h.armed];decide)]
 congr 1
 exact did_off (by show d.armed = -1;exact h.armed)
def Dk.removeO (d:Dk) (s:Nm):Dk:={ d with now:=dirDel d.now s,deeds:=d.deeds ++ [⟨2,s,[],0⟩] }
theorem VK.remove_o{d:Dk}{v:Vl}{ns:List Nd}{X i:Nat}{s:Nm}(h:VK d v ns X)(hs:OthN v s)(hg:dirGet d.now s=some i) :
  d.remove s=(0,d.removeO s)∧VK (d.removeO s) v ns (X - (d.fileAt i).b.length)∧(d.removeO s).now.length+1=d.now.length∧(d.fileAt i).b.length≤X:=by
 have hdl:=sum_del (fun j=>(d.fileAt j).b.length) h.nod hg
 have hu:=h.used
 have hle:(d.fileAt i).b.length≤X:=by
  obtain ⟨f,g,hf,hf1,hg1,hfb,hgb,hof,hog⟩:=h.now
  have h1:=sum_del (fun j=>(d.fileAt j).b.length) (nod_del s h.nod) (a:=v.file) (f:=f) (by rw [get_del_other _ (Ne.symm hs.1)];exact hf1)
  have h2:=sum_del (fun j=>(d.fileAt j).b.length) (nod_del v.file (nod_del s h.nod)) (a:=mName v.num) (f:=g) (by rw [get_del_other _ (show mName v.num≠v.file from Ne.symm (v_ne_m _ _ _)),get_del_other _ (Ne.symm hs.2.1)];exact hg1)
  have h3:(d.fileAt f).b.length=v.size:=by rw [hfb,List.length_append,superB_len,h.size]
  have h4:=hdl.1
  unfold Dk.used at hu
  omega
 refine ⟨?_,h.move h.armed rfl (fun i hi=>rfl) (fun t ht=>?_) (fun p hp=>.inl (List.mem_filter.1 hp).1) ?_ (nod_del _ h.nod) (fun p hp=>h.ins p (List.mem_filter.1 hp).1) ?_,hdl.2,hle⟩
 ·unfold Dk.remove
  rw [h.fnd_o hg,if_neg (by simp)]
  unfold Dk.turn
  rw [did_off (by show d.armed = -1;exact h.armed)]
  rfl
 ·refine get_del_other _ ?_
  rcases ht with rfl|rfl|rfl
  ·exact Ne.symm hs.1
  ·exact Ne.symm hs.2.1
  ·exact Ne.symm hs.2.2
 ·have:=hdl.2
  have:=h.few
  show (dirDel d.now s).length≤32
  omega
 ·have h1:=hdl.1
  unfold Dk.used at hu ⊢
  show ((dirDel d.now s).map fun p=>(d.fileAt p.2).b.length).sum=_
  omega
def Dk.lenAt (d:Dk) (s:Nm):Nat:=match dirGet d.now s with|none=>0|some j=>(d.fileAt j).b.length
def Dk.cntAt (d:Dk) (s:Nm):Nat:=match dirGet d.now s with|none=>0|some _=>1
theorem lenAt_none{d:Dk}{s:Nm}(h:dirGet d.now s=none):d.lenAt s=0∧d.cntAt s=0:=by unfold Dk.lenAt Dk.cntAt;rw [h];exact ⟨rfl,rfl⟩
theorem lenAt_some{d:Dk}{s:Nm}{j:Nat}(h:dirGet d.now s=some j):d.lenAt s=(d.fileAt j).b.length∧d.cntAt s=1:=by unfold Dk.lenAt Dk.cntAt;rw [h];exact ⟨rfl,rfl⟩
def Dk.renameO (d:Dk) (s t:Nm) (i:Nat):Dk:={ d with now:=dirPut (dirDel d.now s) t i,deeds:=d.deeds ++ [⟨1,s,t,i⟩] }
theorem VK.rename_o{d:Dk}{v:Vl}{ns:List Nd}{X i:Nat}{s t:Nm}(h:VK d v ns X)(hs:OthN v s)(ht:OthN v t)(hst:s≠t)(hn:namedB t=true)(hg:dirGet d.now s=some i) :
  d.rename s t=(0,d.renameO s t i)∧VK (d.renameO s t i) v ns (X - d.lenAt t)∧(d.renameO s t i).now.length+d.cntAt t=d.now.length:=by
 have e1:d.rename s t=(0,d.renameO s t i):=by
  unfold Dk.rename
  rw [h.fnd_o hg,if_neg (by simp),if_neg (by rw [hn];simp)]
  unfold Dk.turn
  rw [did_off (by show d.armed = -1;exact h.armed)]
  rfl
 have hdl:=sum_del (fun j=>(d.fileAt j).b.length) h.nod hg
 have hu:=h.used
 have hnd:=nod_del s h.nod
 have hln:(d.renameO s t i).now.length+d.cntAt t=d.now.length:=by
  show (dirPut (dirDel d.now s) t i).length+_=_
  unfold dirPut
  rw [len_ins]
  have h1:=hdl.2
  cases ej:dirGet d.now t with
  | none=>
   rw [del_none (get_none (by rw [get_del_other _ (Ne.symm hst)];exact ej)),(lenAt_none ej).2]
   omega
  | some j=>
   have h2:=(sum_del (fun j=>(d.fileAt j).b.length) hnd (a:=t) (f:=j) (by rw [get_del_other _ (Ne.symm hst)];exact ej)).2
   rw [(lenAt_some ej).2]
   omega
 refine ⟨e1,h.move h.armed rfl (fun j hj=>rfl) (fun u hu=>?_) (fun p hp=>?_) (by have:=h.few;omega) (nod_put _ _ hnd) (fun p hp=>?_) ?_,hln⟩
 ·have a1:u≠t∧u≠s:=by
   rcases hu with rfl|rfl|rfl
   ·exact ⟨Ne.symm ht.1,Ne.symm hs.1⟩
   ·exact ⟨Ne.symm ht.2.1,Ne.symm hs.2.1⟩
   ·exact ⟨Ne.symm ht.2.2,Ne.symm hs.2.2⟩
  show dirGet (dirPut _ _ _) u=_
  rw [get_put_other _ _ a1.1,get_del_other _ a1.2]
 ·rcases mem_put.1 hp with rfl|⟨hp,-⟩
  ·exact .inr ⟨ht.1,ht.2.1,.inl ⟨(s,i),get_mem hg,rfl,hs.1,hs.2.1⟩⟩
  ·exact .inl (List.mem_filter.1 hp).1
 ·rcases mem_put.1 hp with rfl|⟨hp,-⟩
  ·exact h.ins (s,i) (get_mem hg)
  ·exact h.ins p (List.mem_filter.1 hp).1
 ·show ((dirPut (dirDel d.now s) t i).map fun p=>(d.fileAt p.2).b.length).sum=_
  unfold dirPut
  rw [sum_ins]
  have h1:=hdl.1
  unfold Dk.used at hu
  simp only
  cases ej:dirGet d.now t with
  | none=>
   rw [del_none (get_none (by rw [get_del_other _ (Ne.symm hst)];exact ej)),(lenAt_none ej).1]
   omega
  | some j=>
   have h2:=(sum_del (fun j=>(d.fileAt j).b.length) hnd (a:=t) (f:=j) (by rw [get_del_other _ (Ne.symm hst)];exact ej)).1
   have h3:=(h.remove_o ht ej).2.2.2
   rw [(lenAt_some ej).1]
   omega
end Go.Proofs.YtfpjfoajonbndaaGreatDoor
