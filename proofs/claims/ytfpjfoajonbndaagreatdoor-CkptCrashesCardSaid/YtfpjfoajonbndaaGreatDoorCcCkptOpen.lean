import Derived.Test.YtfpjfoajonbndaaGreatDoorCcCkptK
import Derived.Test.YtfpjfoajonbndaaGreatDoorCc19
import Derived.Test.YtfpjfoajonbndaaGreatDoorCcVolTidy
import Derived.Laws.Externs
import Derived.Lib.Bytealg
import Derived.Test.YtfpjfoajonbndaaGreatDoorCcCheckGet
import Derived.Test.YtfpjfoajonbndaaGreatDoorCc17
import Derived.Test.YtfpjfoajonbndaaGreatDoorCc10
import Derived.Test.YtfpjfoajonbndaaGreatDoorCc24
import Derived.Test.YtfpjfoajonbndaaGreatDoorCc21
import Derived.Test.YtfpjfoajonbndaaGreatDoorCcMadeR10
import Derived.Test.YtfpjfoajonbndaaGreatDoorCcDiskNames
import Derived.Test.YtfpjfoajonbndaaGreatDoorCc18
namespace Go.Proofs.YtfpjfoajonbndaaGreatDoor
set_option maxHeartbeats 8000000
set_option maxRecDepth 100000
open Go.RowKit
def Dk.seen (d:Dk) (p:DPicks):Dk:=⟨d.cap,d.lastDir p,d.lastDir p,[],d.files,-1⟩
def Stl (o o':Option DFile):Prop:=(o=none∧o'=none)∨∃ x q,o=some x∧o'=some (x.settle q)
def setO (p:DPicks) (oi:Option Nat) (fs:List DFile):List DFile:=match oi with|none=>fs|some i=>fs.set i ((fs[i]?.getD ⟨[],0⟩).settle (p.at i))
theorem setO_get(p:DPicks)(oi:Option Nat)(fs:List DFile)(k:Nat):(setO p oi fs)[k]? = fs[k]?.map fun f=>if oi=some k then f.settle (p.at k) else f:=by
 cases oi with
 | none=>show fs[k]? = _;cases fs[k]? <;> simp
 | some i=>
  show (fs.set i _)[k]? = _
  rw [List.getElem?_set]
  by_cases e:i=k
  ·subst e
   rw [if_pos rfl]
   by_cases hl:i<fs.length
   ·rw [if_pos hl,List.getElem?_eq_getElem hl];simp
   ·rw [if_neg hl,List.getElem?_eq_none (by omega)];rfl
  ·rw [if_neg e]
   cases fs[k]? <;> simp [e]
theorem settle_pair{d:Dk}{v:Vl}{ns:List Nd}{o n:Option DFile}(h:CkF d v ns o n)(p:DPicks)(hfs:∀ i,(dirGet d.now v.file=some i∨dirGet d.now (mName v.num)=some i)→(d.fileAt i).lasts=(d.fileAt i).b.length) :
  settleAll d.now p d.files=setO p (dirGet d.now (cName 1 1)) (setO p (dirGet d.now (cName 1 0)) d.files):=by
 refine List.ext_getElem? fun k=>?_
 rw [setO_get,setO_get]
 unfold settleAll
 rw [List.getElem?_mapIdx]
 cases hf:d.files[k]? with
 | none=>rfl
 | some f=>
  simp only [Option.map_some,Option.some.injEq]
  by_cases e0:dirGet d.now (cName 1 0)=some k
  ·have e1:dirGet d.now (cName 1 1)≠some k:=fun e1=>h.dis k k e0 e1 rfl
   rw [if_pos e0,if_neg e1,if_pos (List.any_eq_true.2 ⟨_,get_mem e0,by simp⟩)]
  ·rw [if_neg e0]
   by_cases e1:dirGet d.now (cName 1 1)=some k
   ·rw [if_pos e1,if_pos (List.any_eq_true.2 ⟨_,get_mem e1,by simp⟩)]
   ·rw [if_neg e1]
    split
    ·rename_i ha
     obtain ⟨q,hq,e⟩:=List.any_eq_true.1 ha
     have e2:q.2=k:=by simpa using e
     have hg:=getMem h.vk.nod hq
     rw [e2] at hg
     have hfk:d.fileAt k=f:=by unfold Dk.fileAt;rw [hf];rfl
     rcases h.own q hq with e3|e3|e3|e3 <;> rw [e3] at hg
     ·have:=hfs k (.inl hg)
      rw [hfk] at this
      exact settle_same this _
     ·have:=hfs k (.inr hg)
      rw [hfk] at this
      exact settle_same this _
     ·exact absurd hg e0
     ·exact absurd hg e1
    ·rfl
theorem CkF.setN{d:Dk}{v:Vl}{ns:List Nd}{o:Option DFile}{x:DFile}(h:CkF d v ns o (some x)){i:Nat}(hi:dirGet d.now (cName 1 1)=some i)(hx:d.fileAt i=x)(y:DFile):CkF (d.setF i y) v ns o (some y):=by
 have hof:∀ p∈d.now,p.1≠cName 1 1→p.2≠i:=fun p hp hne=>by
  have hg:=getMem h.vk.nod hp
  rcases h.own p hp with e|e|e|e
  ·exact h.vk.fg_ne (.inl (by rw [←e];exact hg)) (oth_c v 1) hi
  ·exact h.vk.fg_ne (.inr (by rw [←e];exact hg)) (oth_c v 1) hi
  ·exact h.dis p.2 i (by rw [←e];exact hg) hi
  ·exact absurd e hne
 have hk:VK (d.setF i y) v ns (olen o+olen (some y)):=h.vk.setF_o (oth_c v 1) hi hof y (by
  rw [hx]
  show olen o+y.b.length+x.b.length=olen o+x.b.length+y.b.length
  omega)
 have hat:∀ j,j≠i→(d.setF i y).fileAt j=d.fileAt j:=fun j hj=>fileAt_ne (Ne.symm hj)
 refine ⟨hk,h.num,man_move h.vk h.man rfl (fun j hj=>hat j (h.vk.fg_ne hj (oth_c v 1) hi)),?_,⟨i,hi,fileAt_set (h.vk.ins _ (get_mem hi))⟩,h.cnt,h.own,h.dis⟩
 have:=h.dr
 unfold OptAt at this ⊢
 cases o with
 | none=>exact this
 | some z=>
  obtain ⟨j,h3,h4⟩:=this
  exact ⟨j,h3,by rw [hat j (h.dis j i h3 hi)];exact h4⟩
theorem CkF.setD{d:Dk}{v:Vl}{ns:List Nd}{n:Option DFile}{x:DFile}(h:CkF d v ns (some x) n){i:Nat}(hi:dirGet d.now (cName 1 0)=some i)(hx:d.fileAt i=x)(y:DFile):CkF (d.setF i y) v ns (some y) n:=
 h.setF hi hx y (h.vk.setF_o (oth_c v 0) hi (h.hof hi) y (by
  rw [hx]
  show y.b.length+olen n+x.b.length=x.b.length+olen n+y.b.length
  omega))
theorem CkF.crash{d:Dk}{v:Vl}{ns:List Nd}{o n:Option DFile}{p:DPicks}(h:CkF (d.seen p) v ns o n)(hfs:∀ i,(dirGet (d.lastDir p) v.file=some i∨dirGet (d.lastDir p) (mName v.num)=some i)→(d.fileAt i).lasts=(d.fileAt i).b.length) :
  ∃ o' n',CkF (d.crash p) v ns o' n'∧RestK (d.crash p)∧Stl o o'∧Stl n n':=by
 have hse:settleAll (d.lastDir p) p d.files=setO p (dirGet (d.lastDir p) (cName 1 1)) (setO p (dirGet (d.lastDir p) (cName 1 0)) d.files):=settle_pair h p hfs
 have hc:d.crash p = { d.seen p with files:=setO p (dirGet (d.lastDir p) (cName 1 1)) (setO p (dirGet (d.lastDir p) (cName 1 0)) d.files) }:=by
  unfold Dk.crash Dk.seen
  rw [hse]
 have hrest:RestK (d.crash p):=⟨rfl,rfl,fun q hq=>.inr (by
  have hq':q∈d.lastDir p:=hq
  have hl:q.2<d.files.length:=h.vk.ins q hq'
  have:(d.crash p).fileAt q.2=(d.files[q.2]).settle (p.at q.2):=by
   unfold Dk.fileAt Dk.crash
   show (settleAll (d.lastDir p) p d.files)[q.2]?.getD _=_
   unfold settleAll
   rw [List.getElem?_mapIdx,List.getElem?_eq_getElem hl]
   simp only [Option.map_some,Option.getD_some]
   rw [if_pos (List.any_eq_true.2 ⟨q,hq',by simp⟩)]
  rw [this]
  exact settle_lasts _ _)⟩
 obtain ⟨o',d1,h1,s1,e1⟩:∃ o' d1,CkF d1 v ns o' n∧Stl o o'∧d1 = { d.seen p with files:=setO p (dirGet (d.lastDir p) (cName 1 0)) d.files }:=by
  cases o with
  | none=>
   refine ⟨none,d.seen p,h,.inl ⟨rfl,rfl⟩,?_⟩
   rw [show dirGet (d.lastDir p) (cName 1 0)=none from h.dr]
   rfl
  | some x=>
   obtain ⟨i,hi,hx⟩:=h.dr
   refine ⟨_,_,h.setD hi hx (x.settle (p.at i)),.inr ⟨x,_,rfl,rfl⟩,?_⟩
   rw [show dirGet (d.lastDir p) (cName 1 0)=some i from hi]
   show (d.seen p).setF i _ = { d.seen p with files:=d.files.set i ((d.fileAt i).settle (p.at i)) }
   rw [show d.fileAt i=x from hx]
   rfl
 obtain ⟨n',d2,h2,s2,e2⟩:∃ n' d2,CkF d2 v ns o' n'∧Stl n n'∧d2 = { d1 with files:=setO p (dirGet d1.now (cName 1 1)) d1.files }:=by
  cases n with
  | none=>
   refine ⟨none,d1,h1,.inl ⟨rfl,rfl⟩,?_⟩
   rw [show dirGet d1.now (cName 1 1)=none from h1.ck]
   rfl
  | some x=>
   obtain ⟨i,hi,hx⟩:=h1.ck
   refine ⟨_,_,h1.setN hi hx (x.settle (p.at i)),.inr ⟨x,_,rfl,rfl⟩,?_⟩
   rw [hi]
   show d1.setF i _ = { d1 with files:=d1.files.set i ((d1.fileAt i).settle (p.at i)) }
   rw [hx]
   rfl
 refine ⟨o',n',?_,hrest,s1,s2⟩
 rw [hc]
 rw [e2,e1] at h2
 exact h2
theorem CkF.files{d d':Dk}{v:Vl}{ns:List Nd}{o n:Option DFile}(h:CkF d v ns o n)(ha:d'.armed = -1)(hc:d'.cap=d.cap)(hn:d'.now=d.now)(hl:d.files.length≤d'.files.length)(hat:∀ p∈d.now,d'.fileAt p.2=d.fileAt p.2):CkF d' v ns o n:=by
 have hg:∀ s i,dirGet d.now s=some i→d'.fileAt i=d.fileAt i:=fun s i e=>hat _ (get_mem e)
 have ho:∀ s o,OptAt d s o→OptAt d' s o:=fun s o e=>by
  unfold OptAt at e ⊢
  cases o with
  | none=>rw [hn];exact e
  | some x=>
   obtain ⟨i,e1,e2⟩:=e
   exact ⟨i,by rw [hn];exact e1,by rw [hg s i e1];exact e2⟩
 refine ⟨h.vk.move ha hc (fun i hi=>hi.elim (hg _ i) (hg _ i)) (fun s _=>by rw [hn]) (fun p hp=>.inl (by rw [←hn];exact hp)) (by rw [hn];exact h.vk.few) (by rw [hn];exact h.vk.nod) (fun p hp=>by rw [hn] at hp;exact Nat.lt_of_lt_of_le (h.vk.ins p hp) hl) ?_,h.num,man_move h.vk h.man (by rw [hn]) (fun i hi=>hi.elim (hg _ i) (hg _ i)),ho _ _ h.dr,ho _ _ h.ck,by rw [hn];exact h.cnt,by rw [hn];exact h.own,by rw [hn];exact h.dis⟩
 rw [used_files hn fun p hp=>by rw [hat p hp]]
 exact h.vk.used
theorem ckDo_arms{c:Ck}{d y:Dk}{s:Nat}(ha:d.armed = -1)(hc:c.vol=1)(h0:s=0→dirGet d.now (cName 1 0)=none)(h:ckDo c s d=(0,y))(hr:ckRight c=0):(∀ k,ckDo c s (d.arms (k+1))=(0,y.arms k))∧ckDo c s (d.arms 0)=(12,d.arms 0):=by
 unfold ckDo at h ⊢
 rw [hc] at h ⊢
 by_cases e0:s=0
 ·rw [if_pos e0] at h ⊢
  have hcl:∀ x:Dk,x.now=d.now→x.ckClear (cName 1 0)=(0,x):=fun x hx=>by
   unfold Dk.ckClear hasName
   rw [hx,h0 e0]
   rfl
  rw [hcl d rfl,if_neg (by simp)] at h
  refine ⟨fun k=>?_,?_⟩
  ·rw [if_pos e0,hcl (d.arms (k+1)) rfl,if_neg (by simp)]
   exact create_arms ha h
  ·rw [hcl (d.arms 0) rfl,if_neg (by simp)]
   exact create_arms0 _
 ·rw [if_neg e0] at h ⊢
  by_cases e1:s=1
  ·rw [if_pos e1,if_neg (by omega)] at h
   refine ⟨fun k=>?_,?_⟩
   ·rw [if_neg e0,if_pos e1,if_neg (by omega)]
    exact append_arms ha h
   ·rw [if_pos e1,if_neg (by omega)]
    exact append_arms0 _ _
  ·rw [if_neg e1] at h ⊢
   by_cases e2:s=2
   ·rw [if_pos e2] at h ⊢
    refine ⟨fun k=>?_,sync_arms0 _⟩
    rw [if_neg e0,if_neg e1,if_pos e2]
    exact sync_arms ha h
   ·rw [if_neg e2] at h ⊢
    by_cases e3:s=3
    ·rw [if_pos e3] at h ⊢
     refine ⟨fun k=>?_,rename_arms0 _ _⟩
     rw [if_neg e0,if_neg e1,if_neg e2,if_pos e3]
     exact rename_arms ha h
    ·rw [if_neg e3] at h ⊢
     refine ⟨fun k=>?_,syncNames_arms0⟩
     rw [if_neg e0,if_neg e1,if_neg e2,if_neg e3]
     exact syncNames_arms ha h
def CrashTo (v:Vl) (ns:List Nd) (b:List UInt8) (d:Dk):Prop:=∀ p,∃ o n,CkF (d.crash p) v ns o n∧RestK (d.crash p)∧olen o≤b.length∧(n=none∨n=some ⟨b,b.length⟩)
theorem settle_le{x:DFile}(q:DPick)(h:x.lasts≤x.b.length):(x.settle q).b.length≤x.b.length:=by
 rw [settle_len _ _ h]
 have:keepN x q≤x.b.length - x.lasts:=Nat.min_le_right _ _
 omega
theorem olen_stl{o o':Option DFile}{L:Nat}(h:Stl o o')(ho:∀ x,o=some x→x.lasts≤x.b.length∧x.b.length≤L):olen o'≤L:=by
 rcases h with ⟨-,rfl⟩|⟨x,q,rfl,rfl⟩
 ·exact Nat.zero_le _
 ·obtain ⟨h1,h2⟩:=ho x rfl
  exact Nat.le_trans (settle_le q h1) h2
theorem stl_same{n':Option DFile}{b:List UInt8}(h:Stl (some ⟨b,b.length⟩) n'):n'=some ⟨b,b.length⟩:=by
 rcases h with ⟨e,-⟩|⟨x,q,e,rfl⟩
 ·cases e
 ·injection e with e
  rw [←e,settle_same rfl]
theorem stl_none{n':Option DFile}(h:Stl none n'):n'=none:=by
 rcases h with ⟨-,e⟩|⟨x,q,e,-⟩
 ·exact e
 ·cases e
theorem ck_take1{α:Type}(x:α):∀ k,[x].take k=[]∨[x].take k=[x]
 | 0=>.inl rfl
 | k+1=>.inr (by simp)
theorem ck_take2{α:Type}(x y:α):∀ k,[x,y].take k=[]∨[x,y].take k=[x]∨[x,y].take k=[x,y]
 | 0=>.inl rfl
 | 1=>.inr (.inl rfl)
 | k+2=>.inr (.inr (by simp))
theorem CkF.cuts{d:Dk}{v:Vl}{ns:List Nd}(h:CkF d v ns none none)(hr:RestK d){c:Ck}(hv:c.vol=1)(hg:c.gen=1)(hcr:ckRight c=0)(hcap:v.size+48+24 * c.l.length≤1048576) :
  (∀ n,n<5→∃ y,ckWrite c (d.arms n)=(12,y.arms 0)∧CrashTo v ns (ckB c) y)∧(∃ y,(∀ n,ckWrite c (d.arms (n+5))=(0,y.arms n))∧CrashTo v ns (ckB c) y):=by
 have hb:=ckB_len c
 obtain ⟨d1,e1,h1,-,x1⟩:=h.s0 hv
 obtain ⟨d2,e2,h2,-,i2,g2,f2,x2⟩:=h1.s1 (List.nil_append _).symm hv hcr (by show 0+(ckB c).length≤_;omega) (by show v.size+24+(0+0)+_≤_;omega)
 obtain ⟨d3,e3,h3,-,i3,g3,f3,x3⟩:=h2.s2 hv
 obtain ⟨d4,e4,h4,-,i4,g4,f4,x4⟩:=h3.s3 hv hg
 obtain ⟨e5,h5,-⟩:=h4.s4 (c:=c)
 obtain ⟨d5,hd5⟩:∃ d5:Dk,d5 = { d4 with lasting:=d4.now,deeds:=[] }:=⟨_,rfl⟩
 rw [←hd5] at e5 h5
 have hdn:dirGet d.now (cName 1 0)=none:=h.dr
 have x1:d1=d.createO (cName 1 0):=by
  have hh:hasName d (cName 1 0)=false:=by unfold hasName;rw [hdn];rfl
  have:=e1
  unfold ckDo Dk.ckClear at this
  rw [if_pos rfl,hv,hh,if_neg (show ¬ (false=true) by decide),if_neg (by simp),h.make.1] at this
  exact (congrArg Prod.snd this).symm
 have hget1:dirGet d1.now (cName 1 0)=some d.files.length:=by rw [x1];exact get_put_same _ _ _
 have hi2:i2=d.files.length:=by rw [hget1] at g2;injection g2 with g2;exact g2.symm
 have n2:d2.now=d1.now:=by rw [x2];rfl
 have n3:d3.now=d1.now:=by rw [x3];exact n2
 have hi3:i3=d.files.length:=by rw [n2,hget1] at g3;injection g3 with g3;exact g3.symm
 have hi4:i4=d.files.length:=by rw [n3,hget1] at g4;injection g4 with g4;exact g4.symm
 subst hi2 hi3 hi4
 have l1:d1.lasting=d.now∧d1.deeds=[⟨0,[],cName 1 0,d.files.length⟩]:=by
  rw [x1]
  exact ⟨hr.1,by show d.deeds ++ [_]=_;rw [hr.2.1];rfl⟩
 have l2:d2.lasting=d.now∧d2.deeds=[⟨0,[],cName 1 0,d.files.length⟩]:=by rw [x2];exact l1
 have l3:d3.lasting=d.now∧d3.deeds=[⟨0,[],cName 1 0,d.files.length⟩]:=by rw [x3];exact l2
 have l4:d4.lasting=d.now∧d4.deeds=[⟨0,[],cName 1 0,d.files.length⟩,⟨1,cName 1 0,cName 1 1,d.files.length⟩]:=by
  rw [x4]
  exact ⟨l3.1,by show d3.deeds ++ [_]=_;rw [l3.2];rfl⟩
 have hne:∀ p∈d.now,p.2≠d.files.length:=fun p hp=>Nat.ne_of_lt (h.vk.ins p hp)
 have a1:∀ i,i≠d.files.length→d1.fileAt i=d.fileAt i:=fun i hi=>by
  rw [x1]
  by_cases hl:i<d.files.length
  ·exact at_createO hl
  ·unfold Dk.fileAt Dk.createO
   rw [List.getElem?_eq_none (by simp;omega),List.getElem?_eq_none (by omega)]
 have a2:∀ i,i≠d.files.length→d2.fileAt i=d.fileAt i:=fun i hi=>by rw [x2,fileAt_ne (Ne.symm hi),a1 i hi]
 have a3:∀ i,i≠d.files.length→d3.fileAt i=d.fileAt i:=fun i hi=>by rw [x3,fileAt_ne (Ne.symm hi),a2 i hi]
 have a4:∀ i,d4.fileAt i=d3.fileAt i:=fun i=>by rw [x4];rfl
 have s1:d.files.length≤d1.files.length:=by rw [x1];unfold Dk.createO;simp
 have s2:d2.files.length=d1.files.length:=by rw [x2];simp [Dk.setF]
 have s3:d3.files.length=d2.files.length:=by rw [x3];simp [Dk.setF]
 have s4:d4.files.length=d3.files.length:=by rw [x4];rfl
 -- what a crash sees
 have old:∀ (y:Dk) (p:DPicks),y.cap=d.cap→(∀ i,i≠d.files.length→y.fileAt i=d.fileAt i)→d.files.length≤y.files.length→y.lastDir p=d.now→∃ o n,CkF (y.crash p) v ns o n∧RestK (y.crash p)∧olen o≤(ckB c).length∧(n=none∨n=some ⟨ckB c,(ckB c).length⟩):=fun y p hc hat hl hd=>by
  have hs:CkF (y.seen p) v ns none none:=h.files rfl hc hd hl (fun q hq=>hat _ (hne q hq))
  obtain ⟨o,n,q1,q2,q3,q4⟩:=hs.crash fun i hi=>by
   rw [hd] at hi
   have:i≠d.files.length:=Nat.ne_of_lt (h.vk.fg_lt hi)
   rw [hat i this]
   rcases hi with hi|hi <;> exact (hr.2.2 _ (get_mem hi)).elim False.elim id
  rw [stl_none q3,stl_none q4] at q1
  exact ⟨none,none,q1,q2,Nat.zero_le _,.inl rfl⟩
 have new:∀ (y z:Dk) (p:DPicks) (o n:Option DFile),CkF z v ns o n→y.cap=z.cap→(∀ i,y.fileAt i=z.fileAt i)→z.files.length=y.files.length→y.lastDir p=z.now→(∀ i,i≠d.files.length→z.fileAt i=d.fileAt i)→(∀ s,s≠cName 1 0→s≠cName 1 1→dirGet z.now s=dirGet d.now s)→(∀ x,o=some x→x.lasts≤x.b.length∧x.b.length≤(ckB c).length)→(n=none∨n=some ⟨ckB c,(ckB c).length⟩)→∃ o n,CkF (y.crash p) v ns o n∧RestK (y.crash p)∧olen o≤(ckB c).length∧(n=none∨n=some ⟨ckB c,(ckB c).length⟩):=fun y z p o n hz hc hat hl hd hz1 hz2 ho hn=>by
  have hs:CkF (y.seen p) v ns o n:=hz.files rfl hc hd (Nat.le_of_eq hl) (fun q hq=>hat _)
  obtain ⟨o',n',q1,q2,q3,q4⟩:=hs.crash fun i hi=>by
   rw [hd,hz2 _ (Ne.symm (oth_c v 0).1) (Ne.symm (oth_c v 1).1),hz2 _ (Ne.symm (oth_c v 0).2.1) (Ne.symm (oth_c v 1).2.1)] at hi
   have:i≠d.files.length:=Nat.ne_of_lt (h.vk.fg_lt hi)
   rw [hat i,hz1 i this]
   rcases hi with hi|hi <;> exact (hr.2.2 _ (get_mem hi)).elim False.elim id
  refine ⟨o',n',q1,q2,olen_stl q3 ho,?_⟩
  rcases hn with rfl|rfl
  ·exact .inl (stl_none q4)
  ·exact .inr (stl_same q4)
 have hz1:∀ s,s≠cName 1 0→s≠cName 1 1→dirGet d1.now s=dirGet d.now s:=fun s h1 _=>by rw [x1];exact get_put_other _ _ h1
 have hz4:∀ s,s≠cName 1 0→s≠cName 1 1→dirGet d4.now s=dirGet d.now s:=fun s h1 h2=>by
  rw [x4]
  show dirGet (dirPut _ _ _) s=_
  rw [get_put_other _ _ h2,get_del_other _ h1,n3]
  exact hz1 s h1 h2
 have c1:d1.cap=d.cap:=by rw [x1];rfl
 have c2:d2.cap=d.cap:=by rw [x2];exact c1
 have c3:d3.cap=d.cap:=by rw [x3];exact c2
 have c4:d4.cap=d.cap:=by rw [x4];exact c3
 have ld1:∀ (y:Dk) (p:DPicks),y.lasting=d.now→y.deeds=[⟨0,[],cName 1 0,d.files.length⟩]→y.lastDir p=d.now∨y.lastDir p=d1.now:=fun y p q1 q2=>by
  unfold Dk.lastDir
  rw [q1,q2]
  rcases ck_take1 (⟨0,[],cName 1 0,d.files.length⟩:Deed) p.names.toNat with e|e <;> rw [e]
  ·exact .inl rfl
  ·exact .inr (by rw [x1];rfl)
 have hx0:∀ x:DFile,(some (⟨[],0⟩:DFile))=some x→x.lasts≤x.b.length∧x.b.length≤(ckB c).length:=fun x e=>by injection e with e;rw [←e];simp
 have hx1:∀ x:DFile,(some (⟨ckB c,0⟩:DFile))=some x→x.lasts≤x.b.length∧x.b.length≤(ckB c).length:=fun x e=>by injection e with e;rw [←e];simp
 have hx2:∀ x:DFile,(some (⟨ckB c,(ckB c).length⟩:DFile))=some x→x.lasts≤x.b.length∧x.b.length≤(ckB c).length:=fun x e=>by injection e with e;rw [←e];simp
 have k0:CrashTo v ns (ckB c) d:=fun p=>old d p rfl (fun _ _=>rfl) (Nat.le_refl _) (by unfold Dk.lastDir;rw [hr.1,hr.2.1,List.take_nil];rfl)
 have k1:CrashTo v ns (ckB c) d1:=fun p=>by
  rcases ld1 d1 p l1.1 l1.2 with e|e
  ·exact old d1 p c1 a1 s1 e
  ·exact new d1 d1 p _ _ h1 rfl (fun _=>rfl) rfl e a1 hz1 hx0 (.inl rfl)
 have k2:CrashTo v ns (ckB c) d2:=fun p=>by
  rcases ld1 d2 p l2.1 l2.2 with e|e
  ·exact old d2 p c2 a2 (by omega) e
  ·exact new d2 d2 p _ _ h2 rfl (fun _=>rfl) rfl (by rw [e,n2]) a2 (by rw [n2];exact hz1) hx1 (.inl rfl)
 have k3:CrashTo v ns (ckB c) d3:=fun p=>by
  rcases ld1 d3 p l3.1 l3.2 with e|e
  ·exact old d3 p c3 a3 (by omega) e
  ·exact new d3 d3 p _ _ h3 rfl (fun _=>rfl) rfl (by rw [e,n3]) a3 (by rw [n3];exact hz1) hx2 (.inl rfl)
 have k4:CrashTo v ns (ckB c) d4:=fun p=>by
  have:d4.lastDir p=d.now∨d4.lastDir p=d3.now∨d4.lastDir p=d4.now:=by
   unfold Dk.lastDir
   rw [l4.1,l4.2]
   rcases ck_take2 (⟨0,[],cName 1 0,d.files.length⟩:Deed) ⟨1,cName 1 0,cName 1 1,d.files.length⟩ p.names.toNat with e|e|e <;> rw [e]
   ·exact .inl rfl
   ·exact .inr (.inl (by rw [n3,x1];rfl))
   ·refine .inr (.inr ?_)
    rw [x4]
    show _=dirPut (dirDel d3.now (cName 1 0)) (cName 1 1) d.files.length
    rw [n3,x1]
    rfl
  rcases this with e|e|e
  ·exact old d4 p c4 (fun i hi=>(a4 i).trans (a3 i hi)) (by omega) e
  ·exact new d4 d3 p _ _ h3 (c4.trans c3.symm) a4 s4.symm e a3 (by rw [n3];exact hz1) hx2 (.inl rfl)
  ·exact new d4 d4 p _ _ h4 rfl (fun _=>rfl) rfl e (fun i hi=>(a4 i).trans (a3 i hi)) hz4 (fun x e=>by cases e) (.inr rfl)
 have k5:CrashTo v ns (ckB c) d5:=fun p=>by
  refine new d5 d4 p _ _ h4 (by rw [hd5]) (fun i=>by rw [hd5];rfl) (by rw [hd5]) ?_ (fun i hi=>(a4 i).trans (a3 i hi)) hz4 (fun x e=>by cases e) (.inr rfl)
  unfold Dk.lastDir
  rw [hd5]
  show deedsApp (List.take _ []) d4.now=_
  rw [List.take_nil]
  rfl
 have m0:=ckDo_arms h.vk.armed hv (fun _=>hdn) e1 hcr
 have m1:=ckDo_arms (s:=1) h1.vk.armed hv (fun e=>by cases e) e2 hcr
 have m2:=ckDo_arms (s:=2) h2.vk.armed hv (fun e=>by cases e) e3 hcr
 have m3:=ckDo_arms (s:=3) h3.vk.armed hv (fun e=>by cases e) e4 hcr
 have m4:=ckDo_arms (s:=4) h4.vk.armed hv (fun e=>by cases e) e5 hcr
 unfold ckWrite
 refine ⟨fun n hn=>?_,d5,fun n=>?_,k5⟩
 ·match n,hn with
  | 0,_=>exact ⟨d,ckRun_bad m0.2 (by decide),k0⟩
  | 1,_=>exact ⟨d1,by rw [ckRun_ok (m0.1 0)];exact ckRun_bad m1.2 (by decide),k1⟩
  | 2,_=>exact ⟨d2,by rw [ckRun_ok (m0.1 1),ckRun_ok (m1.1 0)];exact ckRun_bad m2.2 (by decide),k2⟩
  | 3,_=>exact ⟨d3,by rw [ckRun_ok (m0.1 2),ckRun_ok (m1.1 1),ckRun_ok (m2.1 0)];exact ckRun_bad m3.2 (by decide),k3⟩
  | 4,_=>exact ⟨d4,by rw [ckRun_ok (m0.1 3),ckRun_ok (m1.1 2),ckRun_ok (m2.1 1),ckRun_ok (m3.1 0)];exact ckRun_bad m4.2 (by decide),k4⟩
 ·rw [ckRun_ok (m0.1 (n+4)),ckRun_ok (m1.1 (n+3)),ckRun_ok (m2.1 (n+2)),ckRun_ok (m3.1 (n+1)),ckRun_ok (m4.1 n)]
  rfl
theorem sindexbyte_any(s:ByteArray)(c:Int)(w:World) :
  Calls Tryz.prog 208 #[.string s,.int .u8 c] w fun e w'=>e=.returned (.int .i64 (Lib.indexByte s.data.toList c.toNat.toUInt8))∧w=w':=by
 go_enter Tryz.func208,Tryz.ntmps208
 go_wp2
 rw [run_callFunc_extern Tryz.func214 (by kernel_rfl) (by kernel_rfl) (by kernel_rfl) (e:=Extern.BytealgIndexByte.indexByte) (by kernel_rfl),Lib.run_indexByteString]
 simp only [Result.andThen]
 rw [Oper.upon_value]
 go_wp2
 go_ret
 exact ⟨rfl,rfl⟩
theorem bytes_ext(l:List UInt8)(i j:Nat):(ByteArray.mk l.toArray).extract i j=⟨((l.drop i).take (j - i)).toArray⟩:=by
 apply ByteArray.ext
 simp
theorem indexByte_at(c:UInt8):∀ (a b:List UInt8),(∀ x∈a,x≠c)→Lib.indexByte (a ++ c :: b) c=(a.length:Int)
 | [],b,_=>by simp [Lib.indexByte]
 | x :: r,b,h=>by
  have h1:=indexByte_at c r b fun y hy=>h y (List.mem_cons_of_mem _ hy)
  have h2:(x == c)=false:=by simpa using h x List.mem_cons_self
  simp only [List.cons_append,Lib.indexByte,h2,h1,List.length_cons]
  simp
theorem sindex_one(l:List UInt8)(c:UInt8)(w:World)(hn:([c] == l)=false) :
  Calls Tryz.prog 201 #[.string ⟨l.toArray⟩,.string ⟨#[c]⟩] w fun e w'=>e=.returned (.int .i64 (Lib.indexByte l c))∧w=w':=by
 have h1:∀ w0,Calls Tryz.prog 208 #[.string ⟨l.toArray⟩,.int .u8 ((c.toNat:Nat):Int)] w0 fun e w'=>e=.returned (.int .i64 (Lib.indexByte l c))∧w0=w':=fun w0=>by
  have:=sindexbyte_any ⟨l.toArray⟩ (c.toNat:Int) w0
  rw [show ((c.toNat:Int).toNat.toUInt8)=c by simp] at this
  exact this
 go_enter Tryz.func201,Tryz.ntmps201
 go_wp2_with fail
 refine (show Calls Tryz.prog 208 #[.string ⟨l.toArray⟩,.int .u8 ((c.toNat:Nat):Int)] w _ from h1 w).mono ?_
 rintro e wx ⟨rfl,rfl⟩
 go_wp2
 go_ret
 exact ⟨rfl,rfl⟩
theorem slcut_at(a b:List UInt8)(w:World)(ha:∀ x∈a,x≠46)(hl:(a ++ 46 :: b).length≤1000000)(hn:([46] == a ++ 46 :: b)=false) :
  Calls Tryz.prog 184 #[.string ⟨(a ++ 46 :: b).toArray⟩,.string ⟨#[46]⟩] w fun e w'=>e=.returned (.tuple #[.string ⟨a.toArray⟩,.string ⟨b.toArray⟩,.bool true])∧Below w.heap.size w w':=by
 have h1:=Hd (fun w0=>sindex_one (a ++ 46 :: b) 46 w0 hn)
 rw [indexByte_at 46 a b ha] at h1
 obtain ⟨l,hL⟩:∃ l,l=a ++ 46 :: b:=⟨_,rfl⟩
 rw [←hL] at h1 hl ⊢
 obtain ⟨k,hk⟩:∃ k,k=a.length:=⟨_,rfl⟩
 rw [←hk] at h1
 have c2:k≤l.length:=by rw [hL,hk,List.length_append];omega
 have c4:k+1≤l.length:=by rw [hL,hk,List.length_append,List.length_cons];omega
 have c5:(0:Int)≤(k:Int):=by omega
 have c6:(k:Int)≤(l.length:Int):=by omega
 have c7:(0:Int)≤(k:Int)+1:=by omega
 have c8:(k:Int)+1≤(l.length:Int):=by omega
 have hw:IntKind.i64.wrap ((k:Int)+1)=(k:Int)+1:=by rw [IntKind.wrap_i64];omega
 have HE1:=Hd (show l.take k=a by rw [hL,hk];simp)
 have HE2:=Hd (show l.drop (k+1)=b by rw [hL,hk];simp)
 clear hn ha hL hk
 go_enter Tryz.func184,Tryz.ntmps184
 go_wp2_with fail
 refine (h1.out w).mono ?_
 rintro e wx ⟨rfl,rfl⟩
 go_upto_region 3 with fail
 refine wp_region_mask0 (fun w1=>w1=_) [] [0,0,3,0,0,0,32,112,248,7,1023,2047] (.op 0 0 (.op 1 0 (.op 2 0 (.op 3 0 (.op 4 0 (.op 5 0 (.op 6 0 (.op 7 0 (.op 8 0 (.op 9 0 (.op 10 0 (.op 11 0 .nil)))))))))))) (by kernel_rfl) (by kernel_rfl) rfl (by kernel_rfl) (by kernel_rfl) rfl ?_
 (iterate 12 refine stepM0 rfl rfl fun K hK=>?_;go_simp;refine hK _ ?_;clear hK K)
 try refine stepMnil0 ?_
 go_wp2
 go_ret3
 refine ⟨?_,belo⟩
 have e1:(ByteArray.mk l.toArray).extract 0 k=⟨a.toArray⟩:=by rw [bytes_ext,←HE1.out];simp
 have e2:(ByteArray.mk l.toArray).extract (k+1) l.length=⟨b.toArray⟩:=by rw [bytes_ext,←HE2.out,List.take_of_length_le (by rw [List.length_drop];omega)]
 rw [←e1,←e2]
 rfl
theorem scut_at(a b:List UInt8)(w:World)(ha:∀ x∈a,x≠46)(hl:(a ++ 46 :: b).length≤1000000)(hn:([46] == a ++ 46 :: b)=false) :
  Calls Tryz.prog 151 #[.string ⟨(a ++ 46 :: b).toArray⟩,.string ⟨#[46]⟩] w fun e w'=>e=.returned (.tuple #[.string ⟨a.toArray⟩,.string ⟨b.toArray⟩,.bool true])∧Below w.heap.size w w':=by
 have h1:=Hd (slcut_at a b w ha hl hn)
 obtain ⟨l,hL⟩:∃ l,l=a ++ 46 :: b:=⟨_,rfl⟩
 rw [←hL] at h1 ⊢
 clear hn ha hL hl
 go_enter Tryz.func151,Tryz.ntmps151
 go_wp2_with fail
 refine h1.out.mono ?_
 rintro e w1 ⟨rfl,hb⟩
 have HB:=Hd hb
 clear hb
 go_wp2
 go_ret3
 exact ⟨rfl,HB.out⟩
theorem slprefix_any(s p:List UInt8)(w:World)(hs:s.length≤1000000)(hp:p.length≤s.length) :
  Calls Tryz.prog 185 #[.string ⟨s.toArray⟩,.string ⟨p.toArray⟩] w fun e w'=>e=.returned (.bool (s.take p.length == p))∧w=w':=by
 have c1:(p.length:Int)≤(s.length:Int):=by omega
 have c2:(0:Int)≤(p.length:Int):=by omega
 go_enter Tryz.func185,Tryz.ntmps185
 go_wp2_with fail
 go_ret
 refine ⟨?_,rfl⟩
 have e1:(ByteArray.mk s.toArray).extract 0 p.length=⟨(s.take p.length).toArray⟩:=by rw [bytes_ext];simp
 have e2:((ByteArray.mk s.toArray).extract 0 p.length).toList=s.take p.length:=by rw [e1];simp
 rw [←e2]
 rfl
theorem sprefix_any(s p:List UInt8)(w:World)(hs:s.length≤1000000)(hp:p.length≤s.length) :
  Calls Tryz.prog 152 #[.string ⟨s.toArray⟩,.string ⟨p.toArray⟩] w fun e w'=>e=.returned (.bool (s.take p.length == p))∧w=w':=by
 have h1:=Hd (slprefix_any s p w hs hp)
 go_enter Tryz.func152,Tryz.ntmps152
 go_wp2_with fail
 refine h1.out.mono ?_
 rintro e w1 ⟨rfl,rfl⟩
 go_wp2
 go_ret
 exact ⟨rfl,rfl⟩
theorem digits_dot(n:Nat):∀ x∈numN n,x≠46:=by
 unfold numN
 induction n using Nat.strongRecOn with
 | _ n ih=>
  have hd:∀ k,k<10→UInt8.ofNat (48+k)≠46:=by decide
  rw [Go.Lib.decDigits]
  split
  ·rename_i h
   intro x hx
   rw [List.mem_singleton.1 hx]
   exact hd n h
  ·rename_i h
   intro x hx
   rcases List.mem_append.1 hx with hx|hx
   ·exact ih (n / 10) (by omega) x hx
   ·rw [List.mem_singleton.1 hx]
    exact hd _ (Nat.mod_lt _ (by omega))
theorem bytes_app(a:List UInt8):(ByteArray.mk a.toArray ++ ByteArray.mk #[46])=⟨(a ++ [46]).toArray⟩:=by
 apply ByteArray.ext
 simp
theorem take_pre(a r:List UInt8):((a ++ 46 :: r).take (a ++ [46]).length == a ++ [46])=true:=by
 have:(a ++ 46 :: r).take (a ++ [46]).length=a ++ [46]:=by
  rw [show a ++ 46 :: r=(a ++ [46]) ++ r by simp]
  exact List.take_left' rfl
 rw [this]
 simp
theorem ours_other{v:Vl}(hn:NamesAt v.num v.gen){s r:Nm}(hs:s=(99 :: numN v.num) ++ 46 :: r∨s=(118 :: numN v.num) ++ 46 :: r)(hne1:s≠v.file)(hne2:s≠cName v.num v.gen)(hl:s.length≤1000)(hl2:v.file.length≤1000):OursAt v s true:=by
 intro w vp dp ix vx h
 obtain ⟨c0,c1,c2,c3,c4,c5,c6,c7⟩:=h.cells
 have HN:=Hd hn
 have HNV:=Hd (show namesV v.num v.gen=.tuple #[.string ⟨v.file.toArray⟩,.string ⟨(cName v.num v.gen).toArray⟩,.string ⟨(mName v.num).toArray⟩,.string ⟨(sName v.num).toArray⟩] from rfl)
 have hfl:v.file=(118 :: numN v.num) ++ 46 :: numN v.gen:=rfl
 have hcl:cName v.num v.gen=(99 :: numN v.num) ++ 46 :: numN v.gen:=rfl
 have hd:=digits_dot v.num
 have hlc:(cName v.num v.gen).length=v.file.length:=by simp [cName,Vl.file,vName]
 have HC1:=Hd (fun w0:World=>scut_at (118 :: numN v.num) (numN v.gen) w0 (fun x hx=>by rcases List.mem_cons.1 hx with rfl|hx;decide;exact hd x hx) (by rw [←hfl];omega) rfl)
 have HC2:=Hd (fun w0:World=>scut_at (99 :: numN v.num) (numN v.gen) w0 (fun x hx=>by rcases List.mem_cons.1 hx with rfl|hx;decide;exact hd x hx) (by rw [←hcl];omega) rfl)
 rw [←hfl] at HC1
 rw [←hcl] at HC2
 have n1:(s == v.file)=false:=beq_no hne1
 have n2:(s == cName v.num v.gen)=false:=beq_no hne2
 have n3:(s == mName v.num)=false:=beq_no (by
  rcases hs with rfl|rfl
  ·exact fun e=>by injection e with e _;exact absurd e (by decide)
  ·exact fun e=>by injection e with e _;exact absurd e (by decide))
 have n4:(s == sName v.num)=false:=beq_no (by
  rcases hs with rfl|rfl
  ·exact fun e=>by injection e with e _;exact absurd e (by decide)
  ·exact fun e=>by injection e with e _;exact absurd e (by decide))
 have hsl:(99 :: numN v.num).length+1≤s.length∧(118 :: numN v.num).length+1≤s.length:=by
  rcases hs with rfl|rfl <;> simp <;> omega
 have HP1:=Hd (fun w0:World=>sprefix_any s ((118 :: numN v.num) ++ [46]) w0 (by omega) (by rw [List.length_append];exact hsl.2))
 have HP2:=Hd (fun w0:World=>sprefix_any s ((99 :: numN v.num) ++ [46]) w0 (by omega) (by rw [List.length_append];exact hsl.1))
 have hb:(s.take ((118 :: numN v.num) ++ [46]).length == (118 :: numN v.num) ++ [46])=true∨((s.take ((118 :: numN v.num) ++ [46]).length == (118 :: numN v.num) ++ [46])=false∧(s.take ((99 :: numN v.num) ++ [46]).length == (99 :: numN v.num) ++ [46])=true):=by
  rcases hs with rfl|rfl
  ·refine .inr ⟨?_,take_pre _ _⟩
   simp
  ·exact .inl (take_pre _ _)
 have hA:(118 :: numN v.num).length≤1000:=by have:=hsl.2;omega
 have hB:(99 :: numN v.num).length≤1000:=by have:=hsl.1;omega
 obtain ⟨V,hV⟩:∃ V,V=v.file:=⟨_,rfl⟩
 obtain ⟨C,hC⟩:∃ C,C=cName v.num v.gen:=⟨_,rfl⟩
 obtain ⟨M,hM⟩:∃ M,M=mName v.num:=⟨_,rfl⟩
 obtain ⟨S,hS⟩:∃ S,S=sName v.num:=⟨_,rfl⟩
 obtain ⟨A,hA'⟩:∃ A,A=118 :: numN v.num:=⟨_,rfl⟩
 obtain ⟨B,hB'⟩:∃ B,B=99 :: numN v.num:=⟨_,rfl⟩
 obtain ⟨G,hG⟩:∃ G,G=numN v.gen:=⟨_,rfl⟩
 rw [←hV,←hC,←hM,←hS] at HNV
 rw [←hV,←hA',←hG] at HC1
 rw [←hC,←hB',←hG] at HC2
 rw [←hA'] at HP1 hA
 rw [←hB'] at HP2 hB
 rw [←hA',←hB'] at hb
 rw [←hV] at n1
 rw [←hC] at n2
 rw [←hM] at n3
 rw [←hS] at n4
 clear h hn hV hC hM hS hs hfl hcl hd hlc hsl hl hl2 hne1 hne2 hA' hB' hG
 go_enter Tryz.func112,Tryz.ntmps112
 go_upto_region 1 with fail
 obtain ⟨SS,HSD⟩:∃ SS:World→Prop,Hid (SS=fun w'=>w'.cell? ⟨vp,1,none⟩=some (.int .i64 v.num)∧w'.cell? ⟨vp,2,none⟩=some (.int .i64 v.gen)):=⟨_,Hd rfl⟩
 refine wp_region_mask0 SS [4,9] [0,1,3,7,15,0,32,96,224,480,1023,2047,4095,4095,4095,4095,8191,81919,229375,524287] (.op 0 0 (.op 1 0 (.op 2 0 (.op 3 0 (.op 4 2 (.op 5 0 (.op 6 0 (.op 7 0 (.op 8 0 (.op 9 2 (.op 10 1 (.op 11 0 (.op 12 0 (.op 13 0 (.op 14 0 (.op 15 0 (.op 16 0 (.op 17 0 (.op 18 0 (.op 19 0 .nil)))))))))))))))))))) (by kernel_rfl) (by kernel_rfl) rfl (by kernel_rfl) (by kernel_rfl) ?_ ?_
 (focus (rw [HSD.out];exact ⟨c1,c2⟩));(iterate 4 refine stepM0 rfl rfl fun K hK=>?_;go_simp;refine hK _ ?_;clear hK K);refine stepM2 rfl rfl ?_ (fun w1 hS=>?_) fun K hK=>?_;rotate_left;(focus (rw [HSD.out] at hS;obtain ⟨s1,s2⟩:=hS;go_simp;rfl));go_simp;refine hK _ ?_;clear hK K;(iterate 4 refine stepM0 rfl rfl fun K hK=>?_;go_simp;refine hK _ ?_;clear hK K);refine stepM2 rfl rfl ?_ (fun w1 hS=>?_) fun K hK=>?_;rotate_left;(focus (rw [HSD.out] at hS;obtain ⟨s1,s2⟩:=hS;go_simp;rfl));go_simp;refine hK _ ?_;clear hK K;refine stepM1 rfl rfl (by kernel_rfl) fun K hK=>?_
 (go_wp2_with fail;refine Calls.mono (HN.out _) ?_;rintro e w2 ⟨rfl,rfl⟩;rw [HNV.out];go_wp2)
 (iterate 9 refine stepM0 rfl rfl fun K hK=>?_;go_simp;refine hK _ ?_;clear hK K)
 try refine stepMnil0 ?_
 clear HSD SS
 go_wp2_with fail
 refine (HC1.out _).mono ?_
 rintro e w2 ⟨rfl,hb2⟩
 have HB2:=Hd (Below.trans (show Below w.heap.size w _ from belo) (hb2.mono (by simp)))
 clear hb2
 go_wp2_with fail
 refine (HC2.out _).mono ?_
 rintro e w3 ⟨rfl,hb3⟩
 have HB3:=Hd (HB2.out.trans (hb3.mono HB2.out.size))
 clear hb3
 go_wp2_with fail
 rw [bytes_app A]
 refine (HP1.out _).mono ?_
 rintro e wx ⟨rfl,rfl⟩
 rcases hb with e1|⟨e1,e2⟩
 ·rw [e1]
  go_wp2_with fail
  go_ret
  exact ⟨rfl,HB3.out⟩
 ·rw [e1]
  go_wp2_with fail
  rw [bytes_app B]
  refine (HP2.out _).mono ?_
  rintro e wx ⟨rfl,rfl⟩
  rw [e2]
  go_wp2_with fail
  go_ret
  exact ⟨rfl,HB3.out⟩
theorem ixPut_snoc:∀ {l:List Ps} {p:Ps},(∀ q∈l,q.key<p.key)→ixPut l p=l ++ [p]
 | [],_,_=>rfl
 | a :: r,p,h=>by
  unfold ixPut
  rw [if_pos (h a List.mem_cons_self),ixPut_snoc (fun q hq=>h q (List.mem_cons_of_mem _ hq))]
  rfl
theorem ixPut_take{l:List Ps}{k:Nat}{p:Ps}(hs:IxS l)(hp:l[k]? = some p):ixPut (l.take k) p=l.take (k+1):=by
 obtain ⟨h1,h2⟩:=List.getElem?_eq_some_iff.1 hp
 rw [ixPut_snoc,List.take_add_one,hp]
 ·rfl
 ·intro q hq
  obtain ⟨i,hi,rfl⟩:=List.mem_iff_getElem.1 hq
  rw [List.length_take] at hi
  rw [List.getElem_take,←h2]
  exact List.pairwise_iff_getElem.1 hs i k (by omega) h1 (by omega)
theorem inew_any(a:Option Addr)(n cap:Nat)(l:List Ps)(w:World)(h:Reads w 5 (.slice a n cap) n (l.flatMap psC))(hn:l.length=n)(hs:IxS l)(hf:n≤4096) :
  Calls Tryz.prog 48 #[.slice a n cap] w fun e w'=>∃ ix vx,e=.returned (.pointer (some ⟨ix,0,none⟩))∧IxAt w' w.heap.size ix vx l∧Below w.heap.size w w':=by
 have HR:=Hd h
 have HN:=Hd hn
 have HS:=Hd hs
 have HIP:=Hd (fun (ix:Nat) (v:Value) (q:List Ps) (p:Ps) (w0:World) (hx:IxAt w0 w.heap.size ix v q) (hq:q.length<4096)=>iput_any w.heap.size ix v q p w0 hx (.inr hq))
 clear h hn hs
 go_enter Tryz.func48,Tryz.ntmps48
 go_upto_region 2 with fail
 obtain ⟨w1,hw1⟩:∃ w1:World,w1=w.alloc (.cells #[.slice none 0 0] 186):=⟨_,rfl⟩
 have HX1:=Hd (show IxAt w1 w.heap.size w.heap.size (.slice none 0 0) [] by rw [hw1];exact IxAt.made w w.heap.size (Nat.le_refl _))
 have HB1:=Hd (show Below w.heap.size w w1 by rw [hw1];exact belo)
 rw [←hw1]
 clear hw1
 have hw1l:w.heap.size≤w1.heap.size:=HB1.out.size
 go_wp2_with fail
 go_loopw [10] (fun i wr=>∃(k:Nat)(vk:Value),k≤n∧i=.int .i64 k∧IxAt wr w.heap.size w.heap.size vk (l.take k)∧Below w.heap.size w wr) (fun i _=>n - (intOf i).toNat)
 case atStart=>exact ⟨0,_,Nat.zero_le _,rfl,HX1.out,HB1.out⟩
 case round=>
  obtain ⟨k,vk,hk,rfl,hix,hbr⟩:=hrel
  have HIXR:=Hd hix
  have HBR:=Hd hbr
  have hzr:=hbr.size
  clear hix hbr
  have hk0:(0:Int)≤(k:Int):=by omega
  by_cases hlt:k<n
  ·obtain ⟨x,hx⟩:∃ x,l[k]? = some x:=⟨_,List.getElem?_eq_getElem (by rw [HN.out];exact hlt)⟩
   have HX:=Hd hx
   obtain ⟨b,o,c',e,hb,r0,r1,r2,r3,r4⟩:=ps_cells (HR.out.below HBR.out) hx (by omega)
   obtain ⟨rfl,-,rfl⟩:=sl_inj e
   have HPX:=Hd (fun (w0:World) (hb:Below wr.heap.size wr w0)=>HIP.out w.heap.size vk (l.take k) x w0 (HIXR.out.below hb) (by rw [List.length_take];omega))
   rw [ixPut_take HS.out hx] at HPX
   have hj1:(k:Int)<(n:Int):=by omega
   obtain ⟨xk,xo,xl,xc,xg⟩:=x
   unfold psV at HPX
   simp only at HPX r0 r1 r2 r3 r4
   clear hx e
   go_wp2_with fail
   refine (HPX.out _ belo).mono ?_
   rintro e w6 ⟨rfl,vk',hix',how',hkp⟩
   have HIX6:=Hd hix'
   have HB6:=Hd (show Below w.heap.size w w6 from (HBR.out.alloc hzr _).trans (Keeps.below hkp (by simp;omega) fun j hj=>by
    rcases hj with h1|h1
    ·rw [h1];exact Nat.le_refl _
    ·exact (HIXR.out.row.lt j h1).1))
   clear hix' how' hkp
   go_wp2_with fail
   go_roundw
   case rel=>exact ⟨k+1,vk',by omega,by go_num,HIX6.out,HB6.out⟩
   case measure=>simp [intOf];omega
  ·have hkn:k=n:=by omega
   have hj1:¬ (k:Int)<(n:Int):=by omega
   have HE:=Hd (show IxAt wr w.heap.size w.heap.size vk l by
    have h1:=HIXR.out
    rwa [hkn,List.take_of_length_le (by rw [HN.out];exact Nat.le_refl _)] at h1)
   go_wp2_with fail
   refine bodyPost_ret (v:=?_) ?_ rfl ?_
   rotate_left;(focus (simp [results,Tryz.results48,go_sem];exact rfl))
   exact ⟨_,rfl,⟨vk,HE.out⟩,HBR.out⟩
theorem base_ck{w:World}{dp K:Nat}{P:Nat→Prop}{d:Dk}{v:Vl}(c:Ck)(h:DS w dp P K d)(hn:NamesAt v.num v.gen)(hl:(cName v.num v.gen).length≤maxLen)(hw:d.whole (cName v.num v.gen)=(0,ckB c))(hr:ckRight c=0)(hck:∀ p∈c.l,p.key<18446744073709551616∧p.cookie<4294967296)(hs:IxS c.l)(h1:c.vol=v.num)(h2:c.gen=v.gen)(sz:Nat)(hu:16≤c.upto)(hz:c.upto≤sz) :
  Calls Tryz.prog 109 #[(.pointer (some ⟨dp,0,none⟩)),.agg #[.int .i64 v.num,.int .i64 v.gen,.int .i64 v.epoch,.bool v.shut],.int .i64 sz] w (BaseTo w c.l c.upto):=by
 have HN:=Hd hn
 have HNV:=Hd (show namesV v.num v.gen=.tuple #[.string ⟨v.file.toArray⟩,.string ⟨(cName v.num v.gen).toArray⟩,.string ⟨(mName v.num).toArray⟩,.string ⟨(sName v.num).toArray⟩] from rfl)
 have hwh:=fun (w0:World) (hb:Below w.heap.size w w0)=>whole_ds (h.below hb) (cName v.num v.gen) hl
 rw [hw] at hwh
 have HWH:=Hd hwh
 obtain ⟨hl4,hnums,-⟩:=ckRight_parts hr
 have hlen:=ckB_len c
 have HGK:=Hd (fun (bk o n cp:Nat) (w0:World) (hx:Reads w0 1 (.slice (some ⟨bk,o,none⟩) n cp) n ((ckB c).map bv)) (hl:(ckB c).length=n) (hcp:n≤cp)=>ckget_good bk o n cp c w0 hx hl hcp hr hck)
 have HNW:=Hd (fun (a:Option Addr) (cap:Nat) (w0:World) (hx:Reads w0 5 (.slice a c.l.length cap) c.l.length (c.l.flatMap psC))=>inew_any a c.l.length cap c.l w0 hx rfl hs hl4)
 unfold CkGetTo at HGK
 unfold ckV at HGK
 obtain ⟨bs,hbs⟩:∃ bs,bs=ckB c:=⟨_,rfl⟩
 rw [←hbs] at HWH HGK hlen
 rw [h1,h2] at HGK
 have HLB:=Hd hlen
 obtain ⟨U,hU⟩:∃ U,U=c.upto:=⟨_,rfl⟩
 rw [←hU] at HGK hu hz ⊢
 have hub:U≤16777216:=by rw [hU];exact hnums.2.2.2.2
 obtain ⟨L,hL⟩:∃ L,L=c.l:=⟨_,rfl⟩
 rw [←hL] at HGK HNW HLB hl4 ⊢
 have hne1:((v.num:Int) != (v.num:Int))=false:=by simp
 have hne2:((v.gen:Int) != (v.gen:Int))=false:=by simp
 have hu1:decide ((U:Int)<16)=false:=by simp;omega
 have hu2:decide ((sz:Int)<(U:Int))=false:=by simp;omega
 have hu3:decide (U<16)=false:=by simp;omega
 have hu4:decide (sz<U)=false:=by simp;omega
 clear h hn hl hw hwh hr hck hs h1 h2 hnums hlen hbs hU hL hu hz
 go_enter Tryz.func109,Tryz.ntmps109
 go_upto_region 1 with fail
 obtain ⟨w1,hw1⟩:∃ w1:World,w1=w.alloc (.cells #[.int .i64 v.num,.int .i64 v.gen,.int .i64 v.epoch,.bool v.shut] 113):=⟨_,rfl⟩
 have HB1:=Hd (show Below w.heap.size w w1 by rw [hw1];exact belo)
 have KM1:=Hd (show w1.heap[w.heap.size]? = some (.cells #[.int .i64 v.num,.int .i64 v.gen,.int .i64 v.epoch,.bool v.shut] 113 (0,0)) by rw [hw1];exact heap_new w _)
 rw [←hw1]
 clear hw1
 obtain ⟨MB,hMB⟩:∃ MB,MB=w.heap.size:=⟨_,rfl⟩
 rw [←hMB] at KM1 ⊢
 have hMl:w.heap.size≤MB:=by omega
 clear hMB
 obtain ⟨c0,c1,c2,c3⟩:=ncells KM1.out
 have hlm:=blk_lt KM1.out
 go_wp2_with fail
 refine Calls.mono (HN.out _) ?_
 rintro e wx ⟨rfl,rfl⟩
 rw [HNV.out]
 go_wp2_with fail
 refine (HWH.out w1 HB1.out).mono ?_
 rintro e w2 ⟨v2,rfl,ho,hb⟩
 have HB2:=Hd (HB1.out.trans (hb.mono HB1.out.size))
 have KM2:=Hd (blk_below' KM1.out hb)
 obtain ⟨a2,cp2,rfl,hc2⟩:=slice_of ho
 have HRD:=Hd (reads_of_owns ho)
 obtain ⟨bk,oo,cp3,e,hbk,-,-⟩:=reads_at HRD.out (by have:=HLB.out;omega) (by have:=HLB.out;omega)
 obtain ⟨rfl,-,rfl⟩:=sl_inj e
 rw [show errV ((0:Nat):Int)=.nilIface from rfl]
 clear ho hb c0 c1 c2 c3 hlm
 go_wp2_with fail
 refine (HGK.out bk oo bs.length cp2 w2 HRD.out rfl hc2).mono ?_
 rintro e w3 ⟨a3,cp3,rfl,hrow,hb3⟩
 have HB3:=Hd (HB2.out.trans (hb3.mono HB2.out.size))
 have KM3:=Hd (blk_below' KM2.out hb3)
 have HRW:=Hd (reads_of_owns hrow)
 clear hrow hb3 hc2
 go_upto_region 6 with fail
 obtain ⟨w4,hw4⟩:∃ w4:World,w4=w3.alloc (.cells #[.int .i64 v.num,.int .i64 v.gen,.int .i64 U,.slice a3 L.length cp3] 159):=⟨_,rfl⟩
 have hb4:Below w3.heap.size w3 w4:=by rw [hw4];exact belo
 have HB4:=Hd (HB3.out.trans (hb4.mono HB3.out.size))
 have KM4:=Hd (blk_below' KM3.out hb4)
 have KC4:=Hd (show w4.heap[w3.heap.size]? = some (.cells #[.int .i64 v.num,.int .i64 v.gen,.int .i64 U,.slice a3 L.length cp3] 159 (0,0)) by rw [hw4];exact heap_new w3 _)
 have HRW4:=Hd (HRW.out.below hb4)
 rw [←hw4]
 clear hw4 hb4
 obtain ⟨CB,hCB⟩:∃ CB,CB=w3.heap.size:=⟨_,rfl⟩
 rw [←hCB] at KC4 ⊢
 clear hCB
 obtain ⟨c0,c1,c2,c3⟩:=ncells KM4.out
 obtain ⟨y0,y1,y2,y3⟩:=ncells KC4.out
 have hlm:=blk_lt KM4.out
 have hlc:=blk_lt KC4.out
 go_upto_region 8 with fail
 obtain ⟨SS,HSD⟩:∃ SS:World→Prop,Hid (SS=fun w'=>w'.cell? ⟨CB,2,none⟩=some (.int .i64 U)∧w'.cell? ⟨CB,3,none⟩=some (.slice a3 L.length cp3)):=⟨_,Hd rfl⟩
 refine wp_region_mask0 SS [1,4] [0,1,3,0,8,7,63] (.op 0 0 (.op 1 2 (.op 3 0 (.op 4 2 (.op 2 1 (.op 5 0 (.op 6 0 .nil))))))) (by kernel_rfl) (by kernel_rfl) rfl (by kernel_rfl) (by kernel_rfl) ?_ ?_
 (focus (rw [HSD.out];exact ⟨y2,y3⟩));refine stepM0 rfl rfl fun K hK=>?_;go_simp;refine hK _ ?_;clear hK K;refine stepM2 rfl rfl ?_ (fun w1 hS=>?_) fun K hK=>?_;rotate_left;(focus (rw [HSD.out] at hS;obtain ⟨s1,s2⟩:=hS;go_simp;rfl));go_simp;refine hK _ ?_;clear hK K;refine stepM0 rfl rfl fun K hK=>?_;go_simp;refine hK _ ?_;clear hK K;refine stepM2 rfl rfl ?_ (fun w1 hS=>?_) fun K hK=>?_;rotate_left;(focus (rw [HSD.out] at hS;obtain ⟨s1,s2⟩:=hS;go_simp;rfl));go_simp;refine hK _ ?_;clear hK K;refine stepM1S rfl rfl fun K hK=>?_
 (go_wp2_with fail;refine (HNW.out a3 cp3 _ (HRW4.out.below belo)).mono ?_;rintro e w5 ⟨ix,vx,rfl,hix,hb5⟩;have HIX5:=Hd hix;have HB5:=Hd (show Below w4.heap.size w4 w5 from Below.trans belo (hb5.mono (by first|exact Nat.le_refl _|(simp;done))));have x2:=(HB5.out.cell (p:=⟨CB,2,none⟩) hlc).trans y2;have x3:=(HB5.out.cell (p:=⟨CB,3,none⟩) hlc).trans y3;clear hix hb5;go_wp2)
 refine ⟨by rw [HSD.out];exact (⟨x2,x3⟩),?_⟩
 (iterate 2 refine stepM0 rfl rfl fun K hK=>?_;go_simp;refine hK _ ?_;clear hK K)
 try refine stepMnil0 ?_
 clear HSD SS
 go_wp2_with fail
 go_ret2
 have h1:=HIX5.out
 have hz4:=HB4.out.size
 exact ⟨ix,vx,rfl,⟨h1.blk,ownsRow_mono h1.row hz4,Nat.le_trans hz4 h1.low,h1.ne,h1.few,h1.srt⟩,Nat.le_trans hz4 h1.low,HB4.out.trans (HB5.out.mono hz4)⟩
theorem ckRow_of:∀ {l:List Ps} {k:Option Nat},IxS l→(∀ p∈l,ckPos p=true)→(∀ x,k=some x→∀ p∈l,x<p.key)→ckRow k l=true
 | [],_,_,_,_=>rfl
 | q :: r,k,hs,hp,hk=>by
  unfold ckRow
  have h1:=hp q List.mem_cons_self
  have h2:=ckRow_of (k:=some q.key) (List.pairwise_cons.1 hs).2 (fun p hm=>hp p (List.mem_cons_of_mem _ hm)) (fun x hx p hm=>by cases hx;exact (List.pairwise_cons.1 hs).1 p hm)
  rw [h1,h2]
  cases k with
  | none=>rfl
  | some x=>
   have:=hk x rfl q List.mem_cons_self
   simp [this]
theorem VI.ckRight{d:Dk}{v:Vl}{ns:List Nd}(h:VI d v ns)(hs:v.size≤16777216)(hl:v.idx.length≤4096):Go.Proofs.YtfpjfoajonbndaaGreatDoor.ckRight (ckSnap v)=0:=by
 unfold Go.Proofs.YtfpjfoajonbndaaGreatDoor.ckRight ckSnap
 simp only
 rw [if_neg (by omega)]
 have h1:ckNums ⟨v.num,v.gen,v.size,v.idx⟩=true:=by
  unfold ckNums
  refine decide_eq_true ?_
  have h1:=h.num
  have h2:=h.gen
  exact ⟨h1.1,h1.2,by show 1≤v.gen;omega,by show v.gen≤_;omega,hs⟩
 have h2:ckRow none v.idx=true:=ckRow_of h.srt (fun p hp=>by
  obtain ⟨o,n,hx,hln,hmem,hnk,hpo,hnd⟩:=h.pos hp
  have h3:=h.len_le hp
  have h4:=h.ok n hmem
  unfold ckPos
  have e1:p.gone=n.gone:=by rw [hpo];rfl
  have e2:p.len=n.data.length:=by rw [hpo];rfl
  rw [decide_eq_true (by omega:p.off≤16777216),decide_eq_true h3.1]
  cases hg:p.gone with
  | false=>rfl
  | true=>
   have:=h4.2.2.2 (by rw [←e1];exact hg)
   rw [e2,this]
   rfl) (fun x hx=>by cases hx)
 rw [h1,h2]
 rfl
theorem VI.keys64{d:Dk}{v:Vl}{ns:List Nd}(h:VI d v ns):∀ p∈v.idx,p.key<18446744073709551616∧p.cookie<4294967296:=fun p hp=>by
 obtain ⟨o,n,hx,hln,hmem,hnk,hpo,hnd⟩:=h.pos hp
 have h4:=h.ok n hmem
 exact ⟨by rw [hpo];exact h4.1,by rw [hpo];exact h4.2.1⟩
theorem c10:cName 1 0=[99,49,46,48]:=by simp [cName,numN_1,numN_0]
theorem c11:cName 1 1=[99,49,46,49]:=by simp [cName,numN_1]
theorem VI.names2{d:Dk}{v:Vl}{ns:List Nd}(h:VI d v ns){s:Nm}(h1:s≠v.file)(h2:s≠mName v.num):dirGet d.now s=none:=by
 obtain ⟨f,g,hfg,hl,hf,hg,hfb,hgb⟩:=h.now
 have hm:=two_mem hl hf hg (v_ne_m _ _ _)
 cases e:dirGet d.now s with
 | none=>rfl
 | some x=>
  have h3:=get_mem e
  rcases hm with hm|hm <;> rw [hm] at h3 <;> simp only [List.mem_cons,Prod.mk.injEq,List.not_mem_nil,or_false] at h3 <;> rcases h3 with h3|h3 <;> first|exact absurd h3.1 h1|exact absurd h3.1 h2
theorem VI.dg{d:Dk}{v:Vl}{ns:List Nd}{K:Nat}(h:VI d v ns)(hok:DkOk K d):DG d:=⟨h.armed,hok.fnow⟩
theorem VI.used{d:Dk}{v:Vl}{ns:List Nd}(h:VI d v ns):d.used=v.size+24:=by
 obtain ⟨f,g,hfg,hl,hf,hg,hfb,hgb⟩:=h.now
 rw [used_two hl hf hg (v_ne_m _ _ _),hfb,hgb,List.length_append,superB_len,h.size]
theorem head_ne{v:Vl}{s:Nm}{x:UInt8}{r:Nm}(hs:s=x :: r)(h1:x≠118)(h2:x≠109):s≠v.file∧s≠mName v.num:=by
 subst hs
 constructor
 ·intro e
  unfold Vl.file vName at e
  simp at e
  exact h1 e.1
 ·intro e
  unfold mName at e
  simp at e
  exact h2 e.1
theorem VI.ckAll{d:Dk}{v:Vl}{ns:List Nd}{K:Nat}(h:VI d v ns)(hok:DkOk K d)(hn:v.num=1)(hl:v.idx.length≤4096)(hc:v.size+48+24 * v.idx.length≤1048576) :
  ∃ d1 d2 d3 d4 d5,ckDo (ckSnap v) 0 d=(0,d1)∧ckDo (ckSnap v) 1 d1=(0,d2)∧ckDo (ckSnap v) 2 d2=(0,d3)∧ckDo (ckSnap v) 3 d3=(0,d4)∧ckDo (ckSnap v) 4 d4=(0,d5)∧(d5.size (cName 1 1)).1=0:=by
 have hdg:=h.dg hok
 have hu:=h.used
 have hvol:(ckSnap v).vol=1:=hn
 have hgen:(ckSnap v).gen=1:=h.gen
 have hdr:=head_ne (v:=v) (s:=cName 1 0) c10 (by decide) (by decide)
 have hdn:=h.names2 hdr.1 hdr.2
 have hl2:d.now.length=2:=by obtain ⟨f,g,_,hl,_⟩:=h.now;exact hl
 obtain ⟨d1,e1,n1⟩:=create_new hdg (s:=cName 1 0) (by rw [c10];decide) hdn (by omega)
 have hbl:=ckB_len (ckSnap v)
 have hil:(ckSnap v).l=v.idx:=rfl
 rw [hil] at hbl
 obtain ⟨d2,e2,n2⟩:=n1.append hdg hdn (b:=ckB (ckSnap v)) (by omega) (by rw [h.cap,hu,hbl];omega)
 have hf2:d2.fnd (cName 1 0)=(0,d.files.length):=by
  unfold Dk.fnd
  rw [if_neg (by rw [n2.ok.armed];decide),n2.now,n1.get]
 obtain ⟨d3,hd3⟩:∃ d3,d3=(d2.sync (cName 1 0)).2:=⟨_,rfl⟩
 have e3:d2.sync (cName 1 0)=(0,d3):=by
  have:(d2.sync (cName 1 0)).1=0:=by
   unfold Dk.sync
   rw [hf2]
   rfl
  rw [hd3]
  exact Prod.ext this rfl
 have h3n:d3.now=d2.now:=by
  rw [hd3]
  unfold Dk.sync
  rw [hf2]
  rfl
 have h3a:d3.armed = -1:=by
  rw [hd3]
  unfold Dk.sync
  rw [hf2]
  show (if 0<d2.armed then d2.armed - 1 else d2.armed) = -1
  rw [n2.ok.armed]
  rfl
 have hf3:d3.fnd (cName 1 0)=(0,d.files.length):=by
  unfold Dk.fnd
  rw [if_neg (by rw [h3a];decide),h3n,n2.now,n1.get]
 obtain ⟨d4,hd4⟩:∃ d4,d4=d3.turn ⟨1,cName 1 0,cName 1 1,d.files.length⟩:=⟨_,rfl⟩
 have e4:d3.rename (cName 1 0) (cName 1 1)=(0,d4):=by
  unfold Dk.rename
  rw [hf3,if_neg (by simp),if_neg (by rw [c11];decide),hd4]
 have h4n:d4.now=dirPut (dirDel d3.now (cName 1 0)) (cName 1 1) d.files.length:=by
  rw [hd4]
  rfl
 have h4a:d4.armed = -1:=by
  rw [hd4]
  show (if 0<d3.armed then d3.armed - 1 else d3.armed) = -1
  rw [h3a]
  rfl
 obtain ⟨d5,hd5⟩:∃ d5,d5=({ d4 with lasting:=d4.now,deeds:=[] }:Dk).did:=⟨_,rfl⟩
 have e5:d4.syncNames=(0,d5):=by
  unfold Dk.syncNames
  rw [if_neg (by rw [h4a];decide),hd5]
 have h5n:d5.now=d4.now:=by rw [hd5];rfl
 have h5a:d5.armed = -1:=by
  rw [hd5]
  show (if 0<d4.armed then d4.armed - 1 else d4.armed) = -1
  rw [h4a]
  rfl
 refine ⟨d1,d2,d3,d4,d5,?_,?_,?_,?_,?_,?_⟩
 ·unfold ckDo
  have hcl:d.ckClear (cName 1 0)=(0,d):=by
   unfold Dk.ckClear hasName
   rw [hdn]
   rfl
  rw [if_pos rfl,hvol,hcl,if_neg (by simp)]
  exact e1
 ·unfold ckDo
  rw [if_neg (by omega),if_pos rfl,h.ckRight (by omega) hl,if_neg (by simp),hvol]
  exact e2
 ·unfold ckDo
  rw [if_neg (by omega),if_neg (by omega),if_pos rfl,hvol]
  exact e3
 ·unfold ckDo
  rw [if_neg (by omega),if_neg (by omega),if_neg (by omega),if_pos rfl,hvol,hgen]
  exact e4
 ·unfold ckDo
  rw [if_neg (by omega),if_neg (by omega),if_neg (by omega),if_neg (by omega)]
  exact e5
 ·have:d5.fnd (cName 1 1)=(0,d.files.length):=by
   unfold Dk.fnd
   rw [if_neg (by rw [h5a];decide),h5n,h4n,get_put_same]
  unfold Dk.size
  rw [this]
  rfl
def CkSt (w:World) (Z:Nat→Prop) (wb dp vp:Nat) (v:Vl) (K:Nat) (d:Dk) (k:Nat):Prop:=
 ∃ Q:Nat→Prop,(∀ j,Q j→j<w.heap.size)∧(∀ j,Z j→Q j∧j≠wb)∧VS w vp dp Q K d v∧Q wb∧((k=0∧∃ a cap c0,CkW w wb dp vp c0 a cap 0)∨(1≤k∧k≤4∧WrAt w Q wb dp vp (ckSnap v) k)∨(k=5∧∃ a cap c0,CkW w wb dp vp c0 a cap 5))
theorem CkSt.below{w w':World}{Z:Nat→Prop}{wb dp vp K k:Nat}{v:Vl}{d:Dk}(h:CkSt w Z wb dp vp v K d k)(hb:Below w.heap.size w w'):CkSt w' Z wb dp vp v K d k:=by
 obtain ⟨Q,h1,h2,h3,h4,h5⟩:=h
 refine ⟨Q,fun j hj=>Nat.lt_of_lt_of_le (h1 j hj) hb.size,h2,h3.below hb,h4,?_⟩
 rcases h5 with ⟨e,a,cap,c0,h6⟩|⟨e1,e2,a,cap,g1,g2,g3,g4⟩|⟨e,a,cap,c0,h6⟩
 ·exact .inl ⟨e,a,cap,c0,blk_below' h6 hb⟩
 ·exact .inr (.inl ⟨e1,e2,a,cap,blk_below' g1 hb,g2.below hb,fun j hj=>⟨(g3 j hj).1,Nat.lt_of_lt_of_le (g3 j hj).2.1 hb.size,(g3 j hj).2.2⟩,g4⟩)
 ·exact .inr (.inr ⟨e,a,cap,c0,blk_below' h6 hb⟩)
structure CkGood (v:Vl):Prop where
 n0:NamesAt v.num 0
 n1:NamesAt v.num v.gen
 l0:(cName v.num 0).length≤maxLen
 l1:(cName v.num v.gen).length≤maxLen
 len:v.idx.length≤4096
 keys:∀ p∈v.idx,p.key<18446744073709551616∧p.cookie<4294967296
theorem CkSt.step{w:World}{Z:Nat→Prop}{wb dp vp K k r:Nat}{v:Vl}{d d':Dk}(h:CkSt w Z wb dp vp v K d k)(hg:CkGood v)(hK:K+2<1099511627776)(hk:k≤4)(hd:ckDo (ckSnap v) k d=(r,d')) :
  Calls Tryz.prog 31 #[(.pointer (some ⟨wb,0,none⟩))] w fun e w'=>e=.returned (.tuple #[.bool (r == 0 && k == 4),errV r])∧CkSt w' Z wb dp vp v (K+2) d' (if r=0 then k+1 else 5)∧KP Z w w':=by
 obtain ⟨Q,h1,h2,h3,h4,h5⟩:=h
 have fin:∀ e w',CkTo w Q wb dp vp K d v (ckSnap v) k e w'→e=.returned (.tuple #[.bool (r == 0 && k == 4),errV r])∧CkSt w' Z wb dp vp v (K+2) d' (if r=0 then k+1 else 5)∧KP Z w w':=fun e w' ⟨g1,Q2,g2,g3,g4,g5,g6⟩=>by
  rw [hd] at g1 g4 g5
  refine ⟨g1,⟨Q2,g3,fun j hj=>⟨g2 j (h2 j hj).1,(h2 j hj).2⟩,g4,g2 _ h4,?_⟩,g6.mono fun j _ hj=>h2 j hj⟩
  by_cases hr:r=0
  ·rw [if_pos hr]
   rw [if_pos hr] at g5
   by_cases h4':k=4
   ·subst h4'
    obtain ⟨a,cap,q1,-⟩:=g5
    exact .inr (.inr ⟨rfl,a,cap,_,q1⟩)
   ·exact .inr (.inl ⟨by omega,by omega,g5⟩)
  ·rw [if_neg hr]
   rw [if_neg hr] at g5
   obtain ⟨a,cap,q1,-⟩:=g5
   exact .inr (.inr ⟨rfl,a,cap,_,q1⟩)
 rcases h5 with ⟨e,a,cap,c0,h6⟩|⟨e1,e2,h6⟩|⟨e,-⟩
 ·subst e
  exact (ckstep_first h3 h6 h4 h1 hK rfl hg.n0 hg.n1 hg.l0 hg.l1 (by have:=hg.len;omega) hg.keys).mono fin
 ·exact (ckstep_next h3 h6 h1 hK e1 e2 rfl hg.n0 hg.n1 hg.l0 hg.l1 (by have:=hg.len;show v.idx.length≤_;omega) hg.keys).mono fin
 ·omega
theorem CkSt.over{w:World}{Z:Nat→Prop}{wb dp vp K:Nat}{v:Vl}{d:Dk}(h:CkSt w Z wb dp vp v K d 5) :
  Calls Tryz.prog 31 #[(.pointer (some ⟨wb,0,none⟩))] w fun e w'=>e=.returned (.tuple #[.bool false,errV 16])∧w=w':=by
 obtain ⟨Q,h1,h2,h3,h4,h5⟩:=h
 rcases h5 with ⟨e,-⟩|⟨-,e,-⟩|⟨-,a,cap,c0,h6⟩
 ·omega
 ·omega
 ·exact ckstep_over h6
theorem CkSt.start{w w':World}{Z P:Nat→Prop}{dp vp K:Nat}{v:Vl}{d:Dk}(h:VS w vp dp P K d v)(hP:∀ j,P j→j<w.heap.size)(hZ:∀ j,Z j→P j)(hb:Below w.heap.size w w')(hc:CkW w' w.heap.size dp vp ⟨0,0,0,[]⟩ none 0 0):CkSt w' Z w.heap.size dp vp v K d 0:=by
 refine ⟨fun j=>P j∨j=w.heap.size,fun j hj=>?_,fun j hj=>⟨.inl (hZ j hj),by have:=hP j (hZ j hj);omega⟩,h.later hb (fun j hj=>hj.imp id (fun e=>by omega)),.inr rfl,.inl ⟨rfl,_,_,_,hc⟩⟩
 rcases hj with hj|hj
 ·exact Nat.lt_of_lt_of_le (hP j hj) hb.size
 ·rw [hj];exact blk_lt hc
theorem CkGood.of{d:Dk}{v:Vl}{ns:List Nd}(h:VI d v ns)(hn:v.num=1)(hl:v.idx.length≤4096):CkGood v:=by
 have hg:=h.gen
 refine ⟨namesAt9 (by omega) (by omega),namesAt9 (by omega) (by omega),?_,?_,hl,h.keys64⟩
 ·rw [hn,c10];decide
 ·rw [hn,hg,c11];decide
theorem alive10(w:World):Calls Tryz.prog 26 #[] w fun e w'=>e=.returned (.bool true)∧Below w.heap.size w w':=by
 have HM:=Hd (madeR_any none 0 0 [] w rfl (reads_none _ _) (fun x hx=>absurd hx List.not_mem_nil) (by omega) (fun x hx=>absurd hx List.not_mem_nil))
 go_enter Tryz.func26,Tryz.ntmps26
 go_wp2_with fail
 refine (show Calls Tryz.prog 27 #[.slice none 0 0] w (MadeR w 1 []) from HM.out).mono ?_
 rintro e w1 ⟨vp,dp,F,val,d,v,ns,rfl,hvf,hfb,hvd,hrv,hac,hsz,hns,hb⟩
 have hvi:=hvd.vi
 obtain ⟨c0,c1,c2,c3,c4,c5a,c5n,c5c,c6a,c6n,c6c,rfl⟩:=RvIn.agg hrv
 have hnum:v.num=1:=congrArg Rv.num hac
 have hidx:v.idx=[]:=congrArg Rv.l hac
 have hsz2:v.size=16:=congrArg Rv.size hac
 have HGD:=Hd (CkGood.of hvi hnum (by rw [hidx];simp))
 have hok:DkOk 245 d:=by obtain ⟨ix,vx,P,g1,g2,g4⟩:=hvf.at';exact g2.ok
 obtain ⟨d1,d2,d3,d4,d5,e1,e2,e3,e4,e5,e6⟩:=hvi.ckAll hok hnum (by rw [hidx];simp) (by rw [hidx,hsz2];decide)
 obtain ⟨D,hD⟩:∃ D:Nat→Dk,D=fun k=>match k with|0=>d|1=>d1|2=>d2|3=>d3|4=>d4|_=>d5:=⟨_,rfl⟩
 have HDK:=Hd (show ∀ k,k≤4→ckDo (ckSnap v) k (D k)=(0,D (k+1)) from fun k hk=>by
  rw [hD]
  match k,hk with
  | 0,_=>exact e1
  | 1,_=>exact e2
  | 2,_=>exact e3
  | 3,_=>exact e4
  | 4,_=>exact e5)
 have HD0:=Hd (show D 0=d from congrFun hD 0)
 have HD5:=Hd (show ((D 5).size (cName 1 1)).1=0 by rw [hD];exact e6)
 have HVF:=Hd hvf
 have HFB:=Hd hfb
 have HB1:=Hd hb
 clear hvf hvi hvd hrv hac hb hsz hns hnum hidx hsz2 hok e1 e2 e3 e4 e5 e6 hD hfb
 go_upto_region 2 with fail
 obtain ⟨w2,hw2⟩:∃ w2:World,w2=w1.alloc (.cells #[.int .i64 c0,.int .i64 c1,.int .i64 c2,.int .i64 c3,.bool c4,.slice c5a c5n c5c,.slice c6a c6n c6c] 43):=⟨_,rfl⟩
 have HB12:=Hd (show Below w1.heap.size w1 w2 by rw [hw2];exact belo)
 have HB2:=Hd (HB1.out.trans (HB12.out.mono HB1.out.size))
 rw [←hw2]
 clear hw2
 have hz2:=HB2.out.size
 go_wp2_with fail
 refine (cknew_any dp vp w2).mono ?_
 rintro e w3 ⟨rfl,hcw,hb⟩
 have HVS2:=Hd ((HVF.out.kp (KP.of HB12.out) (fun k hk=>HVF.out.lt k hk)).vs (P:=fun k=>k<w2.heap.size∧¬ F k) (fun k hk e=>e.2 hk))
 have HST3:=Hd (CkSt.start (Z:=fun k=>k<w.heap.size) HVS2.out (fun j hj=>hj.1) (fun j hj=>⟨by have:j<w.heap.size:=hj;omega,fun e=>by have:=HFB.out j e;have h:j<w.heap.size:=hj;omega⟩) hb hcw)
 have HB3:=Hd (HB2.out.trans (hb.mono hz2))
 clear hcw hb
 obtain ⟨wb,hwb⟩:∃ wb,wb=w2.heap.size:=⟨_,rfl⟩
 rw [←hwb] at HST3 ⊢
 clear hwb
 go_wp2_with fail
 go_loopw [7,8] (fun n i wr=>∃ k:Nat,k≤5∧n=.int .i64 k∧i=.int .i64 k∧CkSt wr (fun k=>k<w.heap.size) wb dp vp v (245+2 * k) (D k) k∧Below w.heap.size w wr) (fun _ i _=>5 - (intOf i).toNat)
 case atStart=>exact ⟨0,by omega,rfl,rfl,by rw [HD0.out];exact HST3.out,HB3.out⟩
 case round=>
  obtain ⟨k,hk,rfl,rfl,hst,hbr⟩:=hrel
  have HSTR:=Hd hst
  have HBR:=Hd hbr
  clear hst hbr
  by_cases hlt:k<5
  ·have hj1:(k:Int)<5:=by omega
   have HSP:=Hd (HSTR.out.step HGD.out (by omega) (by omega) (HDK.out k (by omega)))
   rw [if_pos rfl,show errV ((0:Nat):Int)=.nilIface from rfl] at HSP
   obtain ⟨B4,hB4⟩:∃ B4,B4=((0:Nat) == 0 && k == 4):=⟨_,rfl⟩
   rw [←hB4] at HSP
   have hB5:((k:Int) == 4)=B4:=by
    rw [hB4]
    by_cases h:k=4
    ·subst h;rfl
    ·rw [show (k == 4)=false by simpa using h,show ((k:Int) == 4)=false by simp;omega]
     rfl
   have hBB:(B4 == B4)=true:=by simp
   clear hB4
   go_wp2_with fail
   refine HSP.out.mono ?_
   rintro e w4 ⟨rfl,hst,hkp⟩
   have HST4:=Hd hst
   have HB4:=Hd (show Below w.heap.size w w4 from HBR.out.trans (hkp.below HBR.out.size (fun j hj=>hj)))
   clear hst hkp
   go_wp2_with fail
   refine (code0 _).mono ?_
   rintro e wx ⟨rfl,rfl⟩
   go_wp2_with fail
   go_roundw
   case rel=>exact ⟨k+1,by omega,by go_num,by go_num,by rw [show 245+2 * (k+1)=245+2 * k+2 by omega];exact HST4.out,HB4.out⟩
   case measure=>simp [intOf];omega
  ·have hj1:¬ (k:Int)<5:=by omega
   obtain rfl:k=5:=by omega
   obtain ⟨Q,q1,q2,q3,q4,q5⟩:=HSTR.out
   obtain ⟨R,r1,r2,r3,r4⟩:=q3.disk q1
   have HSZ:=Hd (size_ds r1 (cName 1 1) (by rw [c11];decide))
   obtain ⟨sz,hsz⟩:∃ sz,sz=((D 5).size (cName 1 1)).2:=⟨_,rfl⟩
   rw [HD5.out,←hsz,c11,show errV ((0:Nat):Int)=.nilIface from rfl] at HSZ
   clear hsz q1 q2 q3 q4 q5 r1 r2 r3 r4
   go_wp2_with fail
   refine HSTR.out.over.mono ?_
   rintro e wx ⟨rfl,rfl⟩
   rw [errV_ne (show (16:Int)≠0 by decide)]
   go_wp2_with fail
   refine HSZ.out.mono ?_
   rintro e wx ⟨rfl,rfl⟩
   go_wp2_with fail
   refine (code0 _).mono ?_
   rintro e wx ⟨rfl,rfl⟩
   go_wp2_with fail
   refine (show Calls Tryz.prog 14 #[.iface 99 (.int .i64 16)] _ _ from code_some 16 (by decide) (by decide) _).mono ?_
   rintro e wx ⟨rfl,rfl⟩
   go_wp2_with fail
   refine (code0 _).mono ?_
   rintro e wx ⟨rfl,rfl⟩
   go_wp2_with fail
   go_ret
   exact ⟨rfl,HBR.out⟩
theorem mem_namesOf{l:Dir}{s:Nm}:s∈namesOf l↔s∈l.map (·.1):=(List.mergeSort_perm _ _).mem_iff
theorem tidyL_skip{o:Nm→Bool}{m:Bool}{d:Dk}{r:List Nm}:∀ {a:List Nm},(∀ s∈a,o s=false)→Dk.tidyL o (a ++ r) m d=Dk.tidyL o r m d
 | [],_=>rfl
 | s :: a,h=>by
  show Dk.tidyL o (s :: (a ++ r)) m d=_
  rw [Dk.tidyL,if_neg (by rw [h s List.mem_cons_self];simp)]
  exact tidyL_skip fun x hx=>h x (List.mem_cons_of_mem _ hx)
theorem tidyL_one{S:Nm}{d:Dk}{l:List Nm}(hS:S∈l)(hnd:l.Nodup)(hr:(d.remove S).1=0):Dk.tidyL (fun s=>s == S) l false d=(d.remove S).2.syncNames:=by
 obtain ⟨a,b,rfl⟩:=List.append_of_mem hS
 have hn:=List.nodup_append.1 hnd
 have ha:∀ s∈a,(s == S)=false:=fun s hs=>by
  have:=hn.2.2 s hs S List.mem_cons_self
  simpa using this
 have hb:∀ s∈b,(s == S)=false:=fun s hs=>by
  have:=(List.nodup_cons.1 hn.2.1).1
  simp
  rintro rfl
  exact this hs
 rw [tidyL_skip (o:=fun s=>s == S) ha,Dk.tidyL,if_pos (by simp),if_neg (by rw [hr];simp)]
 have:=tidyL_skip (o:=fun s=>s == S) (m:=true) (d:=(d.remove S).2) (r:=[]) hb
 rw [List.append_nil] at this
 rw [this,Dk.tidyL,if_pos rfl]
def isShadow (v:Vl) (s:Nm):Bool:=s == sName v.num
theorem VD.tidied{x:Dk}{v:Vl}{ns:List Nd}(h:VD x v ns):Dk.tidyL (isShadow v) (namesOf x.now) false x=(0,x):=by
 obtain ⟨f,g,hp⟩:=h.parts
 refine tidyL_none fun s hs=>?_
 have hs':=mem_namesOf.1 hs
 obtain ⟨p,hp1,rfl⟩:=List.mem_map.1 hs'
 have:=hp.noS p hp1
 simpa [isShadow] using this
theorem cut_ok{c:Dk}{s:Nm}{f n:Nat}(ha:c.armed = -1)(hg:dirGet c.now s=some f)(hn:n≤(c.fileAt f).b.length):c.cut s n=(0,c.setF f ⟨(c.fileAt f).b.take n,n⟩):=by
 have hf:c.fnd s=(0,f):=by unfold Dk.fnd;rw [if_neg (by rw [ha];decide),hg]
 unfold Dk.cut
 rw [hf,if_neg (by simp),if_neg (by show ¬ ((n:Int)<0∨((c.fileAt f).b.length:Int)<n);omega),did_off (by show c.armed = -1;exact ha)]
 simp
theorem Ends.cut{c:Dk}{v:Vl}{ns:List Nd}{t:List UInt8}(h:Ends c v ns t):(c.cut v.file v.size).1=0∧(c.mendT v t).now=c.now∧(c.mendT v t).armed = -1:=by
 obtain ⟨f,hf,hb⟩:=h.opens.data
 have hl:v.size≤(c.fileAt f).b.length:=by
  rw [hb,List.length_append,superB_len,List.length_append,h.opens.size]
  omega
 have e:=cut_ok h.armed hf hl
 refine ⟨by rw [e],?_,?_⟩
 ·unfold Dk.mendT
  split
  ·rfl
  ·rw [e];rfl
 ·unfold Dk.mendT
  split
  ·exact h.armed
  ·rw [e];exact h.armed
theorem nodup_names(v:Vl):[v.file,mName v.num,sName v.num].Nodup:=by
 have h1:v.file≠mName v.num:=v_ne_m _ _ _
 have h2:v.file≠sName v.num:=v_ne_s _ _ _
 have h3:=s_ne_m v.num
 simp [h1,h2,Ne.symm h3]
theorem Ends.tidied{c:Dk}{v:Vl}{ns:List Nd}{t:List UInt8}(h:Ends c v ns t):∃ c',Dk.tidyL (isShadow v) (namesOf (c.mendT v t).now) false (c.mendT v t)=(0,c')∧c'.now.length=2∧∀ s∈namesOf (c.mendT v t).now,s=v.file∨s=mName v.num∨s=sName v.num:=by
 obtain ⟨-,h2,h3⟩:=h.cut
 obtain ⟨y,hy⟩:∃ y,y=c.mendT v t:=⟨_,rfl⟩
 rw [←hy] at h2 h3 ⊢
 have hvs:v.file≠sName v.num:=v_ne_s _ _ _
 have hsm:=s_ne_m v.num
 rw [h2]
 rcases h.names with hn|hn
 ·refine ⟨y,tidyL_none fun s hs=>?_,by rw [h2];simpa using hn.length_eq,fun s hs=>?_⟩
  ·have:=hn.mem_iff.1 (mem_namesOf.1 hs)
   simp only [List.mem_cons,List.not_mem_nil,or_false] at this
   rcases this with rfl|rfl
   ·simpa [isShadow] using hvs
   ·simpa [isShadow] using Ne.symm hsm
  ·have:=hn.mem_iff.1 (mem_namesOf.1 hs)
   simp only [List.mem_cons,List.not_mem_nil,or_false] at this
   rcases this with e|e
   ·exact .inl e
   ·exact .inr (.inl e)
 ·have hin:sName v.num∈c.now.map (·.1):=hn.mem_iff.2 (by simp)
  obtain ⟨p,hp1,hp2⟩:=List.mem_map.1 hin
  have hget:∃ i,dirGet y.now (sName v.num)=some i:=by
   cases hg:dirGet y.now (sName v.num) with
   | some i=>exact ⟨i,rfl⟩
   | none=>exact absurd hp2 (get_none hg p (by rw [h2];exact hp1))
  obtain ⟨i,hi⟩:=hget
  have hf:y.fnd (sName v.num)=(0,i):=by unfold Dk.fnd;rw [if_neg (by rw [h3];decide),hi]
  have hr:y.remove (sName v.num)=(0,{ y with now:=dirDel y.now (sName v.num),deeds:=y.deeds ++ [⟨2,sName v.num,[],0⟩] }):=by
   unfold Dk.remove
   rw [hf,if_neg (by simp)]
   congr 1
   unfold Dk.turn
   rw [did_off (by show y.armed = -1;exact h3)]
   rfl
  have hnd:(namesOf c.now).Nodup:=by
   have h1:(namesOf c.now).Perm (c.now.map (·.1)):=List.mergeSort_perm _ _
   exact (h1.trans hn).nodup_iff.2 (nodup_names v)
  refine ⟨{ y with now:=dirDel y.now (sName v.num),lasting:=dirDel y.now (sName v.num),deeds:=[] },?_,?_,fun s hs=>?_⟩
  ·show Dk.tidyL (fun s=>s == sName v.num) _ false y=_
   rw [tidyL_one (mem_namesOf.2 hin) hnd (by rw [hr]),hr]
   unfold Dk.syncNames
   rw [if_neg (by show ¬ y.armed=0;rw [h3];decide),did_off (by show y.armed = -1;exact h3)]
  ·show (dirDel y.now (sName v.num)).length=2
   have h5:((dirDel y.now (sName v.num)).map (·.1)).Perm [v.file,mName v.num]:=by
    have h6:(dirDel y.now (sName v.num)).map (·.1)=(y.now.map (·.1)).filter (fun s=>!(s == sName v.num)):=by
     unfold dirDel
     rw [List.filter_map]
     rfl
    rw [h6,h2]
    refine (hn.filter _).trans ?_
    have e1:(v.file == sName v.num)=false:=by simpa using hvs
    have e2:(mName v.num == sName v.num)=false:=by simpa using Ne.symm hsm
    simp [e1,e2]
   simpa using h5.length_eq
  ·have:=hn.mem_iff.1 (mem_namesOf.1 hs)
   simpa using this
theorem VS.lessP{w:World}{vp dp K:Nat}{P Q:Nat→Prop}{d:Dk}{v:Vl}(h:VS w vp dp Q K d v)(hq:∀ j,P j→Q j):VS w vp dp P K d v:=by
 obtain ⟨ix,vx,h1,h2,h3,h4⟩:=h
 exact ⟨ix,vx,h1,h2.less (fun j hj=>hj.imp (hq j) id),fun j hj=>⟨fun e=>(h3 j hj).1 (hq j e),(h3 j hj).2⟩,h4⟩
theorem CkSt.vs{w:World}{Z:Nat→Prop}{wb dp vp K k:Nat}{v:Vl}{d:Dk}(h:CkSt w Z wb dp vp v K d k):VS w vp dp Z K d v:=by
 obtain ⟨Q,h1,h2,h3,h4,h5⟩:=h
 exact h3.lessP fun j hj=>(h2 j hj).1
theorem CkSt.more{w:World}{Z:Nat→Prop}{wb dp vp K L k:Nat}{v:Vl}{d:Dk}(h:CkSt w Z wb dp vp v K d k)(hl:K≤L):CkSt w Z wb dp vp v L d k:=by
 obtain ⟨Q,h1,h2,h3,h4,h5⟩:=h
 exact ⟨Q,h1,h2,h3.more hl,h4,h5⟩
theorem ckwrite_vs{w:World}{vp dp K:Nat}{P:Nat→Prop}{d:Dk}{v:Vl}(h:VS w vp dp P K d v)(hP:∀ k,P k→k<w.heap.size)(hK:K+12<1099511627776)(hg:CkGood v) :
  Calls Tryz.prog 28 #[(.pointer (some ⟨dp,0,none⟩)),(.pointer (some ⟨vp,0,none⟩))] w fun e w'=>e=.returned (errV (ckWrite (ckSnap v) d).1)∧VTo w w' vp dp P (K+10) (ckWrite (ckSnap v) d).2 v:=by
 obtain ⟨R,hR⟩:∃ R,R=ckWrite (ckSnap v) d:=⟨_,rfl⟩
 have HR:=Hd hR
 have HVS:=Hd h
 have HPL:=Hd hP
 have HG:=Hd hg
 rw [←hR]
 clear hR h hP hg
 go_enter Tryz.func28,Tryz.ntmps28
 go_wp2_with fail
 refine (cknew_any dp vp w).mono ?_
 rintro e w1 ⟨rfl,hcw,hb⟩
 have HS:=Hd (CkSt.start (Z:=P) HVS.out HPL.out (fun j hj=>hj) hb hcw)
 have HK1:=Hd (KP.of (P:=P) hb)
 clear hcw hb
 obtain ⟨wb,hwb⟩:∃ wb,wb=w.heap.size:=⟨_,rfl⟩
 rw [←hwb] at HS ⊢
 clear hwb
 go_upto_region 3 with fail
 go_loopg [6,7] 6 (fun g er dn wr=>(∃(k:Nat)(dk:Dk),k≤4∧g=6 - k∧er=.nilIface∧dn=.bool false∧CkSt wr P wb dp vp v (K+2 * k) dk k∧ckRun (ckSnap v) (5 - k) k dk=R∧KP P w wr)∨(g=0∧er=errV R.1∧dn=.bool (R.1 == 0)∧VS wr vp dp P (K+10) R.2 v∧KP P w wr))
 case atStart=>exact .inl ⟨0,d,Nat.zero_le _,rfl,rfl,rfl,HS.out,HR.out.symm,HK1.out⟩
 case round=>
  obtain ⟨k,dk,hk,rfl,rfl,rfl,hst,hru,hkp⟩|⟨rfl,rfl,rfl,hvs,hkp⟩:=hrel
  ·have HST:=Hd hst
   have HRU:=Hd hru
   have HKP:=Hd hkp
   clear hst hru hkp
   obtain ⟨r,d',hd⟩:∃ r d',ckDo (ckSnap v) k dk=(r,d'):=⟨_,_,rfl⟩
   have HDO:=Hd hd
   have HSP:=Hd (HST.out.step HG.out (by omega) hk hd)
   clear hd
   obtain ⟨n5,hn5⟩:∃ n,5 - k=n+1:=⟨4 - k,by omega⟩
   have hru:=HRU.out
   rw [hn5] at hru
   by_cases hr:r=0
   ·subst hr
    have hru2:=(ckRun_ok HDO.out).symm.trans hru
    have HRU2:=Hd hru2
    clear hru hru2
    rw [if_pos rfl] at HSP
    by_cases h4:k=4
    ·subst h4
     obtain rfl:n5=0:=by omega
     have e9:R=(0,d'):=HRU2.out.symm
     have HE9:=Hd e9
     clear e9
     go_wp2_with fail
     refine HSP.out.mono ?_
     rintro e w2 ⟨rfl,hst2,hk2⟩
     have HV2:=Hd hst2.vs
     have HK2:=Hd (HKP.out.trans hk2)
     clear hst2 hk2
     rw [show errV ((0:Nat):Int)=.nilIface from rfl]
     go_wp2_with fail
     go_roundg 0
     case measure=>omega
     case rel=>exact .inr ⟨rfl,by rw [HE9.out];rfl,by rw [HE9.out];rfl,by rw [HE9.out];exact HV2.out,HK2.out⟩
    ·have h4':((0:Nat) == 0 && k == 4)=false:=by simp [h4]
     rw [h4',show errV ((0:Nat):Int)=.nilIface from rfl] at HSP
     clear h4'
     go_wp2_with fail
     refine HSP.out.mono ?_
     rintro e w2 ⟨rfl,hst2,hk2⟩
     have HS2:=Hd (hst2.more (L:=K+2 * (k+1)) (by omega))
     have HK2:=Hd (HKP.out.trans hk2)
     clear hst2 hk2
     go_wp2_with fail
     go_roundg (6 - (k+1))
     case measure=>omega
     case rel=>exact .inl ⟨k+1,d',by omega,rfl,rfl,rfl,HS2.out,by rw [show 5 - (k+1)=n5 by omega];exact HRU2.out,HK2.out⟩
   ·have hru2:=(ckRun_bad HDO.out hr).symm.trans hru
    have HRU2:=Hd hru2
    clear hru hru2
    rw [if_neg hr] at HSP
    have h4':(r == 0 && k == 4)=false:=by simp [hr]
    rw [h4'] at HSP
    clear h4'
    have hri:((r:Nat):Int)≠0:=by omega
    rw [errV_ne hri] at HSP
    go_wp2_with fail
    refine HSP.out.mono ?_
    rintro e w2 ⟨rfl,hst2,hk2⟩
    have HV2:=Hd (hst2.vs.more (L:=K+10) (by omega))
    have HK2:=Hd (HKP.out.trans hk2)
    clear hst2 hk2
    go_wp2_with fail
    go_roundg 0
    case measure=>omega
    case rel=>exact .inr ⟨rfl,by rw [←HRU2.out,errV_ne hri],by rw [←HRU2.out];simp [hr],by rw [←HRU2.out];exact HV2.out,HK2.out⟩
  ·have HV2:=Hd hvs
   have HK2:=Hd hkp
   clear hvs hkp
   obtain ⟨r,d',rfl⟩:∃ r d',R=(r,d'):=⟨_,_,rfl⟩
   simp only
   by_cases hr:r=0
   ·subst hr
    rw [show errV ((0:Nat):Int)=.nilIface from rfl,show ((0:Nat) == 0)=true from rfl]
    go_wp2_with fail
    go_ret
    exact ⟨rfl,HV2.out,HK2.out⟩
   ·have hri:((r:Nat):Int)≠0:=by omega
    rw [errV_ne hri]
    go_wp2_with fail
    go_ret
    exact ⟨by rw [errV_ne hri];rfl,HV2.out,HK2.out⟩
theorem c_len(v g:Nat):(cName v g).length=(vName v g).length:=by simp [cName,vName]
theorem ours_all{v:Vl}(hok:VOk v){s:Nm}(hs:s=v.file∨s=mName v.num∨s=sName v.num):OursAt v s (isShadow v s)∧s.length≤maxLen:=by
 have h1:v.file≠sName v.num:=v_ne_s _ _ _
 have h2:=s_ne_m v.num
 rcases hs with rfl|rfl|rfl
 ·have e:isShadow v v.file=false:=by simpa [isShadow] using h1
  rw [e]
  exact ⟨ours_own hok.names (.inl ⟨rfl,.inl rfl⟩),hok.long.1⟩
 ·have e:isShadow v (mName v.num)=false:=by simpa [isShadow] using Ne.symm h2
  rw [e]
  exact ⟨ours_own hok.names (.inl ⟨rfl,.inr (.inr rfl)⟩),hok.long.2.2⟩
 ·have e:isShadow v (sName v.num)=true:=by simp [isShadow]
  rw [e]
  exact ⟨ours_own hok.names (.inr ⟨rfl,rfl⟩),hok.long.2.1⟩
def OpenTo (w:World) (dp:Nat) (P:Nat→Prop) (K:Nat) (d:Dk) (v:Vl) (e:Ending) (w':World):Prop:=
 ∃ vp,e=.returned (.tuple #[(.pointer (some ⟨vp,0,none⟩)),.nilIface])∧VS w' vp dp P K d v∧w.heap.size≤vp∧KP P w w'
theorem reopen_ck{w:World}{dp K:Nat}{P:Nat→Prop}{x:Dk}{v:Vl}{a b:List Nd}{X:Nat}(h:DS w dp P K x)(hP:∀ k,P k→k<w.heap.size)(hK:K+64<1099511627776)(hvk:VK x v (a ++ b) X)(hm:ManAt x v)(hok:VOk v)(hn1:NamesAt v.num 1)(hlen:v.idx.length≤4096)
  (hnm:∀ p∈x.now,p.1=v.file∨p.1=mName v.num∨p.1=cName v.num v.gen) (hw:x.whole (cName v.num v.gen)=(0,ckB ⟨v.num,v.gen,16+(ndsB a).length,ixOf a⟩)) (hr:ckRight ⟨v.num,v.gen,16+(ndsB a).length,ixOf a⟩=0) (hck:∀ p∈ixOf a,p.key<18446744073709551616∧p.cookie<4294967296) :
  Calls Tryz.prog 20 #[(.pointer (some ⟨dp,0,none⟩)),.int .i64 v.num,.int .i64 v.most] w (OpenTo w dp P (K+64) x v):=by
 have hsrt:IxS (ixOf a):=putAll_srt List.Pairwise.nil
 have hmt:x.mendT v []=x:=if_pos rfl
 have ht:Dk.tidyL (isShadow v) (namesOf x.now) false x=(0,x):=tidyL_none fun s hs=>by
  obtain ⟨p,hp1,rfl⟩:=List.mem_map.1 (mem_namesOf.1 hs)
  rcases hnm p hp1 with e|e|e <;> rw [e]
  ·have h1:v.file≠sName v.num:=v_ne_s _ _ _
   simpa [isShadow] using h1
  ·simpa [isShadow] using Ne.symm (s_ne_m v.num)
  ·simpa [isShadow] using c_ne_s v.num v.gen v.num
 have hsz:v.size=16+(ndsB a).length+(ndsB b).length:=by rw [hvk.size,ndsB_append,List.length_append];omega
 have hcl:(cName v.num v.gen).length≤maxLen:=by rw [c_len];exact hok.long.1
 have:=open_gen (t:=[]) (ns:=a ++ b) (ns2:=b) (pre:=superB v.num v.gen ++ ndsB a) (l0:=ixOf a) (from':=16+(ndsB a).length) h hP hK (hvk.opens hm) hok hn1
  (fun w0 Q hds=>base_ck ⟨v.num,v.gen,16+(ndsB a).length,ixOf a⟩ hds hok.names hcl hw hr hck hsrt rfl rfl (v.size+([]:List UInt8).length) (by show 16≤16+_;omega) (by show 16+(ndsB a).length≤v.size+0;omega))
  (by rw [ndsB_append,List.append_assoc]) (by rw [List.length_append,superB_len]) (fun m hm=>hvk.ok m (List.mem_append_right _ hm)) (by rw [ixOf_from];exact hvk.ixOf) hsrt hlen (fun e=>absurd rfl e) (isShadow v) (fun s hs=>by
   rw [hmt] at hs
   obtain ⟨p,hp1,rfl⟩:=List.mem_map.1 (mem_namesOf.1 hs)
   rcases hnm p hp1 with e|e|e
   ·exact ours_all hok (.inl e)
   ·exact ours_all hok (.inr (.inl e))
   ·have e2:isShadow v p.1=false:=by rw [e];simpa [isShadow] using c_ne_s v.num v.gen v.num
    rw [e2]
    exact ⟨ours_own hok.names (.inl ⟨rfl,.inr (.inl e)⟩),by rw [e];exact hcl⟩) (by rw [hmt,ht])
 rw [hmt,ht] at this
 exact this
theorem VK.ckRight{d:Dk}{v:Vl}{ns:List Nd}{X:Nat}(h:VK d v ns X)(hs:v.size≤16777216)(hl:v.idx.length≤4096):Go.Proofs.YtfpjfoajonbndaaGreatDoor.ckRight (ckSnap v)=0:=by
 obtain ⟨f,g,hv,-⟩:=h.vi
 exact hv.ckRight hs hl
theorem VK.ckGood{d:Dk}{v:Vl}{ns:List Nd}{X:Nat}(h:VK d v ns X)(hn:v.num=1)(hl:v.idx.length≤4096):CkGood v:=by
 obtain ⟨f,g,hv,-⟩:=h.vi
 exact CkGood.of hv hn hl
theorem VK.snap{d:Dk}{v:Vl}{ns:List Nd}{X:Nat}(h:VK d v ns X)(hn:v.num=1):ckSnap v=⟨1,1,16+(ndsB ns).length,Go.Proofs.YtfpjfoajonbndaaGreatDoor.ixOf ns⟩:=by
 unfold ckSnap
 rw [hn,h.gen,h.size,h.ixOf]
theorem VI.nod{d:Dk}{v:Vl}{ns:List Nd}(h:VI d v ns):(d.now.map (·.1)).Nodup:=by
 obtain ⟨f,g,hfg,hl,hf,hg,-⟩:=h.now
 have hne:v.file≠mName v.num:=v_ne_m _ _ _
 rcases two_mem hl hf hg hne with e|e <;> rw [e] <;> simp [hne,Ne.symm hne]
theorem VD.ckF{d:Dk}{v:Vl}{ns:List Nd}(h:VD d v ns)(hn:v.num=1):CkF d v ns none none:=by
 have hk:=VK.of h.vi h.vi.nod
 obtain ⟨f,g,hfg,hl,-⟩:=h.vi.now
 refine hk.fresh ?_ hn hl
 obtain ⟨g,h1,h2⟩:=h.man
 exact ⟨g,h1,by rw [h.vi.gen];exact h2⟩
structure GoodC (a:List Nd) (b:List UInt8):Prop where
 eq:b=ckB ⟨1,1,16+(ndsB a).length,ixOf a⟩
 right:ckRight ⟨1,1,16+(ndsB a).length,ixOf a⟩=0
 keys:∀ p∈ixOf a,p.key<18446744073709551616∧p.cookie<4294967296
theorem VK.goodC{d:Dk}{v:Vl}{ns:List Nd}{X:Nat}(h:VK d v ns X)(hn:v.num=1)(hs:v.size≤16777216)(hl:v.idx.length≤4096):GoodC ns (ckB (ckSnap v)):=by
 have e:=h.snap hn
 have hr:=h.ckRight hs hl
 refine ⟨by rw [e],by rw [←e];exact hr,by rw [h.ixOf];exact (h.ckGood hn hl).keys⟩
theorem CkF.open1{w:World}{dp K:Nat}{P:Nat→Prop}{x:Dk}{v:Vl}{a ns:List Nd}{y:DFile}(h:DS w dp P K x)(hP:∀ k,P k→k<w.heap.size)(hK:K+64<1099511627776)(hc:CkF x v ns none (some y))(hp:a <+: ns)(hy:GoodC a y.b)(hok:VOk v)(hlen:v.idx.length≤4096) :
  Calls Tryz.prog 20 #[(.pointer (some ⟨dp,0,none⟩)),.int .i64 1,.int .i64 v.most] w (OpenTo w dp P (K+64) x v):=by
 obtain ⟨b,rfl⟩:=hp
 have hn:=hc.num
 have hg:=hc.vk.gen
 have hnn:NamesAt v.num 1:=namesAt9 (by omega) (by omega)
 obtain ⟨i,hi,hf⟩:=hc.ck
 have:=reopen_ck h hP hK hc.vk hc.man hok hnn hlen (fun p hp=>by
  rcases hc.own p hp with e|e|e|e
  ·exact .inl e
  ·exact .inr (.inl e)
  ·exact absurd e (get_none (show dirGet x.now (cName 1 0)=none from hc.dr) p hp)
  ·exact .inr (.inr (by rw [hn,hg];exact e))) (by rw [hn,hg,whole_at (by rw [hc.vk.armed];decide) hi,hf,hy.eq]) (by rw [hn,hg];exact hy.right) hy.keys
 rw [hn] at this
 exact this
def isDraft (s:Nm):Bool:=s == cName 1 0
theorem isDraft_no{s:Nm}(h:s≠cName 1 0):isDraft s=false:=by simpa [isDraft] using h
theorem CkF.tidied{c:Dk}{v:Vl}{ns:List Nd}{o n:Option DFile}(h:CkF c v ns o n)(hr:RestK c):∃ c',Dk.tidyL isDraft (namesOf c.now) false c=(0,c')∧CkF c' v ns none n∧RestK c':=by
 cases o with
 | none=>
  refine ⟨c,tidyL_none fun s hs=>isDraft_no fun e=>?_,h,hr⟩
  obtain ⟨p,hp,e2⟩:=List.mem_map.1 (mem_namesOf.1 hs)
  exact get_none (show dirGet c.now (cName 1 0)=none from h.dr) p hp (e2.trans e)
 | some x=>
  obtain ⟨i,hi,hx⟩:=h.dr
  obtain ⟨e1,h1⟩:=h.clear
  obtain ⟨e2,h2,-⟩:=h1.s4 (c:=⟨1,1,0,[]⟩)
  have hnd:(namesOf c.now).Nodup:=by
   have:=h.vk.nod
   exact (List.mergeSort_perm _ _).nodup_iff.2 this
  have ht:=tidyL_one (S:=cName 1 0) (d:=c) (mem_namesOf.2 (List.mem_map_of_mem (f:=(·.1)) (get_mem hi))) hnd (by rw [e1])
  refine ⟨_,ht.trans ?_,h2,rfl,rfl,fun p hp=>?_⟩
  ·rw [e1]
   exact h1.vk.syncNames_o.1
  ·exact hr.2.2 p (List.mem_filter.1 hp).1
def BaseAt (dp K:Nat) (c:Dk) (v:Vl) (ns:List Nd):Prop:=
 ∃(l0:List Ps)(from':Nat)(pre:List UInt8)(ns2:List Nd),(∀ (w0:World) (Q:Nat→Prop),DS w0 dp Q K c→Calls Tryz.prog 109 #[(.pointer (some ⟨dp,0,none⟩)),.agg #[.int .i64 v.num,.int .i64 v.gen,.int .i64 v.epoch,.bool v.shut],.int .i64 ((v.size+([]:List UInt8).length:Nat):Int)] w0 (BaseTo w0 l0 from'))∧superB v.num v.gen ++ ndsB ns=pre ++ ndsB ns2∧pre.length=from'∧(∀ m∈ns2,NdOk m)∧putAll l0 (posL from' ns2)=v.idx∧IxS l0
theorem CkF.lens{c:Dk}{v:Vl}{ns:List Nd}{o n:Option DFile}(h:CkF c v ns o n):v.file=vName 1 1∧cName v.num v.gen=cName 1 1∧mName v.num=mName 1∧sName v.num=sName 1:=by
 have h1:=h.num
 have h2:=h.vk.gen
 refine ⟨?_,by rw [h1,h2],by rw [h1],by rw [h1]⟩
 show vName v.num v.gen=_
 rw [h1,h2]
theorem CkF.baseNone{dp K:Nat}{c:Dk}{v:Vl}{ns:List Nd}{o:Option DFile}(h:CkF c v ns o none):BaseAt dp K c v ns:=by
 refine ⟨[],16,superB v.num v.gen,ns,fun w0 Q hd=>base_none hd ?_ ?_ ?_ _,rfl,superB_len _ _,h.vk.ok,h.vk.ixOf,List.Pairwise.nil⟩
 ·rw [h.num,h.vk.gen];exact namesAt9 (by omega) (by omega)
 ·rw [h.lens.2.1,c11];decide
 ·rw [h.lens.2.1,whole_none (by rw [h.vk.armed];decide) h.ck]
  simp
theorem CkF.baseGood{dp K:Nat}{c:Dk}{v:Vl}{a ns:List Nd}{o:Option DFile}{y:DFile}(h:CkF c v ns o (some y))(hp:a <+: ns)(hy:GoodC a y.b):BaseAt dp K c v ns:=by
 obtain ⟨b,rfl⟩:=hp
 have hn:=h.num
 have hg:=h.vk.gen
 obtain ⟨i,hi,hf⟩:=h.ck
 have hsz:v.size=16+(ndsB a).length+(ndsB b).length:=by rw [h.vk.size,ndsB_append,List.length_append];omega
 have hsrt:IxS (ixOf a):=putAll_srt List.Pairwise.nil
 refine ⟨ixOf a,16+(ndsB a).length,superB v.num v.gen ++ ndsB a,b,fun w0 Q hd=>base_ck ⟨1,1,16+(ndsB a).length,ixOf a⟩ hd ?_ ?_ ?_ hy.right hy.keys hsrt hn.symm hg.symm (v.size+([]:List UInt8).length) (by show 16≤16+_;omega) (by show 16+(ndsB a).length≤v.size+0;omega),by rw [ndsB_append,List.append_assoc],by rw [List.length_append,superB_len],fun m hm=>h.vk.ok m (List.mem_append_right _ hm),by rw [ixOf_from];exact h.vk.ixOf,hsrt⟩
 ·rw [hn,hg];exact namesAt9 (by omega) (by omega)
 ·rw [h.lens.2.1,c11];decide
 ·rw [h.lens.2.1,whole_at (by rw [h.vk.armed];decide) hi,hf,hy.eq]
theorem CkF.opened{w:World}{dp K:Nat}{P:Nat→Prop}{c:Dk}{v:Vl}{ns:List Nd}{o n:Option DFile}(h:DS w dp P K c)(hP:∀ k,P k→k<w.heap.size)(hK:K+64<1099511627776)(hc:CkF c v ns o n)(hr:RestK c)(hb:BaseAt dp K c v ns)(hok:VOk v)(hlen:v.idx.length≤4096) :
  ∃ c',CkF c' v ns none n∧RestK c'∧Calls Tryz.prog 20 #[(.pointer (some ⟨dp,0,none⟩)),.int .i64 1,.int .i64 v.most] w (OpenTo w dp P (K+64) c' v):=by
 obtain ⟨c',ht,h1,h2⟩:=hc.tidied hr
 refine ⟨c',h1,h2,?_⟩
 obtain ⟨l0,from',pre,ns2,g1,g2,g3,g4,g5,g6⟩:=hb
 have hn:=hc.num
 have hg:=hc.vk.gen
 have hm:c.mendT v []=c:=if_pos rfl
 have hnn:NamesAt v.num 1:=by rw [hn];exact namesAt9 (by omega) (by omega)
 obtain ⟨e1,e2,e3,e4⟩:=hc.lens
 have q1:(vName 1 1).length≤1000:=by unfold vName numN Go.Lib.decDigits;decide
 have q2:(mName 1).length≤1000:=by unfold mName numN Go.Lib.decDigits;decide
 have:=open_gen (t:=[]) (ns:=ns) (ns2:=ns2) (pre:=pre) (l0:=l0) (from':=from') h hP hK (hc.vk.opens hc.man) hok hnn (fun w0 Q hd=>g1 w0 Q hd) g2 g3 g4 g5 g6 hlen (fun e=>absurd rfl e) isDraft (fun s hs=>by
   rw [hm] at hs
   obtain ⟨p,hp,rfl⟩:=List.mem_map.1 (mem_namesOf.1 hs)
   rcases hc.own p hp with e|e|e|e
   ·have e5:isDraft p.1=false:=by rw [e];exact isDraft_no (fun e6=>(oth_c v 0).1 e6.symm)
    rw [e5]
    exact ⟨ours_own hok.names (.inl ⟨rfl,.inl e⟩),by rw [e,e1];unfold maxLen;omega⟩
   ·have e5:isDraft p.1=false:=by rw [e];exact isDraft_no (fun e6=>(oth_c v 0).2.1 e6.symm)
    rw [e5]
    exact ⟨ours_own hok.names (.inl ⟨rfl,.inr (.inr e)⟩),by rw [e,e3];unfold maxLen;omega⟩
   ·have e5:isDraft p.1=true:=by rw [e];simp [isDraft]
    rw [e5]
    refine ⟨ours_other hok.names (r:=numN 0) (.inl (by rw [e,hn];rfl)) (by rw [e];exact (oth_c v 0).1) (by rw [e,e2];exact c_ne01) (by rw [e,c10];decide) (by rw [e1];exact q1),by rw [e,c10];decide⟩
   ·have e5:isDraft p.1=false:=by rw [e];exact isDraft_no (Ne.symm c_ne01)
    rw [e5]
    exact ⟨ours_own hok.names (.inl ⟨rfl,.inr (.inl (by rw [e2];exact e))⟩),by rw [e,c11];decide⟩) (by rw [hm,ht])
 rw [hm,ht,hn] at this
 exact this
end Go.Proofs.YtfpjfoajonbndaaGreatDoor
