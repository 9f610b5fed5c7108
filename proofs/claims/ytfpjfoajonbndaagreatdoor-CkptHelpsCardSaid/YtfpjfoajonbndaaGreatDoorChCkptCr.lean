import Derived.Test.YtfpjfoajonbndaaGreatDoorChCkptK
import Derived.Test.YtfpjfoajonbndaaGreatDoorCh19
namespace Go.Proofs.YtfpjfoajonbndaaGreatDoor
def Dk.seen (d:Dk) (p:DPicks):Dk:=⟨d.cap,d.lastDir p,d.lastDir p,[],d.files,-1⟩
def Stl (p:DPicks) (o o':Option DFile):Prop:=(o=none∧o'=none)∨∃ x i,o=some x∧o'=some (x.settle (p.at i))
def setO (p:DPicks) (oi:Option Nat) (fs:List DFile):List DFile:=match oi with|none=>fs|some i=>fs.set i ((fs[i]?.getD ⟨[],0⟩).settle (p.at i))
theorem setO_get(p:DPicks)(oi:Option Nat)(fs:List DFile)(k:Nat):(setO p oi fs)[k]? = fs[k]?.map fun f=>if oi=some k then f.settle (p.at k) else f:=by
 cases oi with
 | none=>show fs[k]? = _;cases fs[k]? <;> simp
 | some i=>
  show (fs.set i _)[k]? = _
  rw [List.getElem?_set]
  by_cases e:i=k
  ·subst e
   rw [if_pos rfl]
   by_cases hl:i<fs.length
   ·rw [if_pos hl,List.getElem?_eq_getElem hl];simp
   ·rw [if_neg hl,List.getElem?_eq_none (by omega)];rfl
  ·rw [if_neg e]
   cases fs[k]? <;> simp [e]
theorem settle_pair{d:Dk}{v:Vl}{ns:List Nd}{o n:Option DFile}(h:CkF d v ns o n)(p:DPicks)(hfs:∀ i,(dirGet d.now v.file=some i∨dirGet d.now (mName v.num)=some i)→(d.fileAt i).lasts=(d.fileAt i).b.length) :
  settleAll d.now p d.files=setO p (dirGet d.now (cName 1 1)) (setO p (dirGet d.now (cName 1 0)) d.files):=by
 refine List.ext_getElem? fun k=>?_
 rw [setO_get,setO_get]
 unfold settleAll
 rw [List.getElem?_mapIdx]
 cases hf:d.files[k]? with
 | none=>rfl
 | some f=>
  simp only [Option.map_some,Option.some.injEq]
  by_cases e0:dirGet d.now (cName 1 0)=some k
  ·have e1:dirGet d.now (cName 1 1)≠some k:=fun e1=>h.dis k k e0 e1 rfl
   rw [if_pos e0,if_neg e1,if_pos (List.any_eq_true.2 ⟨_,get_mem e0,by simp⟩)]
  ·rw [if_neg e0]
   by_cases e1:dirGet d.now (cName 1 1)=some k
   ·rw [if_pos e1,if_pos (List.any_eq_true.2 ⟨_,get_mem e1,by simp⟩)]
   ·rw [if_neg e1]
    split
    ·rename_i ha
     obtain ⟨q,hq,e⟩:=List.any_eq_true.1 ha
     have e2:q.2=k:=by simpa using e
     have hg:=getMem h.vk.nod hq
     rw [e2] at hg
     have hfk:d.fileAt k=f:=by unfold Dk.fileAt;rw [hf];rfl
     rcases h.own q hq with e3|e3|e3|e3 <;> rw [e3] at hg
     ·have:=hfs k (.inl hg)
      rw [hfk] at this
      exact settle_same this _
     ·have:=hfs k (.inr hg)
      rw [hfk] at this
      exact settle_same this _
     ·exact absurd hg e0
     ·exact absurd hg e1
    ·rfl
theorem CkF.setN{d:Dk}{v:Vl}{ns:List Nd}{o:Option DFile}{x:DFile}(h:CkF d v ns o (some x)){i:Nat}(hi:dirGet d.now (cName 1 1)=some i)(hx:d.fileAt i=x)(y:DFile):CkF (d.setF i y) v ns o (some y):=by
 have hof:∀ p∈d.now,p.1≠cName 1 1→p.2≠i:=fun p hp hne=>by
  have hg:=getMem h.vk.nod hp
  rcases h.own p hp with e|e|e|e
  ·exact h.vk.fg_ne (.inl (by rw [←e];exact hg)) (oth_c v 1) hi
  ·exact h.vk.fg_ne (.inr (by rw [←e];exact hg)) (oth_c v 1) hi
  ·exact h.dis p.2 i (by rw [←e];exact hg) hi
  ·exact absurd e hne
 have hk:VK (d.setF i y) v ns (olen o+olen (some y)):=h.vk.setF_o (oth_c v 1) hi hof y (by
  rw [hx]
  show olen o+y.b.length+x.b.length=olen o+x.b.length+y.b.length
  omega)
 have hat:∀ j,j≠i→(d.setF i y).fileAt j=d.fileAt j:=fun j hj=>fileAt_ne (Ne.symm hj)
 refine ⟨hk,h.num,man_move h.vk h.man rfl (fun j hj=>hat j (h.vk.fg_ne hj (oth_c v 1) hi)),?_,⟨i,hi,fileAt_set (h.vk.ins _ (get_mem hi))⟩,h.cnt,h.own,h.dis⟩
 have:=h.dr
 unfold OptAt at this ⊢
 cases o with
 | none=>exact this
 | some z=>
  obtain ⟨j,h3,h4⟩:=this
  exact ⟨j,h3,by rw [hat j (h.dis j i h3 hi)];exact h4⟩
theorem CkF.setD{d:Dk}{v:Vl}{ns:List Nd}{n:Option DFile}{x:DFile}(h:CkF d v ns (some x) n){i:Nat}(hi:dirGet d.now (cName 1 0)=some i)(hx:d.fileAt i=x)(y:DFile):CkF (d.setF i y) v ns (some y) n:=
 h.setF hi hx y (h.vk.setF_o (oth_c v 0) hi (h.hof hi) y (by
  rw [hx]
  show y.b.length+olen n+x.b.length=x.b.length+olen n+y.b.length
  omega))
theorem CkF.crash{d:Dk}{v:Vl}{ns:List Nd}{o n:Option DFile}{p:DPicks}(h:CkF (d.seen p) v ns o n)(hfs:∀ i,(dirGet (d.lastDir p) v.file=some i∨dirGet (d.lastDir p) (mName v.num)=some i)→(d.fileAt i).lasts=(d.fileAt i).b.length) :
  ∃ o' n',CkF (d.crash p) v ns o' n'∧RestK (d.crash p)∧Stl p o o'∧Stl p n n':=by
 have hse:settleAll (d.lastDir p) p d.files=setO p (dirGet (d.lastDir p) (cName 1 1)) (setO p (dirGet (d.lastDir p) (cName 1 0)) d.files):=settle_pair h p hfs
 have hc:d.crash p = { d.seen p with files:=setO p (dirGet (d.lastDir p) (cName 1 1)) (setO p (dirGet (d.lastDir p) (cName 1 0)) d.files) }:=by
  unfold Dk.crash Dk.seen
  rw [hse]
 have hrest:RestK (d.crash p):=⟨rfl,rfl,fun q hq=>.inr (by
  have hq':q∈d.lastDir p:=hq
  have hl:q.2<d.files.length:=h.vk.ins q hq'
  have:(d.crash p).fileAt q.2=(d.files[q.2]).settle (p.at q.2):=by
   unfold Dk.fileAt Dk.crash
   show (settleAll (d.lastDir p) p d.files)[q.2]?.getD _=_
   unfold settleAll
   rw [List.getElem?_mapIdx,List.getElem?_eq_getElem hl]
   simp only [Option.map_some,Option.getD_some]
   rw [if_pos (List.any_eq_true.2 ⟨q,hq',by simp⟩)]
  rw [this]
  exact settle_lasts _ _)⟩
 obtain ⟨o',d1,h1,s1,e1⟩:∃ o' d1,CkF d1 v ns o' n∧Stl p o o'∧d1 = { d.seen p with files:=setO p (dirGet (d.lastDir p) (cName 1 0)) d.files }:=by
  cases o with
  | none=>
   refine ⟨none,d.seen p,h,.inl ⟨rfl,rfl⟩,?_⟩
   rw [show dirGet (d.lastDir p) (cName 1 0)=none from h.dr]
   rfl
  | some x=>
   obtain ⟨i,hi,hx⟩:=h.dr
   refine ⟨_,_,h.setD hi hx (x.settle (p.at i)),.inr ⟨x,_,rfl,rfl⟩,?_⟩
   rw [show dirGet (d.lastDir p) (cName 1 0)=some i from hi]
   show (d.seen p).setF i _ = { d.seen p with files:=d.files.set i ((d.fileAt i).settle (p.at i)) }
   rw [show d.fileAt i=x from hx]
   rfl
 obtain ⟨n',d2,h2,s2,e2⟩:∃ n' d2,CkF d2 v ns o' n'∧Stl p n n'∧d2 = { d1 with files:=setO p (dirGet d1.now (cName 1 1)) d1.files }:=by
  cases n with
  | none=>
   refine ⟨none,d1,h1,.inl ⟨rfl,rfl⟩,?_⟩
   rw [show dirGet d1.now (cName 1 1)=none from h1.ck]
   rfl
  | some x=>
   obtain ⟨i,hi,hx⟩:=h1.ck
   refine ⟨_,_,h1.setN hi hx (x.settle (p.at i)),.inr ⟨x,_,rfl,rfl⟩,?_⟩
   rw [hi]
   show d1.setF i _ = { d1 with files:=d1.files.set i ((d1.fileAt i).settle (p.at i)) }
   rw [hx]
   rfl
 refine ⟨o',n',?_,hrest,s1,s2⟩
 rw [hc]
 rw [e2,e1] at h2
 exact h2
theorem CkF.files{d d':Dk}{v:Vl}{ns:List Nd}{o n:Option DFile}(h:CkF d v ns o n)(ha:d'.armed = -1)(hc:d'.cap=d.cap)(hn:d'.now=d.now)(hl:d.files.length≤d'.files.length)(hat:∀ p∈d.now,d'.fileAt p.2=d.fileAt p.2):CkF d' v ns o n:=by
 have hg:∀ s i,dirGet d.now s=some i→d'.fileAt i=d.fileAt i:=fun s i e=>hat _ (get_mem e)
 have ho:∀ s o,OptAt d s o→OptAt d' s o:=fun s o e=>by
  unfold OptAt at e ⊢
  cases o with
  | none=>rw [hn];exact e
  | some x=>
   obtain ⟨i,e1,e2⟩:=e
   exact ⟨i,by rw [hn];exact e1,by rw [hg s i e1];exact e2⟩
 refine ⟨h.vk.move ha hc (fun i hi=>hi.elim (hg _ i) (hg _ i)) (fun s _=>by rw [hn]) (fun p hp=>.inl (by rw [←hn];exact hp)) (by rw [hn];exact h.vk.few) (by rw [hn];exact h.vk.nod) (fun p hp=>by rw [hn] at hp;exact Nat.lt_of_lt_of_le (h.vk.ins p hp) hl) ?_,h.num,man_move h.vk h.man (by rw [hn]) (fun i hi=>hi.elim (hg _ i) (hg _ i)),ho _ _ h.dr,ho _ _ h.ck,by rw [hn];exact h.cnt,by rw [hn];exact h.own,by rw [hn];exact h.dis⟩
 rw [used_files hn fun p hp=>by rw [hat p hp]]
 exact h.vk.used
end Go.Proofs.YtfpjfoajonbndaaGreatDoor
