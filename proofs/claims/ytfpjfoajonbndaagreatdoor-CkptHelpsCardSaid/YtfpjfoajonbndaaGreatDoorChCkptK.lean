import Derived.Test.YtfpjfoajonbndaaGreatDoorChCkDoPlain
import Derived.Test.YtfpjfoajonbndaaGreatDoorCh10
namespace Go.Proofs.YtfpjfoajonbndaaGreatDoor
theorem c10':cName 1 0=[99,49,46,48]:=by unfold cName numN Go.Lib.decDigits;rfl
theorem c11':cName 1 1=[99,49,46,49]:=by unfold cName numN Go.Lib.decDigits;rfl
theorem c_ne01:cName 1 0≠cName 1 1:=by rw [c10',c11'];decide
theorem oth_c(v:Vl)(g:Nat):OthN v (cName 1 g):=by
 refine ⟨fun e=>?_,fun e=>?_,fun e=>?_⟩
 ·unfold Vl.file vName cName at e;injection e with e _;exact absurd e (by decide)
 ·unfold mName cName at e;injection e with e _;exact absurd e (by decide)
 ·unfold sName cName at e;injection e with e _;exact absurd e (by decide)
theorem getMem:∀ {l:Dir} {p:Nm×Nat},(l.map (·.1)).Nodup→p∈l→dirGet l p.1=some p.2
 | q :: r,p,hn,hp=>by
  rw [List.map_cons,List.nodup_cons] at hn
  rw [get_cons]
  rcases List.mem_cons.1 hp with rfl|hp
  ·rw [if_pos rfl]
  ·rw [if_neg fun e=>hn.1 (by rw [e];exact List.mem_map_of_mem (f:=(·.1)) hp)]
   exact getMem hn.2 hp
def OptAt (d:Dk) (s:Nm):Option DFile→Prop
 | none=>dirGet d.now s=none
 | some x=>∃ i,dirGet d.now s=some i∧d.fileAt i=x
def olen:Option DFile→Nat
 | none=>0
 | some x=>x.b.length
def ocnt:Option DFile→Nat
 | none=>0
 | some _=>1
structure CkF (d:Dk) (v:Vl) (ns:List Nd) (o n:Option DFile):Prop where
 vk:VK d v ns (olen o+olen n)
 num:v.num=1
 man:ManAt d v
 dr:OptAt d (cName 1 0) o
 ck:OptAt d (cName 1 1) n
 cnt:d.now.length=2+ocnt o+ocnt n
 own:∀ p∈d.now,p.1=v.file∨p.1=mName v.num∨p.1=cName 1 0∨p.1=cName 1 1
 dis:∀ i j,dirGet d.now (cName 1 0)=some i→dirGet d.now (cName 1 1)=some j→i≠j
def Syn (d:Dk):Prop:=SynN (fun s=>s=cName 1 0) d
theorem man_move{d d':Dk}{v:Vl}{ns:List Nd}{X:Nat}(h:VK d v ns X)(hm:ManAt d v)(hg:dirGet d'.now (mName v.num)=dirGet d.now (mName v.num))(hfg:∀ i,(dirGet d.now v.file=some i∨dirGet d.now (mName v.num)=some i)→d'.fileAt i=d.fileAt i):ManAt d' v:=by
 obtain ⟨g,h1,h2⟩:=hm
 exact ⟨g,by rw [hg];exact h1,by rw [hfg g (.inr h1)];exact h2⟩
theorem ocnt_le(o:Option DFile):ocnt o≤1:=by cases o <;> simp [ocnt]
theorem named_c0:namedB (cName 1 0)=true:=by rw [c10'];decide
theorem named_c1:namedB (cName 1 1)=true:=by rw [c11'];decide
theorem CkF.hof{d:Dk}{v:Vl}{ns:List Nd}{o n:Option DFile}{i:Nat}(h:CkF d v ns o n)(hi:dirGet d.now (cName 1 0)=some i):∀ p∈d.now,p.1≠cName 1 0→p.2≠i:=fun p hp hne=>by
 have hg:=getMem h.vk.nod hp
 rcases h.own p hp with e|e|e|e
 ·exact h.vk.fg_ne (.inl (by rw [←e];exact hg)) (oth_c v 0) hi
 ·exact h.vk.fg_ne (.inr (by rw [←e];exact hg)) (oth_c v 0) hi
 ·exact absurd e hne
 ·exact fun e2=>h.dis i p.2 hi (by rw [←e];exact hg) e2.symm
theorem at_createO{d:Dk}{s:Nm}{i:Nat}(hi:i<d.files.length):(d.createO s).fileAt i=d.fileAt i:=by
 unfold Dk.fileAt Dk.createO
 rw [List.getElem?_append_left hi]
theorem at_new{d:Dk}{s:Nm}:(d.createO s).fileAt d.files.length=⟨[],0⟩:=by unfold Dk.fileAt Dk.createO;simp
theorem CkF.make{d:Dk}{v:Vl}{ns:List Nd}{n:Option DFile}(h:CkF d v ns none n) :
  d.create (cName 1 0)=(0,d.createO (cName 1 0))∧CkF (d.createO (cName 1 0)) v ns (some ⟨[],0⟩) n∧(Syn d→Syn (d.createO (cName 1 0))):=by
 have hc:=h.cnt
 have h1:=ocnt_le n
 have h0:ocnt (none:Option DFile)=0:=rfl
 obtain ⟨e1,e2,e3⟩:=h.vk.create_o (oth_c v 0) named_c0 h.dr (by omega)
 have hg:dirGet (d.createO (cName 1 0)).now (cName 1 0)=some d.files.length:=get_put_same _ _ _
 have hg1:dirGet (d.createO (cName 1 0)).now (cName 1 1)=dirGet d.now (cName 1 1):=get_put_other _ _ (Ne.symm c_ne01)
 refine ⟨e1,⟨e2,h.num,man_move h.vk h.man (get_put_other _ _ (Ne.symm (oth_c v 0).2.1)) (fun i hi=>at_createO (h.vk.fg_lt hi)),⟨_,hg,at_new⟩,?_,?_,fun p hp=>?_,fun i j hi hj=>?_⟩,fun hs=>?_⟩
 ·have:=h.ck
  unfold OptAt at this ⊢
  cases n with
  | none=>exact hg1.trans this
  | some x=>
   obtain ⟨j,h3,h4⟩:=this
   exact ⟨j,hg1.trans h3,by rw [at_createO (h.vk.ins _ (get_mem h3))];exact h4⟩
 ·rw [e3]
  show d.now.length+1=2+1+ocnt n
  omega
 ·rcases mem_put.1 hp with rfl|⟨hp,-⟩
  ·exact .inr (.inr (.inl rfl))
  ·exact h.own p hp
 ·rw [hg] at hi
  injection hi with hi
  rw [hg1] at hj
  have:j<d.files.length:=h.vk.ins _ (get_mem hj)
  omega
 ·intro p hp
  rcases mem_put.1 hp with rfl|⟨hp,-⟩
  ·exact .inl rfl
  ·rw [at_createO (h.vk.ins p hp)]
   exact hs p hp
theorem CkF.clear{d:Dk}{v:Vl}{ns:List Nd}{n:Option DFile}{x:DFile}(h:CkF d v ns (some x) n):d.remove (cName 1 0)=(0,d.removeO (cName 1 0))∧CkF (d.removeO (cName 1 0)) v ns none n:=by
 obtain ⟨i,hi,hx⟩:=h.dr
 obtain ⟨e1,e2,e3,e4⟩:=h.vk.remove_o (oth_c v 0) hi
 have hg1:∀ s,s≠cName 1 0→dirGet (d.removeO (cName 1 0)).now s=dirGet d.now s:=fun s hs=>get_del_other _ hs
 refine ⟨e1,⟨?_,h.num,man_move h.vk h.man (hg1 _ (Ne.symm (oth_c v 0).2.1)) (fun i hi=>rfl),get_del_same _ _,?_,?_,fun p hp=>h.own p (List.mem_filter.1 hp).1,fun i j hi hj=>?_⟩⟩
 ·have:olen (some x)+olen n - (d.fileAt i).b.length=olen none+olen n:=by
   rw [hx]
   show x.b.length+olen n - x.b.length=0+olen n
   omega
  rw [←this]
  exact e2
 ·have:=h.ck
  unfold OptAt at this ⊢
  cases n with
  | none=>exact (hg1 _ (Ne.symm c_ne01)).trans this
  | some y=>
   obtain ⟨j,h3,h4⟩:=this
   exact ⟨j,(hg1 _ (Ne.symm c_ne01)).trans h3,h4⟩
 ·have:=h.cnt
  have h1:ocnt (some x)=1:=rfl
  show _=2+0+ocnt n
  omega
 ·have:dirGet (d.removeO (cName 1 0)).now (cName 1 0)=none:=get_del_same _ _
  rw [this] at hi
  cases hi
theorem CkF.s0{d:Dk}{v:Vl}{ns:List Nd}{o n:Option DFile}(h:CkF d v ns o n){c:Ck}(hc:c.vol=1) :
  ∃ d',ckDo c 0 d=(0,d')∧CkF d' v ns (some ⟨[],0⟩) n∧(o=none→Syn d→Syn d')∧(d'=d.createO (cName 1 0)∨d'=(d.removeO (cName 1 0)).createO (cName 1 0)):=by
 unfold ckDo Dk.ckClear
 rw [if_pos rfl,hc]
 cases o with
 | none=>
  have hh:hasName d (cName 1 0)=false:=by unfold hasName;rw [show dirGet d.now (cName 1 0)=none from h.dr];rfl
  rw [hh,if_neg (show ¬ (false=true) by decide),if_neg (by simp)]
  obtain ⟨e1,e2,e3⟩:=h.make
  exact ⟨_,e1,e2,fun _=>e3,.inl rfl⟩
 | some x=>
  obtain ⟨i,hi,hx⟩:=h.dr
  have hh:hasName d (cName 1 0)=true:=by unfold hasName;rw [hi];rfl
  obtain ⟨r1,r2⟩:=h.clear
  rw [hh,if_pos rfl,r1,if_neg (by simp)]
  obtain ⟨e1,e2,e3⟩:=r2.make
  exact ⟨_,e1,e2,fun e=>(by cases e),.inr rfl⟩
theorem CkF.setF{d:Dk}{v:Vl}{ns:List Nd}{n:Option DFile}{x:DFile}(h:CkF d v ns (some x) n){i:Nat}(hi:dirGet d.now (cName 1 0)=some i)(hx:d.fileAt i=x)(y:DFile)(hk:VK (d.setF i y) v ns (olen (some y)+olen n)):CkF (d.setF i y) v ns (some y) n:=by
 have hat:∀ j,j≠i→(d.setF i y).fileAt j=d.fileAt j:=fun j hj=>fileAt_ne (Ne.symm hj)
 refine ⟨hk,h.num,man_move h.vk h.man rfl (fun j hj=>hat j (h.vk.fg_ne hj (oth_c v 0) hi)),⟨i,hi,fileAt_set (h.vk.ins _ (get_mem hi))⟩,?_,h.cnt,h.own,h.dis⟩
 have:=h.ck
 unfold OptAt at this ⊢
 cases n with
 | none=>exact this
 | some z=>
  obtain ⟨j,h3,h4⟩:=this
  exact ⟨j,h3,by rw [hat j (fun e=>h.dis i j hi h3 e.symm)];exact h4⟩
theorem CkF.synF{d:Dk}{v:Vl}{ns:List Nd}{o n:Option DFile}(h:CkF d v ns o n)(hs:Syn d){i:Nat}(hi:dirGet d.now (cName 1 0)=some i)(y:DFile):Syn (d.setF i y):=fun p hp=>by
 by_cases e:p.1=cName 1 0
 ·exact .inl e
 ·rw [fileAt_ne (Ne.symm (h.hof hi p hp e))]
  exact hs p hp
theorem CkF.s1{d:Dk}{v:Vl}{ns:List Nd}{x:DFile}{n:Option DFile}(h:CkF d v ns (some x) n){c:Ck}{y:List UInt8}(hy:y=x.b ++ ckB c)(hc:c.vol=1)(hr:ckRight c=0)(hl:x.b.length+(ckB c).length≤16777216)(hcap:v.size+24+(x.b.length+olen n)+(ckB c).length≤1048576) :
  ∃ d',ckDo c 1 d=(0,d')∧CkF d' v ns (some ⟨y,x.lasts⟩) n∧(Syn d→Syn d')∧∃ i,dirGet d.now (cName 1 0)=some i∧d.fileAt i=x∧d'=d.setF i ⟨y,x.lasts⟩:=by
 subst hy
 obtain ⟨i,hi,hx⟩:=h.dr
 obtain ⟨e1,e2⟩:=h.vk.append_o (oth_c v 0) hi (h.hof hi) (ckB c) (by rw [hx];exact hl) hcap
 rw [hx] at e1 e2
 have e3:olen (some x)+olen n+(ckB c).length=olen (some ⟨x.b ++ ckB c,x.lasts⟩)+olen n:=by
  show x.b.length+olen n+_=(x.b ++ ckB c).length+olen n
  rw [List.length_append]
  omega
 refine ⟨_,?_,h.setF hi hx _ (by rw [←e3];exact e2),fun hs=>h.synF hs hi _,i,hi,hx,rfl⟩
 unfold ckDo
 rw [if_neg (by omega),if_pos rfl,if_neg (by omega),hc]
 exact e1
theorem CkF.s2{d:Dk}{v:Vl}{ns:List Nd}{x:DFile}{n:Option DFile}(h:CkF d v ns (some x) n){c:Ck}(hc:c.vol=1) :
  ∃ d',ckDo c 2 d=(0,d')∧CkF d' v ns (some ⟨x.b,x.b.length⟩) n∧(Syn d→Syn d')∧∃ i,dirGet d.now (cName 1 0)=some i∧d.fileAt i=x∧d'=d.setF i ⟨x.b,x.b.length⟩:=by
 obtain ⟨i,hi,hx⟩:=h.dr
 obtain ⟨e1,e2⟩:=h.vk.sync_o (oth_c v 0) hi (h.hof hi)
 rw [hx] at e1 e2
 refine ⟨_,?_,h.setF hi hx _ e2,fun hs=>h.synF hs hi _,i,hi,hx,rfl⟩
 unfold ckDo
 rw [if_neg (by omega),if_neg (by omega),if_pos rfl,hc]
 exact e1
theorem CkF.s3{d:Dk}{v:Vl}{ns:List Nd}{x:DFile}{n:Option DFile}(h:CkF d v ns (some x) n){c:Ck}(hc:c.vol=1)(hg:c.gen=1) :
  ∃ d',ckDo c 3 d=(0,d')∧CkF d' v ns none (some x)∧(x.lasts=x.b.length→Syn d→Syn d')∧∃ i,dirGet d.now (cName 1 0)=some i∧d.fileAt i=x∧d'=d.renameO (cName 1 0) (cName 1 1) i:=by
 obtain ⟨i,hi,hx⟩:=h.dr
 obtain ⟨e1,e2,e3⟩:=h.vk.rename_o (oth_c v 0) (oth_c v 1) c_ne01 named_c1 hi
 have hg1:∀ s,s≠cName 1 0→s≠cName 1 1→dirGet (d.renameO (cName 1 0) (cName 1 1) i).now s=dirGet d.now s:=fun s h1 h2=>by
  show dirGet (dirPut _ _ _) s=_
  rw [get_put_other _ _ h2,get_del_other _ h1]
 have hg0:dirGet (d.renameO (cName 1 0) (cName 1 1) i).now (cName 1 0)=none:=by
  show dirGet (dirPut _ _ _) _=_
  rw [get_put_other _ _ c_ne01,get_del_same]
 have hX:olen (some x)+olen n - d.lenAt (cName 1 1)=olen none+olen (some x)∧d.cntAt (cName 1 1)=ocnt n:=by
  have:=h.ck
  unfold OptAt at this
  cases n with
  | none=>rw [(lenAt_none this).1,(lenAt_none this).2];exact ⟨by show x.b.length+0 - 0=0+x.b.length;omega,rfl⟩
  | some z=>
   obtain ⟨j,h3,h4⟩:=this
   rw [(lenAt_some h3).1,(lenAt_some h3).2,h4]
   exact ⟨by show x.b.length+z.b.length - z.b.length=0+x.b.length;omega,rfl⟩
 rw [hX.1] at e2
 rw [hX.2] at e3
 refine ⟨_,?_,⟨e2,h.num,man_move h.vk h.man (hg1 _ (Ne.symm (oth_c v 0).2.1) (Ne.symm (oth_c v 1).2.1)) (fun i hi=>rfl),hg0,⟨i,get_put_same _ _ _,hx⟩,?_,fun p hp=>?_,fun a b ha hb=>?_⟩,fun hl hs=>?_,i,hi,hx,rfl⟩
 ·unfold ckDo
  rw [if_neg (by omega),if_neg (by omega),if_neg (by omega),if_pos rfl,hc,hg]
  exact e1
 ·have:=h.cnt
  have h1:ocnt (some x)=1:=rfl
  show _=2+0+1
  omega
 ·rcases mem_put.1 hp with rfl|⟨hp,-⟩
  ·exact .inr (.inr (.inr rfl))
  ·exact h.own p (List.mem_filter.1 hp).1
 ·rw [hg0] at ha
  cases ha
 ·intro p hp
  rcases mem_put.1 hp with rfl|⟨hp,-⟩
  ·refine .inr ?_
   show (d.fileAt i).lasts=(d.fileAt i).b.length
   rw [hx]
   exact hl
  ·exact hs p (List.mem_filter.1 hp).1
theorem CkF.s4{d:Dk}{v:Vl}{ns:List Nd}{o n:Option DFile}(h:CkF d v ns o n){c:Ck} :
  ckDo c 4 d=(0,{ d with lasting:=d.now,deeds:=[] })∧CkF { d with lasting:=d.now,deeds:=[] } v ns o n∧(Syn d→Syn { d with lasting:=d.now,deeds:=[] }):=by
 obtain ⟨e1,e2⟩:=h.vk.syncNames_o
 refine ⟨?_,⟨e2,h.num,man_move h.vk h.man rfl (fun i hi=>rfl),h.dr,h.ck,h.cnt,h.own,h.dis⟩,id⟩
 unfold ckDo
 rw [if_neg (by omega),if_neg (by omega),if_neg (by omega),if_neg (by omega)]
 exact e1
theorem CkF.rest{d:Dk}{v:Vl}{ns:List Nd}{n:Option DFile}(h:CkF d v ns none n)(hs:Syn d)(hl:d.lasting=d.now)(hd:d.deeds=[]):RestK d:=⟨hl,hd,fun p hp=>by
 rcases hs p hp with e|e
 ·exact absurd e (get_none (show dirGet d.now (cName 1 0)=none from h.dr) p hp)
 ·exact .inr e⟩
theorem OptAt.kept{v:Vl}{d d':Dk}(h:KeptK v d d'){s:Nm}(hs:OthN v s){o:Option DFile}(ho:OptAt d s o):OptAt d' s o:=by
 unfold OptAt at ho ⊢
 cases o with
 | none=>
  simp only at ho ⊢
  cases e:dirGet d'.now s with
  | none=>rfl
  | some i=>
   obtain ⟨q,hq,e2⟩:=List.mem_map.1 (h.2.2.2.1 _ (get_mem e))
   exact absurd e2 (get_none ho q hq)
 | some x=>
  obtain ⟨i,h1,h2⟩:=ho
  obtain ⟨h3,h4⟩:=h.1 s i hs.1 hs.2.1 h1
  exact ⟨i,h3,h4.trans h2⟩
theorem CkF.act{d:Dk}{v:Vl}{ns:List Nd}{o n:Option DFile}(h:CkF d v ns o n)(a:VAct)(hk:a.n.key<18446744073709551616)(hck:a.n.cookie<4294967296)(hcap:v.size+ndSize a.n.data.length+56+(olen o+olen n)≤1048576) :
  ∃ d' v' ns',v.act d a=(((Rv.of v ns).act a).1,d',v')∧CkF d' v' ns' o n∧Rv.of v' ns'=((Rv.of v ns).act a).2∧v'.size≤v.size+ndSize a.n.data.length∧ns'.length≤ns.length+1∧v'.num=v.num∧(Syn d→Syn d')∧(RestK d→RestK d')∧ns <+: ns':=by
 obtain ⟨d',v',ns',h1,h2,h3,h4,h5,h6,h7,h8,h9⟩:=h.vk.act a hk hck hcap
 have hg:v'.file=v.file:=by
  show vName _ _=vName _ _
  rw [h7,h2.gen,h.vk.gen]
 refine ⟨d',v',ns',h1,⟨h2,h7.trans h.num,h8 h.man,h.dr.kept h6 (oth_c v 0),h.ck.kept h6 (oth_c v 1),h6.2.1.trans h.cnt,fun p hp=>?_,fun i j hi hj=>?_⟩,h3,h4,h5,h7,h6.2.2.2.2 _,h6.rest,h9⟩
 ·obtain ⟨q,hq,e⟩:=List.mem_map.1 (h6.2.2.2.1 p hp)
  rw [←e,hg,h7]
  exact h.own q hq
 ·cases e0:dirGet d.now (cName 1 0) with
  | none=>
   have:=OptAt.kept h6 (oth_c v 0) (o:=none) e0
   unfold OptAt at this
   simp only at this
   rw [this] at hi
   cases hi
  | some i0=>
   cases e1:dirGet d.now (cName 1 1) with
   | none=>
    have:=OptAt.kept h6 (oth_c v 1) (o:=none) e1
    unfold OptAt at this
    simp only at this
    rw [this] at hj
    cases hj
   | some j0=>
    have a1:=(h6.1 _ i0 (oth_c v 0).1 (oth_c v 0).2.1 e0).1
    have a2:=(h6.1 _ j0 (oth_c v 1).1 (oth_c v 1).2.1 e1).1
    rw [a1] at hi
    rw [a2] at hj
    injection hi with hi
    injection hj with hj
    rw [←hi,←hj]
    exact h.dis _ _ e0 e1
def ckRun (c:Ck):Nat→Nat→Dk→Nat×Dk
 | 0,_,d=>(0,d)
 | n+1,k,d=>if (ckDo c k d).1≠0 then ckDo c k d else ckRun c n (k+1) (ckDo c k d).2
theorem ckRun_ok{c:Ck}{n k:Nat}{d d':Dk}(h:ckDo c k d=(0,d')):ckRun c (n+1) k d=ckRun c n (k+1) d':=by
 show (if (ckDo c k d).1≠0 then ckDo c k d else ckRun c n (k+1) (ckDo c k d).2)=_
 rw [h,if_neg (by simp)]
theorem ckRun_bad{c:Ck}{n k r:Nat}{d d':Dk}(h:ckDo c k d=(r,d'))(hr:r≠0):ckRun c (n+1) k d=(r,d'):=by
 show (if (ckDo c k d).1≠0 then ckDo c k d else ckRun c n (k+1) (ckDo c k d).2)=_
 rw [h,if_pos hr]
def ckWrite (c:Ck) (d:Dk):Nat×Dk:=ckRun c 5 0 d
theorem CkF.all{d:Dk}{v:Vl}{ns:List Nd}{n:Option DFile}(h:CkF d v ns none n)(hs:Syn d){c:Ck}(hv:c.vol=1)(hg:c.gen=1)(hr:ckRight c=0)(hcap:v.size+48+24 * c.l.length+olen n≤1048576) :
  ∃ d',ckWrite c d=(0,d')∧CkF d' v ns none (some ⟨ckB c,(ckB c).length⟩)∧RestK d':=by
 have hb:=ckB_len c
 obtain ⟨d1,e1,h1,s1,-⟩:=h.s0 hv
 obtain ⟨d2,e2,h2,s2,-⟩:=h1.s1 (List.nil_append _).symm hv hr (by show 0+(ckB c).length≤_;omega) (by show v.size+24+(0+olen n)+_≤_;omega)
 obtain ⟨d3,e3,h3,s3,-⟩:=h2.s2 hv
 obtain ⟨d4,e4,h4,s4,-⟩:=h3.s3 hv hg
 obtain ⟨e5,h5,s5⟩:=h4.s4 (c:=c)
 refine ⟨_,?_,h5,h5.rest (s5 (s4 rfl (s3 (s2 (s1 rfl hs))))) rfl rfl⟩
 unfold ckWrite
 rw [ckRun_ok e1,ckRun_ok e2,ckRun_ok e3,ckRun_ok e4,ckRun_ok e5]
 rfl
theorem VK.fresh{d:Dk}{v:Vl}{ns:List Nd}(h:VK d v ns 0)(hm:ManAt d v)(hn:v.num=1)(hl:d.now.length=2):CkF d v ns none none:=by
 obtain ⟨f,g,hf,hf1,hg1,hfb,hgb,hof,hog⟩:=h.now
 have htwo:=two_mem hl hf1 hg1 (v_ne_m _ _ _)
 have hmem:∀ p∈d.now,p.1=v.file∨p.1=mName v.num:=fun p hp=>by
  rcases htwo with e|e <;> rw [e] at hp <;> simp only [List.mem_cons,List.not_mem_nil,or_false] at hp <;> rcases hp with rfl|rfl <;> simp
 have hno:∀ k,dirGet d.now (cName 1 k)=none:=fun k=>by
  cases e:dirGet d.now (cName 1 k) with
  | none=>rfl
  | some i=>
   rcases hmem _ (get_mem e) with e2|e2
   ·exact absurd e2 (oth_c v k).1
   ·exact absurd e2 (oth_c v k).2.1
 refine ⟨h,hn,hm,hno 0,hno 1,hl,fun p hp=>(hmem p hp).imp id .inl,fun i j hi=>?_⟩
 rw [hno 0] at hi
 cases hi
theorem RestK.syn{d:Dk}(h:RestK d):Syn d:=fun p hp=>(h.2.2 p hp).elim False.elim .inr
theorem RestK.crash{d:Dk}(h:RestK d)(ha:d.armed = -1)(p:DPicks):d.crash p=d:=by
 obtain ⟨hl,hd,hs⟩:=h
 have h1:d.lastDir p=d.now:=by unfold Dk.lastDir;rw [hd,hl,List.take_nil];rfl
 have h2:settleAll d.now p d.files=d.files:=by
  unfold settleAll
  refine List.ext_getElem (by simp) fun i h3 h4=>?_
  simp only [List.getElem_mapIdx]
  split
  ·rename_i e
   obtain ⟨q,hq,e⟩:=List.any_eq_true.1 e
   have e2:q.2=i:=by simpa using e
   rcases hs q hq with e3|e3
   ·exact e3.elim
   ·have h5:d.fileAt q.2=d.files[i]:=by unfold Dk.fileAt;rw [e2,List.getElem?_eq_getElem h4];rfl
    rw [h5] at e3
    exact settle_same e3 _
  ·rfl
 unfold Dk.crash
 rw [h1,h2]
 obtain ⟨c,n,l,dd,f,a⟩:=d
 simp only at ha hl hd
 subst ha hl hd
 rfl
theorem VD.restK{d:Dk}{v:Vl}{ns:List Nd}(h:VD d v ns):RestK d:=⟨h.last,h.deeds,fun p hp=>by
 refine .inr ?_
 unfold Dk.fileAt
 cases e:d.files[p.2]? with
 | none=>rfl
 | some x=>exact h.sync x (List.mem_of_getElem? e)⟩
end Go.Proofs.YtfpjfoajonbndaaGreatDoor
