import Derived.Test.YtfpjfoajonbndaaGreatDoorCsCkptCr
import Derived.Test.YtfpjfoajonbndaaGreatDoorCsCheckGetP
import Derived.Test.YtfpjfoajonbndaaGreatDoorCsCkptOpen
import Derived.Test.YtfpjfoajonbndaaGreatDoorCs24
import Derived.Test.YtfpjfoajonbndaaGreatDoorCsMadeR10
import Derived.Test.YtfpjfoajonbndaaGreatDoorCsCkptK
import Derived.Test.YtfpjfoajonbndaaGreatDoorCsShipMadeL
import Derived.Test.YtfpjfoajonbndaaGreatDoorCsLaw09s
import Derived.Test.YtfpjfoajonbndaaGreatDoorCs28
import Derived.Test.YtfpjfoajonbndaaGreatDoorCsDiskPicks
namespace Go.Proofs.YtfpjfoajonbndaaGreatDoor
set_option maxHeartbeats 8000000
set_option maxRecDepth 100000
open Go.RowKit
def rep (b:List UInt8):Nat→List UInt8
 | 0=>[]
 | m+1=>b ++ rep b m
theorem rep_len(b:List UInt8):∀ m,(rep b m).length=m * b.length
 | 0=>by simp [rep]
 | m+1=>by rw [rep,List.length_append,rep_len b m,Nat.succ_mul];omega
theorem rep_snoc(b:List UInt8):∀ m,rep b m ++ b=rep b (m+1)
 | 0=>by simp [rep]
 | m+1=>by
  rw [rep,List.append_assoc,rep_snoc b m]
  rfl
theorem rep_take(b:List UInt8):∀ (j m:Nat),j≤m→(rep b m).take (j * b.length)=rep b j
 | 0,m,_=>by simp [rep]
 | j+1,0,h=>by omega
 | j+1,m+1,h=>by
  have e:(j+1) * b.length=b.length+j * b.length:=by rw [Nat.succ_mul];omega
  rw [rep,rep,e,List.take_append,List.take_of_length_le (by omega)]
  congr 1
  rw [show b.length+j * b.length - b.length=j * b.length by omega]
  exact rep_take b j m (by omega)
def MulF (b:List UInt8) (M:Nat) (x:DFile):Prop:=∃ m j,x.b=rep b m∧x.lasts=j * b.length∧j≤m∧m≤M
def MulO (b:List UInt8) (M:Nat) (o:Option DFile):Prop:=∀ x,o=some x→MulF b M x
theorem MulO.mono{b:List UInt8}{M N:Nat}{o:Option DFile}(h:MulO b M o)(hl:M≤N):MulO b N o:=fun x e=>by
 obtain ⟨m,j,h1,h2,h3,h4⟩:=h x e
 exact ⟨m,j,h1,h2,h3,Nat.le_trans h4 hl⟩
theorem MulO.len{b:List UInt8}{M:Nat}{o:Option DFile}(h:MulO b M o):olen o≤M * b.length:=by
 cases o with
 | none=>exact Nat.zero_le _
 | some x=>
  obtain ⟨m,j,h1,h2,h3,h4⟩:=h x rfl
  show x.b.length≤_
  rw [h1,rep_len]
  exact Nat.mul_le_mul_right _ h4
def Dk.lastV (d:Dk):Dk:={ d with now:=d.lasting }
structure TwoW (d:Dk) (v:Vl) (ns:List Nd) (b:List UInt8) (M:Nat):Prop where
 now:∃ o n,CkF d v ns o n∧MulO b M o∧MulO b M n
 last:∃ o n,CkF d.lastV v ns o n∧MulO b M o∧MulO b M n
 fgs:∀ s,s=v.file∨s=mName v.num→dirGet d.lasting s=dirGet d.now s
 syn:∀ i,(dirGet d.now v.file=some i∨dirGet d.now (mName v.num)=some i)→(d.fileAt i).lasts=(d.fileAt i).b.length
theorem TwoW.mono{d:Dk}{v:Vl}{ns:List Nd}{b:List UInt8}{M N:Nat}(h:TwoW d v ns b M)(hl:M≤N):TwoW d v ns b N:=by
 obtain ⟨o,n,h1,h2,h3⟩:=h.now
 obtain ⟨o',n',g1,g2,g3⟩:=h.last
 exact ⟨⟨o,n,h1,h2.mono hl,h3.mono hl⟩,⟨o',n',g1,g2.mono hl,g3.mono hl⟩,h.fgs,h.syn⟩
theorem mulO_none(b:List UInt8)(M:Nat):MulO b M none:=fun x e=>by cases e
theorem TwoW.start{d:Dk}{v:Vl}{ns:List Nd}(h:CkF d v ns none none)(hr:RestK d)(b:List UInt8):TwoW d v ns b 0:=by
 have e:d.lastV=d:=by
  have e1:=hr.1
  clear h hr
  obtain ⟨c,nw,l,dd,f,a⟩:=d
  simp only at e1
  subst e1
  rfl
 refine ⟨⟨none,none,h,mulO_none _ _,mulO_none _ _⟩,⟨none,none,by rw [e];exact h,mulO_none _ _,mulO_none _ _⟩,fun s _=>by rw [hr.1],fun i hi=>?_⟩
 rcases hi with hi|hi <;> exact (hr.2.2 _ (get_mem hi)).elim False.elim id
theorem CkF.anyset{d:Dk}{v:Vl}{ns:List Nd}{o n:Option DFile}(h:CkF d v ns o n){i:Nat}(hi:∀ j,(dirGet d.now v.file=some j∨dirGet d.now (mName v.num)=some j)→j≠i)(y:DFile):∃ o' n',CkF (d.setF i y) v ns o' n'∧(o'=o∨o'=some y)∧(n'=n∨n'=some y):=by
 by_cases e0:dirGet d.now (cName 1 0)=some i
 ·cases o with
  | none=>
   rw [show dirGet d.now (cName 1 0)=none from h.dr] at e0
   cases e0
  | some x=>exact ⟨_,_,h.setD e0 (by obtain ⟨k,h1,h2⟩:=h.dr;rw [e0] at h1;injection h1 with h1;rw [h1];exact h2) y,.inr rfl,.inl rfl⟩
 ·by_cases e1:dirGet d.now (cName 1 1)=some i
  ·cases n with
   | none=>
    rw [show dirGet d.now (cName 1 1)=none from h.ck] at e1
    cases e1
   | some x=>exact ⟨_,_,h.setN e1 (by obtain ⟨k,h1,h2⟩:=h.ck;rw [e1] at h1;injection h1 with h1;rw [h1];exact h2) y,.inl rfl,.inr rfl⟩
  ·refine ⟨o,n,h.files h.vk.armed rfl rfl (by simp [Dk.setF]) (fun p hp=>fileAt_ne fun e=>?_),.inl rfl,.inl rfl⟩
   have hg:=getMem h.vk.nod hp
   rw [←e] at hg
   rcases h.own p hp with e2|e2|e2|e2 <;> rw [e2] at hg
   ·exact hi _ (.inl hg) rfl
   ·exact hi _ (.inr hg) rfl
   ·exact e0 hg
   ·exact e1 hg
theorem mulO_or{b:List UInt8}{M:Nat}{o o':Option DFile}{y:DFile}(h:o'=o∨o'=some y)(ho:MulO b M o)(hy:MulF b M y):MulO b M o':=by
 rcases h with rfl|rfl
 ·exact ho
 ·exact fun x e=>by injection e with e;rw [←e];exact hy
theorem TwoW.set{d:Dk}{v:Vl}{ns:List Nd}{b:List UInt8}{M:Nat}(h:TwoW d v ns b M){i:Nat}{x:DFile}{n:Option DFile}(hc:CkF d v ns (some x) n)(hn:MulO b M n)(hi:dirGet d.now (cName 1 0)=some i)(hx:d.fileAt i=x)(y:DFile)(hy:MulF b M y):TwoW (d.setF i y) v ns b M:=by
 have hne:∀ j,(dirGet d.now v.file=some j∨dirGet d.now (mName v.num)=some j)→j≠i:=fun j hj=>hc.vk.fg_ne hj (oth_c v 0) hi
 obtain ⟨o',n',g1,g2,g3⟩:=h.last
 have hne':∀ j,(dirGet d.lastV.now v.file=some j∨dirGet d.lastV.now (mName v.num)=some j)→j≠i:=fun j hj=>by
  have e1:dirGet d.lastV.now v.file=dirGet d.now v.file:=h.fgs _ (.inl rfl)
  have e2:dirGet d.lastV.now (mName v.num)=dirGet d.now (mName v.num):=h.fgs _ (.inr rfl)
  rw [e1,e2] at hj
  exact hne j hj
 obtain ⟨o2,n2,q1,q2,q3⟩:=g1.anyset hne' y
 refine ⟨⟨_,_,hc.setD hi hx y,mulO_or (o:=none) (.inr rfl) (mulO_none _ _) hy,hn⟩,⟨o2,n2,q1,mulO_or q2 g2 hy,mulO_or q3 g3 hy⟩,h.fgs,fun j hj=>?_⟩
 rw [fileAt_ne (Ne.symm (hne j hj))]
 exact h.syn j hj
theorem TwoW.made{d:Dk}{v:Vl}{ns:List Nd}{b:List UInt8}{M:Nat}{n:Option DFile}(h:TwoW d v ns b M)(hc:CkF d v ns none n)(hn:MulO b M n):TwoW (d.createO (cName 1 0)) v ns b M:=by
 obtain ⟨e1,e2,-⟩:=hc.make
 obtain ⟨o',n',g1,g2,g3⟩:=h.last
 refine ⟨⟨_,_,e2,fun x e=>?_,hn⟩,⟨o',n',g1.files g1.vk.armed rfl rfl (by show d.files.length≤(d.files ++ [_]).length;simp) (fun p hp=>at_createO (s:=cName 1 0) (g1.vk.ins p hp)),g2,g3⟩,fun s hs=>?_,fun i hi=>?_⟩
 ·injection e with e
  rw [←e]
  exact ⟨0,0,rfl,by simp,Nat.le_refl _,Nat.zero_le _⟩
 ·rw [show (d.createO (cName 1 0)).lasting=d.lasting from rfl,h.fgs s hs]
  refine (get_put_other _ _ ?_).symm
  rcases hs with rfl|rfl
  ·exact Ne.symm (oth_c v 0).1
  ·exact Ne.symm (oth_c v 0).2.1
 ·rw [show (d.createO (cName 1 0)).now=dirPut d.now (cName 1 0) d.files.length from rfl,get_put_other _ _ (Ne.symm (oth_c v 0).1),get_put_other _ _ (Ne.symm (oth_c v 0).2.1)] at hi
  rw [at_createO (hc.vk.fg_lt hi)]
  exact h.syn i hi
theorem TwoW.gone{d:Dk}{v:Vl}{ns:List Nd}{b:List UInt8}{M:Nat}{x:DFile}{n:Option DFile}(h:TwoW d v ns b M)(hc:CkF d v ns (some x) n)(hn:MulO b M n):TwoW (d.removeO (cName 1 0)) v ns b M:=by
 obtain ⟨e1,e2⟩:=hc.clear
 obtain ⟨o',n',g1,g2,g3⟩:=h.last
 refine ⟨⟨_,_,e2,mulO_none _ _,hn⟩,⟨o',n',g1.files g1.vk.armed rfl rfl (Nat.le_refl _) (fun p hp=>rfl),g2,g3⟩,fun s hs=>?_,fun i hi=>?_⟩
 ·rw [show (d.removeO (cName 1 0)).lasting=d.lasting from rfl,h.fgs s hs]
  refine (get_del_other _ ?_).symm
  rcases hs with rfl|rfl
  ·exact Ne.symm (oth_c v 0).1
  ·exact Ne.symm (oth_c v 0).2.1
 ·rw [show (d.removeO (cName 1 0)).now=dirDel d.now (cName 1 0) from rfl,get_del_other _ (Ne.symm (oth_c v 0).1),get_del_other _ (Ne.symm (oth_c v 0).2.1)] at hi
  exact h.syn i hi
theorem CkF.miss{d:Dk}{v:Vl}{ns:List Nd}{n:Option DFile}(h:CkF d v ns none n):d.fnd (cName 1 0)=(6,0):=by
 unfold Dk.fnd
 rw [if_neg (by rw [h.vk.armed];decide),show dirGet d.now (cName 1 0)=none from h.dr]
theorem TwoW.step{d:Dk}{v:Vl}{ns:List Nd}{c:Ck}{M:Nat}(h:TwoW d v ns (ckB c) M)(hv:c.vol=1)(hg:c.gen=1)(hcr:ckRight c=0)(hM:M≤2)(hcap:v.size+200+5 * (24+24 * c.l.length)≤1048576)(k:Nat)(hk:k≤4) :
  ∃ r d',ckDo c k d=(r,d')∧(r=0∨r=6)∧TwoW d' v ns (ckB c) (M+if k=1 then 1 else 0):=by
 have hb:=ckB_len c
 obtain ⟨o,n,hc,ho,hn⟩:=h.now
 have hol:=ho.len
 have hnl:=hn.len
 have hM2:M * (ckB c).length≤2 * (ckB c).length:=Nat.mul_le_mul_right _ hM
 match k,hk with
 | 0,_=>
  unfold ckDo Dk.ckClear
  rw [if_pos rfl,hv]
  cases o with
  | none=>
   have hh:hasName d (cName 1 0)=false:=by unfold hasName;rw [show dirGet d.now (cName 1 0)=none from hc.dr];rfl
   rw [hh,if_neg (show ¬ (false=true) by decide),if_neg (by simp)]
   exact ⟨0,_,hc.make.1,.inl rfl,(h.made hc hn).mono (Nat.le_add_right _ _)⟩
  | some x=>
   obtain ⟨i,hi,hx⟩:=hc.dr
   have hh:hasName d (cName 1 0)=true:=by unfold hasName;rw [hi];rfl
   obtain ⟨r1,r2⟩:=hc.clear
   rw [hh,if_pos rfl,r1,if_neg (by simp)]
   exact ⟨0,_,r2.make.1,.inl rfl,((h.gone hc hn).made r2 hn).mono (Nat.le_add_right _ _)⟩
 | 1,_=>
  cases o with
  | none=>
   refine ⟨6,d,?_,.inr rfl,h.mono (Nat.le_add_right _ _)⟩
   unfold ckDo Dk.append
   rw [if_neg (by omega),if_pos rfl,if_neg (by omega),hv,hc.miss,if_pos (by simp)]
  | some x=>
   obtain ⟨m,j,q1,q2,q3,q4⟩:=ho x rfl
   have hxl:x.b.length≤2 * (ckB c).length:=Nat.le_trans hol hM2
   have hnl2:olen n≤2 * (ckB c).length:=Nat.le_trans hnl hM2
   obtain ⟨d',e1,e2,-,i,hi,hx,rfl⟩:=hc.s1 rfl hv hcr (by omega) (by omega)
   refine ⟨0,_,e1,.inl rfl,?_⟩
   exact (h.mono (Nat.le_add_right _ _)).set hc (hn.mono (Nat.le_add_right _ _)) hi hx _ ⟨m+1,j,by rw [q1,rep_snoc],q2,by omega,by simp;exact q4⟩
 | 2,_=>
  cases o with
  | none=>
   refine ⟨6,d,?_,.inr rfl,h.mono (Nat.le_add_right _ _)⟩
   unfold ckDo Dk.sync
   rw [if_neg (by omega),if_neg (by omega),if_pos rfl,hv,hc.miss,if_pos (by simp)]
  | some x=>
   obtain ⟨m,j,q1,q2,q3,q4⟩:=ho x rfl
   obtain ⟨d',e1,e2,-,i,hi,hx,rfl⟩:=hc.s2 hv
   exact ⟨0,_,e1,.inl rfl,(h.set hc hn hi hx ⟨x.b,x.b.length⟩ ⟨m,m,q1,by show x.b.length=_;rw [q1,rep_len],Nat.le_refl _,q4⟩).mono (Nat.le_add_right _ _)⟩
 | 3,_=>
  cases o with
  | none=>
   refine ⟨6,d,?_,.inr rfl,h.mono (Nat.le_add_right _ _)⟩
   unfold ckDo Dk.rename
   rw [if_neg (by omega),if_neg (by omega),if_neg (by omega),if_pos rfl,hv,hc.miss,if_pos (by simp)]
  | some x=>
   obtain ⟨d',e1,e2,-,i,hi,hx,rfl⟩:=hc.s3 hv hg
   refine ⟨0,_,e1,.inl rfl,TwoW.mono (M:=M) ⟨⟨_,_,e2,mulO_none _ _,ho⟩,?_,fun s hs=>?_,fun j hj=>?_⟩ (Nat.le_add_right _ _)⟩
   ·obtain ⟨o',n',g1,g2,g3⟩:=h.last
    exact ⟨o',n',g1.files g1.vk.armed rfl rfl (Nat.le_refl _) (fun p hp=>rfl),g2,g3⟩
   ·rw [show (d.renameO (cName 1 0) (cName 1 1) i).lasting=d.lasting from rfl,h.fgs s hs]
    have hs1:s≠cName 1 0∧s≠cName 1 1:=by
     rcases hs with rfl|rfl
     ·exact ⟨Ne.symm (oth_c v 0).1,Ne.symm (oth_c v 1).1⟩
     ·exact ⟨Ne.symm (oth_c v 0).2.1,Ne.symm (oth_c v 1).2.1⟩
    show _=dirGet (dirPut (dirDel d.now _) _ _) s
    rw [get_put_other _ _ hs1.2,get_del_other _ hs1.1]
   ·rw [show (d.renameO (cName 1 0) (cName 1 1) i).now=dirPut (dirDel d.now (cName 1 0)) (cName 1 1) i from rfl,get_put_other _ _ (Ne.symm (oth_c v 1).1),get_put_other _ _ (Ne.symm (oth_c v 1).2.1),get_del_other _ (Ne.symm (oth_c v 0).1),get_del_other _ (Ne.symm (oth_c v 0).2.1)] at hj
    exact h.syn j hj
 | 4,_=>
  obtain ⟨e1,e2,-⟩:=hc.s4 (c:=c)
  exact ⟨0,_,e1,.inl rfl,TwoW.mono (M:=M) ⟨⟨o,n,e2,ho,hn⟩,⟨o,n,e2,ho,hn⟩,fun s _=>rfl,h.syn⟩ (Nat.le_add_right _ _)⟩
theorem TwoW.crash{d:Dk}{v:Vl}{ns:List Nd}{b:List UInt8}{M:Nat}(h:TwoW d v ns b M):∃ o n,CkF (d.crash ⟨0,[]⟩) v ns o n∧RestK (d.crash ⟨0,[]⟩)∧∀ y,n=some y→∃ j,j≤M∧y.b=rep b j:=by
 obtain ⟨o,n,g1,g2,g3⟩:=h.last
 have hl:d.lastDir ⟨0,[]⟩=d.lasting:=by unfold Dk.lastDir;rfl
 have hs:CkF (d.seen ⟨0,[]⟩) v ns o n:=g1.files rfl rfl hl (Nat.le_refl _) (fun p hp=>rfl)
 obtain ⟨o',n',q1,q2,q3,q4⟩:=hs.crash fun i hi=>by
  rw [hl,h.fgs _ (.inl rfl),h.fgs _ (.inr rfl)] at hi
  exact h.syn i hi
 refine ⟨o',n',q1,q2,fun y e=>?_⟩
 rcases q4 with ⟨-,e2⟩|⟨x,i,e1,e2⟩
 ·rw [e2] at e;cases e
 ·rw [e2] at e
  injection e with e
  obtain ⟨m,j,m1,m2,m3,m4⟩:=g3 x e1
  have hp:(⟨0,[]⟩:DPicks).at i=⟨0,0⟩:=by simp [DPicks.at]
  refine ⟨j,Nat.le_trans m3 m4,?_⟩
  rw [←e,hp]
  have hk:keepN x ⟨0,0⟩=0:=by unfold keepN;simp
  unfold DFile.settle
  rw [hk]
  show x.b.take (x.lasts+0)=_
  rw [Nat.add_zero,m1,m2]
  exact rep_take b j m m3
theorem numAt_head(c:Ck)(r:List UInt8)(h1:c.vol<4294967296)(h2:c.gen<4294967296)(h3:c.upto<4294967296)(h4:c.l.length<4294967296):numAt (ckB c ++ r) 0 4=1128811344∧numAt (ckB c ++ r) 16 4=c.l.length:=by
 have:=ck_head c (c.l.flatMap posB ++ le 4 (sumOf (ckBody c)).toNat ++ r) h1 h2 h3 h4
 have e:ckHead c ++ (c.l.flatMap posB ++ le 4 (sumOf (ckBody c)).toNat ++ r)=ckB c ++ r:=by simp [ckB,ckBody]
 rw [e] at this
 exact ⟨this.1,this.2.2.2.2⟩
def WSt (w:World) (Q:Nat→Prop) (x dp vp:Nat) (v:Vl) (k:Nat):Prop:=
 (k=0∧∃ a cap c0,CkW w x dp vp c0 a cap 0)∨(1≤k∧k≤4∧WrAt w Q x dp vp (ckSnap v) k)∨(k=5∧∃ a cap c0,CkW w x dp vp c0 a cap 5)
theorem WSt.blk{w:World}{Q:Nat→Prop}{x dp vp k:Nat}{v:Vl}(h:WSt w Q x dp vp v k):∃ a cap c0 s,CkW w x dp vp c0 a cap s:=by
 rcases h with ⟨-,a,cap,c0,h⟩|⟨-,-,a,cap,h,-⟩|⟨-,a,cap,c0,h⟩ <;> exact ⟨_,_,_,_,h⟩
theorem row_ne{w:World}{y dp vp cap2 s n cap:Nat}{a2:Option Addr}{c:Ck}{ad:Addr}{p:Ps}{r:List Ps}(h:CkW w y dp vp c a2 cap2 s)(hr:Reads w 5 (.slice (some ad) n cap) n ((p :: r).flatMap psC)):ad.block≠y:=by
 have hl:=hr.1
 have hn:0<n:=by
  have:((p :: r).flatMap psC).length=5+(r.flatMap psC).length:=by simp [psC];omega
  omega
 obtain ⟨b,o,c',e,hb,-,hcell⟩:=reads_at hr hn (by omega)
 obtain ⟨h1,-,-⟩:=sl_inj e
 injection h1 with h1
 subst h1
 intro e2
 have e3:b=y:=e2
 subst e3
 have h0:=hcell 0 (.int .u64 p.key) (by simp [psC])
 unfold CkW at h
 rw [cell_of_row w b (o+0) _ _ _ h] at h0
 rcases o with _|_|_|_|_|_|_|o <;> simp at h0
def TwoSt (w:World) (Z:Nat→Prop) (wa wb dp vp:Nat) (v:Vl) (K:Nat) (d:Dk) (ka kb:Nat):Prop:=
 ∃ Q:Nat→Prop,(∀ j,Q j→j<w.heap.size)∧(∀ j,Z j→Q j∧j≠wa∧j≠wb)∧wa≠wb∧VS w vp dp Q K d v∧Q wa∧Q wb∧WSt w Q wa dp vp v ka∧WSt w Q wb dp vp v kb
theorem TwoSt.swap{w:World}{Z:Nat→Prop}{wa wb dp vp K ka kb:Nat}{v:Vl}{d:Dk}(h:TwoSt w Z wa wb dp vp v K d ka kb):TwoSt w Z wb wa dp vp v K d kb ka:=by
 obtain ⟨Q,h1,h2,h3,h4,h5,h6,h7,h8⟩:=h
 exact ⟨Q,h1,fun j hj=>⟨(h2 j hj).1,(h2 j hj).2.2,(h2 j hj).2.1⟩,Ne.symm h3,h4,h6,h5,h8,h7⟩
theorem TwoSt.vs{w:World}{Z:Nat→Prop}{wa wb dp vp K ka kb:Nat}{v:Vl}{d:Dk}(h:TwoSt w Z wa wb dp vp v K d ka kb):VS w vp dp Z K d v:=by
 obtain ⟨Q,h1,h2,h3,h4,h5,h6,h7,h8⟩:=h
 exact h4.lessP fun j hj=>(h2 j hj).1
theorem TwoSt.more{w:World}{Z:Nat→Prop}{wa wb dp vp K L ka kb:Nat}{v:Vl}{d:Dk}(h:TwoSt w Z wa wb dp vp v K d ka kb)(hl:K≤L):TwoSt w Z wa wb dp vp v L d ka kb:=by
 obtain ⟨Q,h1,h2,h3,h4,h5⟩:=h
 exact ⟨Q,h1,h2,h3,h4.more hl,h5⟩
def Acc (k:Nat):Nat:=if 2≤k then 1 else 0
theorem WSt.kept{w w':World}{Q Q2:Nat→Prop}{x y dp vp k:Nat}{v:Vl}(h:WSt w Q x dp vp v k)(hy:∃ a cap c0 s,CkW w y dp vp c0 a cap s)(hxy:x≠y)(hQ:∀ j,Q j→j<w.heap.size)(hx:Q x)(hk:KP (fun j=>Q j∧j≠y) w w')(h2:∀ j,Q j→Q2 j):WSt w' Q2 x dp vp v k:=by
 rcases h with ⟨e,a,cap,c0,h⟩|⟨e1,e2,a,cap,g1,g2,g3,g4⟩|⟨e,a,cap,c0,h⟩
 ·exact .inl ⟨e,a,cap,c0,hk.blk h ⟨hx,hxy⟩⟩
 ·refine .inr (.inl ⟨e1,e2,a,cap,hk.blk g1 ⟨hx,hxy⟩,?_,fun j hj=>⟨h2 j (g3 j hj).1,Nat.lt_of_lt_of_le (g3 j hj).2.1 hk.size,(g3 j hj).2.2⟩,h2 x g4⟩)
  have hc:(ckSnap v).l=v.idx:=rfl
  rw [hc] at g2 g3 ⊢
  cases hl:v.idx with
  | nil=>
   rw [hl] at g2
   refine ⟨g2.1,?_⟩
   rcases g2.2 with h3|⟨a',c',e,h3,h4⟩
   ·exact .inl h3
   ·exact .inr ⟨a',c',e,h3,fun j u hu=>by simp at hu⟩
  | cons p r=>
   rw [hl] at g2 g3
   refine g2.keepsN (by omega) hk (fun ad e=>?_)
   subst e
   obtain ⟨a2,cap2,c0,s,hy⟩:=hy
   have hb:=g3 ad.block rfl
   exact ⟨hb.2.1,fun e2=>e2 ⟨hb.1,row_ne hy g2⟩⟩
 ·exact .inr (.inr ⟨e,a,cap,c0,hk.blk h ⟨hx,hxy⟩⟩)
set_option maxHeartbeats 1000000 in
theorem TwoSt.step{w:World}{Z:Nat→Prop}{wa wb dp vp K ka kb:Nat}{v:Vl}{d:Dk}{ns:List Nd}(h:TwoSt w Z wa wb dp vp v K d ka kb)(ht:TwoW d v ns (ckB (ckSnap v)) (Acc ka+Acc kb))(hg:CkGood v)(hK:K+2<1099511627776)(hka:ka≤5)(hv:v.num=1)(hgn:v.gen=1)(hcr:ckRight (ckSnap v)=0)(hcap:v.size+200+5 * (24+24 * v.idx.length)≤1048576) :
  Calls Tryz.prog 31 #[(.pointer (some ⟨wa,0,none⟩))] w fun e w'=>∃(r:Nat)(b:Bool)(k:Nat)(d':Dk),e=.returned (.tuple #[.bool b,errV r])∧(r=0∨r=6∨r=16)∧k≤5∧TwoSt w' Z wa wb dp vp v (K+2) d' k kb∧TwoW d' v ns (ckB (ckSnap v)) (Acc k+Acc kb)∧KP Z w w':=by
 obtain ⟨Q,h1,h2,h3,h4,h5,h6,h7,h8⟩:=h
 have hx:=h7.blk
 by_cases h5':ka=5
 ·subst h5'
  rcases h7 with ⟨e,-⟩|⟨-,e,-⟩|⟨-,a,cap,c0,g⟩
  ·omega
  ·omega
  ·refine (ckstep_over g).mono ?_
   rintro e w' ⟨rfl,rfl⟩
   exact ⟨16,false,5,d,rfl,.inr (.inr rfl),by omega,⟨Q,h1,h2,h3,h4.more (by omega),h5,h6,.inr (.inr ⟨rfl,a,cap,c0,g⟩),h8⟩,ht,KP.refl _ _⟩
 have hka4:ka≤4:=by omega
 obtain ⟨r,d',hd,hr,ht'⟩:=ht.step (c:=ckSnap v) hv hgn hcr (by unfold Acc;split <;> split <;> omega) hcap ka hka4
 have hstep:Calls Tryz.prog 31 #[(.pointer (some ⟨wa,0,none⟩))] w (CkTo w Q wa dp vp K d v (ckSnap v) ka):=by
  rcases h7 with ⟨e,a,cap,c0,g⟩|⟨e1,e2,g⟩|⟨e,-⟩
  ·subst e
   exact ckstep_first h4 g h5 h1 hK rfl hg.n0 hg.n1 hg.l0 hg.l1 (by have:=hg.len;omega) hg.keys
  ·exact ckstep_next h4 g h1 hK e1 e2 rfl hg.n0 hg.n1 hg.l0 hg.l1 (by have:=hg.len;show v.idx.length≤_;omega) hg.keys
  ·omega
 refine hstep.mono ?_
 rintro e w' ⟨g1,Q2,g2,g3,g4,g5,g6⟩
 rw [hd] at g1 g4 g5
 have hb:=h8.kept hx (Ne.symm h3) h1 h6 g6 g2
 have hz:∀ j,Z j→Q2 j∧j≠wa∧j≠wb:=fun j hj=>⟨g2 j (h2 j hj).1,(h2 j hj).2⟩
 have hkp:KP Z w w':=g6.mono fun j _ hj=>⟨(h2 j hj).1,(h2 j hj).2.1⟩
 have hr2:r=0∨r=6∨r=16:=by omega
 by_cases hr0:r=0
 ·rw [if_pos hr0] at g5
  refine ⟨r,_,ka+1,d',g1,hr2,by omega,⟨Q2,g3,hz,h3,g4,g2 _ h5,g2 _ h6,?_,hb⟩,ht'.mono ?_,hkp⟩
  ·by_cases h4':ka=4
   ·subst h4'
    obtain ⟨a,cap,q1,-⟩:=g5
    exact .inr (.inr ⟨rfl,a,cap,_,q1⟩)
   ·exact .inr (.inl ⟨by omega,by omega,g5⟩)
  ·unfold Acc
   split <;> split <;> split <;> split <;> omega
 ·rw [if_neg hr0] at g5
  refine ⟨r,_,5,d',g1,hr2,by omega,⟨Q2,g3,hz,h3,g4,g2 _ h5,g2 _ h6,?_,hb⟩,ht'.mono ?_,hkp⟩
  ·obtain ⟨a,cap,q1,-⟩:=g5
   exact .inr (.inr ⟨rfl,a,cap,_,q1⟩)
  ·unfold Acc
   split <;> split <;> split <;> split <;> omega
theorem TwoSt.start{w w1 w2:World}{P:Nat→Prop}{dp vp K:Nat}{v:Vl}{d:Dk}(h:VS w vp dp P K d v)(hP:∀ j,P j→j<w.heap.size)(hb1:Below w.heap.size w w1)(hc1:CkW w1 w.heap.size dp vp ⟨0,0,0,[]⟩ none 0 0)(hb2:Below w1.heap.size w1 w2)(hc2:CkW w2 w1.heap.size dp vp ⟨0,0,0,[]⟩ none 0 0):TwoSt w2 P w.heap.size w1.heap.size dp vp v K d 0 0:=by
 have hl1:=blk_lt hc1
 have hl2:=blk_lt hc2
 have hz1:=hb1.size
 have hz2:=hb2.size
 refine ⟨fun j=>(P j∨j=w.heap.size)∨j=w1.heap.size,fun j hj=>?_,fun j hj=>⟨.inl (.inl hj),by have:=hP j hj;omega,by have:=hP j hj;omega⟩,by omega,(h.later hb1 (fun j hj=>hj.imp id (fun e=>by omega))).later hb2 (fun j hj=>hj.imp id (fun e=>by omega)),.inl (.inr rfl),.inr rfl,.inl ⟨rfl,_,_,_,blk_below' hc1 hb2⟩,.inl ⟨rfl,_,_,_,hc2⟩⟩
 rcases hj with (hj|hj)|hj
 ·have:=hP j hj;omega
 ·omega
 ·omega
theorem CkF.baseBad{dp K:Nat}{c:Dk}{v:Vl}{ns:List Nd}{o:Option DFile}{y:DFile}(h:CkF c v ns o (some y))(hl:y.b.length≤1000000)(hno:NoCk y.b):BaseAt dp K c v ns:=by
 obtain ⟨i,hi,hf⟩:=h.ck
 refine ⟨[],16,superB v.num v.gen,ns,fun w0 Q hd=>base_bad (bs:=y.b) hd ?_ ?_ ?_ hl hno _,rfl,superB_len _ _,h.vk.ok,h.vk.ixOf,List.Pairwise.nil⟩
 ·rw [h.num,h.vk.gen];exact namesAt9 (by omega) (by omega)
 ·rw [h.lens.2.1,c11];decide
 ·rw [h.lens.2.1,whole_at (by rw [h.vk.armed];decide) hi,hf]
theorem noCk_rep{c:Ck}(hr:ckRight c=0){j:Nat}(hj:j≠1):NoCk (rep (ckB c) j):=by
 obtain ⟨hl4,hnums,-⟩:=ckRight_parts hr
 match j,hj with
 | 0,_=>exact .inl (by simp [rep])
 | j+2,_=>
  refine .inr fun _ h2=>?_
  have h1:=(numAt_head c (rep (ckB c) (j+1)) (by omega) (by omega) (by omega) (by omega)).2
  have e:rep (ckB c) (j+2)=ckB c ++ rep (ckB c) (j+1):=rfl
  rw [←e] at h1
  rw [h1,rep_len,Nat.succ_mul,ckB_len,Nat.succ_mul] at h2
  omega
theorem rep_one(b:List UInt8):rep b 1=b:=by simp [rep]
theorem VK.told{d:Dk}{v:Vl}{ns:List Nd}{X:Nat}(h:VK d v ns X)(key cookie:Nat):(v.get d key cookie).2.1=false:=by
 obtain ⟨f,g,hv,hrd⟩:=h.vi
 rw [←VK.get_two hrd]
 exact hv.told _ _
def MAt (w:World) (F:Nat→Prop) (MB:Nat) (R:Rv):Prop:=∃(c0 c1 c2 c3:Int)(c4:Bool)(c5a:Option Addr)(c5n c5c:Nat)(c6a:Option Addr)(c6n c6c:Nat),w.heap[MB]? = some (.cells #[.int .i64 c0,.int .i64 c1,.int .i64 c2,.int .i64 c3,.bool c4,.slice c5a c5n c5c,.slice c6a c6n c6c] 43 (0,0))∧RvIn w (fun k=>¬ F k∧k≠MB) (.agg #[.int .i64 c0,.int .i64 c1,.int .i64 c2,.int .i64 c3,.bool c4,.slice c5a c5n c5c,.slice c6a c6n c6c]) R
theorem MAt.kp{w w':World}{F:Nat→Prop}{MB:Nat}{R:Rv}(h:MAt w F MB R)(hk:KP (fun k=>¬ F k) w w')(hF:¬ F MB):MAt w' F MB R:=by
 obtain ⟨c0,c1,c2,c3,c4,c5a,c5n,c5c,c6a,c6n,c6c,h1,h2⟩:=h
 exact ⟨c0,c1,c2,c3,c4,c5a,c5n,c5c,c6a,c6n,c6c,(hk.block _ (blk_lt h1) (fun e=>e hF)).trans h1,h2.kp (hk.mono fun j _ e=>e.1)⟩
theorem MAt.later{w w':World}{F F2:Nat→Prop}{MB:Nat}{R:Rv}(h:MAt w F MB R)(hF:¬ F MB)(hk:KP (fun j=>¬ F j∧j<w.heap.size) w w')(h2:∀ j,F2 j→F j∨w.heap.size≤j):MAt w' F2 MB R:=by
 obtain ⟨c0,c1,c2,c3,c4,c5a,c5n,c5c,c6a,c6n,c6c,g1,g2⟩:=h
 have hl:=blk_lt g1
 refine ⟨c0,c1,c2,c3,c4,c5a,c5n,c5c,c6a,c6n,c6c,(hk.block _ hl (fun e=>e ⟨hF,hl⟩)).trans g1,?_⟩
 have g3:=g2.wide (Q:=fun k=>(¬ F k∧k≠MB)∧k<w.heap.size) fun j hj hl=>⟨hj,hl⟩
 exact (g3.kp (hk.mono fun j _ e=>⟨e.1.1,e.2⟩)).wide fun j hj _=>⟨fun e=>(h2 j e).elim hj.1.1 (fun e2=>by omega),hj.1.2⟩
theorem MAt.opened{w:World}{F:Nat→Prop}{MB:Nat}{v:Vl}{ns:List Nd}(h:MAt w F MB (Rv.of v ns))(hf:v.idx.length≤4096):∃(num most epoch size:Int)(shut:Bool)(al:Option Addr)(ln cl:Nat)(ad:Option Addr)(dn cd:Nat),ln=v.idx.length∧w.heap[MB]? = some (.cells #[.int .i64 num,.int .i64 most,.int .i64 epoch,.int .i64 size,.bool shut,.slice al ln cl,.slice ad dn cd] 43 (0,0))∧Reads w 5 (.slice al ln cl) ln (v.idx.flatMap psC)∧(∀ x,al=some x→¬ F x.block∧x.block≠MB∧x.block<w.heap.size)∧∀ (w0:World) (vp dp ix:Nat) (vx:Value),VolAt w0 vp dp ix vx v→Reads w0 5 (.slice al ln cl) ln (v.idx.flatMap psC)→Calls Tryz.prog 25 #[(.pointer (some ⟨vp,0,none⟩)),.agg #[.int .i64 num,.int .i64 most,.int .i64 epoch,.int .i64 size,.bool shut,.slice al ln cl,.slice ad dn cd]] w0 fun e w'=>e=.returned (.bool true)∧Below w0.heap.size w0 w':=by
 obtain ⟨c0,c1,c2,c3,c4,c5a,c5n,c5c,c6a,c6n,c6c,h1,al,cl,ad,cd,xs,hval,hat⟩:=h
 have hrl:Reads w 5 (.slice al v.idx.length cl) v.idx.length (v.idx.flatMap psC):=hat.rl
 have hbl:∀ x,al=some x→(¬ F x.block∧x.block≠MB)∧x.block<w.heap.size:=hat.bl
 have hsm:=fun (w0:World) (vp dp ix:Nat) (vx:Value) (hv:VolAt w0 vp dp ix vx v) (hr:Reads w0 5 (.slice al v.idx.length cl) v.idx.length (v.idx.flatMap psC))=>same09_any (ns:=ns) hv al cl ad cd hr hf
 rw [←hval] at hsm
 unfold rvV at hval
 have hl:(Rv.of v ns).l.length=v.idx.length:=rfl
 rw [hl] at hval
 simp only [Value.agg.injEq,Array.mk.injEq,List.cons.injEq,Value.slice.injEq] at hval
 obtain ⟨-,-,-,-,-,⟨rfl,rfl,rfl⟩,-⟩:=hval
 exact ⟨c0,c1,c2,c3,c4,c5a,v.idx.length,c5c,c6a,c6n,c6c,rfl,h1,hrl,fun x e=>⟨(hbl x e).1.1,(hbl x e).1.2,(hbl x e).2⟩,hsm⟩
theorem bool_at{w:World}{a:Option Addr}{n c:Nat}{l:List Bool}(h:Reads w 1 (.slice a n c) n (l.map Value.bool)){k:Nat}{x:Bool}(hx:l[k]? = some x)(hn:0<n):∃ b o c',Value.slice a n c=.slice (some ⟨b,o,none⟩) n c'∧b<w.heap.size∧w.cell? ⟨b,o+k,none⟩=some (.bool x):=by
 obtain ⟨b,o,c',e,hb,-,hcell⟩:=reads_at h hn (by omega)
 exact ⟨b,o,c',e,hb,hcell k _ (by simp [hx])⟩
theorem ckptSteps_walk(a:Option Addr)(len cap:Nat)(l:List ActE)(a2:Option Addr)(len2 cap2:Nat)(l2:List Bool)(w:World)(hl:l.length=len)(hr:Reads w 6 (.slice a len cap) len (l.flatMap ActE.cs))(ho:∀ x∈l,ActArg w x)(hl2:l2.length=len2)(hr2:Reads w 1 (.slice a2 len2 cap2) len2 (l2.map Value.bool)) :
  Calls Tryz.prog 5 #[.slice a len cap,.slice a2 len2 cap2] w fun e w'=>e=.returned (.bool true)∧Below w.heap.size w w':=by
 have HL:=Hd hl
 have HR:=Hd hr
 have HO:=Hd ho
 have HL2:=Hd hl2
 have HR2:=Hd hr2
 clear hl hr ho hl2 hr2
 go_enter Tryz.func5,Tryz.ntmps5
 go_wp2_with fail
 refine (alive10 w).mono ?_
 rintro e w1 ⟨rfl,hb⟩
 have HB1:=Hd hb
 have hz1:=hb.size
 clear hb
 go_wp2_with fail
 refine (far9_any a len cap l w1 HL.out (HR.out.below HB1.out)).mono ?_
 rintro e wx ⟨rfl,rfl⟩
 cases hfa:far9 l
 case true=>
  go_wp2_with fail
  go_ret
  exact ⟨rfl,HB1.out⟩
 have HFA:=Hd (far9_no hfa)
 clear hfa
 have h60:len≤60:=by have:=HFA.out.1;have:=HL.out;omega
 by_cases h100:(60:Int)<(len2:Int)
 ·have h1:decide ((60:Int)<(len2:Int))=true:=by simpa using h100
  have h2:decide (60<len2)=true:=by simp;omega
  go_wp2_with fail
  go_ret
  exact ⟨rfl,HB1.out⟩
 have h101:decide ((60:Int)<(len2:Int))=false:=by simpa using h100
 have h102:decide (60<len2)=false:=by simp;omega
 have HMA:=Hd (show Calls Tryz.prog 27 #[.slice a len cap] w1 (MadeR w1 1 l) from madeR_any a len cap l w1 HL.out (HR.out.below HB1.out) (fun x hx=>(HO.out x hx).below HB1.out) h60 HFA.out.2)
 unfold MadeR at HMA
 go_wp2_with fail
 refine HMA.out.mono ?_
 rintro e w2 ⟨vp,dp,F,val,d,v,ns,rfl,hvf,hfb,hvd,hrv,hac,hsz,hns,hb⟩
 have hnum:v.num=1:=by
  have h3:=congrArg Rv.num hac
  rw [Rv.acts_num] at h3
  exact h3
 have hmost:v.most=1048576:=by
  have h3:=congrArg Rv.most hac
  rw [Rv.acts_most] at h3
  exact h3
 have hvs:v.size≤20176:=by rw [HL.out] at hsz;omega
 have hvn:ns.length≤60:=by rw [HL.out] at hns;omega
 have hck:=hvd.ckF hnum
 have hvl:v.idx.length≤60:=Nat.le_trans hck.vk.len hvn
 have hcr:=hck.vk.ckRight (by omega) (by omega)
 have hbl:=ckB_len (ckSnap v)
 have hil:(ckSnap v).l.length=v.idx.length:=rfl
 rw [hil] at hbl
 have HTW:=Hd (TwoW.start hck hvd.restK (ckB (ckSnap v)))
 have HCG:=Hd (hck.vk.ckGood hnum (by omega))
 have HGC:=Hd (hck.vk.goodC hnum (by omega) (by omega))
 have HCR:=Hd hcr
 have hgen:=hvd.vi.gen
 have HVF:=Hd hvf
 have HFB:=Hd hfb
 have HRV:=Hd hrv
 have HB2:=Hd (HB1.out.trans (hb.mono hz1))
 have hz2:=hb.size
 obtain ⟨c0,c1,c2,c3,c4,c5a,c5n,c5c,c6a,c6n,c6c,rfl⟩:=RvIn.agg hrv
 clear hvf hfb hvd hrv hac hsz hns hb hck hcr hil
 go_upto_region 6 with fail
 obtain ⟨w3,hw3⟩:∃ w3:World,w3=w2.alloc (.cells #[.int .i64 c0,.int .i64 c1,.int .i64 c2,.int .i64 c3,.bool c4,.slice c5a c5n c5c,.slice c6a c6n c6c] 43):=⟨_,rfl⟩
 have HB23:=Hd (show Below w2.heap.size w2 w3 by rw [hw3];exact belo)
 have KM3:=Hd (show w3.heap[w2.heap.size]? = some (.cells #[.int .i64 c0,.int .i64 c1,.int .i64 c2,.int .i64 c3,.bool c4,.slice c5a c5n c5c,.slice c6a c6n c6c] 43 (0,0)) by rw [hw3];exact heap_new w2 _)
 rw [←hw3]
 clear hw3
 have hz23:=HB23.out.size
 obtain ⟨MB,hMB⟩:∃ MB,MB=w2.heap.size:=⟨_,rfl⟩
 have hMF:¬ F MB:=fun e=>by have:=HVF.out.lt MB e;omega
 have HVF3:=Hd (HVF.out.kp (KP.of HB23.out) (fun k hk=>HVF.out.lt k hk))
 have HMA3:=Hd (show MAt w3 F MB (Rv.of v ns) from ⟨c0,c1,c2,c3,c4,c5a,c5n,c5c,c6a,c6n,c6c,by rw [hMB];exact KM3.out,(HRV.out.wide (Q:=fun k=>¬ F k∧k≠MB) (fun j hj hl=>⟨hj,by omega⟩)).kp (KP.of HB23.out)⟩)
 have HB3:=Hd (HB2.out.trans (HB23.out.mono HB2.out.size))
 have hMBl:MB<w3.heap.size:=by rw [hMB];exact blk_lt KM3.out
 rw [←hMB]
 clear KM3 hMB HVF HRV HMA
 obtain ⟨num,most,epoch,size,shut,al,ln,cl,ad,ddn,cd,hln,km,hrl,hbl2,hsame⟩:=HMA3.out.opened (by omega)
 have KM:=Hd km
 have HRL:=Hd hrl
 have HBL:=Hd hbl2
 have HSM:=Hd hsame
 obtain ⟨P,hP⟩:∃ P:Nat→Prop,P=fun k=>¬ F k∧k<w3.heap.size:=⟨_,rfl⟩
 have HPV:=Hd hP
 have HMP:=Hd (show P MB by rw [hP];exact ⟨hMF,hMBl⟩)
 have HV3:=Hd (show VS w3 vp dp P 245 d v from HVF3.out.vs fun k hf e=>by rw [hP] at e;exact e.1 hf)
 have HPL3:=Hd (show ∀ k,P k→k<w3.heap.size from fun k hk=>by rw [hP] at hk;exact hk.2)
 have HLOW:=Hd (show ∀ (wr:World),KP P w3 wr→Below w.heap.size w wr from fun wr hk=>HB3.out.trans (KP.below hk HB3.out.size (fun j hj=>by rw [hP];exact ⟨fun e=>by have:=HFB.out j e;omega,by have:=HB3.out.size;omega⟩)))
 clear hP km hrl hbl2 hsame hln HVF3 HMA3
 have KM:=Hd (show w3.heap[MB]? = some (.cells #[.int .i64 num,.int .i64 most,.int .i64 epoch,.int .i64 size,.bool shut,.slice al ln cl,.slice ad ddn cd] 43 (0,0)) from KM.out)
 obtain ⟨ixo,vxo,-,-,-,hok⟩:=HV3.out
 have HOK:=Hd hok
 clear hok
 go_wp2_with fail
 refine (cknew_any dp vp w3).mono ?_
 rintro e w4 ⟨rfl,hcw4,hb4⟩
 have HC4:=Hd hcw4
 have HB4:=Hd hb4
 clear hcw4 hb4
 obtain ⟨wa,hwa⟩:∃ wa,wa=w3.heap.size:=⟨_,rfl⟩
 rw [←hwa] at HC4 ⊢
 have HWA:=Hd hwa
 clear hwa
 go_wp2_with fail
 refine (cknew_any dp vp w4).mono ?_
 rintro e w5 ⟨rfl,hcw5,hb5⟩
 obtain ⟨wb,hwb⟩:∃ wb,wb=w4.heap.size:=⟨_,rfl⟩
 have hcw4:=HC4.out
 have hwa:=HWA.out
 have hst:=TwoSt.start HV3.out HPL3.out HB4.out (by rw [hwa] at hcw4;exact hcw4) hb5 hcw5
 rw [←hwa,←hwb] at hst
 rw [←hwb]
 have HST:=Hd hst
 have HK5:=Hd (show KP P w3 w5 from (KP.of HB4.out).trans (KP.of hb5))
 clear hcw4 hcw5 hb5 hst hwa hwb HC4 HB4
 go_upto_region 9 with fail
 go_loopg [13] len2 (fun g i wr=>∃(k ka kb:Nat)(d:Dk),k≤len2∧g=len2 - k∧i=.int .i64 k∧ka≤5∧kb≤5∧TwoSt wr P wa wb dp vp v (245+2 * k) d ka kb∧TwoW d v ns (ckB (ckSnap v)) (Acc ka+Acc kb)∧KP P w3 wr)
 case atStart=>exact ⟨0,0,0,d,Nat.zero_le _,rfl,rfl,by omega,by omega,HST.out,HTW.out,HK5.out⟩
 case round=>
  obtain ⟨k,ka,kb,d,hk,rfl,rfl,hka,hkb,hst,htw,hkp⟩:=hrel
  have HS:=Hd hst
  have HT:=Hd htw
  have HKP:=Hd hkp
  have hzr:=hkp.size
  clear hst htw hkp HST HTW
  have hj0:(0:Int)≤(k:Int):=by omega
  by_cases hlt:k<len2
  ·obtain ⟨x,hx⟩:∃ x,l2[k]? = some x:=⟨_,List.getElem?_eq_getElem (by rw [HL2.out];exact hlt)⟩
   obtain ⟨b,o,c',e,hblt,r0⟩:=bool_at (HR2.out.below (HLOW.out wr HKP.out)) hx (by omega)
   obtain ⟨rfl,-,rfl⟩:=sl_inj e
   have hj1:(k:Int)<(len2:Int):=by omega
   clear hx e
   have HSA:=Hd (HS.out.step HT.out HCG.out (by omega) hka hnum hgen HCR.out (by omega))
   have HSB:=Hd (HS.out.swap.step (by rw [Nat.add_comm];exact HT.out) HCG.out (by omega) hkb hnum hgen HCR.out (by omega))
   cases x
   case false=>
    go_wp2_with fail
    refine HSA.out.mono ?_
    rintro e w6 ⟨r,bb,q,d2,rfl,hr,hq,hst2,htw2,hkp2⟩
    have HST2:=Hd hst2
    have HTW2:=Hd htw2
    have HKP2:=Hd (HKP.out.trans hkp2)
    clear hst2 htw2 hkp2
    rcases hr with rfl|rfl|rfl
    case inl=>
     rw [show errV ((0:Nat):Int)=.nilIface from rfl]
     go_wp2_with fail
     refine (code0 _).mono ?_
     rintro e wx ⟨rfl,rfl⟩
     go_wp2_with fail
     go_roundg (len2 - (k+1))
     case measure=>omega
     case rel=>exact ⟨k+1,q,kb,d2,by omega,rfl,by go_num,hq,hkb,HST2.out.more (by omega),HTW2.out,HKP2.out⟩
    case inr.inl=>
     rw [errV_ne (show ((6:Nat):Int)≠0 by decide)]
     go_wp2_with fail
     refine (show Calls Tryz.prog 14 #[.iface 99 (.int .i64 6)] _ _ from code_some 6 (by decide) (by decide) _).mono ?_
     rintro e wx ⟨rfl,rfl⟩
     go_wp2_with fail
     go_roundg (len2 - (k+1))
     case measure=>omega
     case rel=>exact ⟨k+1,q,kb,d2,by omega,rfl,by go_num,hq,hkb,HST2.out.more (by omega),HTW2.out,HKP2.out⟩
    case inr.inr=>
     rw [errV_ne (show ((16:Nat):Int)≠0 by decide)]
     go_wp2_with fail
     refine (show Calls Tryz.prog 14 #[.iface 99 (.int .i64 16)] _ _ from code_some 16 (by decide) (by decide) _).mono ?_
     rintro e wx ⟨rfl,rfl⟩
     go_wp2_with fail
     go_roundg (len2 - (k+1))
     case measure=>omega
     case rel=>exact ⟨k+1,q,kb,d2,by omega,rfl,by go_num,hq,hkb,HST2.out.more (by omega),HTW2.out,HKP2.out⟩
   case true=>
    go_wp2_with fail
    refine HSB.out.mono ?_
    rintro e w6 ⟨r,bb,q,d2,rfl,hr,hq,hst2,htw2,hkp2⟩
    have HST2:=Hd hst2
    have HTW2:=Hd htw2
    have HKP2:=Hd (HKP.out.trans hkp2)
    clear hst2 htw2 hkp2
    rcases hr with rfl|rfl|rfl
    case inl=>
     rw [show errV ((0:Nat):Int)=.nilIface from rfl]
     go_wp2_with fail
     refine (code0 _).mono ?_
     rintro e wx ⟨rfl,rfl⟩
     go_wp2_with fail
     go_roundg (len2 - (k+1))
     case measure=>omega
     case rel=>exact ⟨k+1,ka,q,d2,by omega,rfl,by go_num,hka,hq,HST2.out.swap.more (by omega),by rw [Nat.add_comm];exact HTW2.out,HKP2.out⟩
    case inr.inl=>
     rw [errV_ne (show ((6:Nat):Int)≠0 by decide)]
     go_wp2_with fail
     refine (show Calls Tryz.prog 14 #[.iface 99 (.int .i64 6)] _ _ from code_some 6 (by decide) (by decide) _).mono ?_
     rintro e wx ⟨rfl,rfl⟩
     go_wp2_with fail
     go_roundg (len2 - (k+1))
     case measure=>omega
     case rel=>exact ⟨k+1,ka,q,d2,by omega,rfl,by go_num,hka,hq,HST2.out.swap.more (by omega),by rw [Nat.add_comm];exact HTW2.out,HKP2.out⟩
    case inr.inr=>
     rw [errV_ne (show ((16:Nat):Int)≠0 by decide)]
     go_wp2_with fail
     refine (show Calls Tryz.prog 14 #[.iface 99 (.int .i64 16)] _ _ from code_some 16 (by decide) (by decide) _).mono ?_
     rintro e wx ⟨rfl,rfl⟩
     go_wp2_with fail
     go_roundg (len2 - (k+1))
     case measure=>omega
     case rel=>exact ⟨k+1,ka,q,d2,by omega,rfl,by go_num,hka,hq,HST2.out.swap.more (by omega),by rw [Nat.add_comm];exact HTW2.out,HKP2.out⟩
  ·have hj1:¬ (k:Int)<(len2:Int):=by omega
   have hj2:decide ((k:Int)<(len2:Int))=false:=by simp;omega
   have hj3:decide (k<len2)=false:=by simp;omega
   obtain ⟨ix,vx,hva,hds,hft,-⟩:=HS.out.vs
   have HDS:=Hd hds
   have HFT:=Hd hft
   have HQL:=Hd (show ∀ j,(P j∨VFoot vp ix vx j)→j<wr.heap.size from fun j hj=>hj.elim (fun h=>by have:=HPL3.out j h;omega) (fun h=>(hft j h).2))
   clear hva hds hft
   obtain ⟨o',n',hcf,hrk,hnn⟩:=HT.out.crash
   have HNN:=Hd hnn
   have HCF:=Hd hcf
   have HRK:=Hd hrk
   clear hcf hrk hnn
   have HCR3:=Hd (crash_ds HDS.out HQL.out (by omega) ⟨0,[]⟩ none 0 (reads_none _ _) (fun a e=>by cases e) (by show (-9223372036854775808:Int)≤0;omega) (by show (0:Int)≤9223372036854775807;omega) (fun x hx=>absurd hx List.not_mem_nil))
   go_wp2_with fail
   refine (show Calls Tryz.prog 18 #[(.pointer (some ⟨dp,0,none⟩)),.agg #[.int .i64 0,.slice none 0 0]] wr _ from HCR3.out).mono ?_
   rintro e w11 ⟨rfl,hdc,hkc⟩
   have HD11:=Hd hdc
   have HK11:=Hd (show KP P w3 w11 from HKP.out.trans (hkc.mono fun j _ e=>.inl e))
   have HQL11:=Hd (show ∀ j,(P j∨VFoot vp ix vx j)→j<w11.heap.size from fun j hj=>Nat.lt_of_lt_of_le (HQL.out j hj) hkc.size)
   clear hdc hkc HCR3
   have hAcc:∀ j,Acc j≤1:=fun j=>by unfold Acc;split <;> omega
   obtain ⟨c',hc1,hr1,hop⟩:=HCF.out.opened HD11.out HQL11.out (by omega) HRK.out (by
    have hcf:=HCF.out
    have hnn:=HNN.out
    cases n' with
    | none=>exact hcf.baseNone
    | some y=>
     obtain ⟨j,hj,hy⟩:=hnn y rfl
     have h1:=hAcc ka
     have h2:=hAcc kb
     by_cases h1:j=1
     ·refine hcf.baseGood (List.prefix_refl _) ?_
      rw [hy,h1,rep_one]
      exact HGC.out
     ·refine hcf.baseBad ?_ (by rw [hy];exact noCk_rep HCR.out h1)
      rw [hy,rep_len]
      have:j * (ckB (ckSnap v)).length≤2 * (ckB (ckSnap v)).length:=Nat.mul_le_mul_right _ (by omega)
      omega) HOK.out (by omega)
   rw [hmost] at hop
   have HOP:=Hd hop
   clear hop hc1 hr1
   go_wp2_with fail
   refine (show Calls Tryz.prog 20 #[(.pointer (some ⟨dp,0,none⟩)),.int .i64 1,.int .i64 1048576] w11 _ from HOP.out).mono ?_
   rintro e w12 ⟨vp4,rfl,hv12,-,hk12⟩
   obtain ⟨ix4,vx4,hva4,-,-,-⟩:=hv12
   have HVA12:=Hd hva4
   have HK12:=Hd (show KP P w3 w12 from HK11.out.trans (hk12.mono fun j _ e=>.inl e))
   have KM12:=Hd (KP.blk HK12.out KM.out HMP.out)
   have HR12:=Hd (HRL.out.keepsN (by omega) HK12.out (fun x e=>⟨(HBL.out x e).2.2,fun e2=>e2 (by rw [HPV.out];exact ⟨(HBL.out x e).1,(HBL.out x e).2.2⟩)⟩))
   clear hva4 hk12 HOP
   have hlm:=blk_lt KM12.out
   obtain ⟨m0,m1,m2,m3,m4,m5,m6⟩:=cells7' KM12.out
   go_wp2_with fail
   refine (code0 _).mono ?_
   rintro e wx ⟨rfl,rfl⟩
   go_wp2_with fail
   refine (HSM.out w12 vp4 dp ix4 vx4 HVA12.out HR12.out).mono ?_
   rintro e w13 ⟨rfl,hb13⟩
   have HB13:=Hd (show Below w.heap.size w w13 from HLOW.out w13 (HK12.out.trans (KP.of hb13)))
   clear hb13
   go_wp2_with fail
   go_ret
   exact ⟨rfl,HB13.out⟩
end Go.Proofs.YtfpjfoajonbndaaGreatDoor
