import Derived.Test.YtfpjfoajonbndaaGreatDoorChShipTake
import Derived.Test.YtfpjfoajonbndaaGreatDoorCh10
namespace Go.Proofs.YtfpjfoajonbndaaGreatDoor
set_option maxHeartbeats 8000000
set_option maxRecDepth 100000
open Go.RowKit
set_option maxRecDepth 100000
set_option maxHeartbeats 8000000
open Go.RowKit
theorem ref09_new(num most epoch:Int)(w:World) :
  Calls Tryz.prog 16 #[.int .i64 num,.int .i64 most,.int .i64 epoch] w fun e w'=>e=.returned (.agg #[.int .i64 num,.int .i64 most,.int .i64 epoch,.int .i64 16,.bool false,.slice none 0 0,.slice none 0 0])∧Below w.heap.size w w':=by
 go_enter Tryz.func16,Tryz.ntmps16
 go_wp2
 refine bodyPost_ret (v:=?_) ?_ rfl ?_
 rotate_left;(focus (simp [results,Tryz.results16,go_sem];exact rfl))
 exact ⟨rfl,belo⟩
theorem long_names{num:Nat}(h:num≤65535):(vName num 1).length≤maxLen∧(sName num).length≤maxLen∧(mName num).length≤maxLen:=by
 have h3:=digits_len (n:=num) (k:=5) (by omega) (by omega)
 have h4:=digits_len (n:=1) (k:=1) (by omega) (by omega)
 refine ⟨?_,?_,?_⟩
 ·unfold vName maxLen;simp;omega
 ·unfold sName mName maxLen;simp;omega
 ·unfold mName maxLen;simp;omega
theorem set7i_keeps(w:World)(b:Nat)(u0 u1 u2 u3 u4 u5 u6:Value):Keeps (fun k=>k=b) w (set7i w b u0 u1 u2 u3 u4 u5 u6):=by
 unfold set7i
 exact (((((((Keeps.refl (fun k=>k=b) w).setCell ⟨b,0,none⟩ u0 (fun _=>rfl)).setCell ⟨b,1,none⟩ u1 (fun _=>rfl)).setCell ⟨b,2,none⟩ u2 (fun _=>rfl)).setCell ⟨b,3,none⟩ u3 (fun _=>rfl)).setCell ⟨b,4,none⟩ u4 (fun _=>rfl)).setCell ⟨b,5,none⟩ u5 (fun _=>rfl)).setCell ⟨b,6,none⟩ u6 (fun _=>rfl)
theorem VS.keeps{w w':World}{vp dp K:Nat}{P F:Nat→Prop}{d:Dk}{v:Vl}(h:VS w vp dp P K d v)(hk:Keeps F w w')(hF:∀ k,k<w.heap.size→F k→P k):VS w' vp dp P K d v:=by
 obtain ⟨ix,vx,h1,h2,h3,h4⟩:=h
 have hk':Keeps P w w':=hk.mono hF
 exact ⟨ix,vx,h1.keeps hk' (fun k hf hp=>(h3 k hf).1 hp),h2.step hk' (fun k hp=>.inl hp) (fun k hp=>.inl hp),fun k hf=>⟨(h3 k hf).1,Nat.lt_of_lt_of_le (h3 k hf).2 hk.size⟩,h4⟩
theorem xor_ne{c x:UInt8}(h:x≠0):c≠c ^^^ x:=fun e=>h (by
 have h1:=congrArg (fun y=>c ^^^ y) e
 simpa [←UInt8.xor_assoc,UInt8.xor_self,UInt8.zero_xor] using h1.symm)
theorem num_parts(n:Nd)(r:List UInt8)(h:n.data.length≤4096):numAt (ndBytes n ++ r) 20 4=n.data.length∧numAt (ndBytes n ++ r) 24 4=ndSum n∧(ndBytes n ++ r).take 24=ndHead n∧((ndBytes n ++ r).drop 32).take n.data.length=n.data:=by
 have eb:ndBytes n ++ r=ndHead n ++ (le 4 (ndSum n) ++ List.replicate 4 0 ++ n.data ++ List.replicate (padN n.data.length) 0 ++ r):=by simp [ndBytes]
 obtain ⟨p1,p2,p3,p4,p5⟩:=ndHead_parts n (le 4 (ndSum n) ++ List.replicate 4 0 ++ n.data ++ List.replicate (padN n.data.length) 0 ++ r)
 rw [←eb] at p5
 have hsm:ndSum n<256 ^ 4:=by
  have:=(sumMore (sumOf (ndHead n)) n.data).toNat_lt
  unfold ndSum
  omega
 refine ⟨by rw [p5];exact Nat.mod_eq_of_lt (Nat.lt_of_le_of_lt h (by decide)),?_,by rw [eb,←ndHead_len n,List.take_left],?_⟩
 ·have e:ndBytes n ++ r=ndHead n ++ le 4 (ndSum n) ++ (List.replicate 4 0 ++ n.data ++ List.replicate (padN n.data.length) 0 ++ r):=by simp [ndBytes]
  rw [e,numAt_mid (ndHead_len n) (le_len _ _),leNat_le,Nat.mod_eq_of_lt hsm]
 ·have e:ndBytes n ++ r=(ndHead n ++ le 4 (ndSum n) ++ List.replicate 4 0) ++ (n.data ++ (List.replicate (padN n.data.length) 0 ++ r)):=by simp [ndBytes]
  have l:(ndHead n ++ le 4 (ndSum n) ++ List.replicate 4 0).length=32:=by simp [ndHead_len,le_len]
  rw [e,←l,List.drop_left,List.take_left]
theorem nd_turned{n:Nd}(h:n.data.length≤4096){j:Nat}(hj:j<20){x:UInt8}(hx:x≠0):(ndGet (xorAt (ndBytes n) j x)).1≠0:=by
 obtain ⟨p1,p2,p3,p4⟩:=num_parts n [] h
 simp only [List.append_nil] at p1 p2 p3 p4
 have hH:=ndHead_len n
 obtain ⟨c,hc⟩:∃ c,(ndHead n)[j]? = some c:=⟨_,List.getElem?_eq_getElem (by omega)⟩
 have hcB:(ndBytes n)[j]? = some c:=by
  have:(ndBytes n)[j]? = ((ndBytes n).take 24)[j]?:=by rw [List.getElem?_take,if_pos (by omega)]
  rw [this,p3,hc]
 have e1:xorAt (ndBytes n) j x=(ndBytes n).set j (c ^^^ x):=by unfold xorAt;rw [hcB];rfl
 have t24:((ndBytes n).set j (c ^^^ x)).take 24=(ndHead n).set j (c ^^^ x):=by rw [List.take_set,p3]
 have d20:((ndBytes n).set j (c ^^^ x)).drop 20=(ndBytes n).drop 20:=List.drop_set_of_lt (by omega)
 have d24:((ndBytes n).set j (c ^^^ x)).drop 24=(ndBytes n).drop 24:=List.drop_set_of_lt (by omega)
 have d32:((ndBytes n).set j (c ^^^ x)).drop 32=(ndBytes n).drop 32:=List.drop_set_of_lt (by omega)
 have n20:numAt ((ndBytes n).set j (c ^^^ x)) 20 4=n.data.length:=by unfold numAt;rw [d20];exact p1
 have n24:numAt ((ndBytes n).set j (c ^^^ x)) 24 4=ndSum n:=by unfold numAt;rw [d24];exact p2
 rw [e1]
 unfold ndGet
 split
 ·simp
 split
 ·simp
 split
 ·simp
 split
 ·simp
 ·rename_i _ _ _ hs
  exfalso
  apply hs
  rw [n24,n20,t24,d32,p4]
  unfold ndSum
  intro e
  have e2:=UInt32.toNat_inj.1 e
  unfold sumOf at e2
  rw [sumMore_append,sumMore_append] at e2
  have hsplit:ndHead n=(ndHead n).take j ++ c :: (ndHead n).drop (j+1):=by
   have hjl:j<(ndHead n).length:=by omega
   have hc':(ndHead n)[j]=c:=by
    have:=List.getElem?_eq_getElem hjl
    rw [hc] at this
    exact (Option.some.inj this).symm
   rw [←hc',List.getElem_cons_drop,List.take_append_drop]
  have hset:(ndHead n).set j (c ^^^ x)=(ndHead n).take j ++ (c ^^^ x) :: (ndHead n).drop (j+1):=by
   rw [List.set_eq_take_append_cons_drop,if_pos (by omega)]
  rw [hset] at e2
  rw [hsplit] at e2
  have hl:((ndHead n).take j).length=j:=by rw [List.length_take];omega
  have ht:((ndHead n).take j ++ c :: (ndHead n).drop (j+1)).take j=(ndHead n).take j:=by rw [List.take_left' hl]
  have hd:((ndHead n).take j ++ c :: (ndHead n).drop (j+1)).drop (j+1)=(ndHead n).drop (j+1):=by
   rw [←hsplit]
  rw [ht,hd,List.append_assoc,List.append_assoc] at e2
  exact sum_turned (s:=0) ((ndHead n).take j) ((ndHead n).drop (j+1) ++ n.data) (xor_ne hx) e2
theorem cut_xor{b:List UInt8}{i o s:Nat}{x:UInt8}(h:i<o∨o+s≤i):((xorAt b i x).drop o).take s=(b.drop o).take s:=by
 unfold xorAt
 rcases h with h|h
 ·rw [List.drop_set_of_lt h]
 ·rw [List.drop_set,if_neg (by omega),List.take_set,List.set_eq_of_length_le]
  rw [List.length_take]
  omega
theorem cut_xor_in{b:List UInt8}{o s j:Nat}{x:UInt8}(h:j<s)(hb:o+s≤b.length):((xorAt b (o+j) x).drop o).take s=xorAt ((b.drop o).take s) j x:=by
 unfold xorAt
 rw [List.drop_set,if_neg (by omega),List.take_set,show o+j - o=j by omega,List.getElem?_take,if_pos h,List.getElem?_drop]
theorem nds_apart{a b a' b':List Nd}{m n:Nd}(h:a ++ m :: b=a' ++ n :: b'):(a=a'∧m=n∧b=b')∨(ndsB a).length+ndSize m.data.length≤(ndsB a').length∨(ndsB a').length+ndSize n.data.length≤(ndsB a).length:=by
 have key:∀ (p q:List Nd) (z:Nd),(ndsB (p ++ z :: q)).length=(ndsB p).length+ndSize z.data.length+(ndsB q).length:=fun p q z=>by
  rw [ndsB_append,List.length_append]
  show (ndsB p).length+(ndBytes z ++ ndsB q).length=_
  rw [List.length_append,ndBytes_len]
  omega
 rcases List.append_eq_append_iff.1 h with ⟨ts,h1,h2⟩|⟨ts,h1,h2⟩
 ·cases ts with
  | nil=>
   simp only [List.append_nil,List.nil_append] at h1 h2
   injection h2 with h3 h4
   exact .inl ⟨h1.symm,h3,h4⟩
  | cons z q=>
   simp only [List.cons_append] at h2
   injection h2 with h3 h4
   subst h3
   exact .inr (.inl (by rw [h1,key];omega))
 ·cases ts with
  | nil=>
   simp only [List.append_nil,List.nil_append] at h1 h2
   injection h2 with h3 h4
   exact .inl ⟨h1,h3.symm,h4.symm⟩
  | cons z q=>
   simp only [List.cons_append] at h2
   injection h2 with h3 h4
   subst h3
   exact .inr (.inr (by rw [h1,key];omega))
theorem VI.spoil{d:Dk}{v:Vl}{ns:List Nd}(h:VI d v ns){key ok:Nat}{nk:Nd}(hx:newest ns 16 key=some (ok,nk))(hg:nk.gone=false){j:Nat}(hj:j<20){x:UInt8}(hx0:x≠0) :
  ∃ d',d.spoil v.file ((ok+j:Nat):Int) x=(0,d')∧takeOne v d' (posOf ok nk)=none∧∀ key' o n,newest ns 16 key'=some (o,n)→n.gone=false→key'≠key→takeOne v d' (posOf o n)=some n:=by
 obtain ⟨f,g,hfg,hl,hf,hgn,hfb,hgb⟩:=h.now
 obtain ⟨hm,hk,a,b,hab,ho⟩:=newest_some hx
 have hokn:=h.ok nk hm
 have ha:d.armed≠0:=by rw [h.armed];decide
 have hfnd:d.fnd v.file=(0,f):=by unfold Dk.fnd;rw [if_neg ha,hf]
 have hsup:=superB_len v.num 1
 have cutof:∀ {p q:List Nd} {z:Nd},ns=p ++ z :: q→(d.fileAt f).b.length=16+(ndsB p).length+ndSize z.data.length+(ndsB q).length∧((d.fileAt f).b.drop (16+(ndsB p).length)).take (ndSize z.data.length)=ndBytes z:=by
  intro p q z e
  have hb:=ndBytes_len z
  refine ⟨?_,?_⟩
  ·rw [hfb,List.length_append,hsup,e,ndsB_append,List.length_append]
   show 16+((ndsB p).length+(ndBytes z ++ ndsB q).length)=_
   rw [List.length_append,hb]
   omega
  ·have e2:(d.fileAt f).b=(superB v.num 1 ++ ndsB p) ++ (ndBytes z ++ ndsB q):=by
    rw [hfb,e,ndsB_append,List.append_assoc]
    rfl
   have l:(superB v.num 1 ++ ndsB p).length=16+(ndsB p).length:=by rw [List.length_append,hsup]
   rw [e2,←l,List.drop_left,←hb,List.take_left]
 obtain ⟨hlen,hcut⟩:=cutof hab
 have hs32:=(ndSize_le hokn.2.2.1).1
 obtain ⟨d',hd'⟩:∃ d',d'=d.setF f ⟨xorAt (d.fileAt f).b (ok+j) x,(d.fileAt f).lasts⟩:=⟨_,rfl⟩
 have hlt:f<d.files.length:=fileAt_lt (by intro e;rw [e] at hlen;simp at hlen;omega)
 have hsp:d.spoil v.file ((ok+j:Nat):Int) x=(0,d'):=by
  unfold Dk.spoil
  rw [hfnd,if_neg (by simp),if_neg (by rw [hlen];omega),hd']
  rfl
 have hfile:d'.fileAt f=⟨xorAt (d.fileAt f).b (ok+j) x,(d.fileAt f).lasts⟩:=by rw [hd'];exact fileAt_set hlt
 have hfnd':d'.fnd v.file=(0,f):=by rw [hd'];exact hfnd
 have hrd:∀ {p q:List Nd} {z:Nd},ns=p ++ z :: q→d'.read v.file ((16+(ndsB p).length:Nat):Int) (ndSize z.data.length)=(0,((xorAt (d.fileAt f).b (ok+j) x).drop (16+(ndsB p).length)).take (ndSize z.data.length)):=by
  intro p q z e
  have:=(cutof e).1
  unfold Dk.read
  rw [hfnd',if_neg (by simp),if_neg (by omega),hfile,if_neg (by simp only [xorAt_len];omega)]
  rfl
 refine ⟨d',hsp,?_,?_⟩
 ·have hfd:=(h.find key nk.cookie).2 (ok,nk) hx hg rfl
  have hr:=hrd hab
  rw [←ho] at hr
  have hc2:((xorAt (d.fileAt f).b (ok+j) x).drop ok).take (ndSize nk.data.length)=xorAt (ndBytes nk) j x:=by
   rw [cut_xor_in (by omega) (by omega),ho,hcut]
  rw [hc2] at hr
  have hbad:=nd_turned hokn.2.2.1 hj hx0
  unfold takeOne
  have hg2:(posOf ok nk).gone=false:=hg
  rw [hg2,if_neg (by simp)]
  have hgt:(v.get d' (posOf ok nk).key (posOf ok nk).cookie).1≠0:=by
   have e1:(posOf ok nk).key=key:=hk
   have e2:(posOf ok nk).cookie=nk.cookie:=rfl
   rw [e1,e2]
   unfold Vl.get
   rw [hfd]
   have hr':d'.read v.file (posOf ok nk).off (ndSize (posOf ok nk).len)=(0,xorAt (ndBytes nk) j x):=hr
   simp only [ne_eq,not_true_eq_false,if_false,hr']
   rw [if_pos hbad]
   exact hbad
  rw [if_pos hgt]
 ·intro key' o n hx' hg' hne
  obtain ⟨hm',hk',a',b',hab',ho'⟩:=newest_some hx'
  have hok':=h.ok n hm'
  have hfd:=(h.find key' n.cookie).2 (o,n) hx' hg' rfl
  have hr:=hrd hab'
  rw [←ho'] at hr
  have hc2:((xorAt (d.fileAt f).b (ok+j) x).drop o).take (ndSize n.data.length)=ndBytes n:=by
   rw [cut_xor,ho',(cutof hab').2]
   rcases nds_apart (hab.symm.trans hab') with ⟨_,e,_⟩|e|e
   ·subst e
    exact absurd (hk'.symm.trans hk) hne
   ·left;omega
   ·right;omega
  rw [hc2] at hr
  have hget:=ndGet_put hok' []
  rw [List.append_nil] at hget
  have hgt:v.get d' key' n.cookie=(0,false,n):=by
   unfold Vl.get
   rw [hfd]
   have hr':d'.read v.file (posOf o n).off (ndSize (posOf o n).len)=(0,ndBytes n):=hr
   simp only [ne_eq,not_true_eq_false,if_false,hr',hget]
   rw [if_neg (fun e=>e rfl)]
  unfold takeOne
  have hg2:(posOf o n).gone=false:=hg'
  rw [hg2,if_neg (by simp)]
  have e1:(posOf o n).key=key':=hk'
  have e2:(posOf o n).cookie=n.cookie:=rfl
  rw [e1,e2,hgt]
  simp
theorem ixAt_zero(l:List Ps):ixAt l 0=0:=by
 cases l with
 | nil=>rfl
 | cons a r=>simp [ixAt]
theorem keys_zero(v:Vl){m:Int}(hm:1≤m)(h:v.idx.length≤m.toNat):v.keys 0 m=v.idx:=by
 unfold Vl.keys
 rw [if_neg (by omega),ixAt_zero,List.drop_zero,List.take_of_length_le h]
end Go.Proofs.YtfpjfoajonbndaaGreatDoor
