import Derived.Test.YtfpjfoajonbndaaGreatDoorCh1
import Derived.Test.YtfpjfoajonbndaaGreatDoorDiskPlain
import Derived.Test.YtfpjfoajonbndaaGreatDoorCh10
namespace Go.Proofs.YtfpjfoajonbndaaGreatDoor
theorem numAt_eq{a b:List UInt8}{i k m:Nat}(h:a.take m=b.take m)(hm:i+k≤m):numAt a i k=numAt b i k:=by
 have e:∀ l:List UInt8,(l.drop i).take k=((l.take m).take (i+k)).drop i:=fun l=>by
  rw [List.take_take,Nat.min_eq_left hm,List.drop_take,Nat.add_sub_cancel_left]
 unfold numAt
 rw [e a,e b,h]
theorem xorAt_zero(l:List UInt8)(i:Nat):xorAt l i 0=l:=by
 unfold xorAt
 rw [UInt8.xor_zero]
 refine List.ext_getElem? fun j=>?_
 rw [List.getElem?_set]
 split
 ·rename_i h
  subst h
  split
  ·rename_i h2
   rw [List.getElem?_eq_getElem h2]
   rfl
  ·rename_i h2
   rw [List.getElem?_eq_none (by omega)]
 ·rfl
theorem xorAt_snoc(l:List UInt8)(c x:UInt8):xorAt (l ++ [c]) l.length x=l ++ [c ^^^ x]:=by
 unfold xorAt
 rw [List.set_append_right _ _ (Nat.le_refl _)]
 simp
theorem xor_turned{c x:UInt8}(h:x≠0):c≠c ^^^ x:=fun e=>h (by
 have:=congrArg (fun y=>c ^^^ y) e
 simp only [←UInt8.xor_assoc,UInt8.xor_self,UInt8.zero_xor] at this
 exact this.symm)
theorem ndBytes_at(n:Nd):numAt (ndBytes n) 20 4=n.data.length % 256 ^ 4:=by
 have eb:ndBytes n=ndHead n ++ (le 4 (ndSum n) ++ List.replicate 4 0 ++ n.data ++ List.replicate (padN n.data.length) 0):=by simp [ndBytes]
 rw [eb]
 exact (ndHead_parts n _).2.2.2.2
theorem ndGet_short{t:List UInt8}{n:Nd}(hd:n.data.length≤4096)(h:t.take 32=(ndBytes n).take 32)(hl:t.length<ndSize n.data.length):(ndGet t).1≠0:=by
 have e:numAt t 20 4=n.data.length:=by
  rw [numAt_eq h (by omega),ndBytes_at]
  exact Nat.mod_eq_of_lt (Nat.lt_of_le_of_lt hd (by decide))
 unfold ndGet
 split
 ·simp
 split
 ·simp
 rw [e,if_pos hl]
 simp
theorem torn{n:Nd}(h:NdOk n)(k:Nat)(x:UInt8)(hk:k≤(ndBytes n).length){t:List UInt8}(ht:t=if 0<k then xorAt ((ndBytes n).take k) (k - 1) x else []):t=[]∨t=ndBytes n∨(ndGet t).1≠0:=by
 obtain ⟨hk8,hc,hd,hg⟩:=h
 have hl:=ndBytes_len n
 by_cases h0:0<k
 case neg=>rw [if_neg h0] at ht;exact .inl ht
 rw [if_pos h0] at ht
 have htl:t.length=k:=by rw [ht,xorAt_len,List.length_take];omega
 by_cases h32:k<32
 ·exact .inr (.inr (by unfold ndGet;rw [if_pos (by omega)];simp))
 have hmod:n.data.length % 256 ^ 4=n.data.length:=Nat.mod_eq_of_lt (Nat.lt_of_le_of_lt hd (by decide))
 by_cases hx:x=0
 ·subst hx
  rw [xorAt_zero] at ht
  by_cases hf:k=(ndBytes n).length
  ·exact .inr (.inl (by rw [ht,hf,List.take_length]))
  ·refine .inr (.inr (ndGet_short hd ?_ (by omega)))
   rw [ht,List.take_take,Nat.min_eq_left (by omega)]
 refine .inr (.inr ?_)
 have e32:32<k→t.take 32=(ndBytes n).take 32:=fun hlt=>by
  rw [ht]
  unfold xorAt
  rw [List.take_set_of_le (by omega),List.take_take,Nat.min_eq_left (by omega)]
 by_cases hf:k=(ndBytes n).length
 case neg=>
  by_cases h33:k=32
  ·-- the last byte is the field's
   have eN:ndBytes n=((ndHead n ++ le 4 (ndSum n) ++ [0,0,0]) ++ [0]) ++ (n.data ++ List.replicate (padN n.data.length) 0):=by
    simp [ndBytes]
   have lA:(ndHead n ++ le 4 (ndSum n) ++ [0,0,0]).length=31:=by simp [ndHead_len,le_len]
   have e2:(ndBytes n).take 32=(ndHead n ++ le 4 (ndSum n) ++ [0,0,0]) ++ [0]:=by
    rw [eN]
    exact List.take_left' (by simp [ndHead_len,le_len])
   have e3:t=(ndHead n ++ le 4 (ndSum n) ++ [0,0,0]) ++ [x]:=by
    have h1:=xorAt_snoc (ndHead n ++ le 4 (ndSum n) ++ [0,0,0]) 0 x
    rw [lA,UInt8.zero_xor] at h1
    rw [ht,h33,e2]
    exact h1
   have e4:numAt t 28 4=leNat [0,0,0,x]:=by
    have:t=(ndHead n ++ le 4 (ndSum n)) ++ [0,0,0,x] ++ []:=by rw [e3];simp
    rw [this]
    exact numAt_mid (by simp [ndHead_len,le_len]) rfl
   have hx0:x.toNat≠0:=fun e=>hx (UInt8.toNat_inj.1 e)
   have e5:numAt t 28 4≠0:=by
    rw [e4]
    simp [leNat]
    omega
   unfold ndGet
   rw [if_neg (by omega),if_pos (.inr (.inr (.inl e5)))]
   simp
  ·exact ndGet_short hd (e32 (by omega)) (by omega)
 -- the whole needle,its last byte turned
 rw [hf,List.take_length] at ht
 by_cases hp:padN n.data.length=0
 ·by_cases hz:n.data.length=0
  ·-- no data: the last byte is the field's
   have hde:n.data=[]:=List.eq_nil_of_length_eq_zero hz
   have eN:ndBytes n=(ndHead n ++ le 4 (ndSum n) ++ [0,0,0]) ++ [0]:=by
    have:ndBytes n=ndHead n ++ le 4 (ndSum n) ++ List.replicate 4 0:=by
     unfold ndBytes
     rw [hp,hde]
     simp
    rw [this]
    simp
   have lA:(ndHead n ++ le 4 (ndSum n) ++ [0,0,0]).length=31:=by simp [ndHead_len,le_len]
   have e3:t=(ndHead n ++ le 4 (ndSum n) ++ [0,0,0]) ++ [x]:=by
    have h1:=xorAt_snoc (ndHead n ++ le 4 (ndSum n) ++ [0,0,0]) 0 x
    rw [lA,UInt8.zero_xor] at h1
    have e9:((ndHead n ++ le 4 (ndSum n) ++ [0,0,0]) ++ [(0:UInt8)]).length - 1=31:=by simp [ndHead_len,le_len]
    rw [ht,eN,e9]
    exact h1
   have e4:numAt t 28 4=leNat [0,0,0,x]:=by
    have:t=(ndHead n ++ le 4 (ndSum n)) ++ [0,0,0,x] ++ []:=by rw [e3];simp
    rw [this]
    exact numAt_mid (by simp [ndHead_len,le_len]) rfl
   have hx0:x.toNat≠0:=fun e=>hx (UInt8.toNat_inj.1 e)
   have e5:numAt t 28 4≠0:=by
    rw [e4]
    simp [leNat]
    omega
   unfold ndGet
   rw [if_neg (by omega),if_pos (.inr (.inr (.inl e5)))]
   simp
  ·-- the last byte of the data
   have h33:32<k:=by rw [hf,hl];unfold ndSize;omega
   have hne:n.data≠[]:=fun e=>hz (by rw [e];rfl)
   obtain ⟨D,c,hD⟩:∃ D c,n.data=D ++ [c]:=⟨n.data.dropLast,n.data.getLast hne,(List.dropLast_concat_getLast hne).symm⟩
   obtain ⟨H,hH⟩:∃ H,H=ndHead n ++ le 4 (ndSum n) ++ List.replicate 4 0:=⟨_,rfl⟩
   have lH:H.length=32:=by rw [hH];simp [ndHead_len,le_len]
   have eN:ndBytes n=(H ++ D) ++ [c]:=by
    have:ndBytes n=H ++ n.data:=by unfold ndBytes;rw [hp,hH];simp
    rw [this,hD,List.append_assoc]
   have e3:t=H ++ (D ++ [c ^^^ x]):=by
    rw [ht,eN]
    rw [show ((H ++ D) ++ [c]).length - 1=(H ++ D).length by simp,xorAt_snoc,List.append_assoc]
   have hdl:n.data.length=D.length+1:=by rw [hD];simp
   have n20:numAt t 20 4=n.data.length:=by rw [numAt_eq (e32 h33) (by omega),ndBytes_at,hmod]
   have hsm:ndSum n<256 ^ 4:=by
    have:=(sumMore (sumOf (ndHead n)) n.data).toNat_lt
    unfold ndSum
    omega
   have n24:numAt t 24 4=ndSum n:=by
    have:t=ndHead n ++ le 4 (ndSum n) ++ (List.replicate 4 0 ++ (D ++ [c ^^^ x])):=by rw [e3,hH];simp
    rw [this,numAt_mid (ndHead_len n) (le_len _ _),leNat_le,Nat.mod_eq_of_lt hsm]
   have t24:t.take 24=ndHead n:=by
    have:t=ndHead n ++ (le 4 (ndSum n) ++ List.replicate 4 0 ++ (D ++ [c ^^^ x])):=by rw [e3,hH];simp
    rw [this,←ndHead_len n,List.take_left]
   have d32:(t.drop 32).take n.data.length=D ++ [c ^^^ x]:=by
    rw [e3,←lH,List.drop_left,hdl]
    exact List.take_of_length_le (by simp)
   have hne2:numAt t 24 4≠(sumMore (sumOf (t.take 24)) ((t.drop 32).take (numAt t 20 4))).toNat:=by
    rw [n24,t24,n20,d32]
    unfold ndSum
    rw [hD]
    intro e
    exact sum_turned D [] (xor_turned hx) (UInt32.toNat_inj.1 e)
   unfold ndGet
   repeat' split
   all_goals first|(simp;done)|(exact absurd hne2 (by assumption))
 ·-- the last byte of the padding
  have h33:32<k:=by rw [hf,hl];unfold ndSize;omega
  obtain ⟨p,hpp⟩:∃ p,padN n.data.length=p+1:=⟨padN n.data.length - 1,by omega⟩
  obtain ⟨H,hH⟩:∃ H,H=ndHead n ++ le 4 (ndSum n) ++ List.replicate 4 0 ++ n.data:=⟨_,rfl⟩
  have lH:H.length=32+n.data.length:=by rw [hH];simp [ndHead_len,le_len];omega
  have eN:ndBytes n=(H ++ List.replicate p 0) ++ [0]:=by
   unfold ndBytes
   rw [hpp,hH,List.append_assoc _ (List.replicate p 0),←List.replicate_succ']
  have e3:t=H ++ (List.replicate p 0 ++ [x]):=by
   have h1:=xorAt_snoc (H ++ List.replicate p 0) 0 x
   rw [UInt8.zero_xor] at h1
   have e9:((H ++ List.replicate p 0) ++ [(0:UInt8)]).length - 1=(H ++ List.replicate p 0).length:=by simp
   rw [ht,eN,e9,h1,List.append_assoc]
  have n20:numAt t 20 4=n.data.length:=by rw [numAt_eq (e32 h33) (by omega),ndBytes_at,hmod]
  have hany:((t.drop (32+numAt t 20 4)).take (padN (numAt t 20 4))).any (fun c=>c != 0)=true:=by
   rw [n20,hpp,e3,←lH,List.drop_left,List.take_of_length_le (by simp)]
   rw [List.any_append]
   simp [hx]
  unfold ndGet
  repeat' split
  all_goals first|(simp;done)|(exact absurd hany (by assumption))
section
variable {x:Dk} {k:Nat}
end
structure Ends (c:Dk) (v:Vl) (ns:List Nd) (t:List UInt8):Prop where
 opens:Opens c v ns t
 armed:c.armed = -1
 gen:v.gen=1
 names:(c.now.map (·.1)).Perm [v.file,mName v.num]∨(c.now.map (·.1)).Perm [v.file,mName v.num,sName v.num]
structure Parts (x:Dk) (v:Vl) (ns:List Nd) (f g:Nat):Prop where
 fg:f≠g
 len:x.now.length=2
 gf:dirGet x.now v.file=some f
 gg:dirGet x.now (mName v.num)=some g
 bf:(x.fileAt f).b=superB v.num 1 ++ ndsB ns
 bg:(x.fileAt g).b=manB v.num 1 v.epoch v.shut
 lf:f<x.files.length
 lg:g<x.files.length
 two:x.now=[(v.file,f),(mName v.num,g)]∨x.now=[(mName v.num,g),(v.file,f)]
theorem VD.parts{x:Dk}{v:Vl}{ns:List Nd}(h:VD x v ns):∃ f g,Parts x v ns f g:=by
 obtain ⟨g,hg,hgb⟩:=h.man
 obtain ⟨f,g',hfg,hl,hf,hg',hfb,hgb'⟩:=h.vi.now
 obtain rfl:g=g':=Option.some.inj (hg.symm.trans hg')
 exact ⟨f,g,hfg,hl,hf,hg,hfb,hgb,fileAt_lt (by rw [hfb];intro e;have:=congrArg List.length e;rw [List.length_append,superB_len] at this;simp at this),
  fileAt_lt (by intro e;rw [e] at hgb';simp at hgb'),two_mem hl hf hg (v_ne_m _ _ _)⟩
theorem Parts.perm{x:Dk}{v:Vl}{ns:List Nd}{f g:Nat}(h:Parts x v ns f g):(x.now.map (·.1)).Perm [v.file,mName v.num]:=by
 rcases h.two with e|e <;> rw [e]
 ·exact List.Perm.refl _
 ·exact List.Perm.swap _ _ _
theorem Parts.noS{x:Dk}{v:Vl}{ns:List Nd}{f g:Nat}(h:Parts x v ns f g):∀ p∈x.now,p.1≠sName v.num:=fun p hp=>by
 have hvs:v.file≠sName v.num:=v_ne_s _ _ _
 have hsm:=s_ne_m v.num
 rcases h.two with e|e <;> rw [e] at hp <;> simp only [List.mem_cons,List.not_mem_nil,or_false] at hp <;> rcases hp with rfl|rfl
 ·exact hvs
 ·exact fun e=>hsm e.symm
 ·exact fun e=>hsm e.symm
 ·exact hvs
theorem Ends.rest{x:Dk}{v:Vl}{ns:List Nd}(h:VD x v ns):Ends x v ns []:=by
 obtain ⟨f,g,hp⟩:=h.parts
 exact ⟨h.opens,h.vi.armed,h.vi.gen,.inl hp.perm⟩
end Go.Proofs.YtfpjfoajonbndaaGreatDoor
