namespace Go.Proofs.YtfpjfoajonbndaaGreatDoor
def sumTab:List UInt32:=[0x00000000,0x105EC76F,0x20BD8EDE,0x30E349B1,0x417B1DBC,0x5125DAD3,0x61C69362,0x7198540D,
 0x82F63B78,0x92A8FC17,0xA24BB5A6,0xB21572C9,0xC38D26C4,0xD3D3E1AB,0xE330A81A,0xF36E6F75]
def nib (n:UInt32):UInt32:=sumTab.getD (n.toNat % 16) 0 ^^^ n >>> 4
def sumStep (s:UInt32) (c:UInt8):UInt32:=nib (nib (s ^^^ c.toUInt32))
def sumRun (s:UInt32) (b:List UInt8):UInt32:=b.foldl sumStep s
def sumMore (s:UInt32) (b:List UInt8):UInt32 := ~~~ sumRun (~~~ s) b
def sumOf (b:List UInt8):UInt32:=sumMore 0 b
theorem sumRun_append(s:UInt32)(a b:List UInt8):sumRun s (a ++ b)=sumRun (sumRun s a) b:=List.foldl_append
theorem sumMore_append(s:UInt32)(a b:List UInt8):sumMore (sumMore s a) b=sumMore s (a ++ b):=by
 unfold sumMore
 rw [sumRun_append,UInt32.not_not]
theorem nib_nat(n:UInt32):(nib n).toNat=(sumTab.getD (n.toNat % 16) 0).toNat ^^^ n.toNat / 16:=by
 unfold nib
 rw [UInt32.toNat_xor,UInt32.toNat_shiftRight]
 congr 1
 rw [show UInt32.toNat 4 % 32=4 from rfl,Nat.shiftRight_eq_div_pow]
theorem tab_high:∀ i<16,∀ j<16,(sumTab.getD i 0).toNat / 268435456=(sumTab.getD j 0).toNat / 268435456→i=j:=by decide
theorem xor_div(a b k:Nat):(a ^^^ b) / 2 ^ k=a / 2 ^ k ^^^ b / 2 ^ k:=by
 apply Nat.eq_of_testBit_eq
 intro i
 simp [Nat.testBit_xor,Nat.testBit_div_two_pow]
theorem nib_inj{a b:UInt32}(h:nib a=nib b):a=b:=by
 have h1:=congrArg UInt32.toNat h
 rw [nib_nat,nib_nat] at h1
 have ha:=a.toNat_lt
 have hb:=b.toNat_lt
 have h2:((sumTab.getD (a.toNat % 16) 0).toNat ^^^ a.toNat / 16) / 2 ^ 28=((sumTab.getD (b.toNat % 16) 0).toNat ^^^ b.toNat / 16) / 2 ^ 28:=by rw [h1]
 rw [xor_div,xor_div,Nat.div_eq_of_lt (show a.toNat / 16<2 ^ 28 by omega),Nat.div_eq_of_lt (show b.toNat / 16<2 ^ 28 by omega),Nat.xor_zero,Nat.xor_zero] at h2
 have h3:=tab_high _ (Nat.mod_lt _ (by decide)) _ (Nat.mod_lt _ (by decide)) h2
 rw [h3] at h1
 have h4:a.toNat / 16=b.toNat / 16:=by
  have:=congrArg (fun x=>(sumTab.getD (b.toNat % 16) 0).toNat ^^^ x) h1
  simpa [←Nat.xor_assoc,Nat.xor_self,Nat.zero_xor] using this
 exact UInt32.toNat_inj.1 (by omega)
theorem xor_cancel{a b c:UInt32}(h:a ^^^ c=b ^^^ c):a=b:=by
 have:=congrArg (fun x=>x ^^^ c) h
 simpa [UInt32.xor_assoc,UInt32.xor_self,UInt32.xor_zero] using this
theorem sumStep_inj{s t:UInt32}{c:UInt8}(h:sumStep s c=sumStep t c):s=t:=xor_cancel (nib_inj (nib_inj h))
theorem sumStep_byte{s:UInt32}{c d:UInt8}(h:sumStep s c=sumStep s d):c=d:=by
 have h1:=nib_inj (nib_inj h)
 rw [UInt32.xor_comm s,UInt32.xor_comm s] at h1
 have h2:=xor_cancel h1
 have h3:=congrArg UInt32.toNat h2
 simp only [UInt8.toNat_toUInt32] at h3
 exact UInt8.toNat_inj.1 h3
theorem sumRun_inj{s t:UInt32}:∀ {b:List UInt8},sumRun s b=sumRun t b→s=t
 | [],h=>h
 | c :: r,h=>sumStep_inj (sumRun_inj (b:=r) h)
theorem sum_turned{s:UInt32}(a:List UInt8){c d:UInt8}(r:List UInt8)(h:c≠d):sumMore s (a ++ c :: r)≠sumMore s (a ++ d :: r):=fun e=>by
 unfold sumMore at e
 have e1:=UInt32.not_inj.1 e
 rw [sumRun_append,sumRun_append] at e1
 exact h (sumStep_byte (sumRun_inj (b:=r) e1))
structure Nd where
 key:Nat
 cookie:Nat
 gone:Bool
 data:List UInt8
deriving DecidableEq
def nthB (n k:Nat):UInt8:=UInt8.ofNat (n / 256 ^ k)
def le (k n:Nat):List UInt8:=(List.range k).map (nthB n)
def leNat (b:List UInt8):Nat:=b.foldr (fun c n=>c.toNat+256 * n) 0
theorem le_len(k n:Nat):(le k n).length=k:=by simp [le]
theorem le_succ(k n:Nat):le (k+1) n=nthB n 0 :: le k (n / 256):=by
 unfold le
 rw [List.range_succ_eq_map,List.map_cons,List.map_map]
 congr 1
 apply List.map_congr_left
 intro i _
 unfold nthB
 simp only [Function.comp]
 congr 1
 rw [Nat.pow_succ',Nat.div_div_eq_div_mul]
theorem leNat_le:∀ (k n:Nat),leNat (le k n)=n % 256 ^ k
 | 0,n=>by simp [le,leNat,Nat.mod_one]
 | k+1,n=>by
  rw [le_succ]
  show (nthB n 0).toNat+256 * leNat (le k (n / 256))=_
  rw [leNat_le k,Nat.pow_succ',Nat.mod_mul]
  unfold nthB
  simp
theorem leNat_lt:∀ b:List UInt8,leNat b<256 ^ b.length
 | []=>by simp [leNat]
 | c :: r=>by
  have h1:=leNat_lt r
  have h2:=c.toNat_lt
  show c.toNat+256 * leNat r<256 ^ (r.length+1)
  rw [Nat.pow_succ']
  omega
theorem leNat_inj:∀ {a b:List UInt8},a.length=b.length→leNat a=leNat b→a=b
 | [],[],_,_=>rfl
 | [],_ :: _,h,_=>by simp at h
 | _ :: _,[],h,_=>by simp at h
 | c :: r,d :: s,h,e=>by
  have h1:=c.toNat_lt
  have h2:=d.toNat_lt
  have e':c.toNat+256 * leNat r=d.toNat+256 * leNat s:=e
  have e1:c.toNat=d.toNat:=by omega
  have e2:leNat r=leNat s:=by omega
  rw [UInt8.toNat_inj.1 e1,leNat_inj (by simpa using h) e2]
def padN (n:Nat):Nat:=(8 - n % 8) % 8
def ndSize (k:Nat):Nat:=32+k+padN k
def ndMagic:Nat:=0x4E45454C
def ndHead (n:Nd):List UInt8:=le 4 ndMagic ++ le 4 (if n.gone then 1 else 0) ++ le 8 n.key ++ le 4 n.cookie ++ le 4 n.data.length
def ndSum (n:Nd):Nat:=(sumMore (sumOf (ndHead n)) n.data).toNat
def ndBytes (n:Nd):List UInt8:=ndHead n ++ le 4 (ndSum n) ++ List.replicate 4 0 ++ n.data ++ List.replicate (padN n.data.length) 0
def ndCheck (n:Nd):Nat:=if 4096<n.data.length then 2 else if n.gone=true∧0<n.data.length then 1 else 0
theorem ndHead_len(n:Nd):(ndHead n).length=24:=by simp [ndHead,le_len]
theorem ndBytes_len(n:Nd):(ndBytes n).length=ndSize n.data.length:=by simp [ndBytes,ndHead_len,le_len,ndSize];omega
theorem ndSize_le{k:Nat}(h:k≤4096):32≤ndSize k∧ndSize k≤4128:=by unfold ndSize padN;omega
def numAt (b:List UInt8) (at' k:Nat):Nat:=leNat ((b.drop at').take k)
def NdOk (n:Nd):Prop:=n.key<18446744073709551616∧n.cookie<4294967296∧n.data.length≤4096∧(n.gone=true→n.data=[])
def ndGet (b:List UInt8):Nat×Nd×Nat:=
 if b.length<32 then (3,⟨0,0,false,[]⟩,0) else
 if numAt b 0 4≠ndMagic∨1<numAt b 4 4∨numAt b 28 4≠0∨4096<numAt b 20 4∨(numAt b 4 4=1∧0<numAt b 20 4) then (4,⟨0,0,false,[]⟩,0) else
 if b.length<ndSize (numAt b 20 4) then (3,⟨0,0,false,[]⟩,0) else
 if numAt b 24 4≠(sumMore (sumOf (b.take 24)) ((b.drop 32).take (numAt b 20 4))).toNat then (5,⟨0,0,false,[]⟩,0) else
 if ((b.drop (32+numAt b 20 4)).take (padN (numAt b 20 4))).any (fun c=>c != 0)=true then (4,⟨0,0,false,[]⟩,0) else
 (0,⟨numAt b 8 8,numAt b 16 4,numAt b 4 4 == 1,(b.drop 32).take (numAt b 20 4)⟩,ndSize (numAt b 20 4))
theorem numAt_mid{a m r:List UInt8}{at' k:Nat}(ha:a.length=at')(hm:m.length=k):numAt (a ++ m ++ r) at' k=leNat m:=by
 subst ha hm
 unfold numAt
 rw [List.append_assoc,List.drop_left,List.take_left]
theorem ndHead_parts(n:Nd)(r:List UInt8):numAt (ndHead n ++ r) 0 4=ndMagic∧numAt (ndHead n ++ r) 4 4=(if n.gone then 1 else 0)∧numAt (ndHead n ++ r) 8 8=n.key % 256 ^ 8∧numAt (ndHead n ++ r) 16 4=n.cookie % 256 ^ 4∧numAt (ndHead n ++ r) 20 4=n.data.length % 256 ^ 4:=by
 have e1:ndHead n ++ r=[] ++ le 4 ndMagic ++ (le 4 (if n.gone then 1 else 0) ++ le 8 n.key ++ le 4 n.cookie ++ le 4 n.data.length ++ r):=by simp [ndHead]
 have e2:ndHead n ++ r=le 4 ndMagic ++ le 4 (if n.gone then 1 else 0) ++ (le 8 n.key ++ le 4 n.cookie ++ le 4 n.data.length ++ r):=by simp [ndHead]
 have e3:ndHead n ++ r=(le 4 ndMagic ++ le 4 (if n.gone then 1 else 0)) ++ le 8 n.key ++ (le 4 n.cookie ++ le 4 n.data.length ++ r):=by simp [ndHead]
 have e4:ndHead n ++ r=(le 4 ndMagic ++ le 4 (if n.gone then 1 else 0) ++ le 8 n.key) ++ le 4 n.cookie ++ (le 4 n.data.length ++ r):=by simp [ndHead]
 have e5:ndHead n ++ r=(le 4 ndMagic ++ le 4 (if n.gone then 1 else 0) ++ le 8 n.key ++ le 4 n.cookie) ++ le 4 n.data.length ++ r:=by simp [ndHead]
 refine ⟨?_,?_,?_,?_,?_⟩
 ·rw [e1,numAt_mid (by simp) (le_len _ _),leNat_le];rfl
 ·rw [e2,numAt_mid (le_len _ _) (le_len _ _),leNat_le];split <;> rfl
 ·rw [e3,numAt_mid (by simp [le_len]) (le_len _ _),leNat_le]
 ·rw [e4,numAt_mid (by simp [le_len]) (le_len _ _),leNat_le]
 ·rw [e5,numAt_mid (by simp [le_len]) (le_len _ _),leNat_le]
theorem ndGet_put{n:Nd}(h:NdOk n)(r:List UInt8):ndGet (ndBytes n ++ r)=(0,n,ndSize n.data.length):=by
 obtain ⟨hk,hc,hd,hg⟩:=h
 have hl:=ndBytes_len n
 have hs:=ndSize_le hd
 have eb:ndBytes n ++ r=ndHead n ++ (le 4 (ndSum n) ++ List.replicate 4 0 ++ n.data ++ List.replicate (padN n.data.length) 0 ++ r):=by simp [ndBytes]
 obtain ⟨p1,p2,p3,p4,p5⟩:=ndHead_parts n (le 4 (ndSum n) ++ List.replicate 4 0 ++ n.data ++ List.replicate (padN n.data.length) 0 ++ r)
 rw [←eb] at p1 p2 p3 p4 p5
 have p3':numAt (ndBytes n ++ r) 8 8=n.key:=by rw [p3];exact Nat.mod_eq_of_lt (by simpa using hk)
 have p4':numAt (ndBytes n ++ r) 16 4=n.cookie:=by rw [p4];exact Nat.mod_eq_of_lt (by simpa using hc)
 have p5':numAt (ndBytes n ++ r) 20 4=n.data.length:=by rw [p5];exact Nat.mod_eq_of_lt (Nat.lt_of_le_of_lt hd (by decide))
 have hsm:ndSum n<256 ^ 4:=by
  have:=(sumMore (sumOf (ndHead n)) n.data).toNat_lt
  unfold ndSum
  omega
 have p6:numAt (ndBytes n ++ r) 24 4=ndSum n:=by
  have e:ndBytes n ++ r=ndHead n ++ le 4 (ndSum n) ++ (List.replicate 4 0 ++ n.data ++ List.replicate (padN n.data.length) 0 ++ r):=by simp [ndBytes]
  rw [e,numAt_mid (ndHead_len n) (le_len _ _),leNat_le,Nat.mod_eq_of_lt hsm]
 have p7:numAt (ndBytes n ++ r) 28 4=0:=by
  have e:ndBytes n ++ r=(ndHead n ++ le 4 (ndSum n)) ++ List.replicate 4 0 ++ (n.data ++ List.replicate (padN n.data.length) 0 ++ r):=by simp [ndBytes]
  rw [e,numAt_mid (by simp [ndHead_len,le_len]) (by simp)]
  rfl
 have t24:(ndBytes n ++ r).take 24=ndHead n:=by
  rw [eb,←ndHead_len n,List.take_left]
 have d32:(ndBytes n ++ r).drop 32=n.data ++ (List.replicate (padN n.data.length) 0 ++ r):=by
  have e:ndBytes n ++ r=(ndHead n ++ le 4 (ndSum n) ++ List.replicate 4 0) ++ (n.data ++ (List.replicate (padN n.data.length) 0 ++ r)):=by simp [ndBytes]
  have l:(ndHead n ++ le 4 (ndSum n) ++ List.replicate 4 0).length=32:=by simp [ndHead_len,le_len]
  rw [e,←l,List.drop_left]
 have dt:((ndBytes n ++ r).drop 32).take n.data.length=n.data:=by rw [d32,List.take_left]
 have dz:((ndBytes n ++ r).drop (32+n.data.length)).take (padN n.data.length)=List.replicate (padN n.data.length) 0:=by
  rw [←List.drop_drop,d32,List.drop_left]
  exact List.take_left' (by simp)
 unfold ndGet
 rw [p1,p2,p3',p4',p5',p6,p7,t24,dt,dz]
 rw [if_neg (by rw [List.length_append,hl];omega),if_neg (by
  cases hgn:n.gone with
  | true=>simp [hg hgn]
  | false=>simp;omega),if_neg (by rw [List.length_append,hl];omega),if_neg (by unfold ndSum;simp),if_neg (by simp)]
 obtain ⟨key,cookie,gone,data⟩:=n
 cases gone <;> simp
end Go.Proofs.YtfpjfoajonbndaaGreatDoor
