import Derived.Test.YtfpjfoajonbndaaGreatDoorCa1
import Derived.Test.YtfpjfoajonbndaaGreatDoorDiskPlain
import Derived.Test.YtfpjfoajonbndaaGreatDoorCaMadeR10
import Derived.Test.YtfpjfoajonbndaaGreatDoorCaCkptK
import Derived.Test.YtfpjfoajonbndaaGreatDoorCaShipMadeL
import Derived.Test.YtfpjfoajonbndaaGreatDoorCaLaw09s
import Derived.Test.YtfpjfoajonbndaaGreatDoorCa10
import Derived.Test.YtfpjfoajonbndaaGreatDoorCaDiskNames
import Derived.Test.YtfpjfoajonbndaaGreatDoorCa18
import Derived.Test.YtfpjfoajonbndaaGreatDoorCa23
import Derived.Test.YtfpjfoajonbndaaGreatDoorCa25
import Derived.Test.YtfpjfoajonbndaaGreatDoorCa26
namespace Go.Proofs.YtfpjfoajonbndaaGreatDoor
set_option maxHeartbeats 8000000
set_option maxRecDepth 100000
open Go.RowKit
theorem belCaCkptAgain {B:Nat} {w w2:World} (h:Go.RowKit.Below B w w2:=by repeat (first|(with_reducible first|exact .refl _ _|refine .setCell ?_ ?_ _|refine .alloc ?_ ?_ _|refine .drewN ?_ _|refine .drew ?_|exact Nat.le_refl _)|(focus (simp only [World.size_alloc,World.size_setCell,World.size_drew,World.size_drewN];omega))|omega|exact Nat.le_refl _|(focus (simp;done))|(focus (simp;omega)))):Go.RowKit.Below B w w2:=h
theorem numAt_eq {a b:List UInt8} {i k m:Nat} (h:a.take m=b.take m) (hm:i+k≤m):numAt a i k=numAt b i k:=by
 have e:∀ l:List UInt8,(l.drop i).take k=((l.take m).take (i+k)).drop i:=fun l=>by
  rw [List.take_take,Nat.min_eq_left hm,List.drop_take,Nat.add_sub_cancel_left]
 unfold numAt
 rw [e a,e b,h]
theorem xorAt_zero (l:List UInt8) (i:Nat):xorAt l i 0=l:=by
 unfold xorAt
 rw [UInt8.xor_zero]
 refine List.ext_getElem? fun j=>?_
 rw [List.getElem?_set]
 split
 ·rename_i h
  subst h
  split
  ·rename_i h2
   rw [List.getElem?_eq_getElem h2]
   rfl
  ·rename_i h2
   rw [List.getElem?_eq_none (by omega)]
 ·rfl
theorem xorAt_snoc (l:List UInt8) (c x:UInt8):xorAt (l ++ [c]) l.length x=l ++ [c ^^^ x]:=by
 unfold xorAt
 rw [List.set_append_right _ _ (Nat.le_refl _)]
 simp
theorem xor_turned {c x:UInt8} (h:x≠0):c≠c ^^^ x:=fun e=>h (by
 have:=congrArg (fun y=>c ^^^ y) e
 simp only [←UInt8.xor_assoc,UInt8.xor_self,UInt8.zero_xor] at this
 exact this.symm)
theorem ndBytes_at (n:Nd):numAt (ndBytes n) 20 4=n.data.length % 256 ^ 4:=by
 have eb:ndBytes n=ndHead n ++ (le 4 (ndSum n) ++ List.replicate 4 0 ++ n.data ++ List.replicate (padN n.data.length) 0):=by simp [ndBytes]
 rw [eb]
 exact (ndHead_parts n _).2.2.2.2
theorem ndGet_short {t:List UInt8} {n:Nd} (hd:n.data.length≤4096) (h:t.take 32=(ndBytes n).take 32) (hl:t.length<ndSize n.data.length):(ndGet t).1≠0:=by
 have e:numAt t 20 4=n.data.length:=by
  rw [numAt_eq h (by omega),ndBytes_at]
  exact Nat.mod_eq_of_lt (Nat.lt_of_le_of_lt hd (by decide))
 unfold ndGet
 split
 ·simp
 split
 ·simp
 rw [e,if_pos hl]
 simp
theorem torn {n:Nd} (h:NdOk n) (k:Nat) (x:UInt8) (hk:k≤(ndBytes n).length) {t:List UInt8} (ht:t=if 0<k then xorAt ((ndBytes n).take k) (k - 1) x else []):t=[]∨t=ndBytes n∨(ndGet t).1≠0:=by
 obtain ⟨hk8,hc,hd,hg⟩:=h
 have hl:=ndBytes_len n
 by_cases h0:0<k
 case neg=>rw [if_neg h0] at ht;exact .inl ht
 rw [if_pos h0] at ht
 have htl:t.length=k:=by rw [ht,xorAt_len,List.length_take];omega
 by_cases h32:k<32
 ·exact .inr (.inr (by unfold ndGet;rw [if_pos (by omega)];simp))
 have hmod:n.data.length % 256 ^ 4=n.data.length:=Nat.mod_eq_of_lt (Nat.lt_of_le_of_lt hd (by decide))
 by_cases hx:x=0
 ·subst hx
  rw [xorAt_zero] at ht
  by_cases hf:k=(ndBytes n).length
  ·exact .inr (.inl (by rw [ht,hf,List.take_length]))
  ·refine .inr (.inr (ndGet_short hd ?_ (by omega)))
   rw [ht,List.take_take,Nat.min_eq_left (by omega)]
 refine .inr (.inr ?_)
 have e32:32<k→t.take 32=(ndBytes n).take 32:=fun hlt=>by
  rw [ht]
  unfold xorAt
  rw [List.take_set_of_le (by omega),List.take_take,Nat.min_eq_left (by omega)]
 by_cases hf:k=(ndBytes n).length
 case neg=>
  by_cases h33:k=32
  ·-- the last byte is the field's
   have eN:ndBytes n=((ndHead n ++ le 4 (ndSum n) ++ [0,0,0]) ++ [0]) ++ (n.data ++ List.replicate (padN n.data.length) 0):=by
    simp [ndBytes]
   have lA:(ndHead n ++ le 4 (ndSum n) ++ [0,0,0]).length=31:=by simp [ndHead_len,le_len]
   have e2:(ndBytes n).take 32=(ndHead n ++ le 4 (ndSum n) ++ [0,0,0]) ++ [0]:=by
    rw [eN]
    exact List.take_left' (by simp [ndHead_len,le_len])
   have e3:t=(ndHead n ++ le 4 (ndSum n) ++ [0,0,0]) ++ [x]:=by
    have h1:=xorAt_snoc (ndHead n ++ le 4 (ndSum n) ++ [0,0,0]) 0 x
    rw [lA,UInt8.zero_xor] at h1
    rw [ht,h33,e2]
    exact h1
   have e4:numAt t 28 4=leNat [0,0,0,x]:=by
    have:t=(ndHead n ++ le 4 (ndSum n)) ++ [0,0,0,x] ++ []:=by rw [e3];simp
    rw [this]
    exact numAt_mid (by simp [ndHead_len,le_len]) rfl
   have hx0:x.toNat≠0:=fun e=>hx (UInt8.toNat_inj.1 e)
   have e5:numAt t 28 4≠0:=by
    rw [e4]
    simp [leNat]
    omega
   unfold ndGet
   rw [if_neg (by omega),if_pos (.inr (.inr (.inl e5)))]
   simp
  ·exact ndGet_short hd (e32 (by omega)) (by omega)
 -- the whole needle,its last byte turned
 rw [hf,List.take_length] at ht
 by_cases hp:padN n.data.length=0
 ·by_cases hz:n.data.length=0
  ·-- no data: the last byte is the field's
   have hde:n.data=[]:=List.eq_nil_of_length_eq_zero hz
   have eN:ndBytes n=(ndHead n ++ le 4 (ndSum n) ++ [0,0,0]) ++ [0]:=by
    have:ndBytes n=ndHead n ++ le 4 (ndSum n) ++ List.replicate 4 0:=by
     unfold ndBytes
     rw [hp,hde]
     simp
    rw [this]
    simp
   have lA:(ndHead n ++ le 4 (ndSum n) ++ [0,0,0]).length=31:=by simp [ndHead_len,le_len]
   have e3:t=(ndHead n ++ le 4 (ndSum n) ++ [0,0,0]) ++ [x]:=by
    have h1:=xorAt_snoc (ndHead n ++ le 4 (ndSum n) ++ [0,0,0]) 0 x
    rw [lA,UInt8.zero_xor] at h1
    have e9:((ndHead n ++ le 4 (ndSum n) ++ [0,0,0]) ++ [(0:UInt8)]).length - 1=31:=by simp [ndHead_len,le_len]
    rw [ht,eN,e9]
    exact h1
   have e4:numAt t 28 4=leNat [0,0,0,x]:=by
    have:t=(ndHead n ++ le 4 (ndSum n)) ++ [0,0,0,x] ++ []:=by rw [e3];simp
    rw [this]
    exact numAt_mid (by simp [ndHead_len,le_len]) rfl
   have hx0:x.toNat≠0:=fun e=>hx (UInt8.toNat_inj.1 e)
   have e5:numAt t 28 4≠0:=by
    rw [e4]
    simp [leNat]
    omega
   unfold ndGet
   rw [if_neg (by omega),if_pos (.inr (.inr (.inl e5)))]
   simp
  ·-- the last byte of the data
   have h33:32<k:=by rw [hf,hl];unfold ndSize;omega
   have hne:n.data≠[]:=fun e=>hz (by rw [e];rfl)
   obtain ⟨D,c,hD⟩:∃ D c,n.data=D ++ [c]:=⟨n.data.dropLast,n.data.getLast hne,(List.dropLast_concat_getLast hne).symm⟩
   obtain ⟨H,hH⟩:∃ H,H=ndHead n ++ le 4 (ndSum n) ++ List.replicate 4 0:=⟨_,rfl⟩
   have lH:H.length=32:=by rw [hH];simp [ndHead_len,le_len]
   have eN:ndBytes n=(H ++ D) ++ [c]:=by
    have:ndBytes n=H ++ n.data:=by unfold ndBytes;rw [hp,hH];simp
    rw [this,hD,List.append_assoc]
   have e3:t=H ++ (D ++ [c ^^^ x]):=by
    rw [ht,eN]
    rw [show ((H ++ D) ++ [c]).length - 1=(H ++ D).length by simp,xorAt_snoc,List.append_assoc]
   have hdl:n.data.length=D.length+1:=by rw [hD];simp
   have n20:numAt t 20 4=n.data.length:=by rw [numAt_eq (e32 h33) (by omega),ndBytes_at,hmod]
   have hsm:ndSum n<256 ^ 4:=by
    have:=(sumMore (sumOf (ndHead n)) n.data).toNat_lt
    unfold ndSum
    omega
   have n24:numAt t 24 4=ndSum n:=by
    have:t=ndHead n ++ le 4 (ndSum n) ++ (List.replicate 4 0 ++ (D ++ [c ^^^ x])):=by rw [e3,hH];simp
    rw [this,numAt_mid (ndHead_len n) (le_len _ _),leNat_le,Nat.mod_eq_of_lt hsm]
   have t24:t.take 24=ndHead n:=by
    have:t=ndHead n ++ (le 4 (ndSum n) ++ List.replicate 4 0 ++ (D ++ [c ^^^ x])):=by rw [e3,hH];simp
    rw [this,←ndHead_len n,List.take_left]
   have d32:(t.drop 32).take n.data.length=D ++ [c ^^^ x]:=by
    rw [e3,←lH,List.drop_left,hdl]
    exact List.take_of_length_le (by simp)
   have hne2:numAt t 24 4≠(sumMore (sumOf (t.take 24)) ((t.drop 32).take (numAt t 20 4))).toNat:=by
    rw [n24,t24,n20,d32]
    unfold ndSum
    rw [hD]
    intro e
    exact sum_turned D [] (xor_turned hx) (UInt32.toNat_inj.1 e)
   unfold ndGet
   repeat' split
   all_goals first|(simp;done)|(exact absurd hne2 (by assumption))
 ·-- the last byte of the padding
  have h33:32<k:=by rw [hf,hl];unfold ndSize;omega
  obtain ⟨p,hpp⟩:∃ p,padN n.data.length=p+1:=⟨padN n.data.length - 1,by omega⟩
  obtain ⟨H,hH⟩:∃ H,H=ndHead n ++ le 4 (ndSum n) ++ List.replicate 4 0 ++ n.data:=⟨_,rfl⟩
  have lH:H.length=32+n.data.length:=by rw [hH];simp [ndHead_len,le_len];omega
  have eN:ndBytes n=(H ++ List.replicate p 0) ++ [0]:=by
   unfold ndBytes
   rw [hpp,hH,List.append_assoc _ (List.replicate p 0),←List.replicate_succ']
  have e3:t=H ++ (List.replicate p 0 ++ [x]):=by
   have h1:=xorAt_snoc (H ++ List.replicate p 0) 0 x
   rw [UInt8.zero_xor] at h1
   have e9:((H ++ List.replicate p 0) ++ [(0:UInt8)]).length - 1=(H ++ List.replicate p 0).length:=by simp
   rw [ht,eN,e9,h1,List.append_assoc]
  have n20:numAt t 20 4=n.data.length:=by rw [numAt_eq (e32 h33) (by omega),ndBytes_at,hmod]
  have hany:((t.drop (32+numAt t 20 4)).take (padN (numAt t 20 4))).any (fun c=>c != 0)=true:=by
   rw [n20,hpp,e3,←lH,List.drop_left,List.take_of_length_le (by simp)]
   rw [List.any_append]
   simp [hx]
  unfold ndGet
  repeat' split
  all_goals first|(simp;done)|(exact absurd hany (by assumption))
theorem VK.told {d:Dk} {v:Vl} {ns:List Nd} {X:Nat} (h:VK d v ns X) (key cookie:Nat):(v.get d key cookie).2.1=false:=by
 obtain ⟨f,g,hv,hrd⟩:=h.vi
 rw [←VK.get_two hrd]
 exact hv.told _ _
theorem ldo_vf {w:World} {vp dp K C:Nat} {F:Nat→Prop} {d d2:Dk} {v v2:Vl} {ns:List Nd} {X:Nat} (a:ActE) (h:VF w vp dp F K d v) (hk:VK d v ns X) (hs:v.size≤1000000) (hK:K+4<1099511627776) (hx:NdArg w a.x) (hd:a.x.n.data.length≤1000000000) (ha:v.act d a.act=(C,d2,v2)) (hc:C≤17) :
  Calls Tryz.prog 21 #[(.pointer (some ⟨vp,0,none⟩)),.agg a.cs.toArray] w fun e w'=>∃ (nk nc:Nat) (ng:Bool) (da:Option Addr) (dn dc:Nat) (ka:Option Addr) (kn kc:Nat) (F2:Nat→Prop),e=.returned (.tuple #[.agg #[.int .u64 nk,.int .u32 nc,.bool ng,.slice da dn dc],.slice ka kn kc,.int .i64 C])∧VF w' vp dp F2 (K+4) d2 v2∧(∀ j,F2 j→F j∨w.heap.size≤j)∧KP (fun j=>¬ F j∧j<w.heap.size) w w':=by
 obtain ⟨f,g,hv,-⟩:=hk.vi
 have h9:=ldo_any (P:=fun k=>¬ F k∧k<w.heap.size) a w (h.vs fun k hf e=>e.1 hf) (fun k hk=>hk.2) hK hx hd (fun p hp=>by have h1:=hv.len_le hp;exact ⟨h1.1,by omega⟩) (hk.told _ _) (by rw [ha];exact hc)
 rw [ha] at h9
 refine h9.mono ?_
 rintro e w' ⟨vd,kv,rfl,hvt,hrd,hrk⟩
 obtain ⟨da,dc,rfl⟩:=reads_slice hrd
 obtain ⟨ka,kc,rfl⟩:=reads_slice hrk
 obtain ⟨F2,hf2,hf2n⟩:=hvt.1.foot
 refine ⟨_,_,_,da,_,dc,ka,_,kc,F2,rfl,hf2,fun j hj=>?_,hvt.2⟩
 by_cases hF:F j
 ·exact .inl hF
 ·exact .inr (Nat.le_of_not_lt fun e=>hf2n j hj ⟨hF,e⟩)
def MAt (w:World) (F:Nat→Prop) (MB:Nat) (R:Rv):Prop:=∃ (c0 c1 c2 c3:Int) (c4:Bool) (c5a:Option Addr) (c5n c5c:Nat) (c6a:Option Addr) (c6n c6c:Nat),w.heap[MB]? = some (.cells #[.int .i64 c0,.int .i64 c1,.int .i64 c2,.int .i64 c3,.bool c4,.slice c5a c5n c5c,.slice c6a c6n c6c] 43 (0,0))∧RvIn w (fun k=>¬ F k∧k≠MB) (.agg #[.int .i64 c0,.int .i64 c1,.int .i64 c2,.int .i64 c3,.bool c4,.slice c5a c5n c5c,.slice c6a c6n c6c]) R
theorem MAt.kp {w w':World} {F:Nat→Prop} {MB:Nat} {R:Rv} (h:MAt w F MB R) (hk:KP (fun k=>¬ F k) w w') (hF:¬ F MB):MAt w' F MB R:=by
 obtain ⟨c0,c1,c2,c3,c4,c5a,c5n,c5c,c6a,c6n,c6c,h1,h2⟩:=h
 exact ⟨c0,c1,c2,c3,c4,c5a,c5n,c5c,c6a,c6n,c6c,(hk.block _ (blk_lt h1) (fun e=>e hF)).trans h1,h2.kp (hk.mono fun j _ e=>e.1)⟩
theorem MAt.later {w w':World} {F F2:Nat→Prop} {MB:Nat} {R:Rv} (h:MAt w F MB R) (hF:¬ F MB) (hk:KP (fun j=>¬ F j∧j<w.heap.size) w w') (h2:∀ j,F2 j→F j∨w.heap.size≤j):MAt w' F2 MB R:=by
 obtain ⟨c0,c1,c2,c3,c4,c5a,c5n,c5c,c6a,c6n,c6c,g1,g2⟩:=h
 have hl:=blk_lt g1
 refine ⟨c0,c1,c2,c3,c4,c5a,c5n,c5c,c6a,c6n,c6c,(hk.block _ hl (fun e=>e ⟨hF,hl⟩)).trans g1,?_⟩
 have g3:=g2.wide (Q:=fun k=>(¬ F k∧k≠MB)∧k<w.heap.size) fun j hj hl=>⟨hj,hl⟩
 exact (g3.kp (hk.mono fun j _ e=>⟨e.1.1,e.2⟩)).wide fun j hj _=>⟨fun e=>(h2 j e).elim hj.1.1 (fun e2=>by omega),hj.1.2⟩
theorem rdo_m {wr:World} {F:Nat→Prop} {MB vp dp K:Nat} {d:Dk} {v:Vl} {ns:List Nd} {X:Nat} {c0 c1 c2 c3:Int} {c4:Bool} {c5a:Option Addr} {c5n c5c:Nat} {c6a:Option Addr} {c6n c6c:Nat}
  (hvf:VF wr vp dp F K d v) (hMB:MB<wr.heap.size) (hvk:VK d v ns X) (hrv:RvIn wr (fun k=>¬ F k∧k≠MB) (.agg #[.int .i64 c0,.int .i64 c1,.int .i64 c2,.int .i64 c3,.bool c4,.slice c5a c5n c5c,.slice c6a c6n c6c]) (Rv.of v ns)) (x:ActE) (hx:NdArg wr x.x) (hxb:∀ a,x.x.a=some a→0<x.x.n.data.length→¬ F a.block∧a.block≠MB) (hd:x.x.n.data.length≤300) (hs:v.size≤1000000) (hm:v.most≤1048576) (hn:ns.length≤4096) (w0:World) (hb:Below wr.heap.size wr w0) :
  Calls Tryz.prog 17 #[.agg #[.int .i64 c0,.int .i64 c1,.int .i64 c2,.int .i64 c3,.bool c4,.slice c5a c5n c5c,.slice c6a c6n c6c],.agg x.cs.toArray] w0 fun e w5=>∃ (u0 u1 u2 u3:Int) (u4:Bool) (u5a:Option Addr) (u5n u5c:Nat) (u6a:Option Addr) (u6n u6c:Nat) (nv kv:Value),e=.returned (.tuple #[.agg #[.int .i64 u0,.int .i64 u1,.int .i64 u2,.int .i64 u3,.bool u4,.slice u5a u5n u5c,.slice u6a u6n u6c],nv,kv,.int .i64 ((Rv.of v ns).act x.act).1])∧Below w0.heap.size w0 w5∧RvIn w5 (fun k=>¬ F k∧k≠MB∧(k<wr.heap.size∨w0.heap.size≤k)) (.agg #[.int .i64 u0,.int .i64 u1,.int .i64 u2,.int .i64 u3,.bool u4,.slice u5a u5n u5c,.slice u6a u6n u6c]) ((Rv.of v ns).act x.act).2∧(∃ (y0 y1:Int) (y2:Bool) (ya:Option Addr) (yn yc:Nat),nv=.agg #[.int .u64 y0,.int .u32 y1,.bool y2,.slice ya yn yc])∧∃ (ka:Option Addr) (kn kc:Nat),kv=.slice ka kn kc:=by
 have hF:∀ j,F j→j<wr.heap.size:=hvf.lt
 obtain ⟨f,g,hvi,-⟩:=hvk.vi
 have hz:=hb.size
 have hxp:NdP wr (POld (fun k=>¬ F k∧k≠MB) wr) x.x:=⟨hx,fun ad e hl=>by
  obtain ⟨b,o,c,e2,hb2,_,_⟩:=reads_at hx.data (by omega) (by omega)
  have e3:=(sl_inj e2).1
  rw [e] at e3
  cases e3
  exact ⟨⟨hxb _ e hl,by show b<_;omega⟩,by show b<_;omega⟩⟩
 refine (rdo_any (POld (fun k=>¬ F k∧k≠MB) wr) (Rv.of v ns) _ x w0 ((hrv.wide (Q:=POld (fun k=>¬ F k∧k≠MB) wr) (fun _ hk hs=>⟨hk,hs⟩)).kp (KP.of hb)) (hxp.below hb) (by omega) hvi.srt (by show v.size≤_;omega) (by show v.most≤_;omega) (by show v.idx.length≤_;have:=hvi.len;omega) (by show ns.length≤_;omega)).mono ?_
 rintro e w5 ⟨val,nv,kv,yy,rfl,hin,hb5,hnv,-,-,hrk⟩
 obtain ⟨u0,u1,u2,u3,u4,u5a,u5n,u5c,u6a,u6n,u6c,rfl⟩:=RvIn.agg hin
 obtain ⟨y0,y1,y2,ya,yn,yc,hy⟩:=ndOV_agg yy
 obtain ⟨ka,kc,rfl⟩:=reads_slice hrk
 refine ⟨u0,u1,u2,u3,u4,u5a,u5n,u5c,u6a,u6n,u6c,nv,_,rfl,hb5,hin.wide (fun j hj _=>?_),⟨y0,y1,y2,ya,yn,yc,hnv.trans hy⟩,ka,_,kc,rfl⟩
 rcases hj with hj|hj
 ·exact ⟨hj.1.1,hj.1.2,.inl hj.2⟩
 ·exact ⟨fun e=>by have:=hF j e;omega,by omega,.inr hj⟩
theorem MAt.opened {w:World} {F:Nat→Prop} {MB:Nat} {v:Vl} {ns:List Nd} (h:MAt w F MB (Rv.of v ns)) (hf:v.idx.length≤4096):∃ (num most epoch size:Int) (shut:Bool) (al:Option Addr) (ln cl:Nat) (ad:Option Addr) (dn cd:Nat),ln=v.idx.length∧w.heap[MB]? = some (.cells #[.int .i64 num,.int .i64 most,.int .i64 epoch,.int .i64 size,.bool shut,.slice al ln cl,.slice ad dn cd] 43 (0,0))∧Reads w 5 (.slice al ln cl) ln (v.idx.flatMap psC)∧(∀ x,al=some x→¬ F x.block∧x.block≠MB∧x.block<w.heap.size)∧∀ (w0:World) (vp dp ix:Nat) (vx:Value),VolAt w0 vp dp ix vx v→Reads w0 5 (.slice al ln cl) ln (v.idx.flatMap psC)→Calls Tryz.prog 25 #[(.pointer (some ⟨vp,0,none⟩)),.agg #[.int .i64 num,.int .i64 most,.int .i64 epoch,.int .i64 size,.bool shut,.slice al ln cl,.slice ad dn cd]] w0 fun e w'=>e=.returned (.bool true)∧Below w0.heap.size w0 w':=by
 obtain ⟨c0,c1,c2,c3,c4,c5a,c5n,c5c,c6a,c6n,c6c,h1,al,cl,ad,cd,xs,hval,hat⟩:=h
 have hrl:Reads w 5 (.slice al v.idx.length cl) v.idx.length (v.idx.flatMap psC):=hat.rl
 have hbl:∀ x,al=some x→(¬ F x.block∧x.block≠MB)∧x.block<w.heap.size:=hat.bl
 have hsm:=fun (w0:World) (vp dp ix:Nat) (vx:Value) (hv:VolAt w0 vp dp ix vx v) (hr:Reads w0 5 (.slice al v.idx.length cl) v.idx.length (v.idx.flatMap psC))=>same09_any (ns:=ns) hv al cl ad cd hr hf
 rw [←hval] at hsm
 unfold rvV at hval
 have hl:(Rv.of v ns).l.length=v.idx.length:=rfl
 rw [hl] at hval
 simp only [Value.agg.injEq,Array.mk.injEq,List.cons.injEq,Value.slice.injEq] at hval
 obtain ⟨-,-,-,-,-,⟨rfl,rfl,rfl⟩,-⟩:=hval
 exact ⟨c0,c1,c2,c3,c4,c5a,v.idx.length,c5c,c6a,c6n,c6c,rfl,h1,hrl,fun x e=>⟨(hbl x e).1.1,(hbl x e).1.2,(hbl x e).2⟩,hsm⟩
section
variable {x:Dk} {k:Nat}
end
structure Ends (c:Dk) (v:Vl) (ns:List Nd) (t:List UInt8):Prop where
 opens:Opens c v ns t
 armed:c.armed = -1
 gen:v.gen=1
 names:(c.now.map (·.1)).Perm [v.file,mName v.num]∨(c.now.map (·.1)).Perm [v.file,mName v.num,sName v.num]
structure Parts (x:Dk) (v:Vl) (ns:List Nd) (f g:Nat):Prop where
 fg:f≠g
 len:x.now.length=2
 gf:dirGet x.now v.file=some f
 gg:dirGet x.now (mName v.num)=some g
 bf:(x.fileAt f).b=superB v.num 1 ++ ndsB ns
 bg:(x.fileAt g).b=manB v.num 1 v.epoch v.shut
 lf:f<x.files.length
 lg:g<x.files.length
 two:x.now=[(v.file,f),(mName v.num,g)]∨x.now=[(mName v.num,g),(v.file,f)]
theorem VD.parts {x:Dk} {v:Vl} {ns:List Nd} (h:VD x v ns):∃ f g,Parts x v ns f g:=by
 obtain ⟨g,hg,hgb⟩:=h.man
 obtain ⟨f,g',hfg,hl,hf,hg',hfb,hgb'⟩:=h.vi.now
 obtain rfl:g=g':=Option.some.inj (hg.symm.trans hg')
 exact ⟨f,g,hfg,hl,hf,hg,hfb,hgb,fileAt_lt (by rw [hfb];intro e;have:=congrArg List.length e;rw [List.length_append,superB_len] at this;simp at this),
  fileAt_lt (by intro e;rw [e] at hgb';simp at hgb'),two_mem hl hf hg (v_ne_m _ _ _)⟩
theorem Parts.perm {x:Dk} {v:Vl} {ns:List Nd} {f g:Nat} (h:Parts x v ns f g):(x.now.map (·.1)).Perm [v.file,mName v.num]:=by
 rcases h.two with e|e <;> rw [e]
 ·exact List.Perm.refl _
 ·exact List.Perm.swap _ _ _
theorem Ends.rest {x:Dk} {v:Vl} {ns:List Nd} (h:VD x v ns):Ends x v ns []:=by
 obtain ⟨f,g,hp⟩:=h.parts
 exact ⟨h.opens,h.vi.armed,h.vi.gen,.inl hp.perm⟩
theorem mem_namesOf {l:Dir} {s:Nm}:s∈namesOf l↔s∈l.map (·.1):=(List.mergeSort_perm _ _).mem_iff
def isShadow (v:Vl) (s:Nm):Bool:=s == sName v.num
theorem cut_ok {c:Dk} {s:Nm} {f n:Nat} (ha:c.armed = -1) (hg:dirGet c.now s=some f) (hn:n≤(c.fileAt f).b.length):c.cut s n=(0,c.setF f ⟨(c.fileAt f).b.take n,n⟩):=by
 have hf:c.fnd s=(0,f):=by unfold Dk.fnd;rw [if_neg (by rw [ha];decide),hg]
 unfold Dk.cut
 rw [hf,if_neg (by simp),if_neg (by show ¬ ((n:Int)<0∨((c.fileAt f).b.length:Int)<n);omega),did_off (by show c.armed = -1;exact ha)]
 simp
theorem Ends.cut {c:Dk} {v:Vl} {ns:List Nd} {t:List UInt8} (h:Ends c v ns t):(c.cut v.file v.size).1=0∧(c.mendT v t).now=c.now∧(c.mendT v t).armed = -1:=by
 obtain ⟨f,hf,hb⟩:=h.opens.data
 have hl:v.size≤(c.fileAt f).b.length:=by
  rw [hb,List.length_append,superB_len,List.length_append,h.opens.size]
  omega
 have e:=cut_ok h.armed hf hl
 refine ⟨by rw [e],?_,?_⟩
 ·unfold Dk.mendT
  split
  ·rfl
  ·rw [e];rfl
 ·unfold Dk.mendT
  split
  ·exact h.armed
  ·rw [e];exact h.armed
theorem c_len (v g:Nat):(cName v g).length=(vName v g).length:=by simp [cName,vName]
theorem ours_all {v:Vl} (hok:VOk v) {s:Nm} (hs:s=v.file∨s=mName v.num∨s=sName v.num):OursAt v s (isShadow v s)∧s.length≤maxLen:=by
 have h1:v.file≠sName v.num:=v_ne_s _ _ _
 have h2:=s_ne_m v.num
 rcases hs with rfl|rfl|rfl
 ·have e:isShadow v v.file=false:=by simpa [isShadow] using h1
  rw [e]
  exact ⟨ours_own hok.names (.inl ⟨rfl,.inl rfl⟩),hok.long.1⟩
 ·have e:isShadow v (mName v.num)=false:=by simpa [isShadow] using Ne.symm h2
  rw [e]
  exact ⟨ours_own hok.names (.inl ⟨rfl,.inr (.inr rfl)⟩),hok.long.2.2⟩
 ·have e:isShadow v (sName v.num)=true:=by simp [isShadow]
  rw [e]
  exact ⟨ours_own hok.names (.inr ⟨rfl,rfl⟩),hok.long.2.1⟩
def OpenTo (w:World) (dp:Nat) (P:Nat→Prop) (K:Nat) (d:Dk) (v:Vl) (e:Ending) (w':World):Prop:=
 ∃ vp,e=.returned (.tuple #[(.pointer (some ⟨vp,0,none⟩)),.nilIface])∧VS w' vp dp P K d v∧w.heap.size≤vp∧KP P w w'
theorem reopen_ck {w:World} {dp K:Nat} {P:Nat→Prop} {x:Dk} {v:Vl} {a b:List Nd} {X:Nat} (h:DS w dp P K x) (hP:∀ k,P k→k<w.heap.size) (hK:K+64<1099511627776) (hvk:VK x v (a ++ b) X) (hm:ManAt x v) (hok:VOk v) (hn1:NamesAt v.num 1) (hlen:v.idx.length≤4096)
  (hnm:∀ p∈x.now,p.1=v.file∨p.1=mName v.num∨p.1=cName v.num v.gen) (hw:x.whole (cName v.num v.gen)=(0,ckB ⟨v.num,v.gen,16+(ndsB a).length,ixOf a⟩)) (hr:ckRight ⟨v.num,v.gen,16+(ndsB a).length,ixOf a⟩=0) (hck:∀ p∈ixOf a,p.key<18446744073709551616∧p.cookie<4294967296) :
  Calls Tryz.prog 20 #[(.pointer (some ⟨dp,0,none⟩)),.int .i64 v.num,.int .i64 v.most] w (OpenTo w dp P (K+64) x v):=by
 have hsrt:IxS (ixOf a):=putAll_srt List.Pairwise.nil
 have hmt:x.mendT v []=x:=if_pos rfl
 have ht:Dk.tidyL (isShadow v) (namesOf x.now) false x=(0,x):=tidyL_none fun s hs=>by
  obtain ⟨p,hp1,rfl⟩:=List.mem_map.1 (mem_namesOf.1 hs)
  rcases hnm p hp1 with e|e|e <;> rw [e]
  ·have h1:v.file≠sName v.num:=v_ne_s _ _ _
   simpa [isShadow] using h1
  ·simpa [isShadow] using Ne.symm (s_ne_m v.num)
  ·simpa [isShadow] using c_ne_s v.num v.gen v.num
 have hsz:v.size=16+(ndsB a).length+(ndsB b).length:=by rw [hvk.size,ndsB_append,List.length_append];omega
 have hcl:(cName v.num v.gen).length≤maxLen:=by rw [c_len];exact hok.long.1
 have:=open_gen (t:=[]) (ns:=a ++ b) (ns2:=b) (pre:=superB v.num v.gen ++ ndsB a) (l0:=ixOf a) (from':=16+(ndsB a).length) h hP hK (hvk.opens hm) hok hn1
  (fun w0 Q hds=>base_ck ⟨v.num,v.gen,16+(ndsB a).length,ixOf a⟩ hds hok.names hcl hw hr hck hsrt rfl rfl (v.size+([]:List UInt8).length) (by show 16≤16+_;omega) (by show 16+(ndsB a).length≤v.size+0;omega))
  (by rw [ndsB_append,List.append_assoc]) (by rw [List.length_append,superB_len]) (fun m hm=>hvk.ok m (List.mem_append_right _ hm)) (by rw [ixOf_from];exact hvk.ixOf) hsrt hlen (fun e=>absurd rfl e) (isShadow v) (fun s hs=>by
   rw [hmt] at hs
   obtain ⟨p,hp1,rfl⟩:=List.mem_map.1 (mem_namesOf.1 hs)
   rcases hnm p hp1 with e|e|e
   ·exact ours_all hok (.inl e)
   ·exact ours_all hok (.inr (.inl e))
   ·have e2:isShadow v p.1=false:=by rw [e];simpa [isShadow] using c_ne_s v.num v.gen v.num
    rw [e2]
    exact ⟨ours_own hok.names (.inl ⟨rfl,.inr (.inl e)⟩),by rw [e];exact hcl⟩) (by rw [hmt,ht])
 rw [hmt,ht] at this
 exact this
theorem CkGood.of {d:Dk} {v:Vl} {ns:List Nd} (h:VI d v ns) (hn:v.num=1) (hl:v.idx.length≤4096):CkGood v:=by
 have hg:=h.gen
 refine ⟨namesAt9 (by omega) (by omega),namesAt9 (by omega) (by omega),?_,?_,hl,h.keys64⟩
 ·rw [hn,c10];decide
 ·rw [hn,hg,c11];decide
theorem alive10 (w:World):Calls Tryz.prog 26 #[] w fun e w'=>e=.returned (.bool true)∧Below w.heap.size w w':=by
 have HM:=Lib.hid (madeR_any none 0 0 [] w rfl (reads_none _ _) (fun x hx=>absurd hx List.not_mem_nil) (by omega) (fun x hx=>absurd hx List.not_mem_nil))
 go_enter Tryz.func26,Tryz.ntmps26
 go_wp2_with fail
 refine (show Calls Tryz.prog 27 #[.slice none 0 0] w (MadeR w 1 []) from HM.out).mono ?_
 rintro e w1 ⟨vp,dp,F,val,d,v,ns,rfl,hvf,hfb,hvd,hrv,hac,hsz,hns,hb⟩
 have hvi:=hvd.vi
 obtain ⟨c0,c1,c2,c3,c4,c5a,c5n,c5c,c6a,c6n,c6c,rfl⟩:=RvIn.agg hrv
 have hnum:v.num=1:=congrArg Rv.num hac
 have hidx:v.idx=[]:=congrArg Rv.l hac
 have hsz2:v.size=16:=congrArg Rv.size hac
 have HGD:=Lib.hid (CkGood.of hvi hnum (by rw [hidx];simp))
 have hok:DkOk 245 d:=by obtain ⟨ix,vx,P,g1,g2,g4⟩:=hvf.at';exact g2.ok
 obtain ⟨d1,d2,d3,d4,d5,e1,e2,e3,e4,e5,e6⟩:=hvi.ckAll hok hnum (by rw [hidx];simp) (by rw [hidx,hsz2];decide)
 obtain ⟨D,hD⟩:∃ D:Nat→Dk,D=fun k=>match k with|0=>d|1=>d1|2=>d2|3=>d3|4=>d4|_=>d5:=⟨_,rfl⟩
 have HDK:=Lib.hid (show ∀ k,k≤4→ckDo (ckSnap v) k (D k)=(0,D (k+1)) from fun k hk=>by
  rw [hD]
  match k,hk with
  | 0,_=>exact e1
  | 1,_=>exact e2
  | 2,_=>exact e3
  | 3,_=>exact e4
  | 4,_=>exact e5)
 have HD0:=Lib.hid (show D 0=d from congrFun hD 0)
 have HD5:=Lib.hid (show ((D 5).size (cName 1 1)).1=0 by rw [hD];exact e6)
 have HVF:=Lib.hid hvf
 have HFB:=Lib.hid hfb
 have HB1:=Lib.hid hb
 clear hvf hvi hvd hrv hac hb hsz hns hnum hidx hsz2 hok e1 e2 e3 e4 e5 e6 hD hfb
 go_upto_region 2 with fail
 obtain ⟨w2,hw2⟩:∃ w2:World,w2=w1.alloc (.cells #[.int .i64 c0,.int .i64 c1,.int .i64 c2,.int .i64 c3,.bool c4,.slice c5a c5n c5c,.slice c6a c6n c6c] 43):=⟨_,rfl⟩
 have HB12:=Lib.hid (show Below w1.heap.size w1 w2 by rw [hw2];exact belCaCkptAgain)
 have HB2:=Lib.hid (HB1.out.trans (HB12.out.mono HB1.out.size))
 rw [←hw2]
 clear hw2
 have hz2:=HB2.out.size
 go_wp2_with fail
 refine (cknew_any dp vp w2).mono ?_
 rintro e w3 ⟨rfl,hcw,hb⟩
 have HVS2:=Lib.hid ((HVF.out.kp (KP.of HB12.out) (fun k hk=>HVF.out.lt k hk)).vs (P:=fun k=>k<w2.heap.size∧¬ F k) (fun k hk e=>e.2 hk))
 have HST3:=Lib.hid (CkSt.start (Z:=fun k=>k<w.heap.size) HVS2.out (fun j hj=>hj.1) (fun j hj=>⟨by have:j<w.heap.size:=hj;omega,fun e=>by have:=HFB.out j e;have h:j<w.heap.size:=hj;omega⟩) hb hcw)
 have HB3:=Lib.hid (HB2.out.trans (hb.mono hz2))
 clear hcw hb
 obtain ⟨wb,hwb⟩:∃ wb,wb=w2.heap.size:=⟨_,rfl⟩
 rw [←hwb] at HST3 ⊢
 clear hwb
 go_wp2_with fail
 go_loopw [7,8] (fun n i wr=>∃ k:Nat,k≤5∧n=.int .i64 k∧i=.int .i64 k∧CkSt wr (fun k=>k<w.heap.size) wb dp vp v (245+2 * k) (D k) k∧Below w.heap.size w wr) (fun _ i _=>5 - (intOf i).toNat)
 case atStart=>exact ⟨0,by omega,rfl,rfl,by rw [HD0.out];exact HST3.out,HB3.out⟩
 case round=>
  obtain ⟨k,hk,rfl,rfl,hst,hbr⟩:=hrel
  have HSTR:=Lib.hid hst
  have HBR:=Lib.hid hbr
  clear hst hbr
  by_cases hlt:k<5
  ·have hj1:(k:Int)<5:=by omega
   have HSP:=Lib.hid (HSTR.out.step HGD.out (by omega) (by omega) (HDK.out k (by omega)))
   rw [if_pos rfl,show errV ((0:Nat):Int)=.nilIface from rfl] at HSP
   obtain ⟨B4,hB4⟩:∃ B4,B4=((0:Nat) == 0 && k == 4):=⟨_,rfl⟩
   rw [←hB4] at HSP
   have hB5:((k:Int) == 4)=B4:=by
    rw [hB4]
    by_cases h:k=4
    ·subst h;rfl
    ·rw [show (k == 4)=false by simpa using h,show ((k:Int) == 4)=false by simp;omega]
     rfl
   have hBB:(B4 == B4)=true:=by simp
   clear hB4
   go_wp2_with fail
   refine HSP.out.mono ?_
   rintro e w4 ⟨rfl,hst,hkp⟩
   have HST4:=Lib.hid hst
   have HB4:=Lib.hid (show Below w.heap.size w w4 from HBR.out.trans (hkp.below HBR.out.size (fun j hj=>hj)))
   clear hst hkp
   go_wp2_with fail
   refine (code0 _).mono ?_
   rintro e wx ⟨rfl,rfl⟩
   go_wp2_with fail
   go_roundw
   case rel=>exact ⟨k+1,by omega,by go_num,by go_num,by rw [show 245+2 * (k+1)=245+2 * k+2 by omega];exact HST4.out,HB4.out⟩
   case measure=>simp [intOf];omega
  ·have hj1:¬ (k:Int)<5:=by omega
   obtain rfl:k=5:=by omega
   obtain ⟨Q,q1,q2,q3,q4,q5⟩:=HSTR.out
   obtain ⟨R,r1,r2,r3,r4⟩:=q3.disk q1
   have HSZ:=Lib.hid (size_ds r1 (cName 1 1) (by rw [c11];decide))
   obtain ⟨sz,hsz⟩:∃ sz,sz=((D 5).size (cName 1 1)).2:=⟨_,rfl⟩
   rw [HD5.out,←hsz,c11,show errV ((0:Nat):Int)=.nilIface from rfl] at HSZ
   clear hsz q1 q2 q3 q4 q5 r1 r2 r3 r4
   go_wp2_with fail
   refine HSTR.out.over.mono ?_
   rintro e wx ⟨rfl,rfl⟩
   rw [errV_ne (show (16:Int)≠0 by decide)]
   go_wp2_with fail
   refine HSZ.out.mono ?_
   rintro e wx ⟨rfl,rfl⟩
   go_wp2_with fail
   refine (code0 _).mono ?_
   rintro e wx ⟨rfl,rfl⟩
   go_wp2_with fail
   refine (show Calls Tryz.prog 14 #[.iface 99 (.int .i64 16)] _ _ from code_some 16 (by decide) (by decide) _).mono ?_
   rintro e wx ⟨rfl,rfl⟩
   go_wp2_with fail
   refine (code0 _).mono ?_
   rintro e wx ⟨rfl,rfl⟩
   go_wp2_with fail
   go_ret
   exact ⟨rfl,HBR.out⟩
theorem VS.lessP {w:World} {vp dp K:Nat} {P Q:Nat→Prop} {d:Dk} {v:Vl} (h:VS w vp dp Q K d v) (hq:∀ j,P j→Q j):VS w vp dp P K d v:=by
 obtain ⟨ix,vx,h1,h2,h3,h4⟩:=h
 exact ⟨ix,vx,h1,h2.less (fun j hj=>hj.imp (hq j) id),fun j hj=>⟨fun e=>(h3 j hj).1 (hq j e),(h3 j hj).2⟩,h4⟩
theorem CkSt.vs {w:World} {Z:Nat→Prop} {wb dp vp K k:Nat} {v:Vl} {d:Dk} (h:CkSt w Z wb dp vp v K d k):VS w vp dp Z K d v:=by
 obtain ⟨Q,h1,h2,h3,h4,h5⟩:=h
 exact h3.lessP fun j hj=>(h2 j hj).1
theorem CkSt.more {w:World} {Z:Nat→Prop} {wb dp vp K L k:Nat} {v:Vl} {d:Dk} (h:CkSt w Z wb dp vp v K d k) (hl:K≤L):CkSt w Z wb dp vp v L d k:=by
 obtain ⟨Q,h1,h2,h3,h4,h5⟩:=h
 exact ⟨Q,h1,h2,h3.more hl,h4,h5⟩
theorem ckwrite_vs {w:World} {vp dp K:Nat} {P:Nat→Prop} {d:Dk} {v:Vl} (h:VS w vp dp P K d v) (hP:∀ k,P k→k<w.heap.size) (hK:K+12<1099511627776) (hg:CkGood v) :
  Calls Tryz.prog 28 #[(.pointer (some ⟨dp,0,none⟩)),(.pointer (some ⟨vp,0,none⟩))] w fun e w'=>e=.returned (errV (ckWrite (ckSnap v) d).1)∧VTo w w' vp dp P (K+10) (ckWrite (ckSnap v) d).2 v:=by
 obtain ⟨R,hR⟩:∃ R,R=ckWrite (ckSnap v) d:=⟨_,rfl⟩
 have HR:=Lib.hid hR
 have HVS:=Lib.hid h
 have HPL:=Lib.hid hP
 have HG:=Lib.hid hg
 rw [←hR]
 clear hR h hP hg
 go_enter Tryz.func28,Tryz.ntmps28
 go_wp2_with fail
 refine (cknew_any dp vp w).mono ?_
 rintro e w1 ⟨rfl,hcw,hb⟩
 have HS:=Lib.hid (CkSt.start (Z:=P) HVS.out HPL.out (fun j hj=>hj) hb hcw)
 have HK1:=Lib.hid (KP.of (P:=P) hb)
 clear hcw hb
 obtain ⟨wb,hwb⟩:∃ wb,wb=w.heap.size:=⟨_,rfl⟩
 rw [←hwb] at HS ⊢
 clear hwb
 go_upto_region 3 with fail
 go_loopg [6,7] 6 (fun g er dn wr=>(∃ (k:Nat) (dk:Dk),k≤4∧g=6 - k∧er=.nilIface∧dn=.bool false∧CkSt wr P wb dp vp v (K+2 * k) dk k∧ckRun (ckSnap v) (5 - k) k dk=R∧KP P w wr)∨(g=0∧er=errV R.1∧dn=.bool (R.1 == 0)∧VS wr vp dp P (K+10) R.2 v∧KP P w wr))
 case atStart=>exact .inl ⟨0,d,Nat.zero_le _,rfl,rfl,rfl,HS.out,HR.out.symm,HK1.out⟩
 case round=>
  obtain ⟨k,dk,hk,rfl,rfl,rfl,hst,hru,hkp⟩|⟨rfl,rfl,rfl,hvs,hkp⟩:=hrel
  ·have HST:=Lib.hid hst
   have HRU:=Lib.hid hru
   have HKP:=Lib.hid hkp
   clear hst hru hkp
   obtain ⟨r,d',hd⟩:∃ r d',ckDo (ckSnap v) k dk=(r,d'):=⟨_,_,rfl⟩
   have HDO:=Lib.hid hd
   have HSP:=Lib.hid (HST.out.step HG.out (by omega) hk hd)
   clear hd
   obtain ⟨n5,hn5⟩:∃ n,5 - k=n+1:=⟨4 - k,by omega⟩
   have hru:=HRU.out
   rw [hn5] at hru
   by_cases hr:r=0
   ·subst hr
    have hru2:=(ckRun_ok HDO.out).symm.trans hru
    have HRU2:=Lib.hid hru2
    clear hru hru2
    rw [if_pos rfl] at HSP
    by_cases h4:k=4
    ·subst h4
     obtain rfl:n5=0:=by omega
     have e9:R=(0,d'):=HRU2.out.symm
     have HE9:=Lib.hid e9
     clear e9
     go_wp2_with fail
     refine HSP.out.mono ?_
     rintro e w2 ⟨rfl,hst2,hk2⟩
     have HV2:=Lib.hid hst2.vs
     have HK2:=Lib.hid (HKP.out.trans hk2)
     clear hst2 hk2
     rw [show errV ((0:Nat):Int)=.nilIface from rfl]
     go_wp2_with fail
     go_roundg 0
     case measure=>omega
     case rel=>exact .inr ⟨rfl,by rw [HE9.out];rfl,by rw [HE9.out];rfl,by rw [HE9.out];exact HV2.out,HK2.out⟩
    ·have h4':((0:Nat) == 0 && k == 4)=false:=by simp [h4]
     rw [h4',show errV ((0:Nat):Int)=.nilIface from rfl] at HSP
     clear h4'
     go_wp2_with fail
     refine HSP.out.mono ?_
     rintro e w2 ⟨rfl,hst2,hk2⟩
     have HS2:=Lib.hid (hst2.more (L:=K+2 * (k+1)) (by omega))
     have HK2:=Lib.hid (HKP.out.trans hk2)
     clear hst2 hk2
     go_wp2_with fail
     go_roundg (6 - (k+1))
     case measure=>omega
     case rel=>exact .inl ⟨k+1,d',by omega,rfl,rfl,rfl,HS2.out,by rw [show 5 - (k+1)=n5 by omega];exact HRU2.out,HK2.out⟩
   ·have hru2:=(ckRun_bad HDO.out hr).symm.trans hru
    have HRU2:=Lib.hid hru2
    clear hru hru2
    rw [if_neg hr] at HSP
    have h4':(r == 0 && k == 4)=false:=by simp [hr]
    rw [h4'] at HSP
    clear h4'
    have hri:((r:Nat):Int)≠0:=by omega
    rw [errV_ne hri] at HSP
    go_wp2_with fail
    refine HSP.out.mono ?_
    rintro e w2 ⟨rfl,hst2,hk2⟩
    have HV2:=Lib.hid (hst2.vs.more (L:=K+10) (by omega))
    have HK2:=Lib.hid (HKP.out.trans hk2)
    clear hst2 hk2
    go_wp2_with fail
    go_roundg 0
    case measure=>omega
    case rel=>exact .inr ⟨rfl,by rw [←HRU2.out,errV_ne hri],by rw [←HRU2.out];simp [hr],by rw [←HRU2.out];exact HV2.out,HK2.out⟩
  ·have HV2:=Lib.hid hvs
   have HK2:=Lib.hid hkp
   clear hvs hkp
   obtain ⟨r,d',rfl⟩:∃ r d',R=(r,d'):=⟨_,_,rfl⟩
   simp only
   by_cases hr:r=0
   ·subst hr
    rw [show errV ((0:Nat):Int)=.nilIface from rfl,show ((0:Nat) == 0)=true from rfl]
    go_wp2_with fail
    go_ret
    exact ⟨rfl,HV2.out,HK2.out⟩
   ·have hri:((r:Nat):Int)≠0:=by omega
    rw [errV_ne hri]
    go_wp2_with fail
    go_ret
    exact ⟨by rw [errV_ne hri];rfl,HV2.out,HK2.out⟩
theorem VK.ckRight {d:Dk} {v:Vl} {ns:List Nd} {X:Nat} (h:VK d v ns X) (hs:v.size≤16777216) (hl:v.idx.length≤4096):Go.Proofs.YtfpjfoajonbndaaGreatDoor.ckRight (ckSnap v)=0:=by
 obtain ⟨f,g,hv,-⟩:=h.vi
 exact hv.ckRight hs hl
theorem VK.ckGood {d:Dk} {v:Vl} {ns:List Nd} {X:Nat} (h:VK d v ns X) (hn:v.num=1) (hl:v.idx.length≤4096):CkGood v:=by
 obtain ⟨f,g,hv,-⟩:=h.vi
 exact CkGood.of hv hn hl
theorem VK.snap {d:Dk} {v:Vl} {ns:List Nd} {X:Nat} (h:VK d v ns X) (hn:v.num=1):ckSnap v=⟨1,1,16+(ndsB ns).length,Go.Proofs.YtfpjfoajonbndaaGreatDoor.ixOf ns⟩:=by
 unfold ckSnap
 rw [hn,h.gen,h.size,h.ixOf]
theorem VI.nod {d:Dk} {v:Vl} {ns:List Nd} (h:VI d v ns):(d.now.map (·.1)).Nodup:=by
 obtain ⟨f,g,hfg,hl,hf,hg,-⟩:=h.now
 have hne:v.file≠mName v.num:=v_ne_m _ _ _
 rcases two_mem hl hf hg hne with e|e <;> rw [e] <;> simp [hne,Ne.symm hne]
theorem VD.ckF {d:Dk} {v:Vl} {ns:List Nd} (h:VD d v ns) (hn:v.num=1):CkF d v ns none none:=by
 have hk:=VK.of h.vi h.vi.nod
 obtain ⟨f,g,hfg,hl,-⟩:=h.vi.now
 refine hk.fresh ?_ hn hl
 obtain ⟨g,h1,h2⟩:=h.man
 exact ⟨g,h1,by rw [h.vi.gen];exact h2⟩
structure GoodC (a:List Nd) (b:List UInt8):Prop where
 eq:b=ckB ⟨1,1,16+(ndsB a).length,ixOf a⟩
 right:ckRight ⟨1,1,16+(ndsB a).length,ixOf a⟩=0
 keys:∀ p∈ixOf a,p.key<18446744073709551616∧p.cookie<4294967296
theorem VK.goodC {d:Dk} {v:Vl} {ns:List Nd} {X:Nat} (h:VK d v ns X) (hn:v.num=1) (hs:v.size≤16777216) (hl:v.idx.length≤4096):GoodC ns (ckB (ckSnap v)):=by
 have e:=h.snap hn
 have hr:=h.ckRight hs hl
 refine ⟨by rw [e],by rw [←e];exact hr,by rw [h.ixOf];exact (h.ckGood hn hl).keys⟩
theorem CkF.open1 {w:World} {dp K:Nat} {P:Nat→Prop} {x:Dk} {v:Vl} {a ns:List Nd} {y:DFile} (h:DS w dp P K x) (hP:∀ k,P k→k<w.heap.size) (hK:K+64<1099511627776) (hc:CkF x v ns none (some y)) (hp:a <+: ns) (hy:GoodC a y.b) (hok:VOk v) (hlen:v.idx.length≤4096) :
  Calls Tryz.prog 20 #[(.pointer (some ⟨dp,0,none⟩)),.int .i64 1,.int .i64 v.most] w (OpenTo w dp P (K+64) x v):=by
 obtain ⟨b,rfl⟩:=hp
 have hn:=hc.num
 have hg:=hc.vk.gen
 have hnn:NamesAt v.num 1:=namesAt9 (by omega) (by omega)
 obtain ⟨i,hi,hf⟩:=hc.ck
 have:=reopen_ck h hP hK hc.vk hc.man hok hnn hlen (fun p hp=>by
  rcases hc.own p hp with e|e|e|e
  ·exact .inl e
  ·exact .inr (.inl e)
  ·exact absurd e (get_none (show dirGet x.now (cName 1 0)=none from hc.dr) p hp)
  ·exact .inr (.inr (by rw [hn,hg];exact e))) (by rw [hn,hg,whole_at (by rw [hc.vk.armed];decide) hi,hf,hy.eq]) (by rw [hn,hg];exact hy.right) hy.keys
 rw [hn] at this
 exact this
theorem ckptAgain_walk (a:Option Addr) (len cap:Nat) (l:List ActE) (a2:Option Addr) (len2 cap2:Nat) (l2:List ActE) (w:World) (hl:l.length=len) (hr:Reads w 6 (.slice a len cap) len (l.flatMap ActE.cs)) (ho:∀ x∈l,ActArg w x) (hl2:l2.length=len2) (hr2:Reads w 6 (.slice a2 len2 cap2) len2 (l2.flatMap ActE.cs)) (ho2:∀ x∈l2,ActArg w x) :
  Calls Tryz.prog 4 #[.slice a len cap,.slice a2 len2 cap2] w fun e w'=>e=.returned (.bool true)∧Below w.heap.size w w':=by
 have HL:=Lib.hid hl
 have HR:=Lib.hid hr
 have HO:=Lib.hid ho
 have HL2:=Lib.hid hl2
 have HR2:=Lib.hid hr2
 have HO2:=Lib.hid ho2
 clear hl hr ho hl2 hr2 ho2
 go_enter Tryz.func4,Tryz.ntmps4
 go_wp2_with fail
 refine (alive10 w).mono ?_
 rintro e w1 ⟨rfl,hb⟩
 have HB1:=Lib.hid hb
 have hz1:=hb.size
 clear hb
 go_wp2_with fail
 refine (far9_any a len cap l w1 HL.out (HR.out.below HB1.out)).mono ?_
 rintro e wx ⟨rfl,rfl⟩
 cases hfa:far9 l
 case true=>
  go_wp2_with fail
  go_ret
  exact ⟨rfl,HB1.out⟩
 have HFA:=Lib.hid (far9_no hfa)
 clear hfa
 go_wp2_with fail
 refine (far9_any a2 len2 cap2 l2 w1 HL2.out (HR2.out.below HB1.out)).mono ?_
 rintro e wx ⟨rfl,rfl⟩
 cases hfa:far9 l2
 case true=>
  go_wp2_with fail
  go_ret
  exact ⟨rfl,HB1.out⟩
 have HFA2:=Lib.hid (far9_no hfa)
 clear hfa
 have h60:len≤60:=by have:=HFA.out.1;have:=HL.out;omega
 have h62:len2≤60:=by have:=HFA2.out.1;have:=HL2.out;omega
 have HMA:=Lib.hid (show Calls Tryz.prog 27 #[.slice a len cap] w1 (MadeR w1 1 l) from madeR_any a len cap l w1 HL.out (HR.out.below HB1.out) (fun x hx=>(HO.out x hx).below HB1.out) h60 HFA.out.2)
 unfold MadeR at HMA
 go_wp2_with fail
 refine HMA.out.mono ?_
 rintro e w2 ⟨vp,dp,F,val,d,v,ns,rfl,hvf,hfb,hvd,hrv,hac,hsz,hns,hb⟩
 have hnum:v.num=1:=by
  have h3:=congrArg Rv.num hac
  rw [Rv.acts_num] at h3
  exact h3
 have hmost:v.most=1048576:=by
  have h3:=congrArg Rv.most hac
  rw [Rv.acts_most] at h3
  exact h3
 have hvs:v.size≤20176:=by rw [HL.out] at hsz;omega
 have hvn:ns.length≤60:=by rw [HL.out] at hns;omega
 obtain ⟨c0,c1,c2,c3,c4,c5a,c5n,c5c,c6a,c6n,c6c,rfl⟩:=RvIn.agg hrv
 have hck:=hvd.ckF hnum
 have hvl:v.idx.length≤60:=Nat.le_trans hck.vk.len hvn
 obtain ⟨d1,e1,hck1,hrs1⟩:=hck.all hvd.restK.syn (c:=ckSnap v) hnum hvd.vi.gen (hck.vk.ckRight (by omega) (by omega)) (by show v.size+48+24 * v.idx.length+0≤_;omega)
 have hbl:=ckB_len (ckSnap v)
 have hil:(ckSnap v).l.length=v.idx.length:=rfl
 have HCK:=Lib.hid hck1
 have HRS:=Lib.hid hrs1
 have HCG:=Lib.hid (hck.vk.ckGood hnum (by omega))
 have HE1:=Lib.hid e1
 have HVF:=Lib.hid hvf
 have HFB:=Lib.hid hfb
 have HRV:=Lib.hid hrv
 have HB2:=Lib.hid (HB1.out.trans (hb.mono hz1))
 have hz2:=hb.size
 obtain ⟨BY,hBY⟩:∃ BY,BY=ckB (ckSnap v):=⟨_,rfl⟩
 rw [←hBY] at HCK hbl
 have hbl2:BY.length≤1464:=by omega
 clear hvf hfb hvd hrv hac hsz hns hb hck hck1 hrs1 e1 hBY hbl hil
 go_upto_region 6 with fail
 obtain ⟨w3,hw3⟩:∃ w3:World,w3=w2.alloc (.cells #[.int .i64 c0,.int .i64 c1,.int .i64 c2,.int .i64 c3,.bool c4,.slice c5a c5n c5c,.slice c6a c6n c6c] 43):=⟨_,rfl⟩
 have HB23:=Lib.hid (show Below w2.heap.size w2 w3 by rw [hw3];exact belCaCkptAgain)
 have KM3:=Lib.hid (show w3.heap[w2.heap.size]? = some (.cells #[.int .i64 c0,.int .i64 c1,.int .i64 c2,.int .i64 c3,.bool c4,.slice c5a c5n c5c,.slice c6a c6n c6c] 43 (0,0)) by rw [hw3];exact heap_new w2 _)
 rw [←hw3]
 clear hw3
 have hz23:=HB23.out.size
 obtain ⟨MB,hMB⟩:∃ MB,MB=w2.heap.size:=⟨_,rfl⟩
 have hMF:¬ F MB:=fun e=>by have:=HVF.out.lt MB e;omega
 have HVF3:=Lib.hid (HVF.out.kp (KP.of HB23.out) (fun k hk=>HVF.out.lt k hk))
 have HMA3:=Lib.hid (show MAt w3 F MB (Rv.of v ns) from ⟨c0,c1,c2,c3,c4,c5a,c5n,c5c,c6a,c6n,c6c,by rw [hMB];exact KM3.out,(HRV.out.wide (Q:=fun k=>¬ F k∧k≠MB) (fun j hj hl=>⟨hj,by omega⟩)).kp (KP.of HB23.out)⟩)
 have HFB3:=Lib.hid (show ∀ k,F k→w.heap.size≤k∧k≠MB from fun k hk=>⟨by have:=HFB.out k hk;omega,fun e=>hMF (e ▸ hk)⟩)
 have HB3:=Lib.hid (HB2.out.trans (HB23.out.mono HB2.out.size))
 have hMBg:w.heap.size≤MB:=by omega
 have hMBl:MB<w3.heap.size:=by rw [hMB];exact blk_lt KM3.out
 rw [←hMB]
 clear KM3 hMB HVF HRV HFB HMA
 have HWR:=Lib.hid (ckwrite_vs (P:=fun k=>¬ F k∧k<w3.heap.size) (HVF3.out.vs fun k hf e=>e.1 hf) (fun k hk=>hk.2) (by omega) HCG.out)
 rw [HE1.out] at HWR
 clear HE1 HCG
 go_wp2_with fail
 refine HWR.out.mono ?_
 rintro e w4 ⟨rfl,hvt⟩
 obtain ⟨F4,hf4,hf4n⟩:=hvt.1.foot
 have hF4:∀ j,F4 j→F j∨w3.heap.size≤j:=fun j hj=>by
  by_cases hF:F j
  ·exact .inl hF
  ·exact .inr (Nat.le_of_not_lt fun e=>hf4n j hj ⟨hF,e⟩)
 have HVF4:=Lib.hid hf4
 have HMA4:=Lib.hid (HMA3.out.later hMF hvt.2 hF4)
 have HFB4:=Lib.hid (show ∀ k,F4 k→w.heap.size≤k∧k≠MB from fun k hk=>by
  rcases hF4 k hk with h|h
  ·exact HFB3.out k h
  ·have:=HB3.out.size
   omega)
 have HB4:=Lib.hid (HB3.out.trans (hvt.2.below (B:=w.heap.size) HB3.out.size (fun j hj=>⟨fun e=>by have:=(HFB3.out j e).1;omega,by have:=HB3.out.size;omega⟩)))
 clear hvt hf4 hf4n hF4 HVF3 HMA3 HFB3 HWR hMF
 rw [show errV ((0:Nat):Int)=.nilIface from rfl]
 go_upto_region 8 with fail
 go_loopg [10] len2 (fun g i wr=>∃ (k:Nat) (F:Nat→Prop) (d:Dk) (v:Vl) (ns:List Nd),k≤len2∧g=len2 - k∧i=.int .i64 k∧VF wr vp dp F (255+4 * k) d v∧(∀ k,F k→w.heap.size≤k∧k≠MB)∧CkF d v ns none (some ⟨BY,BY.length⟩)∧RestK d∧MAt wr F MB (Rv.of v ns)∧v.most=1048576∧v.size≤20176+336 * k∧ns.length≤60+k∧Below w.heap.size w wr)
 case atStart=>exact ⟨0,F4,d1,v,ns,Nat.zero_le _,rfl,rfl,HVF4.out,HFB4.out,HCK.out,HRS.out,HMA4.out,hmost,hvs,hvn,HB4.out⟩
 case round=>
  obtain ⟨k,F,d,v,ns,hk,rfl,rfl,hvf,hfb,hck,hrs,hma,hmost,hsz,hns,hbr⟩:=hrel
  have HVF:=Lib.hid hvf
  have HFB:=Lib.hid hfb
  have HCK:=Lib.hid hck
  have HRS:=Lib.hid hrs
  have HMR:=Lib.hid hma
  have HMOST:=Lib.hid hmost
  have HSZ:=Lib.hid hsz
  have HNS:=Lib.hid hns
  have HBR:=Lib.hid hbr
  have hzr:=hbr.size
  clear hvf hfb hck hrs hma hmost hsz hns hbr HVF4 HMA4 HFB4 HB4
  by_cases hlt:k<len2
  ·obtain ⟨x,hx⟩:∃ x,l2[k]? = some x:=⟨_,List.getElem?_eq_getElem (by rw [HL2.out];exact hlt)⟩
   obtain ⟨b,o,c',e,hblt,r0,r1,r2,r3,r4,r5⟩:=act9_cells (HR2.out.below HBR.out) hx (by omega)
   obtain ⟨rfl,-,rfl⟩:=sl_inj e
   have HX:=Lib.hid hx
   have hxa:=HO2.out x (List.mem_of_getElem? hx)
   have HXA:=Lib.hid hxa
   have HX3:=Lib.hid (HFA2.out.2 x (List.mem_of_getElem? hx))
   have hj0:(0:Int)≤(k:Int):=by omega
   have hj1:(k:Int)<(len2:Int):=by omega
   clear hx e
   obtain ⟨c0,c1,c2,c3,c4,c5a,c5n,c5c,c6a,c6n,c6c,kmr,hrv⟩:=HMR.out
   have KMR:=Lib.hid kmr
   have hlm:=blk_lt kmr
   have hMF:¬ F MB:=fun e=>(HFB.out MB e).2 rfl
   have HDO:=Lib.hid (rdo_m HVF.out hlm HCK.out.vk hrv x (HXA.out.nd.below HBR.out) (fun ad e hl=>by
    obtain ⟨b2,o2,c2,e2,hb2,_,_⟩:=reads_at HXA.out.nd.data (by omega) (by have:=HX3.out;omega)
    have e3:=(sl_inj e2).1
    rw [e] at e3
    cases e3
    exact ⟨fun e=>by have h1:w.heap.size≤b2:=(HFB.out _ e).1;omega,by show b2≠MB;omega⟩) HX3.out (by have:=HSZ.out;omega) (by rw [HMOST.out];omega) (by have:=HNS.out;omega))
   have HAC:=Lib.hid (HCK.out.act x.act (show x.act.n.key<_ from HXA.out.nd.key) (show x.act.n.cookie<_ from HXA.out.nd.cookie) (by
    have h8:ndSize x.act.n.data.length≤336:=by
     have:=HX3.out
     show ndSize x.x.n.data.length≤_
     unfold ndSize padN
     omega
    have:=HSZ.out
    show v.size+ndSize x.act.n.data.length+56+(0+BY.length)≤1048576
    omega))
   obtain ⟨RV,hRV⟩:∃ RV,RV=(Rv.of v ns).act x.act:=⟨_,rfl⟩
   have h17:RV.1≤17:=by rw [hRV];exact Rv.act_17 _ _
   have HM2:=Lib.hid (show RV.2.most=1048576 by rw [hRV,(Rv.act_keeps _ _).2];exact HMOST.out)
   rw [←hRV] at HAC HDO
   clear hRV hrv kmr
   obtain ⟨RC,RW⟩:=RV
   simp only at h17
   obtain ⟨kd,am,⟨⟨key,cookie,gone,data⟩,xa,xc⟩⟩:=x
   simp only at r0 r1 r2 r3 r4 r5
   go_upto_region 10 with fail
   obtain ⟨SS,HSD⟩:∃ SS:World→Prop,Hid (SS=fun w'=>Below wr.heap.size wr w'):=⟨_,Lib.hid rfl⟩
   refine wp_region_mask0 SS [0,4] [0,0,0,6,14,31,63,127,127,127,127,255] (.op 0 2 (.op 1 0 (.op 2 0 (.op 3 0 (.op 4 2 (.op 5 1 (.op 6 0 (.op 7 0 (.op 8 0 (.op 9 0 (.op 10 0 (.op 11 1 .nil)))))))))))) (by kernel_rfl) (by kernel_rfl) rfl (by kernel_rfl) (by kernel_rfl) ?_ ?_
   (focus (rw [HSD.out];exact Below.drew (Below.refl _ _)));refine stepM2 rfl rfl ?_ (fun w1 hS=>?_) fun K hK=>?_;rotate_left;(focus (rw [HSD.out] at hS;obtain ⟨m0,m1,m2,m3,m4,m5,m6⟩:=cells7' (blk_below' KMR.out hS);have q0:=((bcell hS).1 b (o+k * 6) hblt).trans r0;have q1:=((bcell hS).1 b (o+k * 6+1) hblt).trans r1;have q2:=((bcell hS).1 b (o+k * 6+2) hblt).trans r2;have q3:=((bcell hS).1 b (o+k * 6+3) hblt).trans r3;have q4:=((bcell hS).1 b (o+k * 6+4) hblt).trans r4;have q5:=((bcell hS).1 b (o+k * 6+5) hblt).trans r5;go_simp;rfl));go_simp;refine hK _ ?_;clear hK K;(iterate 3 refine stepM0 rfl rfl fun K hK=>?_;go_simp;refine hK _ ?_;clear hK K);refine stepM2 rfl rfl ?_ (fun w1 hS=>?_) fun K hK=>?_;rotate_left;(focus (rw [HSD.out] at hS;obtain ⟨m0,m1,m2,m3,m4,m5,m6⟩:=cells7' (blk_below' KMR.out hS);have q0:=((bcell hS).1 b (o+k * 6) hblt).trans r0;have q1:=((bcell hS).1 b (o+k * 6+1) hblt).trans r1;have q2:=((bcell hS).1 b (o+k * 6+2) hblt).trans r2;have q3:=((bcell hS).1 b (o+k * 6+3) hblt).trans r3;have q4:=((bcell hS).1 b (o+k * 6+4) hblt).trans r4;have q5:=((bcell hS).1 b (o+k * 6+5) hblt).trans r5;go_simp;rfl));go_simp;refine hK _ ?_;clear hK K;refine stepM1 rfl rfl (by kernel_rfl) fun K hK=>?_
   (go_wp2_with fail;refine (HDO.out _ belCaCkptAgain).mono ?_;rintro e w5 ⟨u0,u1,u2,u3,u4,u5a,u5n,u5c,u6a,u6n,u6c,nv,kv,rfl,hb5,hin,⟨y0,y1,y2,ya,yn,yc,rfl⟩,ka,kn,kc,rfl⟩;have HIN:=Lib.hid hin;have HB5:=Lib.hid (show Below wr.heap.size wr w5 from Below.trans (Below.drew (Below.refl _ _)) (hb5.mono (Nat.le_refl _)));have KM5:=Lib.hid (blk_below' KMR.out HB5.out);obtain ⟨m0,m1,m2,m3,m4,m5,m6⟩:=cells7' KM5.out;obtain ⟨f0,f1,f2,f3,f4,f5,f6⟩:=free7 KM5.out;have hlm5:=blk_lt KM5.out;clear hb5 hin;go_wp2)
   (iterate 5 refine stepM0 rfl rfl fun K hK=>?_;go_simp;refine hK _ ?_;clear hK K);refine stepM1 rfl rfl (by kernel_rfl) fun K hK=>?_;go_wp2
   try refine stepMnil0 ?_
   clear HSD SS
   obtain ⟨w9,hw9⟩:∃ w9,w9=set7i w5 MB (.int .i64 u0) (.int .i64 u1) (.int .i64 u2) (.int .i64 u3) (.bool u4) (.slice u5a u5n u5c) (.slice u6a u6n u6c):=⟨_,rfl⟩
   have hk9:=set7i_keeps w5 MB (.int .i64 u0) (.int .i64 u1) (.int .i64 u2) (.int .i64 u3) (.bool u4) (.slice u5a u5n u5c) (.slice u6a u6n u6c)
   have k9:=store7i KM5.out (.int .i64 u0) (.int .i64 u1) (.int .i64 u2) (.int .i64 u3) (.bool u4) (.slice u5a u5n u5c) (.slice u6a u6n u6c)
   rw [←hw9] at hk9 k9
   unfold set7i at hw9
   rw [←hw9]
   clear hw9 m0 m1 m2 m3 m4 m5 m6 f0 f1 f2 f3 f4 f5 f6 r0 r1 r2 r3 r4 r5
   have HVF9:=Lib.hid ((HVF.out.kp (KP.of HB5.out) (fun k hk=>HVF.out.lt k hk)).keeps (R:=fun j=>j=MB) hk9 (fun j hj e=>hMF (e ▸ hj)))
   have HMA9:=Lib.hid (show MAt w9 F MB RW from ⟨u0,u1,u2,u3,u4,u5a,u5n,u5c,u6a,u6n,u6c,k9,(HIN.out.wide (Q:=fun k=>¬ F k∧k≠MB) (fun j hj _=>⟨hj.1,hj.2.1⟩)).kp (Keeps.mono hk9 fun j _ e f=>f.2 e)⟩)
   have HB9:=Lib.hid ((HBR.out.trans (HB5.out.mono hzr)).trans (hk9.below (Nat.le_trans hzr HB5.out.size) fun j e=>by omega))
   clear hk9 k9
   obtain ⟨b2,o2,c2,e2,hblt2,r0,r1,r2,r3,r4,r5⟩:=act9_cells (HR2.out.below HB9.out) HX.out (by omega)
   obtain ⟨h1,-,rfl⟩:=sl_inj e2
   simp only [Option.some.injEq,Addr.mk.injEq,and_true] at h1
   obtain ⟨rfl,rfl⟩:=h1
   simp only at r0 r1 r2 r3 r4 r5
   clear e2
   obtain ⟨d2,v2,ns2,e1,hck2,hre,hs2,hn2,hnum2,-,hrs2,-⟩:=HAC.out
   have HCK2:=Lib.hid hck2
   have HRE:=Lib.hid (show Rv.of v2 ns2=RW from hre)
   have HS2:=Lib.hid (show v2.size≤v.size+ndSize data.length from hs2)
   have HN2:=Lib.hid hn2
   have HRS2:=Lib.hid (hrs2 HRS.out)
   have HLD:=Lib.hid (ldo_vf ⟨kd,am,⟨⟨key,cookie,gone,data⟩,xa,xc⟩⟩ HVF9.out HCK.out.vk (by have:=HSZ.out;omega) (by omega) (HXA.out.nd.below HB9.out) (by have:=HX3.out;simp only at this ⊢;omega) e1 h17)
   clear e1 hck2 hre hs2 hn2 hnum2 hrs2
   go_wp2_with fail
   refine (show Calls Tryz.prog 21 #[(.pointer (some ⟨vp,0,none⟩)),.agg #[.int .i64 kd,.int .i64 am,.int .u64 key,.int .u32 cookie,.bool gone,.slice xa data.length xc]] w9 _ from HLD.out).mono ?_
   rintro e w10 ⟨nk,nc,ng,da,dn,dc,ka,kn,kc,F2,rfl,hvf2,hF2,hk2⟩
   have HVF2:=Lib.hid hvf2
   have HMA2:=Lib.hid (show MAt w10 F2 MB (Rv.of v2 ns2) by rw [HRE.out];exact HMA9.out.later hMF hk2 hF2)
   have hz9:=HB9.out.size
   have HFB2:=Lib.hid (show ∀ k,F2 k→w.heap.size≤k∧k≠MB from fun j hj=>by
    rcases hF2 j hj with h|h
    ·exact HFB.out j h
    ·have:=HB5.out.size
     have:MB<w9.heap.size:=by
      obtain ⟨_,_,_,_,_,_,_,_,_,_,_,q,_⟩:=HMA9.out
      exact blk_lt q
     omega)
   have HB10:=Lib.hid (HB9.out.trans (hk2.below (B:=w.heap.size) hz9 (fun j hj=>⟨fun e=>by have:=(HFB.out j e).1;omega,by omega⟩)))
   clear hvf2 hF2 hk2 r0 r1 r2 r3 r4 r5
   go_wp2_with fail
   go_roundg (len2 - (k+1))
   case measure=>omega
   case rel=>exact ⟨k+1,F2,d2,v2,ns2,by omega,rfl,by go_num,HVF2.out.more (by omega),HFB2.out,HCK2.out,HRS2.out,HMA2.out,by
    have:=congrArg Rv.most HRE.out
    exact this.trans HM2.out,by
    have h9:ndSize data.length≤336:=by
     have:data.length≤300:=HX3.out
     unfold ndSize padN
     omega
    have:=HS2.out
    have:=HSZ.out
    omega,by have:=HN2.out;have:=HNS.out;omega,HB10.out⟩
  ·have hj1:¬ (k:Int)<(len2:Int):=by omega
   have hj2:decide ((k:Int)<(len2:Int))=false:=by simp;omega
   have hj3:decide (k<len2)=false:=by simp;omega
   have hs2:v.size≤40336:=by have:=HSZ.out;omega
   have hn2:v.idx.length≤120:=by have:=HCK.out.vk.len;have:=HNS.out;omega
   have hbl:=ckB_len (ckSnap v)
   have hil:(ckSnap v).l.length=v.idx.length:=rfl
   rw [hil] at hbl
   obtain ⟨d2,e2,hck2,hrs2⟩:=HCK.out.all HRS.out.syn (c:=ckSnap v) HCK.out.num HCK.out.vk.gen (HCK.out.vk.ckRight (by omega) (by omega)) (by show v.size+48+24 * v.idx.length+BY.length≤_;omega)
   have HGC:=Lib.hid (HCK.out.vk.goodC HCK.out.num (by omega) (by omega))
   obtain ⟨P,hP⟩:∃ P:Nat→Prop,P=fun k=>¬ F k∧k<wr.heap.size:=⟨_,rfl⟩
   have HPV:=Lib.hid hP
   have HWR:=Lib.hid (ckwrite_vs (P:=P) (HVF.out.vs fun k hf e=>by rw [hP] at e;exact e.1 hf) (fun k hk=>by rw [hP] at hk;exact hk.2) (by omega) (HCK.out.vk.ckGood HCK.out.num (by omega)))
   rw [e2] at HWR
   have HSE:=Lib.hid (show d2.size (cName 1 1)=(0,24+24 * v.idx.length) by
    obtain ⟨i,g1,g2⟩:=hck2.ck
    have:d2.fnd (cName 1 1)=(0,i):=hck2.vk.fnd_o g1
    unfold Dk.size
    rw [this,g2,if_neg (by simp)]
    exact congrArg (Prod.mk 0) hbl)
   have HN3:=Lib.hid (show d2.now.length=3 from hck2.cnt)
   have HCK2:=Lib.hid hck2
   obtain ⟨num,most,epoch,size,shut,al,ln,cl,ad,dn,cd,hln,km,hrl,hbl2,hsame⟩:=HMR.out.opened (by omega)
   rw [←hln] at HSE
   have hln2:ln≤120:=by omega
   have hw1:IntKind.i64.wrap (24 * (ln:Int))=24 * (ln:Int):=by rw [IntKind.wrap_i64];omega
   have hw2:IntKind.i64.wrap (24+24 * (ln:Int))=24+24 * (ln:Int):=by rw [IntKind.wrap_i64];omega
   have KM:=Lib.hid km
   have HRL:=Lib.hid hrl
   have HBL:=Lib.hid hbl2
   have HSM:=Lib.hid hsame
   have hmf:¬ F MB:=fun e=>(HFB.out MB e).2 rfl
   have hml:=blk_lt km
   have HMP:=Lib.hid (show P MB by rw [hP];exact ⟨hmf,hml⟩)
   clear hP e2 hck2 hrs2 hbl hil hln km hrl hbl2 hsame
   go_wp2_with fail
   refine HWR.out.mono ?_
   rintro e w5 ⟨rfl,hvt⟩
   obtain ⟨ix,vx,hva,hds,hft,hok⟩:=hvt.1
   have HDS5:=Lib.hid hds
   have HFT5:=Lib.hid hft
   have HK5:=Lib.hid hvt.2
   have HOK:=Lib.hid hok
   have hz5:=hvt.2.size
   clear hvt hva hds hft hok
   rw [show errV ((0:Nat):Int)=.nilIface from rfl]
   have HSI:=Lib.hid (size_ds HDS5.out (cName 1 1) (by rw [c11];decide))
   rw [HSE.out,c11] at HSI
   go_wp2_with fail
   refine (show Calls Tryz.prog 29 #[(.pointer (some ⟨dp,0,none⟩)),.string ⟨#[99,49,46,49]⟩] w5 _ from HSI.out).mono ?_
   rintro e wx ⟨rfl,rfl⟩
   rw [show errV ((0:Nat):Int)=.nilIface from rfl]
   have HOP:=Lib.hid (HCK2.out.open1 HDS5.out (fun j hj=>by
    rcases hj with hj|hj
    ·rw [HPV.out] at hj;omega
    ·exact (HFT5.out j hj).2) (by omega) (List.prefix_refl _) HGC.out HOK.out (by omega))
   rw [HMOST.out] at HOP
   go_wp2_with fail
   refine (show Calls Tryz.prog 20 #[(.pointer (some ⟨dp,0,none⟩)),.int .i64 1,.int .i64 1048576] w5 _ from HOP.out).mono ?_
   rintro e w6 ⟨vp2,rfl,hv6,-,hk6⟩
   obtain ⟨ix2,vx2,hva2,hds2,hft2,-⟩:=hv6
   have HVA:=Lib.hid hva2
   have HDS6:=Lib.hid hds2
   have HK6:=Lib.hid (show KP P wr w6 from HK5.out.trans (hk6.mono fun j _ e=>.inl e))
   have hz6:=hk6.size
   clear hva2 hds2 hft2 hk6 HOP HSI
   have KM6:=Lib.hid (KP.blk HK6.out KM.out HMP.out)
   have HR6:=Lib.hid (HRL.out.keepsN (by omega) HK6.out (fun x e=>⟨(HBL.out x e).2.2,fun e2=>e2 (by rw [HPV.out];exact ⟨(HBL.out x e).1,(HBL.out x e).2.2⟩)⟩))
   have HNM:=Lib.hid (names_ds HDS6.out)
   rw [HN3.out] at HNM
   have HB6:=Lib.hid (show Below w.heap.size w w6 from HBR.out.trans (KP.below HK6.out hzr (fun j hj=>by rw [HPV.out];exact ⟨fun e=>by have:=(HFB.out j e).1;omega,by omega⟩)))
   have hlm:=blk_lt KM6.out
   obtain ⟨m0,m1,m2,m3,m4,m5,m6⟩:=cells7' KM6.out
   go_wp2_with fail
   refine (code0 _).mono ?_
   rintro e wx ⟨rfl,rfl⟩
   go_wp2_with fail
   refine (code0 _).mono ?_
   rintro e wx ⟨rfl,rfl⟩
   go_wp2_with fail
   refine (code0 _).mono ?_
   rintro e wx ⟨rfl,rfl⟩
   go_wp2_with fail
   refine (code0 _).mono ?_
   rintro e wx ⟨rfl,rfl⟩
   go_wp2_with fail
   refine HNM.out.mono ?_
   rintro e w7 ⟨vn,rfl,hon,hb7⟩
   obtain ⟨an,cn,rfl,-⟩:=slice_of hon
   have HB7:=Lib.hid (HB6.out.trans (hb7.mono HB6.out.size))
   have KM7:=Lib.hid (blk_below' KM6.out hb7)
   have HSA:=Lib.hid (HSM.out w7 vp2 dp ix2 vx2 (HVA.out.below hb7) (HR6.out.below hb7))
   clear hon hb7 m0 m1 m2 m3 m4 m5 m6
   obtain ⟨m0,m1,m2,m3,m4,m5,m6⟩:=cells7' KM7.out
   have hlm7:=blk_lt KM7.out
   go_wp2_with fail
   refine HSA.out.mono ?_
   rintro e w8 ⟨rfl,hb8⟩
   have HB8:=Lib.hid (HB7.out.trans (hb8.mono HB7.out.size))
   clear hb8
   go_wp2_with fail
   go_ret
   exact ⟨rfl,HB8.out⟩
end Go.Proofs.YtfpjfoajonbndaaGreatDoor
