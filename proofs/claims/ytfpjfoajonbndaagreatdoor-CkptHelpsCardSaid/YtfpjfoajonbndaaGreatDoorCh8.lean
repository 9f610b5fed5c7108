import Derived.Test.YtfpjfoajonbndaaGreatDoorChDiskNames
import Derived.Test.YtfpjfoajonbndaaGreatDoorChDiskPicks
import Derived.Test.YtfpjfoajonbndaaGreatDoorCh1
import Derived.Test.YtfpjfoajonbndaaGreatDoorCh3
import Derived.Laws.BitsAllLaws
import Derived.Deep.DeepCutAuto
import Derived.LoopTactic
namespace Go.Proofs.YtfpjfoajonbndaaGreatDoor
set_option maxHeartbeats 8000000
set_option maxRecDepth 100000
open Go.RowKit
open Go.RowKit
def DS (w:World) (d:Nat) (P:Nat→Prop) (K:Nat) (st:Dk):Prop:=∃ F q,DiskAt w d F q st∧DkOk K st∧∀ k,F k→¬ P k∧k<w.heap.size
def KP (P:Nat→Prop) (w w':World):Prop:=Keeps (fun k=>¬ P k) w w' 
theorem KP.refl(P:Nat→Prop)(w:World):KP P w w:=Keeps.refl _ _
theorem KP.trans{P:Nat→Prop}{a b c:World}(h:KP P a b)(k:KP P b c):KP P a c:=Keeps.trans h k fun _ _ e=>e
theorem KP.mono{P R:Nat→Prop}{a b:World}(h:KP P a b)(hr:∀ k,k<a.heap.size→R k→P k):KP R a b:=Keeps.mono h fun k hk e f=>e (hr k hk f)
theorem KP.of{P:Nat→Prop}{a b:World}(h:Below a.heap.size a b):KP P a b:=keeps_below _ h
theorem KP.below{P:Nat→Prop}{a b:World}{B:Nat}(h:KP P a b)(hB:B≤a.heap.size)(hP:∀ k,k<B→P k):Below B a b:=Keeps.below h hB fun k hk=>by
 apply Classical.byContradiction
 intro e
 exact hk (hP k (by omega))
theorem KP.blk{P:Nat→Prop}{w w':World}(h:KP P w w'){k:Nat}{x:Obj}(hb:w.heap[k]? = some x)(hp:P k):w'.heap[k]? = some x:=(h.block k (blk_lt hb) fun e=>e hp).trans hb
theorem KP.row{P:Nat→Prop}{w w':World}{base:Nat}{e:TypeId}{size:Nat}{v:Value}{n:Nat}{xs:List Value}(h:KP P w w')(hr:w.ownsRow base e size v n xs)(hp:∀ k,v.ownBlock=some k→P k):w'.ownsRow base e size v n xs:=
 ownsRow_keeps hr h fun k hk e=>e (hp k hk)
theorem DS.ok{w:World}{d K:Nat}{P:Nat→Prop}{st:Dk}(h:DS w d P K st):DkOk K st:=by obtain ⟨_,_,_,h,_⟩:=h;exact h
theorem DS.later{w w':World}{d K:Nat}{P R:Nat→Prop}{st:Dk}(h:DS w d P K st)(hb:Below w.heap.size w w')(hr:∀ k,R k→P k∨w.heap.size≤k):DS w' d R K st:=by
 obtain ⟨F,q,h1,h2,h3⟩:=h
 exact ⟨F,q,h1.below hb,h2,fun k hk=>⟨fun e=>(hr k e).elim (h3 k hk).1 fun e=>by have:=(h3 k hk).2;omega,Nat.lt_of_lt_of_le (h3 k hk).2 hb.size⟩⟩
theorem DS.below{w w':World}{d K:Nat}{P:Nat→Prop}{st:Dk}(h:DS w d P K st)(hb:Below w.heap.size w w'):DS w' d P K st:=h.later hb fun _ e=>.inl e
theorem DS.less{w:World}{d K:Nat}{P R:Nat→Prop}{st:Dk}(h:DS w d P K st)(hr:∀ k,R k→P k):DS w d R K st:=by
 obtain ⟨F,q,h1,h2,h3⟩:=h
 exact ⟨F,q,h1,h2,fun k hk=>⟨fun e=>(h3 k hk).1 (hr k e),(h3 k hk).2⟩⟩
theorem DS.more{w:World}{d K L:Nat}{P:Nat→Prop}{st:Dk}(h:DS w d P K st)(hl:K≤L):DS w d P L st:=by
 obtain ⟨F,q,h1,h2,h3⟩:=h
 exact ⟨F,q,h1,h2.mono hl,h3⟩
def DTo (w w':World) (d:Nat) (P:Nat→Prop) (K:Nat) (st:Dk):Prop:=DS w' d P K st∧KP P w w'
theorem DTo.of{w w':World}{d K:Nat}{P F:Nat→Prop}{st:Dk}(hP:∀ k,P k→k<w.heap.size)(hF:∀ k,F k→¬ P k∧k<w.heap.size)(h:DiskTo w w' d F st)(hok:DkOk K st):DTo w w' d P K st:=by
 obtain ⟨⟨q,h1⟩,h2⟩:=h
 exact ⟨⟨_,q,h1,hok,fun k hk=>⟨fun e=>hk.1.elim (fun f=>(hF k f).1 e) fun f=>by have:=hP k e;omega,hk.2⟩⟩,Keeps.mono h2 fun k _ f=>(hF k f).1⟩
theorem DTo.more{w w':World}{d K L:Nat}{P:Nat→Prop}{st:Dk}(h:DTo w w' d P K st)(hl:K≤L):DTo w w' d P L st:=⟨h.1.more hl,h.2⟩
theorem new_ds(c:Nat)(hc:c≤1073741824)(w:World) :
  Calls Tryz.prog 11 #[.int .i64 c] w fun e w'=>e=.returned (.tuple #[(.pointer (some ⟨w.heap.size+2,0,none⟩)),.nilIface])∧DS w' (w.heap.size+2) (fun k=>k<w.heap.size) 0 (Dk.new c)∧Below w.heap.size w w'∧w.heap.size+2<w'.heap.size:=by
 refine (new_any c hc w).mono ?_
 rintro e w' ⟨he,⟨q,h⟩,hb⟩
 exact ⟨he,⟨_,q,h.trim,DkOk.new hc,fun k hk=>⟨by have:=hk.1;omega,hk.2⟩⟩,hb,blk_lt h.blk⟩
section
variable {d K:Nat} {P:Nat→Prop} {st:Dk} {w:World} (h:DS w d P K st) (hP:∀ k,P k→k<w.heap.size)
include h hP
theorem create_ds(hK:K<1099511627776)(s:Nm)(hs:s.length≤maxLen):Calls Tryz.prog 89 #[(.pointer (some ⟨d,0,none⟩)),.string ⟨s.toArray⟩] w fun e w'=>e=.returned (errV (st.create s).1)∧DTo w w' d P (K+1) (st.create s).2:=by
 obtain ⟨F,q,h1,h2,h3⟩:=h
 exact (create_any d F q st s K w h1 h2 hK hs).mono fun e w' ⟨he,ht⟩=>⟨he,.of hP h3 ht (h2.create s)⟩
theorem remove_ds(hK:K<1099511627776)(s:Nm)(hs:s.length≤maxLen):Calls Tryz.prog 95 #[(.pointer (some ⟨d,0,none⟩)),.string ⟨s.toArray⟩] w fun e w'=>e=.returned (errV (st.remove s).1)∧DTo w w' d P (K+1) (st.remove s).2:=by
 obtain ⟨F,q,h1,h2,h3⟩:=h
 exact (remove_any d F q st s K w h1 h2 (Nat.le_of_lt hK) hs).mono fun e w' ⟨he,ht⟩=>⟨he,.of hP h3 ht (h2.remove s)⟩
theorem rename_ds(hK:K<1099511627776)(s t:Nm)(hs:s.length≤maxLen)(ht:t.length≤maxLen):Calls Tryz.prog 96 #[(.pointer (some ⟨d,0,none⟩)),.string ⟨s.toArray⟩,.string ⟨t.toArray⟩] w fun e w'=>e=.returned (errV (st.rename s t).1)∧DTo w w' d P (K+1) (st.rename s t).2:=by
 obtain ⟨F,q,h1,h2,h3⟩:=h
 exact (rename_any d F q st s t K w h1 h2 (Nat.le_of_lt hK) hs ht).mono fun e w' ⟨he,ht⟩=>⟨he,.of hP h3 ht (h2.rename s t)⟩
theorem sync_ds(s:Nm)(hs:s.length≤maxLen):Calls Tryz.prog 93 #[(.pointer (some ⟨d,0,none⟩)),.string ⟨s.toArray⟩] w fun e w'=>e=.returned (errV (st.sync s).1)∧DTo w w' d P K (st.sync s).2:=by
 obtain ⟨F,q,h1,h2,h3⟩:=h
 exact (sync_any d F q st s K w h1 h2 hs).mono fun e w' ⟨he,ht⟩=>⟨he,.of hP h3 ht (h2.sync s)⟩
theorem append_ds(s:Nm)(vb:Value)(b:List UInt8)(hs:s.length≤maxLen)(hr:Reads w 1 vb b.length (b.map bv)):Calls Tryz.prog 91 #[(.pointer (some ⟨d,0,none⟩)),.string ⟨s.toArray⟩,vb] w fun e w'=>e=.returned (errV (st.append s b).1)∧DTo w w' d P K (st.append s b).2:=by
 obtain ⟨F,q,h1,h2,h3⟩:=h
 exact (append_any d F q st s vb b K w h1 h2 hs hr).mono fun e w' ⟨he,ht⟩=>⟨he,.of hP h3 ht (h2.append s b)⟩
theorem cut_ds(s:Nm)(n:Int)(hs:s.length≤maxLen):Calls Tryz.prog 111 #[(.pointer (some ⟨d,0,none⟩)),.string ⟨s.toArray⟩,.int .i64 n] w fun e w'=>e=.returned (errV (st.cut s n).1)∧DTo w w' d P K (st.cut s n).2:=by
 obtain ⟨F,q,h1,h2,h3⟩:=h
 exact (cut_any d F q st s n K w h1 h2 hs).mono fun e w' ⟨he,ht⟩=>⟨he,.of hP h3 ht (h2.cut s n)⟩
theorem spoil_ds(s:Nm)(n:Int)(x:UInt8)(hs:s.length≤maxLen):Calls Tryz.prog 39 #[(.pointer (some ⟨d,0,none⟩)),.string ⟨s.toArray⟩,.int .i64 n,.int .u8 x.toNat] w fun e w'=>e=.returned (errV (st.spoil s n x).1)∧DTo w w' d P K (st.spoil s n x).2:=by
 obtain ⟨F,q,h1,h2,h3⟩:=h
 exact (spoil_any d F q st s n x K w h1 h2 hs).mono fun e w' ⟨he,ht⟩=>⟨he,.of hP h3 ht (h2.spoil s n x)⟩
theorem syncNames_ds:Calls Tryz.prog 97 #[(.pointer (some ⟨d,0,none⟩))] w fun e w'=>e=.returned (errV st.syncNames.1)∧DTo w w' d P K st.syncNames.2:=by
 obtain ⟨F,q,h1,h2,h3⟩:=h
 exact (syncNames_any d F q st K w h1 h2).mono fun e w' ⟨he,ht⟩=>⟨he,.of hP h3 ht h2.syncNames⟩
theorem crash_ds(hK:K≤1099511627776)(p:DPicks)(af:Option Addr)(cf:Nat)(hp:Reads w 2 (.slice af p.files.length cf) p.files.length (p.files.flatMap DPick.row))(hpF:∀ a,af=some a→a.spot=none∧P a.block∧a.block<w.heap.size)
  (hn1 : -9223372036854775808≤p.names) (hn2:p.names≤9223372036854775807) (hpk:∀ x∈p.files,-9223372036854775808≤x.keep∧x.keep≤9223372036854775807) :
  Calls Tryz.prog 18 #[(.pointer (some ⟨d,0,none⟩)),.agg #[.int .i64 p.names,.slice af p.files.length cf]] w fun e w'=>e=.returned .nilIface∧DTo w w' d P K (st.crash p):=by
 obtain ⟨F,q,h1,h2,h3⟩:=h
 exact (crash_any d F q st p af cf K w h1 h2 hK hp (fun a ha=>⟨(hpF a ha).1,fun e=>(h3 _ e).1 (hpF a ha).2.1,(hpF a ha).2.2⟩) hn1 hn2 hpk).mono fun e w' ⟨he,ht⟩=>⟨he,.of hP h3 ht (h2.crash p)⟩
omit hP in
theorem size_ds(s:Nm)(hs:s.length≤maxLen):Calls Tryz.prog 29 #[(.pointer (some ⟨d,0,none⟩)),.string ⟨s.toArray⟩] w fun e w'=>e=.returned (.tuple #[.int .i64 (st.size s).2,errV (st.size s).1])∧w=w':=by
 obtain ⟨F,q,h1,h2,h3⟩:=h
 exact size_any d F q st s K w h1 h2 hs
omit hP in
omit hP in
omit hP in
theorem read_ds(s:Nm)(off n:Int)(hs:s.length≤maxLen)(hn2:n≤9223372036854775807)(ho2:off≤9223372036854775807):Calls Tryz.prog 35 #[(.pointer (some ⟨d,0,none⟩)),.string ⟨s.toArray⟩,.int .i64 off,.int .i64 n] w (ReadTo w (st.read s off n).1 (st.read s off n).2):=by
 obtain ⟨F,q,h1,h2,h3⟩:=h
 exact read_any d F q st s off n K w h1 h2 hs hn2 ho2
omit hP in
theorem names_ds:Calls Tryz.prog 15 #[(.pointer (some ⟨d,0,none⟩))] w fun e w'=>∃ v,e=.returned v∧w'.ownsRow w.heap.size 9 1 v st.now.length ((namesOf st.now).map strV)∧Below w.heap.size w w':=by
 obtain ⟨F,q,h1,h2,h3⟩:=h
 exact names_any d F q st K w h1 h2
end
theorem code0(w:World):Calls Tryz.prog 14 #[.nilIface] w fun e w'=>e=.returned (.int .i64 0)∧w=w':=code_any 0 (by omega) (by omega) w
theorem tab_cell:∀ i,i<16→(#[.int .u32 0,.int .u32 274646895,.int .u32 549293790,.int .u32 820201905,.int .u32 1098587580,.int .u32 1361435347,.int .u32 1640403810,.int .u32 1905808397,.int .u32 2197175160,.int .u32 2460548119,.int .u32 2722870694,.int .u32 2987750089,.int .u32 3280807620,.int .u32 3553878443,.int .u32 3811616794,.int .u32 4084100981]:Array Value)[i]? = some (.int .u32 (sumTab.getD i 0).toNat)
 | 0,_=>rfl
 | 1,_=>rfl
 | 2,_=>rfl
 | 3,_=>rfl
 | 4,_=>rfl
 | 5,_=>rfl
 | 6,_=>rfl
 | 7,_=>rfl
 | 8,_=>rfl
 | 9,_=>rfl
 | 10,_=>rfl
 | 11,_=>rfl
 | 12,_=>rfl
 | 13,_=>rfl
 | 14,_=>rfl
 | 15,_=>rfl
 | n+16,h=>absurd h (by omega)
theorem u32_low(k:Nat)(hk:k<4294967296):bits .and .u32 (k:Int) 15=((k % 16:Nat):Int):=by
 have:=u32_and_nat k 15 hk (by omega)
 rw [show ((15:Nat):Int)=15 from rfl] at this
 rw [this,show k &&& 15=k % 16 from Nat.and_two_pow_sub_one_eq_mod k 4]
theorem nibble_any(n:UInt32)(w:World):Calls Tryz.prog 160 #[.int .u32 n.toNat] w fun e w'=>e=.returned (.int .u32 (nib n).toNat)∧Below w.heap.size w w':=by
 have hn:=n.toNat_lt
 obtain ⟨k,hk⟩:∃ k:Nat,k=n.toNat:=⟨_,rfl⟩
 have HNB:=Hd (nib_nat n)
 rw [←hk] at hn HNB ⊢
 have HK:=Hd hk
 clear hk
 have hn2:(k:Int)≤4294967295:=by omega
 have hn0:(0:Int)≤(k:Int):=by omega
 go_enter Tryz.func160,Tryz.ntmps160
 go_upto_region 2 with fail
 obtain ⟨w1,hw1⟩:∃ w1:World,w1=w.alloc (.cells #[.int .u32 0,.int .u32 274646895,.int .u32 549293790,.int .u32 820201905,.int .u32 1098587580,.int .u32 1361435347,.int .u32 1640403810,.int .u32 1905808397,.int .u32 2197175160,.int .u32 2460548119,.int .u32 2722870694,.int .u32 2987750089,.int .u32 3280807620,.int .u32 3553878443,.int .u32 3811616794,.int .u32 4084100981] 284):=⟨_,rfl⟩
 have HB:=Hd (show Below w.heap.size w w1 by rw [hw1];exact belo)
 have hz:w.heap.size<w1.heap.size:=by rw [hw1];simp
 have hj:k % 16<16:=Nat.mod_lt _ (by omega)
 have hc:w1.cell? ⟨w.heap.size,k % 16,none⟩=some (.int .u32 (sumTab.getD (k % 16) 0).toNat):=by
  rw [cell_of_row w1 w.heap.size (k % 16) _ _ _ (show w1.heap[w.heap.size]? = some (.cells #[.int .u32 0,.int .u32 274646895,.int .u32 549293790,.int .u32 820201905,.int .u32 1098587580,.int .u32 1361435347,.int .u32 1640403810,.int .u32 1905808397,.int .u32 2197175160,.int .u32 2460548119,.int .u32 2722870694,.int .u32 2987750089,.int .u32 3280807620,.int .u32 3553878443,.int .u32 3811616794,.int .u32 4084100981] 284 (0,0)) by rw [hw1];exact heap_new w _)]
  exact tab_cell _ hj
 rw [←hw1]
 clear hw1
 obtain ⟨t,ht⟩:∃ t,t=(sumTab.getD (k % 16) 0).toNat:=⟨_,rfl⟩
 have htl:t<4294967296:=by rw [ht];exact (sumTab.getD (k % 16) 0).toNat_lt
 rw [←ht] at hc HNB
 have hand:=u32_low k (by omega)
 obtain ⟨j,hj'⟩:∃ j:Nat,j=k % 16:=⟨_,rfl⟩
 rw [←hj'] at hc hand hj
 have hj0:(0:Int)≤(j:Int):=by omega
 have hj1:(j:Int)<16:=by omega
 have HX:=Hd (u32_xor_nat t (k / 16) htl (by omega))
 have HT:=Hd ht
 clear ht hj'
 go_wp2_with fail
 go_ret
 refine ⟨?_,HB.out⟩
 rw [HNB.out]
 have:=HX.out
 simp only [Int.natCast_ediv] at this
 first
  | rw [←this];rfl
  | simp [←this]
theorem sumRun_snoc(s:UInt32)(b:List UInt8)(j:Nat)(c:UInt8)(h:b[j]? = some c):sumRun s (b.take (j+1))=sumStep (sumRun s (b.take j)) c:=by
 rw [take_snoc_at b j c h,sumRun_append]
 rfl
theorem u32_not(n:UInt32):(~~~ n).toNat=4294967295 - n.toNat:=by
 rw [UInt32.toNat_not]
 rfl
theorem xor_all(n:Nat)(h:n<2 ^ 32):4294967295 ^^^ n=4294967295 - n:=by
 apply Nat.eq_of_testBit_eq
 intro i
 rw [Nat.testBit_xor,show (4294967295:Nat)=2 ^ 32 - 1 from rfl,Nat.testBit_two_pow_sub_one,show 2 ^ 32 - 1 - n=2 ^ 32 - (n+1) by omega,Nat.testBit_two_pow_sub_succ h]
 by_cases hi:i<32
 ·simp [hi]
 ·have:n.testBit i=false:=Nat.testBit_lt_two_pow (Nat.lt_of_lt_of_le h (Nat.pow_le_pow_right (by omega) (by omega)))
  simp [hi,this]
theorem u32_inv2(n:UInt32):bits BinOp.xor IntKind.u32 IntKind.u32.max (n.toNat:Int)=((~~~ n).toNat:Int):=by
 rw [u32_not]
 have h:=u32_xor_nat 4294967295 n.toNat (by omega) n.toNat_lt
 have e:IntKind.u32.max=((4294967295:Nat):Int):=by decide
 rw [e,h,xor_all _ n.toNat_lt]
theorem u32_inv(n:UInt32):bits BinOp.xor IntKind.u32 (if IntKind.u32.signed=true then -1 else IntKind.u32.max) (n.toNat:Int)=((~~~ n).toNat:Int):=by
 rw [u32_not]
 have h:=u32_xor_nat 4294967295 n.toNat (by omega) n.toNat_lt
 have e:(if IntKind.u32.signed=true then (-1:Int) else IntKind.u32.max)=((4294967295:Nat):Int):=by decide
 rw [e,h,xor_all _ n.toNat_lt]
theorem u32_xor_byte(s:UInt32)(x:UInt8):bits BinOp.xor IntKind.u32 (s.toNat:Int) (x.toNat:Int)=((s ^^^ x.toUInt32).toNat:Int):=by
 rw [u32_xor_nat _ _ s.toNat_lt (by have:=x.toNat_lt;omega),UInt32.toNat_xor,UInt8.toNat_toUInt32]
theorem more_any(s:UInt32)(v:Value)(b:List UInt8)(w:World)(h:Reads w 1 v b.length (b.map bv)):Calls Tryz.prog 126 #[.int .u32 s.toNat,v] w fun e w'=>e=.returned (.int .u32 (sumMore s b).toNat)∧Below w.heap.size w w':=by
 obtain ⟨a,c,rfl⟩:=reads_len h
 have hn:=s.toNat_lt
 have hlen:=h.le
 obtain ⟨n,hl⟩:∃ n,n=b.length:=⟨_,rfl⟩
 rw [←hl] at h hlen ⊢
 have HR:=Hd h
 have HL:=Hd hl
 unfold maxLen at hlen
 clear h hl
 go_enter Tryz.func126,Tryz.ntmps126
 go_upto_region 2 with fail
 rw [u32_inv]
 obtain ⟨s0,hs0⟩:∃ s0,s0 = ~~~ s:=⟨_,rfl⟩
 rw [←hs0]
 have HS0:=Hd hs0
 clear hs0
 go_wp2_with fail
 go_loopw [5,12] (fun nn i wr=>∃ j:Nat,j≤n∧nn=.int .u32 (sumRun s0 (b.take j)).toNat∧i=.int .i64 j∧Below w.heap.size w wr) (fun _ i _=>n - (intOf i).toNat)
 case atStart=>exact ⟨0,Nat.zero_le _,rfl,rfl,Below.refl _ _⟩
 case round=>
  obtain ⟨j,hj,rfl,rfl,hbr⟩:=hrel
  have HBR:=Hd hbr
  have hzr:=hbr.size
  clear hbr
  obtain ⟨S,hS⟩:∃ S,S=sumRun s0 (b.take j):=⟨_,rfl⟩
  rw [←hS]
  have HS:=Hd hS
  clear hS
  by_cases hlt:j<n
  ·obtain ⟨x,hx⟩:∃ x,b[j]? = some x:=⟨_,List.getElem?_eq_getElem (by rw [←HL.out];exact hlt)⟩
   obtain ⟨bk,o,c',e,hbk,_,hcell⟩:=reads_at (HR.out.below HBR.out) (by omega) (by omega)
   obtain ⟨rfl,-,rfl⟩:=sl_inj e
   have hcj:wr.cell? ⟨bk,o+j,none⟩=some (.int .u8 x.toNat):=hcell j _ (by rw [List.getElem?_map,hx];rfl)
   have hj0:(0:Int)≤(j:Int):=by omega
   have hj1:(j:Int)<(n:Int):=by omega
   have hxor:=u32_xor_byte S x
   have HST:=Hd (sumRun_snoc s0 b j x hx)
   have hx255:=x.toNat_lt
   clear hx e hcell
   go_wp2_with fail
   refine (nibble_any (S ^^^ x.toUInt32) _).mono ?_
   rintro e w1 ⟨rfl,hb1⟩
   have HB1:=Hd (HBR.out.trans (hb1.mono hzr))
   have hz1:=HB1.out.size
   clear hb1
   go_wp2_with fail
   refine (nibble_any (nib (S ^^^ x.toUInt32)) _).mono ?_
   rintro e w2 ⟨rfl,hb2⟩
   have HB2:=Hd (HB1.out.trans (hb2.mono hz1))
   clear hb2 hxor
   go_wp2_with fail
   go_roundw
   case rel=>exact ⟨j+1,by omega,by rw [HST.out,←HS.out];rfl,by go_num,HB2.out⟩
   case measure=>simp [intOf];omega
  ·have hjn:decide ((j:Int)<(n:Int))=false:=by simp;omega
   have hjn2:decide (j<n)=false:=by simp;omega
   have HE:=Hd (show (~~~ S)=sumMore s b by
    unfold sumMore
    rw [HS.out,←HS0.out,List.take_of_length_le (by rw [←HL.out];omega)])
   go_upto_region 8 with fail
   go_wp2_with fail
   rw [u32_inv2,HE.out]
   go_ret
   exact ⟨rfl,HBR.out⟩
theorem of_any(v:Value)(b:List UInt8)(w:World)(h:Reads w 1 v b.length (b.map bv)):Calls Tryz.prog 127 #[v] w fun e w'=>e=.returned (.int .u32 (sumOf b).toNat)∧Below w.heap.size w w':=by
 have HR:=Hd h
 clear h
 go_enter Tryz.func127,Tryz.ntmps127
 go_wp2_with fail
 refine (more_any 0 v b _ HR.out).mono ?_
 rintro e w1 ⟨rfl,hb⟩
 have HB:=Hd hb
 clear hb
 go_wp2_with fail
 go_ret
 exact ⟨rfl,HB.out⟩
theorem seal_any(v:Value)(b:List UInt8)(w:World)(h:Reads w 1 v b.length (b.map bv))(hl:b.length≤100000):Calls Tryz.prog 131 #[v] w fun e w'=>∃ v',e=.returned v'∧w'.ownsRow w.heap.size 5 1 v' (b ++ le 4 (sumOf b).toNat).length ((b ++ le 4 (sumOf b).toNat).map bv)∧Below w.heap.size w w':=by
 have HR:=Hd h
 obtain ⟨S,hS⟩:∃ S,S=sumOf b:=⟨_,rfl⟩
 have hS32:=S.toNat_lt
 rw [←hS]
 have HS:=Hd hS
 clear h hS
 go_enter Tryz.func131,Tryz.ntmps131
 go_wp2_with fail
 refine (of_any v b _ HR.out).mono ?_
 rintro e w1 ⟨rfl,hb1⟩
 rw [←HS.out]
 have HB1:=Hd hb1
 have hz1:=hb1.size
 clear hb1
 go_wp2_with fail
 refine (put_4 v b S.toNat _ (HR.out.below HB1.out) (by omega) (by omega) (by omega)).mono ?_
 rintro e w2 ⟨v2,rfl,ho2,hb2⟩
 have HO2:=Hd ho2
 have HB2:=Hd (HB1.out.trans (hb2.mono hz1))
 clear ho2 hb2
 obtain ⟨a2,n2,c2,rfl,hn2⟩:=owns_len HO2.out
 go_wp2_with fail
 go_ret
 exact ⟨_,rfl,ownsRow_mono HO2.out hz1,HB2.out⟩
open Go.RowKit Go.Shelf
attribute [local go_sem] Oper.semAt_some
def accB (zs:List UInt8) (pre:List (Fin zs.length)):Nat:=pre.foldl (fun n i=>n * 256+zs[i.val].toNat) 0
theorem accB_snoc(zs:List UInt8)(pre:List (Fin zs.length))(x:Fin zs.length):accB zs (pre ++ [x])=accB zs pre * 256+zs[x.val].toNat:=by unfold accB;rw [List.foldl_append];rfl
theorem fold_lt(zs:List UInt8):∀ (pre:List (Fin zs.length)) (a k:Nat),a<256 ^ k→pre.foldl (fun n i=>n * 256+zs[i.val].toNat) a<256 ^ (k+pre.length)
 | [],_,_,h=>h
 | x :: r,a,k,h=>by
  have hx:=zs[x.val].toNat_lt
  have:=fold_lt zs r (a * 256+zs[x.val].toNat) (k+1) (by rw [Nat.pow_succ];omega)
  rw [List.length_cons,show k+(r.length+1)=k+1+r.length by omega]
  exact this
theorem accB_lt(zs:List UInt8)(pre:List (Fin zs.length)):accB zs pre<256 ^ pre.length:=by
 have:=fold_lt zs pre 0 0 (by decide)
 rwa [Nat.zero_add] at this
theorem accB_back(zs:List UInt8):∀ (k j:Nat),j+k=zs.length→accB zs (backL zs.length j)=leNat (zs.drop j)
 | 0,j,h=>by
  obtain rfl:j=zs.length:=by omega
  rw [backL_all,List.drop_length]
  rfl
 | k+1,j,h=>by
  have hj:j<zs.length:=by omega
  rw [backL_step zs.length j hj,accB_snoc,accB_back zs k (j+1) (by omega),List.drop_eq_getElem_cons hj]
  show leNat (zs.drop (j+1)) * 256+zs[j].toNat=zs[j].toNat+256 * leNat (zs.drop (j+1))
  omega
theorem accB_all(zs:List UInt8):accB zs (backL zs.length 0)=leNat zs:=accB_back zs zs.length 0 (by omega)
theorem pad_any(n:Nat)(hn:n≤1000000)(w:World):Calls Tryz.prog 157 #[.int .i64 n] w fun e w'=>e=.returned (.int .i64 (padN n))∧w=w':=by
 have hn0:(0:Int)≤(n:Int):=by omega
 have hd:decide ((n:Int)<0)=false:=by simp
 have h1:(0:Int)≤8 - (n:Int) % 8:=by omega
 have HP:=Hd (show ((padN n:Nat):Int)=(8 - (n:Int) % 8) % 8 by unfold padN;omega)
 go_enter Tryz.func157,Tryz.ntmps157
 go_wp2_with fail
 go_ret
 exact ⟨by rw [HP.out];rfl,rfl⟩
theorem run_mid8(a:Option Addr)(len c l h:Nat)(h1:l≤h)(h2:h≤c)(W:World) :
  (Instr.slice 47 (.slice a len c) (some (.int .i64 l)) (some (.int .i64 h)) none).run Tryz.prog W=.ok (.slice (if c=l then a else a.map (·.add (l * 1))) (h - l) (c - l)) W:=by
 have hs:∀ W,(sizeOf 5).run Tryz.prog W=.ok 1 W:=fun W=>by kernel_rfl
 simp [Instr.slice,run_underlying Tryz.underlying47,Instr.sliceBounds,run_sliceBound,hs,Result.andThen,(by omega:(0:Int)≤(l:Int)),(by omega:(l:Int)≤(h:Int)),(by omega:(h:Int)≤(c:Int))]
theorem u64_or_low(X c:Nat)(hX:X<72057594037927936)(hc:c<256):bits .or .u64 ((X * 256:Nat):Int) (c:Int)=((X * 256+c:Nat):Int):=by
 rw [u64_or_nat _ _ (by omega) (by omega),nat_join 8 (X * 256) c (by simp) hc]
theorem get_any(a:Option Addr)(n c at' k:Nat)(bs:List UInt8)(w:World)(h:Reads w 1 (.slice a n c) n (bs.map bv))(hb:bs.length=n)(hc:n≤c)(hk:k=4∨k=8)(hin:at'+k≤n)(hn:n≤70368744177664) :
  Calls Tryz.prog 125 #[.slice a n c,.int .i64 at',.int .i64 k] w fun e w'=>e=.returned (.tuple #[.int .u64 (numAt bs at' k),.nilIface])∧Below w.heap.size w w':=by
 obtain ⟨bk,o,c',e,hbk,_,hcell⟩:=reads_at h (by omega) (by omega)
 obtain ⟨rfl,-,rfl⟩:=sl_inj e
 obtain ⟨zs,hzs⟩:∃ zs,zs=(bs.drop at').take k:=⟨_,rfl⟩
 have hzl:zs.length=k:=by rw [hzs,List.length_take,List.length_drop];omega
 have HZ:=Hd (show ∀ j (hj:j<zs.length),w.cell? ⟨bk,o+at'+j,none⟩=some (.int .u8 (zs[j].toNat:Int)) from fun j hj=>by
  have h1:=hcell (at'+j) (.int .u8 (zs[j].toNat:Int)) (by
   have:bs[at'+j]? = some zs[j]:=by
    have h2:zs[j]? = some zs[j]:=List.getElem?_eq_getElem hj
    rw [←h2,hzs,List.getElem?_take,if_pos (by omega),List.getElem?_drop]
   rw [List.getElem?_map,this]
   rfl)
  rw [show o+at'+j=o+(at'+j) by omega]
  exact h1)
 have HNUM:=Hd (show numAt bs at' k=leNat zs by rw [hzs];rfl)
 have hrun:=run_mid8 (some ⟨bk,o,none⟩) n c at' (at'+k) (by omega) (by omega)
 rw [if_neg (show ¬ c=at' by omega),show ((at'+k:Nat):Int)=(at':Int)+(k:Int) by omega,show at'+k - at'=k by omega] at hrun
 have hadd:(some (⟨bk,o,none⟩:Addr)).map (·.add (at' * 1))=some ⟨bk,o+at',none⟩:=by
  simp only [Option.map_some,Addr.add,Nat.mul_one]
  by_cases h1:at'=0 <;> simp [h1]
 rw [hadd] at hrun
 have hs1:(((k:Int) == 1) || ((k:Int) == 2) || ((k:Int) == 4) || ((k:Int) == 8))=true:=by rcases hk with rfl|rfl <;> rfl
 have HS1:=Hd hs1
 have ha0:decide ((at':Int)<0)=false:=by simp
 have hd1:decide ((n:Int)<(at':Int))=false:=by simp;omega
 have hd2:decide (n<at')=false:=by simp;omega
 have hd3:decide ((n:Int) - (at':Int)<(k:Int))=false:=by simp;omega
 have hk8:k≤8:=by omega
 have hk0:0<k:=by omega
 clear hcell e hzs hk hs1 hadd h hb
 subst hzl
 refine (callsIn_wide (n:=4)).1 ?_
 refine callsIn_of_wp_marks Tryz.func125 rfl trivial ?_ rfl
 simp only [Tryz.ntmps125,List.size_toArray,List.length_cons,List.length_nil,Nat.reduceAdd,Nat.reduceSub,Array.replicate_succ,Array.replicate_zero,List.push_toArray,List.append_toArray,List.nil_append,List.cons_append]
 refine wpIn_wide.2 ?_
 go_wp2_with fail
 refine (sized_any zs.length _).mono ?_
 rintro e w1 ⟨rfl,rfl⟩
 rw [HS1.out]
 go_wp2_with fail
 refine (back_any _ _ _ _).mono ?_
 rintro e w2 ⟨rfl,rfl⟩
 go_wp2_with fail
 obtain ⟨W,hW⟩:∃ W:World,W=(w.alloc (.cells #[.int .u64 0] 45)).alloc (.cells #[.slice (some ⟨bk,o+at',none⟩) zs.length (c - at')] 47):=⟨_,rfl⟩
 have kn:W.heap[w.heap.size]? = some (.cells #[.int .u64 0] 45 (0,0)):=by rw [hW];exact blk_alloc (heap_new w _) _
 have ks:W.heap[w.heap.size+1]? = some (.cells #[.slice (some ⟨bk,o+at',none⟩) zs.length (c - at')] 47 (0,0)):=by rw [hW];exact blk_new _ (by simp)
 have hbW:Below w.heap.size w W:=by rw [hW];exact belo
 have hzW:W.heap.size=w.heap.size+2:=by rw [hW];simp
 rw [←hW]
 clear hW
 have KN:=Hd kn
 have HBW:=Hd hbW
 refine (wpIn_wide (n:=4)).1 ?_
 refine wpIn_rangeFunc_one (α:=Fin zs.length) rfl (by omega) (gf:=187) (lb:=#[.pointer (some ⟨w.heap.size+1,0,none⟩)]) rfl trivial (enters_of Tryz.func187 (by kernel_rfl) rfl)
  (back_stops Fence.wide 3 trivial rfl (by omega) (w.heap.size+1) bk (o+at') (c - at') zs (by unfold maxLen;omega) W (by omega) (by omega) (cell_of_row W (w.heap.size+1) 0 _ _ _ ks) (fun j hj=>(HBW.out.cell (p:=⟨bk,o+at'+j,none⟩) hbk).trans (HZ.out j hj)))
  (fun h k=>h.trans k) (kept_put (by omega) (by omega)) (Below.refl _ _) (fun _=>rfl)
  (fun pre W'=>W'.heap[w.heap.size]? = some (.cells #[.int .u64 (accB zs pre)] 45 (0,0))∧Below w.heap.size w W'∧W.heap.size≤W'.heap.size)
  (fun _ _ _=>False) ?own (fun _ _ _ _ _ hs _ _=>hs) ⟨kn,hbW,Nat.le_refl _⟩
  ?body ?done ?stop
 case own=>
  rintro s A B row ⟨h1,h2,h3⟩ hg hr
  refine ⟨(hg.block _ (blk_lt h1) fun e=>?_).trans h1,h2.grown hg h2.size (fun k e=>by have:=(hr k e).1;omega),by have:=hg.size;omega⟩
  have:=(hr _ e.symm).1
  omega
 case stop=>
  rintro D c pre A _ _ h _
  exact h.elim
 case done=>
  rintro D ys A hD rfl ⟨h1,h2,h3⟩ hK
  have HK:=Hd hK
  have H2:=Hd h2
  have sn:=cell_of_row A w.heap.size 0 _ _ _ h1
  have hal:=blk_lt h1
  simp only [List.getElem?_toArray,List.getElem?_cons_zero] at sn
  have HAC:=Hd (accB_all zs)
  clear hK h1 h2
  go_wp2
  refine ⟨by simp,.inl ⟨_,_,rfl,run_takeDeferred HK.out,?_⟩⟩
  refine ⟨_,results_tmp2 rfl _ _ _,?_,H2.out.trans (belowK_b (w:=w) (Nat.le_refl _) A D _ _ (by omega) HK.out rfl rfl)⟩
  rw [HNUM.out,←HAC.out]
  rfl
 case body=>
  rintro l pre x A ⟨h1,h2,h3⟩ hlen2
  have H1:=Hd h1
  have H2:=Hd h2
  have sn:=cell_of_row A w.heap.size 0 _ _ _ h1
  have snf:=frozen_of_row A w.heap.size 0 _ _ h1
  have hal:=blk_lt h1
  simp only [List.getElem?_toArray,List.getElem?_cons_zero] at sn
  obtain ⟨X,hX⟩:∃ X,X=accB zs pre:=⟨_,rfl⟩
  obtain ⟨y,hy⟩:∃ y,y=zs[x.val]:=⟨_,rfl⟩
  have hXl:X<72057594037927936:=by
   have h9:=accB_lt zs pre
   rw [←hX] at h9
   have:256 ^ pre.length≤256 ^ 7:=Nat.pow_le_pow_right (by omega) (by omega)
   have e7:(256:Nat) ^ 7=72057594037927936:=by decide
   omega
  have HSN:=Hd (accB_snoc zs pre x)
  rw [←hX,←hy] at HSN
  rw [←hX] at sn
  have hyl:=y.toNat_lt
  have HOR:=Hd (show bits BinOp.or IntKind.u64 ((X:Int) * 256) (y.toNat:Int)=((X * 256+y.toNat:Nat):Int) by
   have:=u64_or_low X y.toNat hXl hyl
   rwa [show ((X * 256:Nat):Int)=(X:Int) * 256 by omega] at this)
  simp only [assignAct,backEnc,←hy]
  have HX:=Hd hX
  clear h1 h2 hX hy
  gi_wp2
  rw [HOR.out]
  refine ⟨KeepsOthers.from (KeepsOthers.setCell _ _ _) _,⟨heap_setCell_other _ _ _ _ (show bk≠w.heap.size by omega),heap_setCell_other _ _ _ _ (show w.heap.size+1≠w.heap.size by omega)⟩,?_,?_,by simp;omega⟩
  ·rw [HSN.out]
   simpa using blk_put H1.out 0 (.int .u64 ((X * 256+y.toNat:Nat):Int))
  ·exact Below.setCell H2.out (Nat.le_refl _) _
theorem zero1_any(c:UInt8)(w:World):Calls Tryz.prog 162 #[.int .u8 c.toNat] w fun e w'=>e=.returned (.bool (decide (c.toNat≠0)))∧w=w':=by
 go_enter Tryz.func162,Tryz.ntmps162
 by_cases h:c.toNat=0
 ·have h1:((c.toNat:Int) == 0)=true:=by simp [h]
  have HH:=Hd h
  clear h
  go_wp2
  go_ret
  exact ⟨ret_bool (by simp [HH.out]),rfl⟩
 ·have h1:((c.toNat:Int) == 0)=false:=by simp;omega
  have HH:=Hd h
  clear h
  go_wp2
  go_ret
  exact ⟨ret_bool (by simp [HH.out]),rfl⟩
theorem bzidx_any(a:Option Addr)(c:Nat)(zs:List UInt8)(n:Nat)(w:World)(hn:n=zs.length)(h:Reads w 1 (.slice a n c) n (zs.map bv)) :
  Calls Tryz.prog 188 #[.slice a n c,.func (.func 162) #[] #[]] w fun e w'=>∃ r:Int,e=.returned (.int .i64 r)∧(0≤r↔∃ z∈zs,z.toNat≠0)∧w=w':=by
 have hlen:=h.le
 unfold maxLen at hlen
 have HR:=Hd h
 have HL:=Hd hn
 clear h hn
 go_enter Tryz.func188,Tryz.ntmps188
 go_wp2
 go_loop [8] (fun i=>∃ k:Nat,k≤n∧(∀ j z,j<k→zs[j]? = some z→z.toNat=0)∧i=.int .i64 k) (fun i=>n - (intOf i).toNat)
 case atStart=>exact ⟨0,Nat.zero_le _,fun j z hj=>absurd hj (Nat.not_lt_zero j),rfl⟩
 case round=>
  obtain ⟨k,hk,hb,rfl⟩:=hrel
  have HB:=Hd hb
  clear hb
  by_cases hlt:k<n
  ·obtain ⟨y,hy⟩:∃ y,zs[k]? = some y:=⟨_,List.getElem?_eq_getElem (by have:=HL.out;omega)⟩
   obtain ⟨bk,o,c',e,hbk,_,hcell⟩:=reads_at HR.out (by omega) (by omega)
   obtain ⟨rfl,-,rfl⟩:=sl_inj e
   have hcj:w.cell? ⟨bk,o+k,none⟩=some (.int .u8 y.toNat):=hcell k _ (by rw [List.getElem?_map,hy];rfl)
   have hj0:(0:Int)≤(k:Int):=by omega
   have hj1:(k:Int)<(n:Int):=by omega
   have HY:=Hd hy
   clear hy e hcell
   go_wp2_with fail
   refine (zero1_any y _).mono ?_
   rintro e w1 ⟨rfl,rfl⟩
   by_cases he:y.toNat=0
   ·have hq:decide (y.toNat≠0)=false:=by simp [he]
    have HE:=Hd he
    rw [hq]
    clear he hq
    go_wp2
    go_round
    case rel=>exact ⟨k+1,by omega,fun j z hj hz=>by
     by_cases hjk:j=k
     ·rw [hjk,HY.out] at hz
      cases hz
      exact HE.out
     ·exact HB.out j z (by omega) hz,by go_num⟩
    case measure=>simp [intOf];omega
   ·have hq:decide (y.toNat≠0)=true:=by simp [he]
    have HE:=Hd he
    rw [hq]
    clear he hq
    go_wp2
    go_ret
    exact ⟨_,rfl,⟨fun _=>⟨y,List.mem_of_getElem? HY.out,HE.out⟩,fun _=>by omega⟩,rfl⟩
  ·have HKN:=Hd (show n≤k by omega)
   go_wp2
   go_ret
   refine ⟨-1,rfl,⟨fun h=>absurd h (by decide),fun h=>?_⟩,rfl⟩
   obtain ⟨z,hz,hne⟩:=h
   obtain ⟨j,hj⟩:=List.mem_iff_getElem?.1 hz
   exact absurd (HB.out j z (by have:=(List.getElem?_eq_some_iff.1 hj).1;have:=HL.out;have:=HKN.out;omega) hj) hne
theorem any_nz(zs:List UInt8):zs.any (fun c=>c != 0)=true↔∃ z∈zs,z.toNat≠0:=by
 rw [List.any_eq_true]
 constructor
 ·rintro ⟨z,hz,h⟩
  refine ⟨z,hz,fun e=>?_⟩
  have:z=0:=UInt8.toNat_inj.1 e
  subst this
  exact absurd h (by decide)
 ·rintro ⟨z,hz,h⟩
  refine ⟨z,hz,?_⟩
  simp only [bne_iff_ne,ne_eq]
  rintro rfl
  exact h rfl
theorem zero_any(a:Option Addr)(c:Nat)(zs:List UInt8)(n:Nat)(w:World)(hn:n=zs.length)(h:Reads w 1 (.slice a n c) n (zs.map bv)) :
  Calls Tryz.prog 128 #[.slice a n c] w fun e w'=>e=.returned (.bool (!(zs.any fun c=>c != 0)))∧w=w':=by
 have HC:=Hd (bzidx_any a c zs n w hn h)
 have HA:=Hd (any_nz zs)
 obtain ⟨q,hq⟩:∃ q,q=zs.any fun c=>c != 0:=⟨_,rfl⟩
 rw [←hq] at HA ⊢
 clear hn h hq
 have HF:=Hd (show Calls Tryz.prog 161 #[.slice a n c,.func (.func 162) #[] #[]] w fun e w'=>e=.returned (.bool q)∧w=w' by
  go_enter Tryz.func161,Tryz.ntmps161
  go_wp2_with fail
  refine HC.out.mono ?_
  rintro e w' ⟨r,rfl,hr,rfl⟩
  rw [←HA.out] at hr
  have HR:=Hd hr
  clear hr
  by_cases h0:0≤r
  ·go_wp2_with fail
   go_ret
   exact ⟨ret_bool (HR.out.1 h0).symm,rfl⟩
  ·have h0':decide (0≤r)=false:=by simpa using h0
   have HN:=Hd h0
   clear h0
   go_wp2_with fail
   go_ret
   refine ⟨ret_bool ?_,rfl⟩
   cases q with
   | true=>exact absurd (HR.out.2 rfl) (by have:=HN.out;omega)
   | false=>rfl)
 go_enter Tryz.func128,Tryz.ntmps128
 go_wp2_with fail
 refine HF.out.mono ?_
 rintro e w' ⟨rfl,rfl⟩
 go_wp2_with fail
 go_ret
 exact ⟨rfl,rfl⟩
end Go.Proofs.YtfpjfoajonbndaaGreatDoor
