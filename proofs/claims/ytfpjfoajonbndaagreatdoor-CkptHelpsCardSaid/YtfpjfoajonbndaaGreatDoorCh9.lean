import Derived.Test.YtfpjfoajonbndaaGreatDoorCh8
import Derived.Test.YtfpjfoajonbndaaGreatDoorCh3
import Derived.Test.YtfpjfoajonbndaaGreatDoorChZeros
import Derived.Test.YtfpjfoajonbndaaGreatDoorCh2
import Derived.Test.YtfpjfoajonbndaaGreatDoorChAppReads
namespace Go.Proofs.YtfpjfoajonbndaaGreatDoor
set_option maxHeartbeats 8000000
set_option maxRecDepth 100000
open Go.RowKit
set_option maxRecDepth 100000
set_option maxHeartbeats 8000000
open Go.RowKit
def ndV (n:Nd) (a:Option Addr) (c:Nat):Value:=.agg #[.int .u64 n.key,.int .u32 n.cookie,.bool n.gone,.slice a n.data.length c]
theorem zeros_bytes(k:Nat):(Builtin.zeroCells (Value.int .u8 0).cells k).toList=(List.replicate k (0:UInt8)).map bv:=by
 unfold Builtin.zeroCells
 rw [Array.toList_map,Array.toList_range,List.map_replicate]
 apply List.ext_getElem
 ·simp [Value.cells]
 ·intro i h1 h2
  simp [Value.cells,Nat.mod_one]
  rfl
theorem ncells{w:World}{b:Nat}{t:TypeId}{v0 v1 v2 v3:Value}(h:w.heap[b]? = some (.cells #[v0,v1,v2,v3] t (0,0))):w.cell? ⟨b,0,none⟩=some v0∧w.cell? ⟨b,1,none⟩=some v1∧w.cell? ⟨b,2,none⟩=some v2∧w.cell? ⟨b,3,none⟩=some v3:=by
 have e:=fun j=>cell_of_row w b j _ _ _ h
 exact ⟨e 0,e 1,e 2,e 3⟩
theorem wpList_zeros8{w:World}{ops:Array Oper}{rest:List Oper}{o:Oper}{a:Act}{Q:Exit→Act→World→Prop}(hgd:o.guard=none)(s x:Operand)
  (ho:o.op=.call { callee:=.builtin .append,args:=#[s,x],argTypes:=#[47,3] }) (base:Nat) (v:Value) (n:Nat) (bs:List UInt8) (hs:a.eval s=v) (hown:w.ownsRow base 5 1 v n (bs.map bv)) (k:Nat) (hx:a.eval x=.int .i64 k)
  (h63:n+k≤1000000000) (hbase:base≤w.heap.size)
  (h:∀ v' w',w'.ownsRow base 5 1 v' (n+k) ((bs ++ List.replicate k 0).map bv)→w.grownBy w' v.ownBlock→(v'.ownBlock=v.ownBlock∨v'.ownBlock=some w.heap.size)→wpList Tryz.prog ops Q rest (a.put o.dst v') w'):wpList Tryz.prog ops Q (o :: rest) a w:=by
 obtain ⟨i0,hi,hz0,hz1,hz2⟩:=info_parts byteT_info
 obtain ⟨v',w',hr,h2,h3,h4⟩:=run_append_zeros_own (P:=Tryz.prog) w base 47 3 o.type 5 i0 (.int .u8 0) 1 1 .i64 .i64 Tryz.underlying47 Tryz.underlying3 hi hz0 hz1 hz2 rfl (by decide) v n (bs.map bv) hown k (by rw [zeros_bytes];exact bv_one _) (by unfold maxLen;omega) (by omega) hbase
 rw [zeros_bytes,←List.map_append] at h2
 refine wpList_plain hgd fun K hK=>?_
 unfold Oper.wp execOp
 simp only [ho,resolve,invoke,builtin,Sem.run_bind,Sem.run_pure,Result.andThen_ok,List.map_toArray,List.map_cons,List.map_nil,hs,hx,hr]
 exact hK _ _ (h v' w' h2 h3 h4)
theorem ncheck_any(n:Nd)(a:Option Addr)(c:Nat)(hn:n.data.length≤1000000000)(w:World):Calls Tryz.prog 76 #[ndV n a c] w fun e w'=>e=.returned (errV (ndCheck n))∧Below w.heap.size w w':=by
 obtain ⟨key,cookie,gone,data⟩:=n
 unfold ndV
 simp only at hn ⊢
 by_cases h1:4096<data.length
 ·have hd:(4096:Int)<(data.length:Int):=by omega
  have HE:=Hd (show ndCheck ⟨key,cookie,gone,data⟩=2 by unfold ndCheck;rw [if_pos h1])
  go_enter Tryz.func76,Tryz.ntmps76
  go_wp2_with fail
  go_ret
  exact ⟨by rw [HE.out];rfl,belo⟩
 ·have hd:decide ((4096:Int)<(data.length:Int))=false:=by simp;omega
  cases gone with
  | false=>
   have HE:=Hd (show ndCheck ⟨key,cookie,false,data⟩=0 by unfold ndCheck;rw [if_neg h1,if_neg (by simp)])
   go_enter Tryz.func76,Tryz.ntmps76
   go_wp2_with fail
   go_ret
   exact ⟨by rw [HE.out];rfl,belo⟩
  | true=>
   by_cases h2:0<data.length
   ·have hd2:(0:Int)<(data.length:Int):=by omega
    have HE:=Hd (show ndCheck ⟨key,cookie,true,data⟩=1 by unfold ndCheck;rw [if_neg h1,if_pos ⟨rfl,h2⟩])
    go_enter Tryz.func76,Tryz.ntmps76
    go_wp2_with fail
    go_ret
    exact ⟨by rw [HE.out];rfl,belo⟩
   ·have hd2:decide ((0:Int)<(data.length:Int))=false:=by rw [decide_eq_false_iff_not];omega
    have HE:=Hd (show ndCheck ⟨key,cookie,true,data⟩=0 by unfold ndCheck;rw [if_neg h1,if_neg (fun e=>h2 e.2)])
    go_enter Tryz.func76,Tryz.ntmps76
    go_wp2_with fail
    go_ret
    exact ⟨by rw [HE.out];rfl,belo⟩
theorem nsize_any(k:Nat)(hk:k≤4096)(w:World):Calls Tryz.prog 123 #[.int .i64 k] w fun e w'=>e=.returned (.int .i64 (ndSize k))∧w=w':=by
 have hd0:decide ((k:Int)<0)=false:=by simp
 have hd1:decide ((4096:Int)<(k:Int))=false:=by simp;omega
 have HE:=Hd (show ((ndSize k:Nat):Int)=32+(k:Int)+(padN k:Int) by unfold ndSize;omega)
 have hp:padN k≤7:=by unfold padN;omega
 go_enter Tryz.func123,Tryz.ntmps123
 go_wp2_with fail
 refine (pad_any k (by omega) _).mono ?_
 rintro e w1 ⟨rfl,rfl⟩
 go_wp2_with fail
 go_ret
 exact ⟨by rw [HE.out];rfl,rfl⟩
theorem nhead_any(n:Nd)(a:Option Addr)(c:Nat)(hk:n.key<18446744073709551616)(hc:n.cookie<4294967296)(hd:n.data.length≤4096)(w:World):Calls Tryz.prog 156 #[ndV n a c] w fun e w'=>∃ v,e=.returned v∧w'.ownsRow w.heap.size 5 1 v 24 ((ndHead n).map bv)∧Below w.heap.size w w':=by
 obtain ⟨key,cookie,gone,data⟩:=n
 obtain ⟨fl,hfl⟩:∃ fl:Nat,fl=if gone then 1 else 0:=⟨_,rfl⟩
 have hfl1:fl≤1:=by rw [hfl];split <;> omega
 unfold ndV
 simp only at hk hc hd ⊢
 obtain ⟨len,hlen⟩:∃ len,len=data.length:=⟨_,rfl⟩
 have HHD:=Hd (show ndHead ⟨key,cookie,gone,data⟩=((((([] ++ le 4 ndMagic) ++ le 4 fl) ++ le 8 key) ++ le 4 cookie) ++ le 4 len) by rw [hlen,hfl];rfl)
 rw [←hlen] at hd ⊢
 have HFL:=Hd hfl
 clear hfl hlen
 have hkc:key<256 ^ 8:=Nat.lt_of_lt_of_le hk (by decide)
 have hcc:cookie<256 ^ 4:=Nat.lt_of_lt_of_le hc (by decide)
 have HK:=Hd hkc
 have HC:=Hd hcc
 have HKK:=Hd hk
 clear hk hkc hcc
 cases gone with
 | false=>
  have HHD2:=Hd (show ndHead ⟨key,cookie,false,data⟩=((((([] ++ le 4 ndMagic) ++ le 4 0) ++ le 8 key) ++ le 4 cookie) ++ le 4 len) by rw [HHD.out,HFL.out];rfl)
  clear HHD HFL
  go_enter Tryz.func156,Tryz.ntmps156
  go_upto_region 4 with fail
  obtain ⟨w0,hw0⟩:∃ w0:World,w0=w.alloc (.cells #[.int .u64 key,.int .u32 cookie,.bool false,.slice a len c] 60):=⟨_,rfl⟩
  have HB0:=Hd (show Below w.heap.size w w0 by rw [hw0];exact belo)
  have kb0:w0.heap[w.heap.size]? = some (.cells #[.int .u64 key,.int .u32 cookie,.bool false,.slice a len c] 60 (0,0)):=by rw [hw0];exact heap_new w _
  obtain ⟨x00,x01,x02,x03⟩:=ncells kb0
  have hl0:=blk_lt kb0
  have HO0:=Hd (show Reads w0 1 (.slice none 0 0) ([]:List UInt8).length (([]:List UInt8).map bv) from ⟨by simp,.inl ⟨rfl,rfl⟩⟩)
  rw [←hw0]
  clear hw0
  go_wp2_with fail
  refine (put_4 (.slice none 0 0) [] 1313162572 _ HO0.out (by first|(simp;done)|(simp [le_len];done)|(simp [le_len];omega)) (by first|omega|exact HKK.out|decide) (by decide)).mono ?_
  rintro e w1 ⟨v1,rfl,ho1,hb1⟩
  have HO1:=Hd (show Reads w1 1 v1 ([] ++ le 4 ndMagic).length (([] ++ le 4 ndMagic).map bv) from reads_of_owns ho1)
  have HB1:=Hd (HB0.out.trans (hb1.mono HB0.out.size))
  have HW1:=Hd (ownsRow_mono ho1 HB0.out.size)
  have kb1:=(hb1.block w.heap.size hl0).trans kb0
  obtain ⟨x10,x11,x12,x13⟩:=ncells kb1
  have hl1:=blk_lt kb1
  clear ho1 hb1 x00 x01 x02 x03 kb0 hl0
  go_wp2_with fail
  refine (put_4 (v1) ([] ++ le 4 ndMagic) 0 _ HO1.out (by first|(simp;done)|(simp [le_len];done)|(simp [le_len];omega)) (by first|omega|exact HKK.out|decide) (by decide)).mono ?_
  rintro e w2 ⟨v2,rfl,ho2,hb2⟩
  have HO2:=Hd (show Reads w2 1 v2 (([] ++ le 4 ndMagic) ++ le 4 0).length ((([] ++ le 4 ndMagic) ++ le 4 0).map bv) from reads_of_owns ho2)
  have HB2:=Hd (HB1.out.trans (hb2.mono HB1.out.size))
  have HW2:=Hd (ownsRow_mono ho2 HB1.out.size)
  have kb2:=(hb2.block w.heap.size hl1).trans kb1
  obtain ⟨x20,x21,x22,x23⟩:=ncells kb2
  have hl2:=blk_lt kb2
  clear ho2 hb2 x10 x11 x12 x13 kb1 hl1
  go_wp2_with fail
  refine (put_8 (v2) (([] ++ le 4 ndMagic) ++ le 4 0) key _ HO2.out (by first|(simp;done)|(simp [le_len];done)|(simp [le_len];omega)) (by first|omega|exact HKK.out|decide) HK.out).mono ?_
  rintro e w3 ⟨v3,rfl,ho3,hb3⟩
  have HO3:=Hd (show Reads w3 1 v3 ((([] ++ le 4 ndMagic) ++ le 4 0) ++ le 8 key).length (((([] ++ le 4 ndMagic) ++ le 4 0) ++ le 8 key).map bv) from reads_of_owns ho3)
  have HB3:=Hd (HB2.out.trans (hb3.mono HB2.out.size))
  have HW3:=Hd (ownsRow_mono ho3 HB2.out.size)
  have kb3:=(hb3.block w.heap.size hl2).trans kb2
  obtain ⟨x30,x31,x32,x33⟩:=ncells kb3
  have hl3:=blk_lt kb3
  clear ho3 hb3 x20 x21 x22 x23 kb2 hl2
  go_wp2_with fail
  refine (put_4 (v3) ((([] ++ le 4 ndMagic) ++ le 4 0) ++ le 8 key) cookie _ HO3.out (by first|(simp;done)|(simp [le_len];done)|(simp [le_len];omega)) (by first|omega|exact HKK.out|decide) HC.out).mono ?_
  rintro e w4 ⟨v4,rfl,ho4,hb4⟩
  have HO4:=Hd (show Reads w4 1 v4 (((([] ++ le 4 ndMagic) ++ le 4 0) ++ le 8 key) ++ le 4 cookie).length ((((([] ++ le 4 ndMagic) ++ le 4 0) ++ le 8 key) ++ le 4 cookie).map bv) from reads_of_owns ho4)
  have HB4:=Hd (HB3.out.trans (hb4.mono HB3.out.size))
  have HW4:=Hd (ownsRow_mono ho4 HB3.out.size)
  have kb4:=(hb4.block w.heap.size hl3).trans kb3
  obtain ⟨x40,x41,x42,x43⟩:=ncells kb4
  have hl4:=blk_lt kb4
  clear ho4 hb4 x30 x31 x32 x33 kb3 hl3
  go_wp2_with fail
  refine (put_4 (v4) (((([] ++ le 4 ndMagic) ++ le 4 0) ++ le 8 key) ++ le 4 cookie) len _ HO4.out (by first|(simp;done)|(simp [le_len];done)|(simp [le_len];omega)) (by first|omega|exact HKK.out|decide) (Nat.lt_of_le_of_lt hd (by decide))).mono ?_
  rintro e w5 ⟨v5,rfl,ho5,hb5⟩
  have HO5:=Hd (show Reads w5 1 v5 ((((([] ++ le 4 ndMagic) ++ le 4 0) ++ le 8 key) ++ le 4 cookie) ++ le 4 len).length (((((([] ++ le 4 ndMagic) ++ le 4 0) ++ le 8 key) ++ le 4 cookie) ++ le 4 len).map bv) from reads_of_owns ho5)
  have HB5:=Hd (HB4.out.trans (hb5.mono HB4.out.size))
  have HW5:=Hd (ownsRow_mono ho5 HB4.out.size)
  have kb5:=(hb5.block w.heap.size hl4).trans kb4
  obtain ⟨x50,x51,x52,x53⟩:=ncells kb5
  have hl5:=blk_lt kb5
  clear ho5 hb5 x40 x41 x42 x43 kb4 hl4
  go_wp2_with fail
  go_ret
  exact ⟨v5,rfl,by rw [HHD2.out];have h9:w5.ownsRow w.heap.size 5 1 v5 ((((([] ++ le 4 ndMagic) ++ le 4 0) ++ le 8 key) ++ le 4 cookie) ++ le 4 len).length (((((([] ++ le 4 ndMagic) ++ le 4 0) ++ le 8 key) ++ le 4 cookie) ++ le 4 len).map bv):=HW5.out;simpa [le_len] using h9,HB5.out⟩
 | true=>
  have HHD2:=Hd (show ndHead ⟨key,cookie,true,data⟩=((((([] ++ le 4 ndMagic) ++ le 4 1) ++ le 8 key) ++ le 4 cookie) ++ le 4 len) by rw [HHD.out,HFL.out];rfl)
  clear HHD HFL
  go_enter Tryz.func156,Tryz.ntmps156
  go_upto_region 4 with fail
  obtain ⟨w0,hw0⟩:∃ w0:World,w0=w.alloc (.cells #[.int .u64 key,.int .u32 cookie,.bool true,.slice a len c] 60):=⟨_,rfl⟩
  have HB0:=Hd (show Below w.heap.size w w0 by rw [hw0];exact belo)
  have kb0:w0.heap[w.heap.size]? = some (.cells #[.int .u64 key,.int .u32 cookie,.bool true,.slice a len c] 60 (0,0)):=by rw [hw0];exact heap_new w _
  obtain ⟨x00,x01,x02,x03⟩:=ncells kb0
  have hl0:=blk_lt kb0
  have HO0:=Hd (show Reads w0 1 (.slice none 0 0) ([]:List UInt8).length (([]:List UInt8).map bv) from ⟨by simp,.inl ⟨rfl,rfl⟩⟩)
  rw [←hw0]
  clear hw0
  go_wp2_with fail
  refine (put_4 (.slice none 0 0) [] 1313162572 _ HO0.out (by first|(simp;done)|(simp [le_len];done)|(simp [le_len];omega)) (by first|omega|exact HKK.out|decide) (by decide)).mono ?_
  rintro e w1 ⟨v1,rfl,ho1,hb1⟩
  have HO1:=Hd (show Reads w1 1 v1 ([] ++ le 4 ndMagic).length (([] ++ le 4 ndMagic).map bv) from reads_of_owns ho1)
  have HB1:=Hd (HB0.out.trans (hb1.mono HB0.out.size))
  have HW1:=Hd (ownsRow_mono ho1 HB0.out.size)
  have kb1:=(hb1.block w.heap.size hl0).trans kb0
  obtain ⟨x10,x11,x12,x13⟩:=ncells kb1
  have hl1:=blk_lt kb1
  clear ho1 hb1 x00 x01 x02 x03 kb0 hl0
  go_wp2_with fail
  refine (put_4 (v1) ([] ++ le 4 ndMagic) 1 _ HO1.out (by first|(simp;done)|(simp [le_len];done)|(simp [le_len];omega)) (by first|omega|exact HKK.out|decide) (by decide)).mono ?_
  rintro e w2 ⟨v2,rfl,ho2,hb2⟩
  have HO2:=Hd (show Reads w2 1 v2 (([] ++ le 4 ndMagic) ++ le 4 1).length ((([] ++ le 4 ndMagic) ++ le 4 1).map bv) from reads_of_owns ho2)
  have HB2:=Hd (HB1.out.trans (hb2.mono HB1.out.size))
  have HW2:=Hd (ownsRow_mono ho2 HB1.out.size)
  have kb2:=(hb2.block w.heap.size hl1).trans kb1
  obtain ⟨x20,x21,x22,x23⟩:=ncells kb2
  have hl2:=blk_lt kb2
  clear ho2 hb2 x10 x11 x12 x13 kb1 hl1
  go_wp2_with fail
  refine (put_8 (v2) (([] ++ le 4 ndMagic) ++ le 4 1) key _ HO2.out (by first|(simp;done)|(simp [le_len];done)|(simp [le_len];omega)) (by first|omega|exact HKK.out|decide) HK.out).mono ?_
  rintro e w3 ⟨v3,rfl,ho3,hb3⟩
  have HO3:=Hd (show Reads w3 1 v3 ((([] ++ le 4 ndMagic) ++ le 4 1) ++ le 8 key).length (((([] ++ le 4 ndMagic) ++ le 4 1) ++ le 8 key).map bv) from reads_of_owns ho3)
  have HB3:=Hd (HB2.out.trans (hb3.mono HB2.out.size))
  have HW3:=Hd (ownsRow_mono ho3 HB2.out.size)
  have kb3:=(hb3.block w.heap.size hl2).trans kb2
  obtain ⟨x30,x31,x32,x33⟩:=ncells kb3
  have hl3:=blk_lt kb3
  clear ho3 hb3 x20 x21 x22 x23 kb2 hl2
  go_wp2_with fail
  refine (put_4 (v3) ((([] ++ le 4 ndMagic) ++ le 4 1) ++ le 8 key) cookie _ HO3.out (by first|(simp;done)|(simp [le_len];done)|(simp [le_len];omega)) (by first|omega|exact HKK.out|decide) HC.out).mono ?_
  rintro e w4 ⟨v4,rfl,ho4,hb4⟩
  have HO4:=Hd (show Reads w4 1 v4 (((([] ++ le 4 ndMagic) ++ le 4 1) ++ le 8 key) ++ le 4 cookie).length ((((([] ++ le 4 ndMagic) ++ le 4 1) ++ le 8 key) ++ le 4 cookie).map bv) from reads_of_owns ho4)
  have HB4:=Hd (HB3.out.trans (hb4.mono HB3.out.size))
  have HW4:=Hd (ownsRow_mono ho4 HB3.out.size)
  have kb4:=(hb4.block w.heap.size hl3).trans kb3
  obtain ⟨x40,x41,x42,x43⟩:=ncells kb4
  have hl4:=blk_lt kb4
  clear ho4 hb4 x30 x31 x32 x33 kb3 hl3
  go_wp2_with fail
  refine (put_4 (v4) (((([] ++ le 4 ndMagic) ++ le 4 1) ++ le 8 key) ++ le 4 cookie) len _ HO4.out (by first|(simp;done)|(simp [le_len];done)|(simp [le_len];omega)) (by first|omega|exact HKK.out|decide) (Nat.lt_of_le_of_lt hd (by decide))).mono ?_
  rintro e w5 ⟨v5,rfl,ho5,hb5⟩
  have HO5:=Hd (show Reads w5 1 v5 ((((([] ++ le 4 ndMagic) ++ le 4 1) ++ le 8 key) ++ le 4 cookie) ++ le 4 len).length (((((([] ++ le 4 ndMagic) ++ le 4 1) ++ le 8 key) ++ le 4 cookie) ++ le 4 len).map bv) from reads_of_owns ho5)
  have HB5:=Hd (HB4.out.trans (hb5.mono HB4.out.size))
  have HW5:=Hd (ownsRow_mono ho5 HB4.out.size)
  have kb5:=(hb5.block w.heap.size hl4).trans kb4
  obtain ⟨x50,x51,x52,x53⟩:=ncells kb5
  have hl5:=blk_lt kb5
  clear ho5 hb5 x40 x41 x42 x43 kb4 hl4
  go_wp2_with fail
  go_ret
  exact ⟨v5,rfl,by rw [HHD2.out];have h9:w5.ownsRow w.heap.size 5 1 v5 ((((([] ++ le 4 ndMagic) ++ le 4 1) ++ le 8 key) ++ le 4 cookie) ++ le 4 len).length (((((([] ++ le 4 ndMagic) ++ le 4 1) ++ le 8 key) ++ le 4 cookie) ++ le 4 len).map bv):=HW5.out;simpa [le_len] using h9,HB5.out⟩
theorem padN_32(k:Nat):padN (32+k)=padN k:=by unfold padN;omega
theorem slice_of{w:World}{base n:Nat}{v:Value}{xs:List Value}{e:TypeId}{sz:Nat}(h:w.ownsRow base e sz v n xs):∃ a c,v=.slice a n c∧n≤c:=by
 obtain ⟨a,c,rfl⟩:=ownsRow_len h
 refine ⟨a,c,rfl,?_⟩
 rcases h.2 with ⟨e,h0⟩|⟨g,cap,cur,e,_,_,h1,_⟩
 ·omega
 ·simp only [Value.slice.injEq] at e
  omega
theorem nput_any(n:Nd)(a:Option Addr)(c:Nat)(hk:n.key<18446744073709551616)(hc:n.cookie<4294967296)(hch:ndCheck n=0)(hd:n.data.length≤4096)(w:World)(hr:Reads w 1 (.slice a n.data.length c) n.data.length (n.data.map bv)) :
  Calls Tryz.prog 121 #[ndV n a c] w fun e w'=>∃ v',e=.returned (.tuple #[v',.nilIface])∧w'.ownsRow w.heap.size 5 1 v' (ndBytes n).length ((ndBytes n).map bv)∧Below w.heap.size w w':=by
 obtain ⟨key,cookie,gone,data⟩:=n
 obtain ⟨H,hH⟩:∃ H,H=ndHead ⟨key,cookie,gone,data⟩:=⟨_,rfl⟩
 obtain ⟨S,hS⟩:∃ S,S=sumMore (sumOf H) data:=⟨_,rfl⟩
 have HB:=Hd (show ndBytes ⟨key,cookie,gone,data⟩=(((H ++ le 4 S.toNat) ++ List.replicate 4 0) ++ data) ++ List.replicate (padN (32+data.length)) 0 by
  rw [hS,hH,padN_32]
  rfl)
 unfold ndV
 simp only at hk hc hd hr ⊢
 have HCH:=Hd hch
 have HK:=Hd hk
 have HC:=Hd hc
 have HHH:=Hd hH
 have HHL:=Hd (show H.length=24 by rw [hH];exact ndHead_len _)
 have HR:=Hd hr
 have HSS:=Hd hS
 have hSl:=S.toNat_lt
 obtain ⟨i0,hi,hz0,hz1,hz2⟩:=info_parts byteT_info
 have HI:=Hd hi
 have HZ0:=Hd hz0
 have HZ1:=Hd hz1
 have HZ2:=Hd hz2
 clear hi hz0 hz1 hz2 hk hc hch hH hS hr
 go_enter Tryz.func121,Tryz.ntmps121
 go_wp2_with fail
 obtain ⟨w0,hw0⟩:∃ w0:World,w0=w.alloc (.cells #[.int .u64 key,.int .u32 cookie,.bool gone,.slice a data.length c] 60):=⟨_,rfl⟩
 have HB0:=Hd (show Below w.heap.size w w0 by rw [hw0];exact belo)
 have kb0:w0.heap[w.heap.size]? = some (.cells #[.int .u64 key,.int .u32 cookie,.bool gone,.slice a data.length c] 60 (0,0)):=by rw [hw0];exact heap_new w _
 have hl0:=blk_lt kb0
 rw [←hw0]
 clear hw0
 refine (ncheck_any ⟨key,cookie,gone,data⟩ a c (by simp only;omega) _).mono ?_
 rintro e w1 ⟨rfl,hb1⟩
 rw [HCH.out,show errV ((0:Nat):Int)=.nilIface from rfl]
 have HB1:=Hd (HB0.out.trans (hb1.mono HB0.out.size))
 have kb1:=(hb1.block w.heap.size hl0).trans kb0
 have hl1:=blk_lt kb1
 obtain ⟨x0,x1,x2,x3⟩:=ncells kb1
 clear hb1 kb0 hl0
 go_wp2_with fail
 refine (nhead_any ⟨key,cookie,gone,data⟩ a c HK.out HC.out hd _).mono ?_
 rintro e w2 ⟨v2,rfl,ho2,hb2⟩
 rw [←HHH.out] at ho2
 obtain ⟨a2,c2,rfl,_⟩:=slice_of ho2
 have HO2:=Hd ho2
 have HB2:=Hd (HB1.out.trans (hb2.mono HB1.out.size))
 have hz2':=HB1.out.size
 have hz02:=HB2.out.size
 have kb2:=(hb2.block w.heap.size hl1).trans kb1
 clear hb2 ho2 kb1 hl1 x0 x1 x2 x3
 go_upto_region 5 with fail
 obtain ⟨SS,HSD⟩:∃ SS:World→Prop,Hid (SS=fun w'=>w'.heap[w.heap.size]? = some (.cells #[.int .u64 key,.int .u32 cookie,.bool gone,.slice a data.length c] 60 (0,0))):=⟨_,Hd rfl⟩
 refine wp_region_mask0 SS [4] [0,0,2,0,8,30,62,127,255,511,511,1023] (.op 0 0 (.op 1 0 (.op 3 0 (.op 4 2 (.op 2 1 (.op 5 1 (.op 6 0 (.op 7 1 (.op 8 0 (.op 9 0 (.op 10 0 (.op 11 0 .nil)))))))))))) (by kernel_rfl) (by kernel_rfl) rfl (by kernel_rfl) (by kernel_rfl) ?_ ?_
 (focus (rw [HSD.out];exact kb2));(iterate 3 refine stepM0 rfl rfl fun K hK=>?_;go_simp;refine hK _ ?_;clear hK K);refine stepM2 rfl rfl ?_ (fun w1 hS=>?_) fun K hK=>?_;rotate_left;(focus (rw [HSD.out] at hS;obtain ⟨s0,s1,s2,s3⟩:=ncells hS;go_simp;rfl));go_simp;refine hK _ ?_;clear hK K;refine stepM1S rfl rfl fun K hK=>?_
 (go_wp2_with fail;refine Calls.mono (of_any _ H _ (by rw [HHL.out];exact (reads_of_owns HO2.out).below belo)) ?_;rintro e w3 ⟨rfl,hb3⟩;have HB23:=Hd (show Below w2.heap.size w2 w3 from Below.trans belo (hb3.mono (by first|exact Nat.le_refl _|(simp;done)|omega)));have kb3:=blk_below kb2 HB23.out;have hz3:=HB23.out.size;clear hb3;go_wp2)
 refine ⟨by rw [HSD.out];exact (kb3),?_⟩
 refine stepM1 rfl rfl (by kernel_rfl) fun K hK=>?_
 (go_wp2_with fail;refine Calls.mono (more_any (sumOf H) _ data _ (((HR.out.below HB2.out).below HB23.out).below belo)) ?_;rintro e w4 ⟨rfl,hb4⟩;rw [←HSS.out];have HB24:=Hd (HB23.out.trans ((show Below w3.heap.size w3 w4 from Below.trans belo (hb4.mono (by first|exact Nat.le_refl _|(simp;done)|omega))).mono hz3));have hz4:=HB24.out.size;clear hb4;go_wp2)
 refine stepM0 rfl rfl fun K hK=>?_;go_simp;refine hK _ ?_;clear hK K;refine stepM1 rfl rfl (by kernel_rfl) fun K hK=>?_
 (go_wp2_with fail;refine Calls.mono (put_4 _ H S.toNat _ (by rw [HHL.out];exact ((reads_of_owns HO2.out).below HB24.out).below belo) (by rw [HHL.out];omega) (by omega) (Nat.lt_of_lt_of_le hSl (by decide))) ?_;rintro e w5 ⟨v5,rfl,ho5,hb5⟩;have ho5':=(show w5.ownsRow w.heap.size 5 1 v5 (H ++ le 4 S.toNat).length ((H ++ le 4 S.toNat).map bv) from ownsRow_mono ho5 (by first|omega|(simp;omega)));rw [show (H ++ le 4 S.toNat).length=28 by rw [List.length_append,HHL.out,le_len]] at ho5';obtain ⟨a5,c5,rfl,hc5⟩:=slice_of ho5';have HO5:=Hd ho5';have HB25:=Hd (HB24.out.trans ((show Below w4.heap.size w4 w5 from Below.trans belo (hb5.mono (by first|exact Nat.le_refl _|(simp;done)|omega))).mono hz4));have hz5:=HB25.out.size;have kb5:=blk_below kb2 HB25.out;clear ho5 ho5' hb5;go_wp2)
 (iterate 4 refine stepM0 rfl rfl fun K hK=>?_;go_simp;refine hK _ ?_;clear hK K)
 try refine stepMnil0 ?_
 clear HSD SS
 have HB5:=Hd (HB2.out.trans (HB25.out.mono HB2.out.size))
 clear kb2
 go_upto_region 7 with (at_builtin;refine wpList_zeros8 rfl _ _ rfl w.heap.size (.slice a5 28 c5) 28 (H ++ le 4 S.toNat) rfl HO5.out 4 rfl (by omega) HB5.out.size ?_;intro v6 w6 ho6 hg6 hat6;have hz6:=hg6.size;have HB6:=Hd (show Below w.heap.size w w6 from HB5.out.grown hg6 HB5.out.size (fun q hq=>(HO5.out.lt q hq).1));have kb6:=(hg6.block w.heap.size (blk_lt kb5) (fun e=>by
  have h1:=hits_row HO5.out _ _ e.symm kb5
  exact absurd h1 (by show 60+1≠5+1;decide))).trans kb5;have ho6':w6.ownsRow w.heap.size 5 1 v6 32 (((H ++ le 4 S.toNat) ++ List.replicate 4 0).map bv):=ho6;obtain ⟨a6,c6,rfl,hc6⟩:=slice_of ho6';have HO6:=Hd ho6';clear ho6';obtain ⟨y0,y1,y2,y3⟩:=ncells kb6;have hl6:=blk_lt kb6;clear ho6 hg6 hat6)
 go_upto_region 8 with (at_builtin;(refine wpList_append_reads _ rfl _ _ 47 rfl w.heap.size 5 i0 (.int .u8 0) 1 1 Tryz.underlying47 HI.out HZ0.out HZ1.out HZ2.out rfl (by decide) (.slice a6 32 c6) 32 (((H ++ le 4 S.toNat) ++ List.replicate 4 0).map bv) rfl HO6.out (.slice a data.length c) data.length (data.map bv) rfl (HR.out.below HB6.out) (bv_one _) (by unfold maxLen;omega) (by omega) HB6.out.size ?_;intro v7 w7 ho7 hg7 hat7;have HB7:=Hd (show Below w.heap.size w w7 from HB6.out.grown hg7 HB6.out.size (fun q hq=>(HO6.out.lt q hq).1));obtain ⟨L,hL⟩:∃ L,L=32+data.length:=⟨_,rfl⟩;rw [←List.map_append,show 32+data.length=L by omega] at ho7;obtain ⟨a7,c7,rfl,hc7⟩:=slice_of ho7;have HO7:=Hd ho7;have HL:=Hd hL;have hL2:L≤4128:=(by omega);clear ho7 hg7 hat7 hL))
 go_wp2_with fail
 refine (pad_any L (by omega) _).mono ?_
 rintro e w8 ⟨rfl,rfl⟩
 go_wp2_with (at_builtin;refine wpList_zeros8 rfl _ _ rfl w.heap.size (.slice a7 L c7) L (((H ++ le 4 S.toNat) ++ List.replicate 4 0) ++ data) rfl HO7.out (padN L) rfl (by unfold padN;omega) HB7.out.size ?_;intro v9 w9 ho9 hg9 hat9;have HB9:=Hd (show Below w.heap.size w w9 from HB7.out.grown hg9 HB7.out.size (fun q hq=>(HO7.out.lt q hq).1));have HO9:=Hd ho9;clear ho9 hg9 hat9)
 go_ret2
 refine ⟨v9,rfl,?_,HB9.out⟩
 have h9:=HO9.out
 rw [HL.out] at h9
 rw [HB.out]
 have hln:((((H ++ le 4 S.toNat) ++ List.replicate 4 0) ++ data) ++ List.replicate (padN (32+data.length)) 0).length=32+data.length+padN (32+data.length):=by (simp [HHL.out,le_len]);omega
 rw [hln]
 exact h9
theorem nput_bad(n:Nd)(a:Option Addr)(c:Nat)(hch:ndCheck n≠0)(hd:n.data.length≤1000000000)(w:World) :
  Calls Tryz.prog 121 #[ndV n a c] w fun e w'=>e=.returned (.tuple #[.slice none 0 0,errV (ndCheck n)])∧Below w.heap.size w w':=by
 obtain ⟨key,cookie,gone,data⟩:=n
 obtain ⟨k,hk⟩:∃ k:Nat,k=ndCheck ⟨key,cookie,gone,data⟩:=⟨_,rfl⟩
 rw [←hk] at hch ⊢
 have HK:=Hd hk
 unfold ndV
 simp only at hd ⊢
 have HCH:=Hd (errV_ne (k:=(k:Int)) (by omega))
 clear hk
 go_enter Tryz.func121,Tryz.ntmps121
 go_wp2_with fail
 refine (ncheck_any ⟨key,cookie,gone,data⟩ a c hd _).mono ?_
 rintro e w1 ⟨rfl,hb1⟩
 rw [←HK.out,HCH.out]
 have HB1:=Hd (show Below w.heap.size w w1 from Below.trans belo (hb1.mono (by simp)))
 clear hb1
 go_wp2_with fail
 go_ret2
 exact ⟨by rw [HCH.out];rfl,HB1.out⟩
end Go.Proofs.YtfpjfoajonbndaaGreatDoor
