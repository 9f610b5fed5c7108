import Derived.Test.YtfpjfoajonbndaaGreatDoorCaPack
import Derived.Deep.AppendLies
namespace Go.Proofs.YtfpjfoajonbndaaGreatDoor
set_option maxHeartbeats 8000000
set_option maxRecDepth 100000
open Go.RowKit
set_option maxRecDepth 100000
set_option maxHeartbeats 8000000
open Go.RowKit Go.Shelf
theorem belCa3 {B:Nat} {w w2:World} (h:Go.RowKit.Below B w w2:=by repeat (first|(with_reducible first|exact .refl _ _|refine .setCell ?_ ?_ _|refine .alloc ?_ ?_ _|refine .drewN ?_ _|refine .drew ?_|exact Nat.le_refl _)|(focus (simp only [World.size_alloc,World.size_setCell,World.size_drew,World.size_drewN];omega))|omega|exact Nat.le_refl _|(focus (simp;done))|(focus (simp;omega)))):Go.RowKit.Below B w w2:=h
structure PutSt (w0 w:World) (Bn Bo Br n:Nat) (vo:Value) (os:List UInt8) (vr:Value) (rs:List UInt8):Prop where
 bel:Below w0.heap.size w0 w
 hn:w.heap[Bn]? = some (.cells #[.int .u64 n] 45 (0,0))
 ho:w.heap[Bo]? = some (.cells #[vo] 47 (0,0))
 hr:w.heap[Br]? = some (.cells #[vr] 47 (0,0))
 ro:w.ownsRow w0.heap.size 5 1 vo os.length (os.map bv)
 rr:w.ownsRow w0.heap.size 5 1 vr rs.length (rs.map bv)
 low:w0.heap.size≤Bn∧w0.heap.size≤Bo∧w0.heap.size≤Br
 ne:Bn≠Bo∧Bn≠Br∧Bo≠Br
 no:vo.ownBlock≠some Bn∧vo.ownBlock≠some Bo∧vo.ownBlock≠some Br
 nr:vr.ownBlock≠some Bn∧vr.ownBlock≠some Bo∧vr.ownBlock≠some Br
 apart:∀ g,vo.ownBlock=some g→vr.ownBlock≠some g
theorem PutSt.lt {w0 w:World} {Bn Bo Br n:Nat} {vo:Value} {os:List UInt8} {vr:Value} {rs:List UInt8} (h:PutSt w0 w Bn Bo Br n vo os vr rs):Bn<w.heap.size∧Bo<w.heap.size∧Br<w.heap.size:=
 ⟨(Array.getElem?_eq_some_iff.1 h.hn).1,(Array.getElem?_eq_some_iff.1 h.ho).1,(Array.getElem?_eq_some_iff.1 h.hr).1⟩
theorem PutSt.cells {w0 w:World} {Bn Bo Br n:Nat} {vo:Value} {os:List UInt8} {vr:Value} {rs:List UInt8} (h:PutSt w0 w Bn Bo Br n vo os vr rs) :
  w.cell? ⟨Bn,0,none⟩=some (.int .u64 n)∧w.cell? ⟨Bo,0,none⟩=some vo∧w.cell? ⟨Br,0,none⟩=some vr∧w.frozen? ⟨Bo,0,none⟩=false∧w.frozen? ⟨Br,0,none⟩=false:=
 ⟨by rw [cell_of_row w Bn 0 _ _ _ h.hn];rfl,by rw [cell_of_row w Bo 0 _ _ _ h.ho];rfl,by rw [cell_of_row w Br 0 _ _ _ h.hr];rfl,frozen_of_row w Bo 0 _ _ h.ho,frozen_of_row w Br 0 _ _ h.hr⟩
theorem PutSt.keep {w0 w w':World} {Bn Bo Br n:Nat} {vo:Value} {os:List UInt8} {vr:Value} {rs:List UInt8} (h:PutSt w0 w Bn Bo Br n vo os vr rs) (hb:Below w.heap.size w w'):PutSt w0 w' Bn Bo Br n vo os vr rs:=by
 obtain ⟨h1,h2,h3⟩:=h.lt
 exact ⟨h.bel.trans (hb.mono h.bel.size),(hb.block _ h1).trans h.hn,(hb.block _ h2).trans h.ho,(hb.block _ h3).trans h.hr,
  ownsRow_at h.ro (fun k hk=>hb.block k (h.ro.lt k hk).2),ownsRow_at h.rr (fun k hk=>hb.block k (h.rr.lt k hk).2),h.low,h.ne,h.no,h.nr,h.apart⟩
theorem PutSt.drew {w0 w:World} {Bn Bo Br n:Nat} {vo:Value} {os:List UInt8} {vr:Value} {rs:List UInt8} (h:PutSt w0 w Bn Bo Br n vo os vr rs):PutSt w0 w.drew Bn Bo Br n vo os vr rs:=
 h.keep ((Below.refl _ w).drew)
theorem PutSt.onRest {w0 w w2:World} {Bn Bo Br n g cap m:Nat} {vo:Value} {os:List UInt8} {vr:Value} {rs ns:List UInt8} (h:PutSt w0 w Bn Bo Br n vo os vr rs)
  (hg:w.grownBy w2 vr.ownBlock) (hown:w2.ownsRow w0.heap.size 5 1 (.slice (some ⟨g,0,none⟩) m cap) m ((rs ++ ns).map bv)) (hm:m=(rs ++ ns).length) (hat:vr.ownBlock=some g∨g=w.heap.size) :
  PutSt w0 (w2.setCell ⟨Br,0,none⟩ (.slice (some ⟨g,0,none⟩) m cap)) Bn Bo Br n vo os (.slice (some ⟨g,0,none⟩) m cap) (rs ++ ns):=by
 subst hm
 obtain ⟨h1,h2,h3⟩:=h.lt
 obtain ⟨e1,e2,e3⟩:=h.ne
 have hgn:g≠Bn∧g≠Bo∧g≠Br:=by
  obtain ⟨x1,x2,x3⟩:=h.nr
  rcases hat with h'|h'
  ·refine ⟨fun e=>x1 (by rw [h',e]),fun e=>x2 (by rw [h',e]),fun e=>x3 (by rw [h',e])⟩
  ·omega
 have b1:=hg.block Bn h1 (fun e=>h.nr.1 e.symm)
 have b2:=hg.block Bo h2 (fun e=>h.nr.2.1 e.symm)
 have b3:=hg.block Br h3 (fun e=>h.nr.2.2 e.symm)
 refine ⟨(h.bel.grown hg h.bel.size (fun k e=>(h.rr.lt k e).1)).setCell h.low.2.2 _,(heap_setCell_other w2 _ Bn _ e2).trans (b1.trans h.hn),(heap_setCell_other w2 _ Bo _ e3).trans (b2.trans h.ho),heap_setCell_same w2 Br 0 _ _ _ (b3.trans h.hr),
  ownsRow_at (ownsRow_at h.ro (fun k hk=>hg.block k (h.ro.lt k hk).2 (fun e=>h.apart k hk e.symm))) (fun k hk=>heap_setCell_other w2 _ k _ (fun e=>h.no.2.2 (by rw [hk,e]))),ownsRow_at hown (fun k hk=>heap_setCell_other w2 _ k _ (fun e=>hgn.2.2 (by have h1:g=k:=(by simpa [Value.ownBlock] using hk);exact h1.trans e))),
  h.low,h.ne,h.no,⟨fun e=>hgn.1 (by simpa [Value.ownBlock] using e),fun e=>hgn.2.1 (by simpa [Value.ownBlock] using e),fun e=>hgn.2.2 (by simpa [Value.ownBlock] using e)⟩,?_⟩
 intro k hk e
 have e':g=k:=by simpa [Value.ownBlock] using e
 subst e'
 rcases hat with h'|h'
 ·exact h.apart g hk h'
 ·have:=(h.ro.lt g hk).2;omega
theorem PutSt.onOut {w0 w w2:World} {Bn Bo Br n g cap m:Nat} {vo:Value} {os ns:List UInt8} {vr:Value} {rs:List UInt8} (h:PutSt w0 w Bn Bo Br n vo os vr rs)
  (hg:w.grownBy w2 vo.ownBlock) (hown:w2.ownsRow w0.heap.size 5 1 (.slice (some ⟨g,0,none⟩) m cap) m ((os ++ ns).map bv)) (hm:m=(os ++ ns).length) (hat:vo.ownBlock=some g∨g=w.heap.size) :
  PutSt w0 (w2.setCell ⟨Bo,0,none⟩ (.slice (some ⟨g,0,none⟩) m cap)) Bn Bo Br n (.slice (some ⟨g,0,none⟩) m cap) (os ++ ns) vr rs:=by
 subst hm
 obtain ⟨h1,h2,h3⟩:=h.lt
 obtain ⟨e1,e2,e3⟩:=h.ne
 have hgn:g≠Bn∧g≠Bo∧g≠Br:=by
  obtain ⟨x1,x2,x3⟩:=h.no
  rcases hat with h'|h'
  ·refine ⟨fun e=>x1 (by rw [h',e]),fun e=>x2 (by rw [h',e]),fun e=>x3 (by rw [h',e])⟩
  ·omega
 have b1:=hg.block Bn h1 (fun e=>h.no.1 e.symm)
 have b2:=hg.block Bo h2 (fun e=>h.no.2.1 e.symm)
 have b3:=hg.block Br h3 (fun e=>h.no.2.2 e.symm)
 refine ⟨(h.bel.grown hg h.bel.size (fun k e=>(h.ro.lt k e).1)).setCell h.low.2.1 _,(heap_setCell_other w2 _ Bn _ e1).trans (b1.trans h.hn),heap_setCell_same w2 Bo 0 _ _ _ (b2.trans h.ho),(heap_setCell_other w2 _ Br _ (fun e=>e3 e.symm)).trans (b3.trans h.hr),
  ownsRow_at hown (fun k hk=>heap_setCell_other w2 _ k _ (fun e=>hgn.2.1 (by have h1:g=k:=(by simpa [Value.ownBlock] using hk);exact h1.trans e))),ownsRow_at (ownsRow_at h.rr (fun k hk=>hg.block k (h.rr.lt k hk).2 (fun e=>h.apart k e.symm hk))) (fun k hk=>heap_setCell_other w2 _ k _ (fun e=>h.nr.2.1 (by rw [hk,e]))),
  h.low,h.ne,⟨fun e=>hgn.1 (by simpa [Value.ownBlock] using e),fun e=>hgn.2.1 (by simpa [Value.ownBlock] using e),fun e=>hgn.2.2 (by simpa [Value.ownBlock] using e)⟩,h.nr,?_⟩
 intro k hk e
 have e':g=k:=by simpa [Value.ownBlock] using hk
 subst e'
 rcases hat with h'|h'
 ·exact h.apart g h' e
 ·have:=(h.rr.lt g e).2;omega
theorem PutSt.start (w w1:World) (n:Nat) (a1:Option Addr) (nb c1:Nat) (bs:List UInt8) (hnb:nb=bs.length) (x:UInt8) (hB:Below w.heap.size w w1) (kb:w1.heap[w.heap.size]? = some (.cells #[.int .u64 n] 45 (0,0)))
  (ho:w1.ownsRow (w.heap.size+1) 5 1 (.slice a1 nb c1) nb (bs.map bv)) (hz:w.heap.size<w1.heap.size) :
  PutSt w (((w1.alloc (.cells #[.slice a1 nb c1] 47)).alloc (.cells #[.int .u8 (x.toNat:Int)] 5)).alloc (.cells #[.slice (some ⟨w1.heap.size+1,0,none⟩) 1 1] 47))
   w.heap.size w1.heap.size (w1.heap.size+1+1) n (.slice a1 nb c1) bs (.slice (some ⟨w1.heap.size+1,0,none⟩) 1 1) [x]:=by
 subst hnb
 have hlt:=ho.lt
 have h1:∀ k,k<w1.heap.size→(((w1.alloc (.cells #[.slice a1 bs.length c1] 47)).alloc (.cells #[.int .u8 (x.toNat:Int)] 5)).alloc (.cells #[.slice (some ⟨w1.heap.size+1,0,none⟩) 1 1] 47)).heap[k]? = w1.heap[k]?:=fun k hk=>by
  rw [Below.heap_alloc _ _ _ (by simp;omega),Below.heap_alloc _ _ _ (by simp;omega),Below.heap_alloc _ _ _ hk]
 refine ⟨((hB.alloc (by omega) _).alloc (by simp;omega) _).alloc (by simp;omega) _,(h1 _ hz).trans kb,?_,?_,ownsRow_at (ownsRow_mono ho (by omega)) (fun k hk=>h1 k (hlt k hk).2),?_,⟨Nat.le_refl _,by omega,by omega⟩,⟨by omega,by omega,by omega⟩,
  ⟨fun e=>by have:=hlt _ e;omega,fun e=>by have:=hlt _ e;omega,fun e=>by have:=hlt _ e;omega⟩,⟨by simp [Value.ownBlock];omega,by simp [Value.ownBlock],by simp [Value.ownBlock]⟩,fun g hg=>by have:=hlt _ hg;simp [Value.ownBlock];omega⟩
 ·rw [Below.heap_alloc _ _ _ (by simp;omega),Below.heap_alloc _ _ _ (by simp)]
  exact heap_alloc_new _ _
 ·have:=heap_alloc_new ((w1.alloc (.cells #[.slice a1 bs.length c1] 47)).alloc (.cells #[.int .u8 (x.toNat:Int)] 5)) (.cells #[.slice (some ⟨w1.heap.size+1,0,none⟩) 1 1] 47)
  simpa using this
 ·have h2:=(World.ownsRow_lit (base:=w.heap.size) (e:=5) (size:=1) (w1.alloc (.cells #[.slice a1 bs.length c1] 47)) #[.int .u8 (x.toNat:Int)] 1 (by simp;omega) (by unfold maxLen;omega) rfl).alloc (.cells #[.slice (some ⟨w1.heap.size+1,0,none⟩) 1 1] 47)
  simpa [bv] using h2
theorem wpIn_append_lies {P:Program} {F:Fence} {nn:Nat} (w:World) {o:Oper} {a:Act} {K:Act→World→Prop} {Q:Exit→Act→World→Prop} (s x:Operand) (t:TypeId)
  (ho:o.op=.call { callee:=.builtin .append,args:=#[s,x],argTypes:=#[t,t] })
  (base:Nat) (e:TypeId) (i:TypeInfo) (z:Value) (size bytes:Nat) (ht:P.underlying t=some (.slice e)) (hi:P.info? e=some i) (hz:i.zero=some z)
  (hsize:i.size=size) (hby:i.bytes=bytes) (hzs:z.cells.size=size) (hsz:0<size)
  (v:Value) (n:Nat) (xs:List Value) (hs:a.eval s=v) (hown:w.ownsRow base e size v n xs)
  (ad:Addr) (m c:Nat) (news:List Value) (hx:a.eval x=.slice (some ad) m c) (hl:news.length=m * size) (hnews:∀ j u,news[j]? = some u→w.cell? (ad.add j)=some u) (h1:∀ u∈news,u.oneCell'=true)
  (hm:0<m) (h63:n+m≤maxLen) (hbytes:(n+m) * bytes≤140737488355328) (hbase:base≤w.heap.size) (H:Nat) (hH:w.heap.size=H)
  (h:∀ g cap w',w'.ownsRow base e size (.slice (some ⟨g,0,none⟩) (n+m) cap) (n+m) (xs ++ news)→w.grownBy w' v.ownBlock→(v.ownBlock=some g∨g=H)→g<w'.heap.size→K (a.put o.dst (.slice (some ⟨g,0,none⟩) (n+m) cap)) w'):o.wpIn F nn P a w K Q:=by
 obtain ⟨g,cap,w',hr,h2,h3,h4,h5⟩:=run_append_lies (P:=P) w t o.type base e i z size bytes ht hi hz hsize hby hzs hsz v n xs hown ad m c news hl hnews h1 hm h63 hbytes hbase H hH
 unfold Oper.wpIn
 refine ⟨fun f hf=>?_,?_⟩
 ·simp [Oper.about,ho,resolve,Target.leads] at hf
 ·rw [Oper.semAt_eq _ _ _ (by rw [ho];intro c hc;cases hc)]
  unfold execOp
  simp only [ho,resolve,invoke,builtin,Sem.run_bind,Sem.run_pure,Result.andThen_ok,List.map_toArray,List.map_cons,List.map_nil,hs,hx,hr]
  exact h g cap w' h2 h3 h4 h5
theorem owns_cells {w:World} {base:Nat} {e:TypeId} {size n:Nat} {v:Value} {xs:List Value} (h:w.ownsRow base e size v n xs) (k:Nat) (hk:v.ownBlock=some k):∃ cs t f,w.heap[k]? = some (.cells cs t f):=by
 rcases h.2 with ⟨rfl,_⟩|⟨g,cap,cur,rfl,_,hg,_⟩
 ·cases hk
 ·have e:g=k:=by simpa [Value.ownBlock] using hk
  subst e
  exact ⟨_,_,_,hg⟩
theorem PutSt.grown {w0 w w':World} {Bn Bo Br n:Nat} {vo:Value} {os:List UInt8} {vr:Value} {rs:List UInt8} {row:Option Nat} {B:Nat} (h:PutSt w0 w Bn Bo Br n vo os vr rs) (hg:w.grownBy w' row)
  (hB:w0.heap.size≤B) (hr:∀ r,row=some r→B≤r∧∃ o:Obj,w.heap[r]? = some o∧o.isCells=false):PutSt w0 w' Bn Bo Br n vo os vr rs:=by
 obtain ⟨h1,h2,h3⟩:=h.lt
 have key:∀ (k:Nat) (cs:Array Value) (t:TypeId) (f:Nat×Nat),w.heap[k]? = some (Obj.cells cs t f)→w'.heap[k]? = w.heap[k]?:=fun k cs t f hk=>hg.block k (Array.getElem?_eq_some_iff.1 hk).1 (fun e=>by
  obtain ⟨_,o,ho,hc⟩:=hr k e.symm
  rw [hk] at ho
  cases ho
  cases hc)
 refine ⟨h.bel.grown hg h.bel.size (fun k e=>Nat.le_trans hB (hr k e).1),(key _ _ _ _ h.hn).trans h.hn,(key _ _ _ _ h.ho).trans h.ho,(key _ _ _ _ h.hr).trans h.hr,
  ownsRow_at h.ro (fun k hk=>?_),ownsRow_at h.rr (fun k hk=>?_),h.low,h.ne,h.no,h.nr,h.apart⟩
 ·obtain ⟨cs,t,f,hc⟩:=owns_cells h.ro k hk
  exact key k cs t f hc
 ·obtain ⟨cs,t,f,hc⟩:=owns_cells h.rr k hk
  exact key k cs t f hc
theorem owns_len {w:World} {base:Nat} {e:TypeId} {size n:Nat} {v:Value} {xs:List Value} (h:w.ownsRow base e size v n xs):∃ a m c,v=.slice a m c∧Hid (m=n):=by
 obtain ⟨a,c,rfl⟩:=ownsRow_len h
 exact ⟨a,n,c,rfl,Lib.hid rfl⟩
theorem owns_cap {w:World} {base:Nat} {e:TypeId} {size n c:Nat} {a:Addr} {xs:List Value} (h:w.ownsRow base e size (.slice (some a) n c) n xs):n≤c∧c≤9223372036854775807:=by
 rcases h.2 with ⟨h1,_⟩|⟨g,cap,cur,h1,_,_,h2,h3,_⟩
 ·cases h1
 ·obtain ⟨_,_,rfl⟩:some a=some ⟨g,0,none⟩∧n=n∧c=cap:=by simpa using h1
  exact ⟨h2,h3⟩
open Go.RowKit Go.Shelf
attribute [local go_sem] Oper.semAt_some
theorem byte_info:(Tryz.prog.info? 5).map (fun i=>(i.zero,i.size,i.bytes))=some (some (.int .u8 0),1,1):=by kernel_rfl
theorem put_4 (v:Value) (bs:List UInt8) (n:Nat) (w:World) (h:Reads w 1 v bs.length (bs.map bv)) (hlen:bs.length≤70368744177664) (hn:n<18446744073709551616) (hfit:n<256 ^ 4) :
  Calls Tryz.prog 130 #[v,.int .u64 n,.int .i64 4] w fun e w'=>∃ v',e=.returned (.tuple #[v',.nilIface])∧w'.ownsRow w.heap.size 5 1 v' (bs ++ (List.range 4).map (nthByte n)).length ((bs ++ (List.range 4).map (nthByte n)).map bv)∧Below w.heap.size w w':=by
 have hfit':decide (n<256 ^ 4)=true:=by simpa using hfit
 have HF:=Lib.hid hfit'
 have HR:=Lib.hid h
 clear hfit' hfit h
 obtain ⟨i0,hi,hz0,hz1,hz2⟩:=info_parts byte_info
 have HI:=Lib.hid hi
 have HZ0:=Lib.hid hz0
 have HZ1:=Lib.hid hz1
 have HZ2:=Lib.hid hz2
 clear hi hz0 hz1 hz2
 refine (callsIn_wide (n:=4)).1 ?_
 refine callsIn_of_wp_marks Tryz.func130 rfl trivial ?_ rfl
 simp only [Tryz.ntmps130,List.size_toArray,List.length_cons,List.length_nil,Nat.reduceAdd,Nat.reduceSub,Array.replicate_succ,Array.replicate_zero,List.push_toArray,List.append_toArray,List.nil_append,List.cons_append]
 refine wpIn_wide.2 ?_
 go_wp2_with fail
 refine (sized_any 4 _).mono ?_
 rintro e w1 ⟨rfl,rfl⟩
 go_wp2_with fail
 refine (fits_any n 4 hn (by omega) _).mono ?_
 rintro e w1 ⟨rfl,rfl⟩
 rw [HF.out]
 go_wp2_with fail
 refine (clone_Byte v bs.length (bs.map bv) _ (HR.out.below belCa3) (bv_one bs) (by omega)).mono ?_
 rintro e w1 ⟨v1,rfl,ho1,_,hb1⟩
 have hz1:=hb1.size
 simp only [World.size_alloc] at hz1
 have kn:w1.cell? ⟨w.heap.size,0,none⟩=some (.int .u64 n):=by rw [hb1.cell (by simp)];simp
 have kb:w1.heap[w.heap.size]? = some (.cells #[.int .u64 n] 45 (0,0)):=(hb1.block _ (by simp)).trans (heap_alloc_new _ _)
 have hz1':w.heap.size<w1.heap.size:=by omega
 have HB1:=Lib.hid (Below.trans (B:=w.heap.size) (a:=w) belCa3 (hb1.mono (by simp)))
 simp only [World.size_alloc] at ho1
 obtain ⟨a1,c1,rfl⟩:=ownsRow_len ho1
 have KB:=Lib.hid kb
 have HO1:=Lib.hid ho1
 clear ho1 hb1 hz1 kb
 go_wp2_with fail
 refine Calls.mono (part_any n 0 (by omega) w.heap.size _ hn ?_) ?_
 (focus (go_simp))
 rintro e w2 ⟨rfl,rfl⟩
 go_wp2_with fail
 have hst:=PutSt.start w w1 n a1 bs.length c1 bs rfl (nthByte n 0) HB1.out KB.out HO1.out hz1'
 obtain ⟨W0,hW⟩:∃ W0,(((w1.alloc (.cells #[.slice a1 bs.length c1] 47)).alloc (.cells #[.int .u8 ((nthByte n 0).toNat:Int)] 5)).alloc (.cells #[.slice (some ⟨w1.heap.size+1,0,none⟩) 1 1] 47))=W0:=⟨_,rfl⟩
 rw [hW] at hst ⊢
 clear hW kn hz1' HO1 KB HB1
 generalize w1.heap.size+1+1=Br at *
 generalize w1.heap.size+1=Bq0 at *
 generalize w1.heap.size=Bo at *
 have HST:=Lib.hid hst
 clear hst
 obtain ⟨kn,ko,kr,fo,fr⟩:=HST.out.cells
 obtain ⟨ln,lo,lr⟩:=HST.out.lt
 have hlow:=HST.out.bel.size
 obtain ⟨SS,HSD⟩:∃ SS:World→Prop,Hid (SS=fun w'=>w'.cell? ⟨Br,0,none⟩=some (.slice (some ⟨Bq0,0,none⟩) 1 1)):=⟨_,Lib.hid rfl⟩
 refine wp_region_order0 SS [0] [(0,2),(1,0),(3,0),(2,1),(4,1),(5,1),(6,1),(7,1)] (by kernel_rfl) (by kernel_rfl) rfl (by kernel_rfl) ?_ ?_
 (focus (rw [HSD.out];exact kr));refine stepE2 rfl rfl ?_ (fun w1 hS=>?_) fun K hK=>?_;rotate_left;(focus (rw [HSD.out] at hS;have s0:w1.cell? _=some _:=hS;go_simp;rfl));go_simp;refine hK _ ?_;clear hK K;(iterate 2 refine stepE0 rfl rfl fun K hK=>?_;go_simp;refine hK _ ?_;clear hK K);refine stepE1S rfl rfl fun K hK=>?_
 (go_wp2_with fail;refine Calls.mono (part_any n 3 (by omega) w.heap.size _ hn ?_) ?_;(focus (exact kn));rintro e w2 ⟨rfl,rfl⟩;go_wp2)
 refine ⟨by rw [HSD.out];exact (by show World.cell? _ _=some _;go_simp),?_⟩
 refine stepE1S rfl rfl fun K hK=>?_
 (go_wp2_with fail;refine Calls.mono (part_any n 2 (by omega) w.heap.size _ hn ?_) ?_;(focus (exact kn));rintro e w2 ⟨rfl,rfl⟩;go_wp2)
 refine ⟨by rw [HSD.out];exact (by show World.cell? _ _=some _;go_simp),?_⟩
 refine stepE1S rfl rfl fun K hK=>?_;go_wp2
 refine ⟨by rw [HSD.out];exact (by show World.cell? _ _=some _;go_simp),?_⟩
 refine stepE1 rfl rfl (by kernel_rfl) fun K hK=>?_
 (refine wp_append_lies _ _ _ 47 rfl w.heap.size 5 i0 (.int .u8 0) 1 1 Tryz.underlying47 HI.out HZ0.out HZ1.out HZ2.out rfl (by decide) (.slice (some ⟨Bq0,0,none⟩) 1 1) 1 ([nthByte n 0].map bv) rfl ((HST.out.rr.alloc _).drew) ⟨W0.heap.size,0,none⟩ 2 2 [.int .u8 ((nthByte n 3).toNat:Int),.int .u8 ((nthByte n 2).toNat:Int)] rfl rfl (World.news_of_block (heap_alloc_new W0 _)) (by simp [Value.oneCell']) (by omega) (by unfold maxLen;omega) (by omega) (by simp;omega) _ rfl ?_;intro g cp w2 hown2 hgrow hat hlt2;have HP:=Lib.hid (PutSt.onRest (ns:=[nthByte n 3,nthByte n 2]) (HST.out.drew.keep ((Below.refl _ _).alloc (Nat.le_refl _) _)) hgrow hown2 rfl (by simpa using hat));have hkb:=World.cell?_of_block (a:=⟨Br,0,none⟩) (hgrow.block Br (by simp;omega) (fun e=>HST.out.nr.2.2 e.symm));have hkf:=World.frozen?_of_block (a:=⟨Br,0,none⟩) (hgrow.block Br (by simp;omega) (fun e=>HST.out.nr.2.2 e.symm));clear hgrow hown2 hat;go_wp2)
 refine stepE1 rfl rfl (by kernel_rfl) fun K hK=>?_;go_wp2
 try refine stepEnil0 ?_
 clear HSD SS
 have hst:PutSt w (w2.setCell ⟨Br,0,none⟩ (.slice (some ⟨g,0,none⟩) 3 cp)) w.heap.size Bo Br n (.slice a1 bs.length c1) bs (.slice (some ⟨g,0,none⟩) 3 cp) [nthByte n 0,nthByte n 3,nthByte n 2]:=HP.out
 clear HP HST kn ko kr fo fr ln lo lr hlow hkb hkf hlt2
 generalize w2.setCell ⟨Br,0,none⟩ (.slice (some ⟨g,0,none⟩) 3 cp)=W1 at *
 clear w2
 generalize g=Bq1 at *
 generalize cp=cq1 at *
 go_wp2_with fail
 have HST:=Lib.hid hst
 clear hst
 obtain ⟨kn,ko,kr,fo,fr⟩:=HST.out.cells
 obtain ⟨ln,lo,lr⟩:=HST.out.lt
 have hlow:=HST.out.bel.size
 obtain ⟨SS,HSD⟩:∃ SS:World→Prop,Hid (SS=fun w'=>w'.cell? ⟨Br,0,none⟩=some (.slice (some ⟨Bq1,0,none⟩) 3 cq1)):=⟨_,Lib.hid rfl⟩
 refine wp_region_order0 SS [0] [(0,2),(1,0),(2,1),(3,1),(4,1),(5,1)] (by kernel_rfl) (by kernel_rfl) rfl (by kernel_rfl) ?_ ?_
 (focus (rw [HSD.out];exact kr));refine stepE2 rfl rfl ?_ (fun w1 hS=>?_) fun K hK=>?_;rotate_left;(focus (rw [HSD.out] at hS;have s0:w1.cell? _=some _:=hS;go_simp;rfl));go_simp;refine hK _ ?_;clear hK K;refine stepE0 rfl rfl fun K hK=>?_;go_simp;refine hK _ ?_;clear hK K;refine stepE1S rfl rfl fun K hK=>?_
 (go_wp2_with fail;refine Calls.mono (part_any n 1 (by omega) w.heap.size _ hn ?_) ?_;(focus (exact kn));rintro e w2 ⟨rfl,rfl⟩;go_wp2)
 refine ⟨by rw [HSD.out];exact (by show World.cell? _ _=some _;go_simp),?_⟩
 refine stepE1S rfl rfl fun K hK=>?_;go_wp2
 refine ⟨by rw [HSD.out];exact (by show World.cell? _ _=some _;go_simp),?_⟩
 refine stepE1 rfl rfl (by kernel_rfl) fun K hK=>?_
 (refine wp_append_lies _ _ _ 47 rfl w.heap.size 5 i0 (.int .u8 0) 1 1 Tryz.underlying47 HI.out HZ0.out HZ1.out HZ2.out rfl (by decide) (.slice (some ⟨Bq1,0,none⟩) 3 cq1) 3 ([nthByte n 0,nthByte n 3,nthByte n 2].map bv) rfl ((HST.out.rr.alloc _).drew) ⟨W1.heap.size,0,none⟩ 1 1 [.int .u8 ((nthByte n 1).toNat:Int)] rfl rfl (World.news_of_block (heap_alloc_new W1 _)) (by simp [Value.oneCell']) (by omega) (by unfold maxLen;omega) (by omega) (by simp;omega) _ rfl ?_;intro g cp w2 hown2 hgrow hat hlt2;have HP:=Lib.hid (PutSt.onRest (ns:=[nthByte n 1]) (HST.out.drew.keep ((Below.refl _ _).alloc (Nat.le_refl _) _)) hgrow hown2 rfl (by simpa using hat));have hkb:=World.cell?_of_block (a:=⟨Br,0,none⟩) (hgrow.block Br (by simp;omega) (fun e=>HST.out.nr.2.2 e.symm));have hkf:=World.frozen?_of_block (a:=⟨Br,0,none⟩) (hgrow.block Br (by simp;omega) (fun e=>HST.out.nr.2.2 e.symm));clear hgrow hown2 hat;go_wp2)
 refine stepE1 rfl rfl (by kernel_rfl) fun K hK=>?_;go_wp2
 try refine stepEnil0 ?_
 clear HSD SS
 have hst:PutSt w (w2.setCell ⟨Br,0,none⟩ (.slice (some ⟨g,0,none⟩) 4 cp)) w.heap.size Bo Br n (.slice a1 bs.length c1) bs (.slice (some ⟨g,0,none⟩) 4 cp) [nthByte n 0,nthByte n 3,nthByte n 2,nthByte n 1]:=HP.out
 clear HP HST kn ko kr fo fr ln lo lr hlow hkb hkf hlt2
 generalize w2.setCell ⟨Br,0,none⟩ (.slice (some ⟨g,0,none⟩) 4 cp)=W2 at *
 clear w2
 generalize g=Bq2 at *
 generalize cp=cq2 at *
 go_wp2_with fail
 have HST:=Lib.hid hst
 clear hst
 obtain ⟨kn,ko,kr,fo,fr⟩:=HST.out.cells
 obtain ⟨ln,lo,lr⟩:=HST.out.lt
 have hlow:=HST.out.bel.size
 have kq:W2.cell? ⟨Bq2,0,none⟩=some (.int .u8 ((nthByte n 0).toNat:Int)):=HST.out.rr.cellAt 0 (by decide)
 have lq:=(HST.out.rr.lt _ rfl).2
 obtain ⟨hq1,hq2⟩:=owns_cap HST.out.rr
 change 4≤cq2 at hq1
 obtain ⟨SS,HSD⟩:∃ SS:World→Prop,Hid (SS=fun w'=>w'.cell? ⟨Bo,0,none⟩=some (.slice a1 bs.length c1)∧w'.cell? ⟨Br,0,none⟩=some (.slice (some ⟨Bq2,0,none⟩) 4 cq2)∧w'.cell? ⟨Bq2,0,none⟩=some (.int .u8 ((nthByte n 0).toNat:Int))):=⟨_,Lib.hid rfl⟩
 refine wp_region_order0 SS [0,1,3] [(0,2),(1,2),(2,0),(3,2),(4,1),(5,1),(6,1)] (by kernel_rfl) (by kernel_rfl) rfl (by kernel_rfl) ?_ ?_
 (focus (rw [HSD.out];exact ⟨ko,kr,kq⟩));refine stepE2 rfl rfl ?_ (fun w1 hS=>?_) fun K hK=>?_;rotate_left;(focus (rw [HSD.out] at hS;obtain ⟨s0,s1,s2⟩:=hS;go_simp;rfl));go_simp;refine hK _ ?_;clear hK K;refine stepE2 rfl rfl ?_ (fun w1 hS=>?_) fun K hK=>?_;rotate_left;(focus (rw [HSD.out] at hS;obtain ⟨s0,s1,s2⟩:=hS;go_simp;rfl));go_simp;refine hK _ ?_;clear hK K;refine stepE0 rfl rfl fun K hK=>?_;go_simp;refine hK _ ?_;clear hK K;refine stepE2 rfl rfl ?_ (fun w1 hS=>?_) fun K hK=>?_;rotate_left;(focus (rw [HSD.out] at hS;obtain ⟨s0,s1,s2⟩:=hS;go_simp;rfl));go_simp;refine hK _ ?_;clear hK K;refine stepE1S rfl rfl fun K hK=>?_;go_wp2
 refine ⟨by rw [HSD.out];exact (by refine ⟨?_,?_,?_⟩ <;> go_simp),?_⟩
 refine stepE1 rfl rfl (by kernel_rfl) fun K hK=>?_
 (refine wp_append_lies _ _ _ 47 rfl w.heap.size 5 i0 (.int .u8 0) 1 1 Tryz.underlying47 HI.out HZ0.out HZ1.out HZ2.out rfl (by decide) (.slice a1 bs.length c1) bs.length (bs.map bv) rfl ((HST.out.ro.alloc _).drew) ⟨W2.heap.size,0,none⟩ 1 1 [.int .u8 ((nthByte n 0).toNat:Int)] rfl rfl (World.news_of_block (heap_alloc_new W2 _)) (by simp [Value.oneCell']) (by omega) (by unfold maxLen;omega) (by omega) (by simp;omega) _ rfl ?_;intro g cp w2 hown2 hgrow hat hlt2;have HP:=Lib.hid (PutSt.onOut (ns:=[nthByte n 0]) (HST.out.drew.keep ((Below.refl _ _).alloc (Nat.le_refl _) _)) hgrow (by rw [List.map_append];exact hown2) (by simp) (by simpa using hat));have hkb:=World.cell?_of_block (a:=⟨Bo,0,none⟩) (hgrow.block Bo (by simp;omega) (fun e=>HST.out.no.2.1 e.symm));have hkf:=World.frozen?_of_block (a:=⟨Bo,0,none⟩) (hgrow.block Bo (by simp;omega) (fun e=>HST.out.no.2.1 e.symm));clear hgrow hown2 hat;go_wp2)
 refine stepE1 rfl rfl (by kernel_rfl) fun K hK=>?_;go_wp2
 try refine stepEnil0 ?_
 clear HSD SS
 have hst:PutSt w (w2.setCell ⟨Bo,0,none⟩ (.slice (some ⟨g,0,none⟩) (bs.length+1) cp)) w.heap.size Bo Br n (.slice (some ⟨g,0,none⟩) (bs.length+1) cp) (bs ++ [nthByte n 0]) (.slice (some ⟨Bq2,0,none⟩) 4 cq2) [nthByte n 0,nthByte n 3,nthByte n 2,nthByte n 1]:=HP.out
 clear HP HST kn ko kr fo fr ln lo lr hlow hkb hkf hlt2 kq lq
 generalize w2.setCell ⟨Bo,0,none⟩ (.slice (some ⟨g,0,none⟩) (bs.length+1) cp)=W at *
 clear w2
 generalize g=Bp at *
 generalize cp=cq at *
 have HST:=Lib.hid hst
 clear hst
 obtain ⟨kn,ko,kr,fo,fr⟩:=HST.out.cells
 obtain ⟨ln,lo,lr⟩:=HST.out.lt
 have hlow:=HST.out.bel.size
 go_wp2_with fail
 refine (back_any _ _ _ _).mono ?_
 rintro e w2 ⟨rfl,rfl⟩
 go_wp2_with fail
 have lq:Bq2<W.heap.size:=(HST.out.rr.lt _ rfl).2
 have hBq:=Lib.hid (show ∀ i x,[nthByte n 0,nthByte n 3,nthByte n 2,nthByte n 1][i]? = some x→W.cell? ⟨Bq2,i,none⟩=some (.int .u8 (x.toNat:Int)) from fun i x hx=>by
  have h1:=HST.out.rr.cellAt i (by have:=(List.getElem?_eq_some_iff.1 hx).1;simp at this ⊢;omega)
  rw [h1,List.getElem?_map,hx];rfl)
 refine (wpIn_wide (n:=4)).1 ?_
 refine wpIn_rangeFunc_one (α:=Fin [nthByte n 3,nthByte n 2,nthByte n 1].length) rfl (by omega) (gf:=187) (lb:=#[.pointer (some ⟨W.heap.size,0,none⟩)]) rfl trivial (enters_of Tryz.func187 (by kernel_rfl) rfl)
  (back_stops Fence.wide 3 trivial rfl (by omega) W.heap.size Bq2 1 (cq2 - 1) [nthByte n 3,nthByte n 2,nthByte n 1] (by simp [maxLen]) _ (by simp) (by simp;omega) (by simp) (fun j hj=>cell_later ((Below.refl _ _).alloc (Nat.le_refl _) _) (hBq.out (1+j) _ (by rw [Nat.add_comm];exact List.getElem?_eq_getElem hj))))
  (fun h k=>h.trans k) (kept_put (by simp;omega) (by simp)) (Below.refl _ _) (fun _=>rfl)
  (fun pre W'=>∃ vo,PutSt w W' w.heap.size Bo Br n vo ((bs ++ [nthByte n 0]) ++ pre.map (fun (i:Fin [nthByte n 3,nthByte n 2,nthByte n 1].length)=>[nthByte n 3,nthByte n 2,nthByte n 1][i.val])) (.slice (some ⟨Bq2,0,none⟩) 4 cq2) [nthByte n 0,nthByte n 3,nthByte n 2,nthByte n 1]∧vo.ownBlock≠some W.heap.size∧W.heap.size<W'.heap.size)
  (fun _ _ _=>False) ?own (fun _ _ _ _ _ hs _ _=>hs) ⟨_,by simpa using HST.out.keep ((Below.refl _ _).alloc (Nat.le_refl _) _),fun e=>by have:=(HST.out.ro.lt _ e).2;omega,by simp⟩
  ?body ?done ?stop
 case own=>
  rintro s A B row ⟨vo,hs,hv,hz⟩ hg hr
  exact ⟨vo,hs.grown hg (by have:=HST.out.bel.size;simp;omega) hr,hv,by have:=hg.size;omega⟩
 case stop=>
  rintro D c pre A _ _ h _
  exact h.elim
 case done=>
  rintro D ys A hD rfl ⟨vo,hs,_,_⟩ hK
  obtain ⟨ao,mo,co,rfl,HM⟩:=owns_len hs.ro
  have HS:=Lib.hid hs
  have HK:=Lib.hid hK
  clear hs hK
  obtain ⟨sn,so,sr,sfo,sfr⟩:=HS.out.cells
  go_wp2
  refine ⟨by simp,.inl ⟨_,_,rfl,run_takeDeferred HK.out,?_⟩⟩
  have hfin:(bs ++ [nthByte n 0]) ++ (backL [nthByte n 3,nthByte n 2,nthByte n 1].length 0).map (fun (i:Fin [nthByte n 3,nthByte n 2,nthByte n 1].length)=>[nthByte n 3,nthByte n 2,nthByte n 1][i.val])=bs ++ (List.range 4).map (nthByte n):=by
   rw [List.append_assoc]
   rfl
  have hr:=HS.out.ro
  rw [hfin] at hr
  have hm:=HM.out
  rw [hfin] at hm
  subst hm
  exact ⟨_,results_tmp2 rfl _ _ _,_,rfl,ownsRow_putObj hr _ HK.out rfl,HS.out.bel.trans (belowK_b (w:=w) (Nat.le_refl _) A D _ _ (by have:=HST.out.bel.size;simp at hD;omega) HK.out rfl rfl)⟩
 case body=>
  rintro l pre x A ⟨vo,hs,hvb,hza⟩ hlen2
  obtain ⟨ao,mo,co,rfl,HM⟩:=owns_len hs.ro
  have HS:=Lib.hid hs
  clear hs
  obtain ⟨sn,so,sr,sfo,sfr⟩:=HS.out.cells
  obtain ⟨ln2,lo2,lr2⟩:=HS.out.lt
  have hlow2:=HS.out.bel.size
  obtain ⟨xi,hxi⟩:=x
  have hxi':xi<3:=hxi
  obtain ⟨y,hy⟩:∃ y,[nthByte n 3,nthByte n 2,nthByte n 1][xi]'hxi=y:=⟨_,rfl⟩
  have HY:=Lib.hid hy
  have hq:A.cell? ⟨Bq2,xi+1,none⟩=some (.int .u8 (y.toNat:Int)):=by
   have h1:=HS.out.rr.cellAt (xi+1) (by simp;omega)
   rw [h1,List.getElem?_map,List.getElem?_cons_succ,List.getElem?_eq_getElem hxi,hy];rfl
  have lq2:Bq2<A.heap.size:=(HS.out.rr.lt _ rfl).2
  have hmo:mo≤80368744177664:=by
   have h1:=HM.out
   have h2:pre.length<3:=hlen2
   simp at h1
   omega
  simp only [assignAct,backEnc,hy]
  clear hy
  have hw1:IntKind.i64.wrap ((xi:Int)+1)=(xi:Int)+1:=IntWalk.i64_in _ (by omega)
  have hw2:(0:Int)≤(xi:Int)+1:=by omega
  have hw3:(xi:Int)+1<4:=by omega
  have hw4:((xi:Int)+1).toNat=xi+1:=by omega
  gi_wp2
  obtain ⟨SS,HSD⟩:∃ SS:World→Prop,Hid (SS=fun w'=>w'.cell? ⟨Bo,0,none⟩=some (.slice ao mo co)∧w'.cell? ⟨Br,0,none⟩=some (.slice (some ⟨Bq2,0,none⟩) 4 cq2)∧w'.cell? ⟨Bq2,xi+1,none⟩=some (.int .u8 (y.toNat:Int))):=⟨_,Lib.hid rfl⟩
  refine wpIn_region_order0 SS [0,1,5] [(0,2),(1,2),(2,0),(3,0),(4,0),(5,2),(6,1),(7,1),(8,1)] (by kernel_rfl) (by kernel_rfl) (by kernel_rfl) rfl (by kernel_rfl) ?_ ?_
  (focus (rw [HSD.out];exact ⟨so,sr,hq⟩))
  refine stepI2 rfl rfl (fun _=>rfl) ?_ (fun w1 hS=>?_) (fun K hK=>?_)
  rotate_left;(focus (rw [HSD.out] at hS;obtain ⟨s0,s1,s2⟩:=hS;go_simp;rfl));go_simp;refine hK _ ?_;clear hK K
  refine stepI2 rfl rfl (fun _=>rfl) ?_ (fun w1 hS=>?_) (fun K hK=>?_)
  rotate_left;(focus (rw [HSD.out] at hS;obtain ⟨s0,s1,s2⟩:=hS;go_simp;rfl));go_simp;refine hK _ ?_;clear hK K
  refine stepI0 rfl rfl (fun _=>rfl) (fun K hK=>?_)
  go_simp;refine hK _ ?_;clear hK K
  refine stepI0 rfl rfl (fun _=>rfl) (fun K hK=>?_)
  go_simp;refine hK _ ?_;clear hK K
  refine stepI0 rfl rfl (fun _=>rfl) (fun K hK=>?_)
  go_simp;refine hK _ ?_;clear hK K
  refine stepI2 rfl rfl (fun _=>rfl) ?_ (fun w1 hS=>?_) (fun K hK=>?_)
  rotate_left;(focus (rw [HSD.out] at hS;obtain ⟨s0,s1,s2⟩:=hS;go_simp;rfl));go_simp;refine hK _ ?_;clear hK K;refine stepI1S rfl rfl fun K hK=>?_;gi_wp2
  refine ⟨by rw [HSD.out];exact (by refine ⟨?_,?_,?_⟩ <;> go_simp),?_⟩
  refine stepI1 rfl rfl (by kernel_rfl) fun K hK=>?_
  (refine wpIn_append_lies _ _ _ 47 rfl w.heap.size 5 i0 (.int .u8 0) 1 1 Tryz.underlying47 HI.out HZ0.out HZ1.out HZ2.out rfl (by decide) (.slice ao mo co) mo (((bs ++ [nthByte n 0]) ++ pre.map (fun (i:Fin [nthByte n 3,nthByte n 2,nthByte n 1].length)=>[nthByte n 3,nthByte n 2,nthByte n 1][i.val])).map bv) rfl (by have h1:=(HS.out.ro.alloc (.cells #[.int .u8 (y.toNat:Int)] 5)).drew;have h2:=HM.out;rw [←h2] at h1;exact h1) ⟨A.heap.size,0,none⟩ 1 1 [.int .u8 (y.toNat:Int)] rfl rfl (World.news_of_block (heap_alloc_new A _)) (by simp [Value.oneCell']) (by omega) (by unfold maxLen;omega) (by omega) (by simp;omega) _ rfl ?_;intro g cp w2 hown2 hgrow hat hlt2;have HP:=Lib.hid (PutSt.onOut (ns:=[y]) (HS.out.drew.keep ((Below.refl _ _).alloc (Nat.le_refl _) _)) hgrow (by rw [List.map_append];exact hown2) (by have:=HM.out;simp at this ⊢;omega) (by simpa using hat));have hkb:=World.cell?_of_block (a:=⟨Bo,0,none⟩) (hgrow.block Bo (by simp;omega) (fun e=>HS.out.no.2.1 e.symm));have hkf:=World.frozen?_of_block (a:=⟨Bo,0,none⟩) (hgrow.block Bo (by simp;omega) (fun e=>HS.out.no.2.1 e.symm));have HG:=Lib.hid hgrow;have hat':(Value.slice ao mo co).ownBlock=some g∨g=A.heap.size+1:=(by simpa using hat);have hat2:=Lib.hid hat';clear hgrow hown2 hat hat';gi_wp2)
  refine stepI1 rfl rfl (by kernel_rfl) fun K hK=>?_;gi_wp2
  try refine stepInil0 ?_
  clear HSD SS
  have hca:∀ (j:Nat) (o:Obj),(Value.slice ao mo co).ownBlock=some j→A.heap[j]? = some o→o.isCells=true:=fun j o hj ho=>by
   obtain ⟨cs,t,f,hc⟩:=owns_cells HS.out.ro j hj
   rw [hc] at ho
   cases ho
   rfl
  have hblk:∀ k,k<A.heap.size→k≠Bo→(Value.slice ao mo co).ownBlock≠some k→(w2.setCell ⟨Bo,0,none⟩ (.slice (some ⟨g,0,none⟩) (mo+1) cp)).heap[k]? = A.heap[k]?:=fun k hk hne hnb=>by
   rw [heap_setCell_other _ _ _ _ hne,HG.out.block k (by simp;omega) (fun e=>hnb e.symm)]
   exact Below.heap_alloc _ _ _ hk
  refine ⟨?_,⟨hblk _ lq2 (fun e=>HS.out.nr.2.1 (by rw [←e];rfl)) (fun e=>HS.out.apart _ e rfl),hblk _ hza (fun e=>by have:=HST.out.lt.2.1;omega) hvb⟩,.slice (some ⟨g,0,none⟩) (mo+1) cp,?_,?_,?_⟩
  ·refine KeepsOthers.from (KeepsOthers.trans (KeepsOthers.trans (KeepsOthers.trans (KeepsOthers.alloc A _) (KeepsOthers.drew _)) (KeepsOthers.of_grownBy HG.out fun j o hj ho=>?_)) (KeepsOthers.setCell _ _ _)) _
   refine hca j o hj ?_
   have hjl:=(HS.out.ro.lt j hj).2
   rw [←ho]
   exact (Below.heap_alloc _ _ _ hjl).symm
  ·have h1:=HP.out
   rw [List.append_assoc] at h1
   rw [List.map_append]
   simp only [List.map_cons,List.map_nil,HY.out]
   exact h1
  ·intro e
   have e':g=W.heap.size:=by simpa [Value.ownBlock] using e
   rcases hat2.out with h|h
   ·exact hvb (by rw [←e'];exact h)
   ·omega
  ·have:=HG.out.size
   simp at this ⊢
   omega
open Go.RowKit Go.Shelf
attribute [local go_sem] Oper.semAt_some
theorem put_8 (v:Value) (bs:List UInt8) (n:Nat) (w:World) (h:Reads w 1 v bs.length (bs.map bv)) (hlen:bs.length≤70368744177664) (hn:n<18446744073709551616) (hfit:n<256 ^ 8) :
  Calls Tryz.prog 130 #[v,.int .u64 n,.int .i64 8] w fun e w'=>∃ v',e=.returned (.tuple #[v',.nilIface])∧w'.ownsRow w.heap.size 5 1 v' (bs ++ (List.range 8).map (nthByte n)).length ((bs ++ (List.range 8).map (nthByte n)).map bv)∧Below w.heap.size w w':=by
 have hfit':decide (n<256 ^ 8)=true:=by simpa using hfit
 have HF:=Lib.hid hfit'
 have HR:=Lib.hid h
 clear hfit' hfit h
 obtain ⟨i0,hi,hz0,hz1,hz2⟩:=info_parts byte_info
 have HI:=Lib.hid hi
 have HZ0:=Lib.hid hz0
 have HZ1:=Lib.hid hz1
 have HZ2:=Lib.hid hz2
 clear hi hz0 hz1 hz2
 refine (callsIn_wide (n:=4)).1 ?_
 refine callsIn_of_wp_marks Tryz.func130 rfl trivial ?_ rfl
 simp only [Tryz.ntmps130,List.size_toArray,List.length_cons,List.length_nil,Nat.reduceAdd,Nat.reduceSub,Array.replicate_succ,Array.replicate_zero,List.push_toArray,List.append_toArray,List.nil_append,List.cons_append]
 refine wpIn_wide.2 ?_
 go_wp2_with fail
 refine (sized_any 8 _).mono ?_
 rintro e w1 ⟨rfl,rfl⟩
 go_wp2_with fail
 refine (fits_any n 8 hn (by omega) _).mono ?_
 rintro e w1 ⟨rfl,rfl⟩
 rw [HF.out]
 go_wp2_with fail
 refine (clone_Byte v bs.length (bs.map bv) _ (HR.out.below belCa3) (bv_one bs) (by omega)).mono ?_
 rintro e w1 ⟨v1,rfl,ho1,_,hb1⟩
 have hz1:=hb1.size
 simp only [World.size_alloc] at hz1
 have kn:w1.cell? ⟨w.heap.size,0,none⟩=some (.int .u64 n):=by rw [hb1.cell (by simp)];simp
 have kb:w1.heap[w.heap.size]? = some (.cells #[.int .u64 n] 45 (0,0)):=(hb1.block _ (by simp)).trans (heap_alloc_new _ _)
 have hz1':w.heap.size<w1.heap.size:=by omega
 have HB1:=Lib.hid (Below.trans (B:=w.heap.size) (a:=w) belCa3 (hb1.mono (by simp)))
 simp only [World.size_alloc] at ho1
 obtain ⟨a1,c1,rfl⟩:=ownsRow_len ho1
 have KB:=Lib.hid kb
 have HO1:=Lib.hid ho1
 clear ho1 hb1 hz1 kb
 go_wp2_with fail
 refine Calls.mono (part_any n 0 (by omega) w.heap.size _ hn ?_) ?_
 (focus (go_simp))
 rintro e w2 ⟨rfl,rfl⟩
 go_wp2_with fail
 have hst:=PutSt.start w w1 n a1 bs.length c1 bs rfl (nthByte n 0) HB1.out KB.out HO1.out hz1'
 obtain ⟨W0,hW⟩:∃ W0,(((w1.alloc (.cells #[.slice a1 bs.length c1] 47)).alloc (.cells #[.int .u8 ((nthByte n 0).toNat:Int)] 5)).alloc (.cells #[.slice (some ⟨w1.heap.size+1,0,none⟩) 1 1] 47))=W0:=⟨_,rfl⟩
 rw [hW] at hst ⊢
 clear hW kn hz1' HO1 KB HB1
 generalize w1.heap.size+1+1=Br at *
 generalize w1.heap.size+1=Bq0 at *
 generalize w1.heap.size=Bo at *
 have HST:=Lib.hid hst
 clear hst
 obtain ⟨kn,ko,kr,fo,fr⟩:=HST.out.cells
 obtain ⟨ln,lo,lr⟩:=HST.out.lt
 have hlow:=HST.out.bel.size
 obtain ⟨SS,HSD⟩:∃ SS:World→Prop,Hid (SS=fun w'=>w'.cell? ⟨Br,0,none⟩=some (.slice (some ⟨Bq0,0,none⟩) 1 1)):=⟨_,Lib.hid rfl⟩
 refine wp_region_order0 SS [0] [(0,2),(1,0),(3,0),(5,0),(7,0),(2,1),(4,1),(6,1),(8,1),(9,1),(10,1),(11,1)] (by kernel_rfl) (by kernel_rfl) rfl (by kernel_rfl) ?_ ?_
 (focus (rw [HSD.out];exact kr));refine stepE2 rfl rfl ?_ (fun w1 hS=>?_) fun K hK=>?_;rotate_left;(focus (rw [HSD.out] at hS;have s0:w1.cell? _=some _:=hS;go_simp;rfl));go_simp;refine hK _ ?_;clear hK K;(iterate 4 refine stepE0 rfl rfl fun K hK=>?_;go_simp;refine hK _ ?_;clear hK K);refine stepE1S rfl rfl fun K hK=>?_
 (go_wp2_with fail;refine Calls.mono (part_any n 7 (by omega) w.heap.size _ hn ?_) ?_;(focus (exact kn));rintro e w2 ⟨rfl,rfl⟩;go_wp2)
 refine ⟨by rw [HSD.out];exact (by show World.cell? _ _=some _;go_simp),?_⟩
 refine stepE1S rfl rfl fun K hK=>?_
 (go_wp2_with fail;refine Calls.mono (part_any n 6 (by omega) w.heap.size _ hn ?_) ?_;(focus (exact kn));rintro e w2 ⟨rfl,rfl⟩;go_wp2)
 refine ⟨by rw [HSD.out];exact (by show World.cell? _ _=some _;go_simp),?_⟩
 refine stepE1S rfl rfl fun K hK=>?_
 (go_wp2_with fail;refine Calls.mono (part_any n 5 (by omega) w.heap.size _ hn ?_) ?_;(focus (exact kn));rintro e w2 ⟨rfl,rfl⟩;go_wp2)
 refine ⟨by rw [HSD.out];exact (by show World.cell? _ _=some _;go_simp),?_⟩
 refine stepE1S rfl rfl fun K hK=>?_
 (go_wp2_with fail;refine Calls.mono (part_any n 4 (by omega) w.heap.size _ hn ?_) ?_;(focus (exact kn));rintro e w2 ⟨rfl,rfl⟩;go_wp2)
 refine ⟨by rw [HSD.out];exact (by show World.cell? _ _=some _;go_simp),?_⟩
 refine stepE1S rfl rfl fun K hK=>?_;go_wp2
 refine ⟨by rw [HSD.out];exact (by show World.cell? _ _=some _;go_simp),?_⟩
 refine stepE1 rfl rfl (by kernel_rfl) fun K hK=>?_
 (refine wp_append_lies _ _ _ 47 rfl w.heap.size 5 i0 (.int .u8 0) 1 1 Tryz.underlying47 HI.out HZ0.out HZ1.out HZ2.out rfl (by decide) (.slice (some ⟨Bq0,0,none⟩) 1 1) 1 ([nthByte n 0].map bv) rfl ((HST.out.rr.alloc _).drew) ⟨W0.heap.size,0,none⟩ 4 4 [.int .u8 ((nthByte n 7).toNat:Int),.int .u8 ((nthByte n 6).toNat:Int),.int .u8 ((nthByte n 5).toNat:Int),.int .u8 ((nthByte n 4).toNat:Int)] rfl rfl (World.news_of_block (heap_alloc_new W0 _)) (by simp [Value.oneCell']) (by omega) (by unfold maxLen;omega) (by omega) (by simp;omega) _ rfl ?_;intro g cp w2 hown2 hgrow hat hlt2;have HP:=Lib.hid (PutSt.onRest (ns:=[nthByte n 7,nthByte n 6,nthByte n 5,nthByte n 4]) (HST.out.drew.keep ((Below.refl _ _).alloc (Nat.le_refl _) _)) hgrow hown2 rfl (by simpa using hat));have hkb:=World.cell?_of_block (a:=⟨Br,0,none⟩) (hgrow.block Br (by simp;omega) (fun e=>HST.out.nr.2.2 e.symm));have hkf:=World.frozen?_of_block (a:=⟨Br,0,none⟩) (hgrow.block Br (by simp;omega) (fun e=>HST.out.nr.2.2 e.symm));clear hgrow hown2 hat;go_wp2)
 refine stepE1 rfl rfl (by kernel_rfl) fun K hK=>?_;go_wp2
 try refine stepEnil0 ?_
 clear HSD SS
 have hst:PutSt w (w2.setCell ⟨Br,0,none⟩ (.slice (some ⟨g,0,none⟩) 5 cp)) w.heap.size Bo Br n (.slice a1 bs.length c1) bs (.slice (some ⟨g,0,none⟩) 5 cp) [nthByte n 0,nthByte n 7,nthByte n 6,nthByte n 5,nthByte n 4]:=HP.out
 clear HP HST kn ko kr fo fr ln lo lr hlow hkb hkf hlt2
 generalize w2.setCell ⟨Br,0,none⟩ (.slice (some ⟨g,0,none⟩) 5 cp)=W1 at *
 clear w2
 generalize g=Bq1 at *
 generalize cp=cq1 at *
 go_wp2_with fail
 have HST:=Lib.hid hst
 clear hst
 obtain ⟨kn,ko,kr,fo,fr⟩:=HST.out.cells
 obtain ⟨ln,lo,lr⟩:=HST.out.lt
 have hlow:=HST.out.bel.size
 obtain ⟨SS,HSD⟩:∃ SS:World→Prop,Hid (SS=fun w'=>w'.cell? ⟨Br,0,none⟩=some (.slice (some ⟨Bq1,0,none⟩) 5 cq1)):=⟨_,Lib.hid rfl⟩
 refine wp_region_order0 SS [0] [(0,2),(1,0),(3,0),(2,1),(4,1),(5,1),(6,1),(7,1)] (by kernel_rfl) (by kernel_rfl) rfl (by kernel_rfl) ?_ ?_
 (focus (rw [HSD.out];exact kr));refine stepE2 rfl rfl ?_ (fun w1 hS=>?_) fun K hK=>?_;rotate_left;(focus (rw [HSD.out] at hS;have s0:w1.cell? _=some _:=hS;go_simp;rfl));go_simp;refine hK _ ?_;clear hK K;(iterate 2 refine stepE0 rfl rfl fun K hK=>?_;go_simp;refine hK _ ?_;clear hK K);refine stepE1S rfl rfl fun K hK=>?_
 (go_wp2_with fail;refine Calls.mono (part_any n 3 (by omega) w.heap.size _ hn ?_) ?_;(focus (exact kn));rintro e w2 ⟨rfl,rfl⟩;go_wp2)
 refine ⟨by rw [HSD.out];exact (by show World.cell? _ _=some _;go_simp),?_⟩
 refine stepE1S rfl rfl fun K hK=>?_
 (go_wp2_with fail;refine Calls.mono (part_any n 2 (by omega) w.heap.size _ hn ?_) ?_;(focus (exact kn));rintro e w2 ⟨rfl,rfl⟩;go_wp2)
 refine ⟨by rw [HSD.out];exact (by show World.cell? _ _=some _;go_simp),?_⟩
 refine stepE1S rfl rfl fun K hK=>?_;go_wp2
 refine ⟨by rw [HSD.out];exact (by show World.cell? _ _=some _;go_simp),?_⟩
 refine stepE1 rfl rfl (by kernel_rfl) fun K hK=>?_
 (refine wp_append_lies _ _ _ 47 rfl w.heap.size 5 i0 (.int .u8 0) 1 1 Tryz.underlying47 HI.out HZ0.out HZ1.out HZ2.out rfl (by decide) (.slice (some ⟨Bq1,0,none⟩) 5 cq1) 5 ([nthByte n 0,nthByte n 7,nthByte n 6,nthByte n 5,nthByte n 4].map bv) rfl ((HST.out.rr.alloc _).drew) ⟨W1.heap.size,0,none⟩ 2 2 [.int .u8 ((nthByte n 3).toNat:Int),.int .u8 ((nthByte n 2).toNat:Int)] rfl rfl (World.news_of_block (heap_alloc_new W1 _)) (by simp [Value.oneCell']) (by omega) (by unfold maxLen;omega) (by omega) (by simp;omega) _ rfl ?_;intro g cp w2 hown2 hgrow hat hlt2;have HP:=Lib.hid (PutSt.onRest (ns:=[nthByte n 3,nthByte n 2]) (HST.out.drew.keep ((Below.refl _ _).alloc (Nat.le_refl _) _)) hgrow hown2 rfl (by simpa using hat));have hkb:=World.cell?_of_block (a:=⟨Br,0,none⟩) (hgrow.block Br (by simp;omega) (fun e=>HST.out.nr.2.2 e.symm));have hkf:=World.frozen?_of_block (a:=⟨Br,0,none⟩) (hgrow.block Br (by simp;omega) (fun e=>HST.out.nr.2.2 e.symm));clear hgrow hown2 hat;go_wp2)
 refine stepE1 rfl rfl (by kernel_rfl) fun K hK=>?_;go_wp2
 try refine stepEnil0 ?_
 clear HSD SS
 have hst:PutSt w (w2.setCell ⟨Br,0,none⟩ (.slice (some ⟨g,0,none⟩) 7 cp)) w.heap.size Bo Br n (.slice a1 bs.length c1) bs (.slice (some ⟨g,0,none⟩) 7 cp) [nthByte n 0,nthByte n 7,nthByte n 6,nthByte n 5,nthByte n 4,nthByte n 3,nthByte n 2]:=HP.out
 clear HP HST kn ko kr fo fr ln lo lr hlow hkb hkf hlt2
 generalize w2.setCell ⟨Br,0,none⟩ (.slice (some ⟨g,0,none⟩) 7 cp)=W2 at *
 clear w2
 generalize g=Bq2 at *
 generalize cp=cq2 at *
 go_wp2_with fail
 have HST:=Lib.hid hst
 clear hst
 obtain ⟨kn,ko,kr,fo,fr⟩:=HST.out.cells
 obtain ⟨ln,lo,lr⟩:=HST.out.lt
 have hlow:=HST.out.bel.size
 obtain ⟨SS,HSD⟩:∃ SS:World→Prop,Hid (SS=fun w'=>w'.cell? ⟨Br,0,none⟩=some (.slice (some ⟨Bq2,0,none⟩) 7 cq2)):=⟨_,Lib.hid rfl⟩
 refine wp_region_order0 SS [0] [(0,2),(1,0),(2,1),(3,1),(4,1),(5,1)] (by kernel_rfl) (by kernel_rfl) rfl (by kernel_rfl) ?_ ?_
 (focus (rw [HSD.out];exact kr));refine stepE2 rfl rfl ?_ (fun w1 hS=>?_) fun K hK=>?_;rotate_left;(focus (rw [HSD.out] at hS;have s0:w1.cell? _=some _:=hS;go_simp;rfl));go_simp;refine hK _ ?_;clear hK K;refine stepE0 rfl rfl fun K hK=>?_;go_simp;refine hK _ ?_;clear hK K;refine stepE1S rfl rfl fun K hK=>?_
 (go_wp2_with fail;refine Calls.mono (part_any n 1 (by omega) w.heap.size _ hn ?_) ?_;(focus (exact kn));rintro e w2 ⟨rfl,rfl⟩;go_wp2)
 refine ⟨by rw [HSD.out];exact (by show World.cell? _ _=some _;go_simp),?_⟩
 refine stepE1S rfl rfl fun K hK=>?_;go_wp2
 refine ⟨by rw [HSD.out];exact (by show World.cell? _ _=some _;go_simp),?_⟩
 refine stepE1 rfl rfl (by kernel_rfl) fun K hK=>?_
 (refine wp_append_lies _ _ _ 47 rfl w.heap.size 5 i0 (.int .u8 0) 1 1 Tryz.underlying47 HI.out HZ0.out HZ1.out HZ2.out rfl (by decide) (.slice (some ⟨Bq2,0,none⟩) 7 cq2) 7 ([nthByte n 0,nthByte n 7,nthByte n 6,nthByte n 5,nthByte n 4,nthByte n 3,nthByte n 2].map bv) rfl ((HST.out.rr.alloc _).drew) ⟨W2.heap.size,0,none⟩ 1 1 [.int .u8 ((nthByte n 1).toNat:Int)] rfl rfl (World.news_of_block (heap_alloc_new W2 _)) (by simp [Value.oneCell']) (by omega) (by unfold maxLen;omega) (by omega) (by simp;omega) _ rfl ?_;intro g cp w2 hown2 hgrow hat hlt2;have HP:=Lib.hid (PutSt.onRest (ns:=[nthByte n 1]) (HST.out.drew.keep ((Below.refl _ _).alloc (Nat.le_refl _) _)) hgrow hown2 rfl (by simpa using hat));have hkb:=World.cell?_of_block (a:=⟨Br,0,none⟩) (hgrow.block Br (by simp;omega) (fun e=>HST.out.nr.2.2 e.symm));have hkf:=World.frozen?_of_block (a:=⟨Br,0,none⟩) (hgrow.block Br (by simp;omega) (fun e=>HST.out.nr.2.2 e.symm));clear hgrow hown2 hat;go_wp2)
 refine stepE1 rfl rfl (by kernel_rfl) fun K hK=>?_;go_wp2
 try refine stepEnil0 ?_
 clear HSD SS
 have hst:PutSt w (w2.setCell ⟨Br,0,none⟩ (.slice (some ⟨g,0,none⟩) 8 cp)) w.heap.size Bo Br n (.slice a1 bs.length c1) bs (.slice (some ⟨g,0,none⟩) 8 cp) [nthByte n 0,nthByte n 7,nthByte n 6,nthByte n 5,nthByte n 4,nthByte n 3,nthByte n 2,nthByte n 1]:=HP.out
 clear HP HST kn ko kr fo fr ln lo lr hlow hkb hkf hlt2
 generalize w2.setCell ⟨Br,0,none⟩ (.slice (some ⟨g,0,none⟩) 8 cp)=W3 at *
 clear w2
 generalize g=Bq3 at *
 generalize cp=cq3 at *
 go_wp2_with fail
 have HST:=Lib.hid hst
 clear hst
 obtain ⟨kn,ko,kr,fo,fr⟩:=HST.out.cells
 obtain ⟨ln,lo,lr⟩:=HST.out.lt
 have hlow:=HST.out.bel.size
 have kq:W3.cell? ⟨Bq3,0,none⟩=some (.int .u8 ((nthByte n 0).toNat:Int)):=HST.out.rr.cellAt 0 (by decide)
 have lq:=(HST.out.rr.lt _ rfl).2
 obtain ⟨hq1,hq2⟩:=owns_cap HST.out.rr
 change 8≤cq3 at hq1
 obtain ⟨SS,HSD⟩:∃ SS:World→Prop,Hid (SS=fun w'=>w'.cell? ⟨Bo,0,none⟩=some (.slice a1 bs.length c1)∧w'.cell? ⟨Br,0,none⟩=some (.slice (some ⟨Bq3,0,none⟩) 8 cq3)∧w'.cell? ⟨Bq3,0,none⟩=some (.int .u8 ((nthByte n 0).toNat:Int))):=⟨_,Lib.hid rfl⟩
 refine wp_region_order0 SS [0,1,3] [(0,2),(1,2),(2,0),(3,2),(4,1),(5,1),(6,1)] (by kernel_rfl) (by kernel_rfl) rfl (by kernel_rfl) ?_ ?_
 (focus (rw [HSD.out];exact ⟨ko,kr,kq⟩));refine stepE2 rfl rfl ?_ (fun w1 hS=>?_) fun K hK=>?_;rotate_left;(focus (rw [HSD.out] at hS;obtain ⟨s0,s1,s2⟩:=hS;go_simp;rfl));go_simp;refine hK _ ?_;clear hK K;refine stepE2 rfl rfl ?_ (fun w1 hS=>?_) fun K hK=>?_;rotate_left;(focus (rw [HSD.out] at hS;obtain ⟨s0,s1,s2⟩:=hS;go_simp;rfl));go_simp;refine hK _ ?_;clear hK K;refine stepE0 rfl rfl fun K hK=>?_;go_simp;refine hK _ ?_;clear hK K;refine stepE2 rfl rfl ?_ (fun w1 hS=>?_) fun K hK=>?_;rotate_left;(focus (rw [HSD.out] at hS;obtain ⟨s0,s1,s2⟩:=hS;go_simp;rfl));go_simp;refine hK _ ?_;clear hK K;refine stepE1S rfl rfl fun K hK=>?_;go_wp2
 refine ⟨by rw [HSD.out];exact (by refine ⟨?_,?_,?_⟩ <;> go_simp),?_⟩
 refine stepE1 rfl rfl (by kernel_rfl) fun K hK=>?_
 (refine wp_append_lies _ _ _ 47 rfl w.heap.size 5 i0 (.int .u8 0) 1 1 Tryz.underlying47 HI.out HZ0.out HZ1.out HZ2.out rfl (by decide) (.slice a1 bs.length c1) bs.length (bs.map bv) rfl ((HST.out.ro.alloc _).drew) ⟨W3.heap.size,0,none⟩ 1 1 [.int .u8 ((nthByte n 0).toNat:Int)] rfl rfl (World.news_of_block (heap_alloc_new W3 _)) (by simp [Value.oneCell']) (by omega) (by unfold maxLen;omega) (by omega) (by simp;omega) _ rfl ?_;intro g cp w2 hown2 hgrow hat hlt2;have HP:=Lib.hid (PutSt.onOut (ns:=[nthByte n 0]) (HST.out.drew.keep ((Below.refl _ _).alloc (Nat.le_refl _) _)) hgrow (by rw [List.map_append];exact hown2) (by simp) (by simpa using hat));have hkb:=World.cell?_of_block (a:=⟨Bo,0,none⟩) (hgrow.block Bo (by simp;omega) (fun e=>HST.out.no.2.1 e.symm));have hkf:=World.frozen?_of_block (a:=⟨Bo,0,none⟩) (hgrow.block Bo (by simp;omega) (fun e=>HST.out.no.2.1 e.symm));clear hgrow hown2 hat;go_wp2)
 refine stepE1 rfl rfl (by kernel_rfl) fun K hK=>?_;go_wp2
 try refine stepEnil0 ?_
 clear HSD SS
 have hst:PutSt w (w2.setCell ⟨Bo,0,none⟩ (.slice (some ⟨g,0,none⟩) (bs.length+1) cp)) w.heap.size Bo Br n (.slice (some ⟨g,0,none⟩) (bs.length+1) cp) (bs ++ [nthByte n 0]) (.slice (some ⟨Bq3,0,none⟩) 8 cq3) [nthByte n 0,nthByte n 7,nthByte n 6,nthByte n 5,nthByte n 4,nthByte n 3,nthByte n 2,nthByte n 1]:=HP.out
 clear HP HST kn ko kr fo fr ln lo lr hlow hkb hkf hlt2 kq lq
 generalize w2.setCell ⟨Bo,0,none⟩ (.slice (some ⟨g,0,none⟩) (bs.length+1) cp)=W at *
 clear w2
 generalize g=Bp at *
 generalize cp=cq at *
 have HST:=Lib.hid hst
 clear hst
 obtain ⟨kn,ko,kr,fo,fr⟩:=HST.out.cells
 obtain ⟨ln,lo,lr⟩:=HST.out.lt
 have hlow:=HST.out.bel.size
 go_wp2_with fail
 refine (back_any _ _ _ _).mono ?_
 rintro e w2 ⟨rfl,rfl⟩
 go_wp2_with fail
 have lq:Bq3<W.heap.size:=(HST.out.rr.lt _ rfl).2
 have hBq:=Lib.hid (show ∀ i x,[nthByte n 0,nthByte n 7,nthByte n 6,nthByte n 5,nthByte n 4,nthByte n 3,nthByte n 2,nthByte n 1][i]? = some x→W.cell? ⟨Bq3,i,none⟩=some (.int .u8 (x.toNat:Int)) from fun i x hx=>by
  have h1:=HST.out.rr.cellAt i (by have:=(List.getElem?_eq_some_iff.1 hx).1;simp at this ⊢;omega)
  rw [h1,List.getElem?_map,hx];rfl)
 refine (wpIn_wide (n:=4)).1 ?_
 refine wpIn_rangeFunc_one (α:=Fin [nthByte n 7,nthByte n 6,nthByte n 5,nthByte n 4,nthByte n 3,nthByte n 2,nthByte n 1].length) rfl (by omega) (gf:=187) (lb:=#[.pointer (some ⟨W.heap.size,0,none⟩)]) rfl trivial (enters_of Tryz.func187 (by kernel_rfl) rfl)
  (back_stops Fence.wide 3 trivial rfl (by omega) W.heap.size Bq3 1 (cq3 - 1) [nthByte n 7,nthByte n 6,nthByte n 5,nthByte n 4,nthByte n 3,nthByte n 2,nthByte n 1] (by simp [maxLen]) _ (by simp) (by simp;omega) (by simp) (fun j hj=>cell_later ((Below.refl _ _).alloc (Nat.le_refl _) _) (hBq.out (1+j) _ (by rw [Nat.add_comm];exact List.getElem?_eq_getElem hj))))
  (fun h k=>h.trans k) (kept_put (by simp;omega) (by simp)) (Below.refl _ _) (fun _=>rfl)
  (fun pre W'=>∃ vo,PutSt w W' w.heap.size Bo Br n vo ((bs ++ [nthByte n 0]) ++ pre.map (fun (i:Fin [nthByte n 7,nthByte n 6,nthByte n 5,nthByte n 4,nthByte n 3,nthByte n 2,nthByte n 1].length)=>[nthByte n 7,nthByte n 6,nthByte n 5,nthByte n 4,nthByte n 3,nthByte n 2,nthByte n 1][i.val])) (.slice (some ⟨Bq3,0,none⟩) 8 cq3) [nthByte n 0,nthByte n 7,nthByte n 6,nthByte n 5,nthByte n 4,nthByte n 3,nthByte n 2,nthByte n 1]∧vo.ownBlock≠some W.heap.size∧W.heap.size<W'.heap.size)
  (fun _ _ _=>False) ?own (fun _ _ _ _ _ hs _ _=>hs) ⟨_,by simpa using HST.out.keep ((Below.refl _ _).alloc (Nat.le_refl _) _),fun e=>by have:=(HST.out.ro.lt _ e).2;omega,by simp⟩
  ?body ?done ?stop
 case own=>
  rintro s A B row ⟨vo,hs,hv,hz⟩ hg hr
  exact ⟨vo,hs.grown hg (by have:=HST.out.bel.size;simp;omega) hr,hv,by have:=hg.size;omega⟩
 case stop=>
  rintro D c pre A _ _ h _
  exact h.elim
 case done=>
  rintro D ys A hD rfl ⟨vo,hs,_,_⟩ hK
  obtain ⟨ao,mo,co,rfl,HM⟩:=owns_len hs.ro
  have HS:=Lib.hid hs
  have HK:=Lib.hid hK
  clear hs hK
  obtain ⟨sn,so,sr,sfo,sfr⟩:=HS.out.cells
  go_wp2
  refine ⟨by simp,.inl ⟨_,_,rfl,run_takeDeferred HK.out,?_⟩⟩
  have hfin:(bs ++ [nthByte n 0]) ++ (backL [nthByte n 7,nthByte n 6,nthByte n 5,nthByte n 4,nthByte n 3,nthByte n 2,nthByte n 1].length 0).map (fun (i:Fin [nthByte n 7,nthByte n 6,nthByte n 5,nthByte n 4,nthByte n 3,nthByte n 2,nthByte n 1].length)=>[nthByte n 7,nthByte n 6,nthByte n 5,nthByte n 4,nthByte n 3,nthByte n 2,nthByte n 1][i.val])=bs ++ (List.range 8).map (nthByte n):=by
   rw [List.append_assoc]
   rfl
  have hr:=HS.out.ro
  rw [hfin] at hr
  have hm:=HM.out
  rw [hfin] at hm
  subst hm
  exact ⟨_,results_tmp2 rfl _ _ _,_,rfl,ownsRow_putObj hr _ HK.out rfl,HS.out.bel.trans (belowK_b (w:=w) (Nat.le_refl _) A D _ _ (by have:=HST.out.bel.size;simp at hD;omega) HK.out rfl rfl)⟩
 case body=>
  rintro l pre x A ⟨vo,hs,hvb,hza⟩ hlen2
  obtain ⟨ao,mo,co,rfl,HM⟩:=owns_len hs.ro
  have HS:=Lib.hid hs
  clear hs
  obtain ⟨sn,so,sr,sfo,sfr⟩:=HS.out.cells
  obtain ⟨ln2,lo2,lr2⟩:=HS.out.lt
  have hlow2:=HS.out.bel.size
  obtain ⟨xi,hxi⟩:=x
  have hxi':xi<7:=hxi
  obtain ⟨y,hy⟩:∃ y,[nthByte n 7,nthByte n 6,nthByte n 5,nthByte n 4,nthByte n 3,nthByte n 2,nthByte n 1][xi]'hxi=y:=⟨_,rfl⟩
  have HY:=Lib.hid hy
  have hq:A.cell? ⟨Bq3,xi+1,none⟩=some (.int .u8 (y.toNat:Int)):=by
   have h1:=HS.out.rr.cellAt (xi+1) (by simp;omega)
   rw [h1,List.getElem?_map,List.getElem?_cons_succ,List.getElem?_eq_getElem hxi,hy];rfl
  have lq2:Bq3<A.heap.size:=(HS.out.rr.lt _ rfl).2
  have hmo:mo≤80368744177664:=by
   have h1:=HM.out
   have h2:pre.length<7:=hlen2
   simp at h1
   omega
  simp only [assignAct,backEnc,hy]
  clear hy
  have hw1:IntKind.i64.wrap ((xi:Int)+1)=(xi:Int)+1:=IntWalk.i64_in _ (by omega)
  have hw2:(0:Int)≤(xi:Int)+1:=by omega
  have hw3:(xi:Int)+1<8:=by omega
  have hw4:((xi:Int)+1).toNat=xi+1:=by omega
  gi_wp2
  obtain ⟨SS,HSD⟩:∃ SS:World→Prop,Hid (SS=fun w'=>w'.cell? ⟨Bo,0,none⟩=some (.slice ao mo co)∧w'.cell? ⟨Br,0,none⟩=some (.slice (some ⟨Bq3,0,none⟩) 8 cq3)∧w'.cell? ⟨Bq3,xi+1,none⟩=some (.int .u8 (y.toNat:Int))):=⟨_,Lib.hid rfl⟩
  refine wpIn_region_order0 SS [0,1,5] [(0,2),(1,2),(2,0),(3,0),(4,0),(5,2),(6,1),(7,1),(8,1)] (by kernel_rfl) (by kernel_rfl) (by kernel_rfl) rfl (by kernel_rfl) ?_ ?_
  (focus (rw [HSD.out];exact ⟨so,sr,hq⟩))
  refine stepI2 rfl rfl (fun _=>rfl) ?_ (fun w1 hS=>?_) (fun K hK=>?_)
  rotate_left;(focus (rw [HSD.out] at hS;obtain ⟨s0,s1,s2⟩:=hS;go_simp;rfl));go_simp;refine hK _ ?_;clear hK K
  refine stepI2 rfl rfl (fun _=>rfl) ?_ (fun w1 hS=>?_) (fun K hK=>?_)
  rotate_left;(focus (rw [HSD.out] at hS;obtain ⟨s0,s1,s2⟩:=hS;go_simp;rfl));go_simp;refine hK _ ?_;clear hK K
  refine stepI0 rfl rfl (fun _=>rfl) (fun K hK=>?_)
  go_simp;refine hK _ ?_;clear hK K
  refine stepI0 rfl rfl (fun _=>rfl) (fun K hK=>?_)
  go_simp;refine hK _ ?_;clear hK K
  refine stepI0 rfl rfl (fun _=>rfl) (fun K hK=>?_)
  go_simp;refine hK _ ?_;clear hK K
  refine stepI2 rfl rfl (fun _=>rfl) ?_ (fun w1 hS=>?_) (fun K hK=>?_)
  rotate_left;(focus (rw [HSD.out] at hS;obtain ⟨s0,s1,s2⟩:=hS;go_simp;rfl));go_simp;refine hK _ ?_;clear hK K;refine stepI1S rfl rfl fun K hK=>?_;gi_wp2
  refine ⟨by rw [HSD.out];exact (by refine ⟨?_,?_,?_⟩ <;> go_simp),?_⟩
  refine stepI1 rfl rfl (by kernel_rfl) fun K hK=>?_
  (refine wpIn_append_lies _ _ _ 47 rfl w.heap.size 5 i0 (.int .u8 0) 1 1 Tryz.underlying47 HI.out HZ0.out HZ1.out HZ2.out rfl (by decide) (.slice ao mo co) mo (((bs ++ [nthByte n 0]) ++ pre.map (fun (i:Fin [nthByte n 7,nthByte n 6,nthByte n 5,nthByte n 4,nthByte n 3,nthByte n 2,nthByte n 1].length)=>[nthByte n 7,nthByte n 6,nthByte n 5,nthByte n 4,nthByte n 3,nthByte n 2,nthByte n 1][i.val])).map bv) rfl (by have h1:=(HS.out.ro.alloc (.cells #[.int .u8 (y.toNat:Int)] 5)).drew;have h2:=HM.out;rw [←h2] at h1;exact h1) ⟨A.heap.size,0,none⟩ 1 1 [.int .u8 (y.toNat:Int)] rfl rfl (World.news_of_block (heap_alloc_new A _)) (by simp [Value.oneCell']) (by omega) (by unfold maxLen;omega) (by omega) (by simp;omega) _ rfl ?_;intro g cp w2 hown2 hgrow hat hlt2;have HP:=Lib.hid (PutSt.onOut (ns:=[y]) (HS.out.drew.keep ((Below.refl _ _).alloc (Nat.le_refl _) _)) hgrow (by rw [List.map_append];exact hown2) (by have:=HM.out;simp at this ⊢;omega) (by simpa using hat));have hkb:=World.cell?_of_block (a:=⟨Bo,0,none⟩) (hgrow.block Bo (by simp;omega) (fun e=>HS.out.no.2.1 e.symm));have hkf:=World.frozen?_of_block (a:=⟨Bo,0,none⟩) (hgrow.block Bo (by simp;omega) (fun e=>HS.out.no.2.1 e.symm));have HG:=Lib.hid hgrow;have hat':(Value.slice ao mo co).ownBlock=some g∨g=A.heap.size+1:=(by simpa using hat);have hat2:=Lib.hid hat';clear hgrow hown2 hat hat';gi_wp2)
  refine stepI1 rfl rfl (by kernel_rfl) fun K hK=>?_;gi_wp2
  try refine stepInil0 ?_
  clear HSD SS
  have hca:∀ (j:Nat) (o:Obj),(Value.slice ao mo co).ownBlock=some j→A.heap[j]? = some o→o.isCells=true:=fun j o hj ho=>by
   obtain ⟨cs,t,f,hc⟩:=owns_cells HS.out.ro j hj
   rw [hc] at ho
   cases ho
   rfl
  have hblk:∀ k,k<A.heap.size→k≠Bo→(Value.slice ao mo co).ownBlock≠some k→(w2.setCell ⟨Bo,0,none⟩ (.slice (some ⟨g,0,none⟩) (mo+1) cp)).heap[k]? = A.heap[k]?:=fun k hk hne hnb=>by
   rw [heap_setCell_other _ _ _ _ hne,HG.out.block k (by simp;omega) (fun e=>hnb e.symm)]
   exact Below.heap_alloc _ _ _ hk
  refine ⟨?_,⟨hblk _ lq2 (fun e=>HS.out.nr.2.1 (by rw [←e];rfl)) (fun e=>HS.out.apart _ e rfl),hblk _ hza (fun e=>by have:=HST.out.lt.2.1;omega) hvb⟩,.slice (some ⟨g,0,none⟩) (mo+1) cp,?_,?_,?_⟩
  ·refine KeepsOthers.from (KeepsOthers.trans (KeepsOthers.trans (KeepsOthers.trans (KeepsOthers.alloc A _) (KeepsOthers.drew _)) (KeepsOthers.of_grownBy HG.out fun j o hj ho=>?_)) (KeepsOthers.setCell _ _ _)) _
   refine hca j o hj ?_
   have hjl:=(HS.out.ro.lt j hj).2
   rw [←ho]
   exact (Below.heap_alloc _ _ _ hjl).symm
  ·have h1:=HP.out
   rw [List.append_assoc] at h1
   rw [List.map_append]
   simp only [List.map_cons,List.map_nil,HY.out]
   exact h1
  ·intro e
   have e':g=W.heap.size:=by simpa [Value.ownBlock] using e
   rcases hat2.out with h|h
   ·exact hvb (by rw [←e'];exact h)
   ·omega
  ·have:=HG.out.size
   simp at this ⊢
   omega
end Go.Proofs.YtfpjfoajonbndaaGreatDoor
