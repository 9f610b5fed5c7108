import Derived.Test.YtfpjfoajonbndaaGreatDoorCa6
import Derived.Shelf.SlMaps.Clone
import Derived.LoopTactic
import Derived.Test.YtfpjfoajonbndaaGreatDoorCa2
import Derived.Deep.AppendLies
import Derived.IntWalk
namespace Go.Proofs.YtfpjfoajonbndaaGreatDoor
set_option maxHeartbeats 8000000
set_option maxRecDepth 100000
open Go.RowKit
set_option maxRecDepth 100000
set_option maxHeartbeats 8000000
open Go.RowKit Go.Maps
theorem belCaDiskPicks {B:Nat} {w w2:World} (h:Go.RowKit.Below B w w2:=by repeat (first|(with_reducible first|exact .refl _ _|refine .setCell ?_ ?_ _|refine .alloc ?_ ?_ _|refine .drewN ?_ _|refine .drew ?_|exact Nat.le_refl _)|(focus (simp only [World.size_alloc,World.size_setCell,World.size_drew,World.size_drewN];omega))|omega|exact Nat.le_refl _|(focus (simp;done))|(focus (simp;omega)))):Go.RowKit.Below B w w2:=h
theorem dirclone_any (b:Nat) (g:Nat→Nat) (l:Dir) (w:World) (h:DirAt w b g l) :
  Calls Tryz.prog 58 #[.map (some b)] w fun e w'=>e=.returned (.map (some w.heap.size))∧DirAt w' w.heap.size g l∧Below w.heap.size w w'∧w.heap.size<w'.heap.size:=by
 obtain ⟨es,clock,hb,F,hs,hD⟩:=h
 have hq:=fun w=>run_eql_map_nil_sl (P:=Tryz.prog) w 101 _ _ (some b) Tryz.underlying101
 have h50:=@run_callFunc_extern Tryz.prog 106 _ Extern.MapsClone.clone Tryz.func106 (by kernel_rfl) (by kernel_rfl) (by kernel_rfl) (by kernel_rfl)
 have hrun:=run_maps_clone_sl (P:=Tryz.prog) w 101 hb
 have hta:=fun (W:World) (v:Value)=>run_typeAssert_map_sl (P:=Tryz.prog) W 101 20 _ _ v Tryz.underlying101
 have HF:=Lib.hid F
 have HS:=Lib.hid hs
 have HD:=Lib.hid hD
 clear F hs hD hb
 go_enter Tryz.func58,Tryz.ntmps58
 go_wp2
 go_ret
 exact ⟨rfl,⟨es,clock,heap_new _ _,HF.out,HS.out,HD.out⟩,belCaDiskPicks,by simp⟩
theorem DiskAt.syncTo {w w1 w':World} {d:Nat} {F:Nat→Prop} {q:DW} {st:Dk} (h:DiskAt w d F q st) (hb:Below w.heap.size w w1) {nb:Nat} (hnb:w.heap.size≤nb) (hn:DirAt w1 nb q.fb st.now) (hk:Keeps (fun k=>k=d) w1 w')
  (hd:w'.heap[d]? = some (.cells #[.int .i64 st.cap,.int .i64 st.files.length,.map (some q.bn),.map (some nb),.slice none 0 0,.int .i64 st.armed] 104 (0,0))) :
  DiskAt w' d (fun k=>F k∨w.heap.size≤k) { q with bl:=nb,vd:=.slice none 0 0,ds:=[] } { st with lasting:=st.now,deeds:=[] }:=by
 have h1:=h.below hb
 have hh:=hits_one h1.blk
 have hlt:=h.now.lt
 exact ⟨hd,h1.now.hits hk hh (by simp [kindO]),hn.hits hk hh (by simp [kindO]),by show q.bn≠nb;omega,⟨World.ownsRow_nil _ _ _ _,fun i x hx=>by simp at hx,fun g hg=>by cases hg⟩,(h1.files.hits hk hh (by simp [kindO]) (by simp [kindO])).mono (fun _ h=>.inl h),.inl h.fd,.inl h.fn,.inr hnb⟩
theorem syncNames_any (d:Nat) (F:Nat→Prop) (q:DW) (st:Dk) (K:Nat) (w:World) (h:DiskAt w d F q st) (hok:DkOk K st) :
  Calls Tryz.prog 97 #[(.pointer (some ⟨d,0,none⟩))] w fun e w'=>e=.returned (errV st.syncNames.1)∧DiskTo w w' d F st.syncNames.2:=by
 have H:=Lib.hid h
 have HOK:=Lib.hid hok
 obtain ⟨c0,c1,c2,c3,c4,c5,cf⟩:=cells6 h.blk
 have hdl:=blk_lt h.blk
 clear h hok c0 c1 c3 c4 c5 cf
 by_cases ha:st.armed=0
 ·have e:st.syncNames=(12,st):=by unfold Dk.syncNames;rw [if_pos ha]
  rw [e]
  have HA:=Lib.hid ha
  clear e ha
  go_enter Tryz.func97,Tryz.ntmps97
  go_wp2_with fail
  refine (up_any d F q st _ H.out).mono ?_
  rintro e w' ⟨rfl,rfl⟩
  rw [if_pos HA.out,errV_ne (by omega)]
  go_wp2
  go_ret
  exact ⟨rfl,H.out.same⟩
 ·have e:st.syncNames=(0,({ st with lasting:=st.now,deeds:=[] }:Dk).did):=by unfold Dk.syncNames;rw [if_neg ha]
  rw [e]
  have HA:=Lib.hid ha
  clear e ha
  go_enter Tryz.func97,Tryz.ntmps97
  go_wp2_with fail
  refine (up_any d F q st _ H.out).mono ?_
  rintro e w' ⟨rfl,rfl⟩
  rw [if_neg HA.out,errV_zero]
  go_wp2_with fail
  refine (dirclone_any q.bn q.fb st.now _ H.out.now).mono ?_
  rintro e w1 ⟨rfl,hn1,hb1,hz1⟩
  have HN1:=Lib.hid hn1
  have HB1:=Lib.hid hb1
  have HBK:=Lib.hid (blk_below H.out.blk hb1)
  obtain ⟨d0,d1,d2,d3,d4,d5,df⟩:=cells6 HBK.out
  clear hn1 hb1 d0 d1 d2 d5
  go_wp2_with fail
  have hkk:Keeps (fun j=>j=d) w1 ((w1.setCell ⟨d,3,none⟩ (.map (some w.heap.size))).setCell ⟨d,4,none⟩ (.slice none 0 0)):=(keeps_set _ _).trans (keeps_set _ _) fun _ _ e=>e
  have h6:=H.out.syncTo HB1.out (Nat.le_refl _) HN1.out hkk (by simpa using blk_put (blk_put HBK.out 3 (.map (some w.heap.size))) 4 (.slice none 0 0))
  refine (did_any d _ _ _ _ h6 HOK.out.armed.1 HOK.out.armed.2).mono ?_
  rintro e w7 ⟨rfl,h7,hk7⟩
  have H7:=Lib.hid (h7.to (((keeps_below F HB1.out).trans (hkk.mono (G:=F) fun _ _ e=>e ▸ H.out.fd) fun _ _ h=>h).trans hk7 fun _ _ e=>e ▸ H.out.fd) (fun k hk=>hk))
  clear h7 hk7 h6 hkk
  go_wp2_with fail
  go_ret
  exact ⟨rfl,H7.out⟩
open Go.RowKit Go.Maps
open Go.RowKit Go.Maps
def DPick.row (p:DPick):List Value:=[.int .i64 p.keep,.int .u8 p.turn.toNat]
open Go.RowKit Go.Maps
theorem take_snoc_at {α:Type} (l:List α) (k:Nat) (x:α) (hx:l[k]? = some x):l.take (k+1)=l.take k ++ [x]:=by
 obtain ⟨hk,hx'⟩:=List.getElem?_eq_some_iff.1 hx
 rw [List.take_succ_eq_append_getElem hk,hx']
theorem reads_at {w:World} {sz:Nat} {v:Value} {n:Nat} {xs:List Value} (h:Reads w sz v n xs) (hn:0<n) (hz:0<sz) :
  ∃ b o c,v=.slice (some ⟨b,o,none⟩) n c∧b<w.heap.size∧n≤maxLen∧∀ (j:Nat) (u:Value),xs[j]? = some u→w.cell? ⟨b,o+j,none⟩=some u:=by
 obtain ⟨hl,⟨_,h0⟩|⟨a,c,rfl,hm,hc⟩⟩:=h
 ·omega
 ·have hpos:0<xs.length:=by rw [hl];exact Nat.mul_pos hn hz
  have h0:xs[0]? = some xs[0]:=List.getElem?_eq_getElem hpos
  have h1:=hc 0 _ h0
  have ha:a=⟨a.block,a.off,none⟩:=spot_none (by simpa [Addr.add] using h1)
  have hb:=World.block_lt_of_cell? w _ h1
  refine ⟨a.block,a.off,c,by rw [←ha],by simpa [Addr.add] using hb,hm,fun j u hu=>?_⟩
  have h2:=hc j u hu
  have e:a.add j=⟨a.block,a.off+j,none⟩:=by
   rw [ha]
   unfold Addr.add
   split
   ·rename_i hz;rw [hz];rfl
   ·rfl
  rw [←e]
  exact h2
end Go.Proofs.YtfpjfoajonbndaaGreatDoor
