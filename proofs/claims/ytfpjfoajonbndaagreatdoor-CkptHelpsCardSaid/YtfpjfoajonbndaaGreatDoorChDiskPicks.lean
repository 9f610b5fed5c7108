import Derived.Test.YtfpjfoajonbndaaGreatDoorCh7
import Derived.Test.YtfpjfoajonbndaaGreatDoorCh2
import Derived.Deep.AppendLies
import Derived.IntWalk
namespace Go.Proofs.YtfpjfoajonbndaaGreatDoor
open Go.RowKit
open Go.RowKit
theorem take_snoc_at{α:Type}(l:List α)(k:Nat)(x:α)(hx:l[k]? = some x):l.take (k+1)=l.take k ++ [x]:=by
 obtain ⟨hk,hx'⟩:=List.getElem?_eq_some_iff.1 hx
 rw [List.take_succ_eq_append_getElem hk,hx']
theorem reads_at{w:World}{sz:Nat}{v:Value}{n:Nat}{xs:List Value}(h:Reads w sz v n xs)(hn:0<n)(hz:0<sz) :
  ∃ b o c,v=.slice (some ⟨b,o,none⟩) n c∧b<w.heap.size∧n≤maxLen∧∀ (j:Nat) (u:Value),xs[j]? = some u→w.cell? ⟨b,o+j,none⟩=some u:=by
 obtain ⟨hl,⟨_,h0⟩|⟨a,c,rfl,hm,hc⟩⟩:=h
 ·omega
 ·have hpos:0<xs.length:=by rw [hl];exact Nat.mul_pos hn hz
  have h0:xs[0]? = some xs[0]:=List.getElem?_eq_getElem hpos
  have h1:=hc 0 _ h0
  have ha:a=⟨a.block,a.off,none⟩:=spot_none (by simpa [Addr.add] using h1)
  have hb:=World.block_lt_of_cell? w _ h1
  refine ⟨a.block,a.off,c,by rw [←ha],by simpa [Addr.add] using hb,hm,fun j u hu=>?_⟩
  have h2:=hc j u hu
  have e:a.add j=⟨a.block,a.off+j,none⟩:=by
   rw [ha]
   unfold Addr.add
   split
   ·rename_i hz;rw [hz];rfl
   ·rfl
  rw [←e]
  exact h2
end Go.Proofs.YtfpjfoajonbndaaGreatDoor
