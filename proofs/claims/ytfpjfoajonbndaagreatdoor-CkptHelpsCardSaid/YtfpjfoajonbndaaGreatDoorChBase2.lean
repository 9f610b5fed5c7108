import Derived.Test.YtfpjfoajonbndaaGreatDoorCh2
import Derived.Deep.RegionLaw
namespace Go.Proofs.YtfpjfoajonbndaaGreatDoor
open Go.RowKit
open Go.RowKit
theorem bcell{W w1:World}(hb:Below W.heap.size W w1):(∀ b o,b<W.heap.size→w1.cell? ⟨b,o,none⟩=W.cell? ⟨b,o,none⟩)∧(∀ b o,b<W.heap.size→w1.frozen? ⟨b,o,none⟩=W.frozen? ⟨b,o,none⟩):=
 ⟨fun b o h=>hb.cell (p:=⟨b,o,none⟩) h,fun b o h=>hb.frozen (p:=⟨b,o,none⟩) h⟩
theorem grown_cell{w w':World}{row:Option Nat}(hg:w.grownBy w' row){b o:Nat}(h:b<w.heap.size)(hne:row≠some b):w'.cell? ⟨b,o,none⟩=w.cell? ⟨b,o,none⟩:=
 World.cell?_of_block (w:=w) (hg.block b h (fun e=>hne e.symm))
theorem grown_frozen{w w':World}{row:Option Nat}(hg:w.grownBy w' row){b o:Nat}(h:b<w.heap.size)(hne:row≠some b):w'.frozen? ⟨b,o,none⟩=w.frozen? ⟨b,o,none⟩:=
 World.frozen?_of_block (w:=w) (hg.block b h (fun e=>hne e.symm))
def setAll:List Value→Nat→List Value→List Value
 | xs,_,[]=>xs
 | xs,p,v :: vs=>setAll (xs.set p v) (p+1) vs
theorem setAll_eq:∀ (vs xs:List Value) (p:Nat),p+vs.length≤xs.length→setAll xs p vs=xs.take p ++ vs ++ xs.drop (p+vs.length)
 | [],xs,p,_=>by simp [setAll]
 | v :: vs,xs,p,h=>by
  have h':p<xs.length:=by simp at h;omega
  rw [setAll,setAll_eq vs (xs.set p v) (p+1) (by simp at h ⊢;omega)]
  have e1:(xs.set p v).take (p+1)=xs.take p ++ [v]:=by
   rw [List.take_succ_eq_append_getElem (by simpa using h'),List.take_set,List.set_eq_of_length_le (by simp;omega)]
   simp
  have e2:(xs.set p v).drop (p+1+vs.length)=xs.drop (p+(v :: vs).length):=by
   rw [List.drop_set_of_lt (by omega)]
   congr 1
   simp;omega
  rw [e1,e2]
  simp
def setCellsAt (w:World) (g:Nat):Nat→List Value→World
 | _,[]=>w
 | p,v :: vs=>setCellsAt (w.setCell ⟨g,p,none⟩ v) g (p+1) vs
theorem ownsRow_setAll{base:Nat}{e:TypeId}{size g n cap:Nat}:∀ (vs:List Value) (p:Nat) (w:World) (xs:List Value),w.ownsRow base e size (.slice (some ⟨g,0,none⟩) n cap) n xs →
  (setCellsAt w g p vs).ownsRow base e size (.slice (some ⟨g,0,none⟩) n cap) n (setAll xs p vs)
 | [],_,_,_,h=>h
 | v :: vs,p,_,_,h=>ownsRow_setAll vs (p+1) _ _ (h.stored p v).1
theorem ownsRow_struct{α:Type}{w:World}{base:Nat}{e:TypeId}{g n cap:Nat}(f:α→List Value)(s:Nat)(hf:∀ x,(f x).length=s)(l:List α)(i:Nat)(y:α)(hi:i<l.length)
  (h:w.ownsRow base e s (.slice (some ⟨g,0,none⟩) n cap) n (l.flatMap f)):(setCellsAt w g (i * s) (f y)).ownsRow base e s (.slice (some ⟨g,0,none⟩) n cap) n ((l.set i y).flatMap f):=by
 have h1:=ownsRow_setAll (f y) (i * s) w _ h
 rw [setAll_eq (f y) (l.flatMap f) (i * s) (by
  rw [hf,length_flatMap_row f s hf]
  have:(i+1) * s≤l.length * s:=Nat.mul_le_mul_right s hi
  rw [Nat.succ_mul] at this;omega),hf] at h1
 rw [flatMap_set f s hf l i y hi]
 exact h1
end Go.Proofs.YtfpjfoajonbndaaGreatDoor
