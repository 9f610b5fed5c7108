import Derived.Test.YtfpjfoajonbndaaGreatDoorCaHeadsR
import Derived.Test.YtfpjfoajonbndaaGreatDoorCa14
namespace Go.Proofs.YtfpjfoajonbndaaGreatDoor
set_option maxHeartbeats 8000000
set_option maxRecDepth 100000
open Go.RowKit
set_option maxRecDepth 100000
set_option maxHeartbeats 8000000
open Go.RowKit
theorem belCaHeadsR2 {B:Nat} {w w2:World} (h:Go.RowKit.Below B w w2:=by repeat (first|(with_reducible first|exact .refl _ _|refine .setCell ?_ ?_ _|refine .alloc ?_ ?_ _|refine .drewN ?_ _|refine .drew ?_|exact Nat.le_refl _)|(focus (simp only [World.size_alloc,World.size_setCell,World.size_drew,World.size_drewN];omega))|omega|exact Nat.le_refl _|(focus (simp;done))|(focus (simp;omega)))):Go.RowKit.Below B w w2:=h
def set2 (w:World) (b:Nat) (u0 u1:Value):World:=(w.setCell ⟨b,0,none⟩ u0).setCell ⟨b,1,none⟩ u1
theorem store2 {w:World} {b:Nat} {v0 v1:Value} {t:TypeId} (h:w.heap[b]? = some (.cells #[v0,v1] t (0,0))) (u0 u1:Value):(set2 w b u0 u1).heap[b]? = some (.cells #[u0,u1] t (0,0)):=by
 have h0:(w.setCell ⟨b,0,none⟩ u0).heap[b]? = some (.cells #[u0,v1] t (0,0)):=by simpa using heap_setCell_same w b 0 _ t u0 h
 simpa [set2] using heap_setCell_same _ b 1 _ t u1 h0
theorem set2_below {B b:Nat} {w:World} (h:B≤b) (u0 u1:Value):Below B w (set2 w b u0 u1):=by
 unfold set2
 exact belCaHeadsR2
theorem scells {w:World} {b:Nat} {v0 v1:Value} {t:TypeId} (h:w.heap[b]? = some (.cells #[v0,v1] t (0,0))):w.cell? ⟨b,0,none⟩=some v0∧w.cell? ⟨b,1,none⟩=some v1:=by
 refine ⟨?_,?_⟩ <;> (rw [cell_of_row w b _ _ _ _ h];rfl)
theorem sfree {w:World} {b:Nat} {v0 v1:Value} {t:TypeId} (h:w.heap[b]? = some (.cells #[v0,v1] t (0,0))):w.frozen? ⟨b,0,none⟩=false∧w.frozen? ⟨b,1,none⟩=false:=⟨frozen_of_row w b 0 _ _ h,frozen_of_row w b 1 _ _ h⟩
theorem rightV_parts {v g e:Nat} (h:rightV v g e=true):v<4294967296∧g<4294967296∧e<4294967296:=by
 simp only [rightV,Bool.and_eq_true,decide_eq_true_eq] at h
 omega
theorem gsuper_good (bk o n c v g:Nat) (r:List UInt8) (w:World) (hri:rightV v g 0=true) (h:Reads w 1 (.slice (some ⟨bk,o,none⟩) n c) n ((superB v g ++ r).map bv)) (hlen:(superB v g ++ r).length=n) (hc:n≤c) (hn:n≤70368744177664) :
  Calls Tryz.prog 148 #[.slice (some ⟨bk,o,none⟩) n c] w fun e w'=>e=.returned (.tuple #[.agg #[.int .i64 v,.int .i64 g],.nilIface])∧Below w.heap.size w w':=by
 have hv:=rightV_parts hri
 have HRI:=Lib.hid hri
 have HRD:=Lib.hid (fun (w0:World) (hb:Below w.heap.size w w0)=>hread_good bk o n c [0x43524942,v,g] r 3 0x43524942 w0 (h.below hb) hlen hc hn 16 rfl rfl (by omega) (fun x hx=>by
  simp only [List.mem_cons,List.not_mem_nil,or_false] at hx
  rcases hx with rfl|rfl|rfl
  ·decide
  ·omega
  ·omega) rfl)
 clear h hlen hc hri
 go_enter Tryz.func148,Tryz.ntmps148
 go_wp2_with fail
 obtain ⟨w0,hw0⟩:∃ w0:World,w0=w.alloc (.cells #[.int .i64 0,.int .i64 0] 110):=⟨_,rfl⟩
 have HB0:=Lib.hid (show Below w.heap.size w w0 by rw [hw0];exact belCaHeadsR2)
 have kb0:w0.heap[w.heap.size]? = some (.cells #[.int .i64 0,.int .i64 0] 110 (0,0)):=by rw [hw0];exact heap_new w _
 have hl0:=blk_lt kb0
 rw [←hw0]
 clear hw0
 refine (show Calls Tryz.prog 107 #[.slice (some ⟨bk,o,none⟩) n c,.int .i64 16,.int .i64 1129466178] w0 (WordsTo w0 [0x43524942,v,g]) from HRD.out w0 HB0.out).mono ?_
 rintro e w1 ⟨gb,cap,rfl,hcap,hcell,hg1,hg2,hb1⟩
 have HB1:=Lib.hid (HB0.out.trans (hb1.mono HB0.out.size))
 have kb1:=(hb1.block w.heap.size hl0).trans kb0
 have hl1:=blk_lt kb1
 have r1:=hcell 1 v rfl
 have r2:=hcell 2 g rfl
 unfold iv at r1 r2
 have hz1:=HB1.out.size
 have hgne:gb≠w.heap.size:=by omega
 have p0:w1.cell? ⟨w.heap.size,0,none⟩=some (.int .i64 0):=by rw [cell_of_row w1 _ _ _ _ _ kb1];rfl
 have p1:w1.cell? ⟨w.heap.size,1,none⟩=some (.int .i64 0):=by rw [cell_of_row w1 _ _ _ _ _ kb1];rfl
 have f0:=frozen_of_row w1 w.heap.size 0 _ _ kb1
 have f1:=frozen_of_row w1 w.heap.size 1 _ _ kb1
 have KB1:=Lib.hid kb1
 clear kb0 hb1 hcell kb1
 go_upto_region 4 with fail
 refine wp_region_now0 [2,5] [(0,0),(1,0),(2,2),(3,0),(4,0),(5,2),(6,1),(7,0)] (by kernel_rfl) (by kernel_rfl) rfl (by kernel_rfl) ?_
 (iterate 2 refine stepE0 rfl rfl fun K hK=>?_;go_simp;refine hK _ ?_;clear hK K);refine stepE2 rfl rfl ?_ (fun w1 hS=>?_) fun K hK=>?_;rotate_left;(focus (obtain rfl:w1=_:=hS;go_simp;rfl));go_simp;refine hK _ ?_;clear hK K;(iterate 2 refine stepE0 rfl rfl fun K hK=>?_;go_simp;refine hK _ ?_;clear hK K);refine stepE2 rfl rfl ?_ (fun w1 hS=>?_) fun K hK=>?_;rotate_left;(focus (obtain rfl:w1=_:=hS;go_simp;rfl));go_simp;refine hK _ ?_;clear hK K;refine stepE1 rfl rfl (by kernel_rfl) fun K hK=>?_
 (go_wp2_with fail;refine (hright_yes v g 0 HRI.out _).mono ?_;rintro e wx ⟨rfl,rfl⟩;go_wp2)
 refine stepE0 rfl rfl fun K hK=>?_;go_simp;refine hK _ ?_;clear hK K
 try refine stepEnil0 ?_
 go_upto_region 6 with fail
 refine wp_region_now0 [2,5] [(0,0),(1,0),(2,2),(3,0),(4,0),(5,2),(6,0),(7,1),(8,0)] (by kernel_rfl) (by kernel_rfl) rfl (by kernel_rfl) ?_
 (iterate 2 refine stepE0 rfl rfl fun K hK=>?_;go_simp;refine hK _ ?_;clear hK K);refine stepE2 rfl rfl ?_ (fun w1 hS=>?_) fun K hK=>?_;rotate_left;(focus (obtain rfl:w1=_:=hS;go_simp;rfl));go_simp;refine hK _ ?_;clear hK K;(iterate 2 refine stepE0 rfl rfl fun K hK=>?_;go_simp;refine hK _ ?_;clear hK K);refine stepE2 rfl rfl ?_ (fun w1 hS=>?_) fun K hK=>?_;rotate_left;(focus (obtain rfl:w1=_:=hS;go_simp;rfl));go_simp;refine hK _ ?_;clear hK K;refine stepE0 rfl rfl fun K hK=>?_;go_simp;refine hK _ ?_;clear hK K;refine stepE1 rfl rfl (by kernel_rfl) fun K hK=>?_;go_wp2;refine stepE0 rfl rfl fun K hK=>?_;go_simp;refine hK _ ?_;clear hK K
 try refine stepEnil0 ?_
 go_wp2
 obtain ⟨wf,hwf⟩:∃ wf,wf=(set2 w1 w.heap.size (.int .i64 v) (.int .i64 g)).drew.drew:=⟨_,rfl⟩
 have HBF:=Lib.hid (show Below w.heap.size w wf by rw [hwf];exact HB1.out.trans (Below.drew (Below.drew (set2_below (Nat.le_refl _) _ _))))
 have kbf:((set2 w1 w.heap.size (.int .i64 v) (.int .i64 g)).drew.drew).heap[w.heap.size]? = some (.cells #[.int .i64 v,.int .i64 g] 110 (0,0)):=store2 KB1.out (.int .i64 v) (.int .i64 g)
 rw [←hwf] at kbf
 obtain ⟨s0,s1⟩:=scells kbf
 unfold set2 at hwf
 rw [←hwf]
 refine bodyPost_ret (v:=?_) ?_ rfl ?_
 rotate_left;(focus (simp [results,Tryz.results148,go_sem,s0,s1];exact rfl))
 exact ⟨rfl,HBF.out⟩
theorem gman_good (bk o c v g e:Nat) (s:Bool) (w:World) (hri:rightV v g e=true) (h:Reads w 1 (.slice (some ⟨bk,o,none⟩) 24 c) 24 ((manB v g e s).map bv)) (hc:24≤c) :
  Calls Tryz.prog 60 #[.slice (some ⟨bk,o,none⟩) 24 c] w fun r w'=>r=.returned (.tuple #[.agg #[.int .i64 v,.int .i64 g,.int .i64 e,.bool s],.nilIface])∧Below w.heap.size w w':=by
 have hv:=rightV_parts hri
 have HRI:=Lib.hid hri
 obtain ⟨sn,hsn⟩:∃ sn:Nat,sn=if s then 1 else 0:=⟨_,rfl⟩
 have HRD:=Lib.hid (fun (w0:World) (hb:Below w.heap.size w w0)=>hread_good bk o 24 c [0x4D414E49,v,g,e,if s then 1 else 0] [] 5 0x4D414E49 w0 (by rw [List.append_nil];exact h.below hb) (by rw [List.append_nil];exact manB_len v g e s) hc (by omega) 24 rfl rfl (by omega) (fun x hx=>by
  simp only [List.mem_cons,List.not_mem_nil,or_false] at hx
  rcases hx with rfl|rfl|rfl|rfl|rfl
  ·decide
  ·omega
  ·omega
  ·omega
  ·cases s <;> decide) rfl)
 rw [←hsn] at HRD
 clear h hc hri
 go_enter Tryz.func60,Tryz.ntmps60
 go_upto_region 3 with fail
 obtain ⟨w0,hw0⟩:∃ w0:World,w0=w.alloc (.cells #[.int .i64 0,.int .i64 0,.int .i64 0,.bool false] 113):=⟨_,rfl⟩
 have HB0:=Lib.hid (show Below w.heap.size w w0 by rw [hw0];exact belCaHeadsR2)
 have kb0:w0.heap[w.heap.size]? = some (.cells #[.int .i64 0,.int .i64 0,.int .i64 0,.bool false] 113 (0,0)):=by rw [hw0];exact heap_new w _
 have hl0:=blk_lt kb0
 rw [←hw0]
 clear hw0
 go_wp2_with fail
 refine (show Calls Tryz.prog 107 #[.slice (some ⟨bk,o,none⟩) 24 c,.int .i64 24,.int .i64 1296125513] w0 (WordsTo w0 [0x4D414E49,v,g,e,sn]) from HRD.out w0 HB0.out).mono ?_
 rintro r w1 ⟨gb,cap,rfl,hcap,hcell,hg1,hg2,hb1⟩
 have HB1:=Lib.hid (HB0.out.trans (hb1.mono HB0.out.size))
 have kb1:=(hb1.block w.heap.size hl0).trans kb0
 have hl1:=blk_lt kb1
 have r1:=hcell 1 v rfl
 have r2:=hcell 2 g rfl
 have r3:=hcell 3 e rfl
 have r4:=hcell 4 sn rfl
 unfold iv at r1 r2 r3 r4
 have hz1:=HB1.out.size
 have hgne:gb≠w.heap.size:=by omega
 have KB1:=Lib.hid kb1
 clear kb0 hb1 hcell kb1
 go_upto_region 6 with fail
 have HRG:=Lib.hid (hright_yes v g e HRI.out)
 cases s with
 | false=>
  simp only [Bool.false_eq_true,if_false] at hsn
  subst hsn
  obtain ⟨SS,HSD⟩:∃ SS:World→Prop,Hid (SS=fun w'=>w'.cell? ⟨gb,1,none⟩=some (.int .i64 v)∧w'.cell? ⟨gb,2,none⟩=some (.int .i64 g)∧w'.cell? ⟨gb,3,none⟩=some (.int .i64 e)):=⟨_,Lib.hid rfl⟩
  refine wp_region_order0 SS [2,5,8] [(0,0),(1,0),(2,2),(3,0),(4,0),(5,2),(6,0),(7,0),(8,2),(9,0),(10,1),(11,1)] (by kernel_rfl) (by kernel_rfl) rfl (by kernel_rfl) ?_ ?_
  (focus (rw [HSD.out];exact ⟨r1,r2,r3⟩));(iterate 2 refine stepE0 rfl rfl fun K hK=>?_;go_simp;refine hK _ ?_;clear hK K);refine stepE2 rfl rfl ?_ (fun w1 hS=>?_) fun K hK=>?_;rotate_left;(focus (rw [HSD.out] at hS;obtain ⟨s1,s2,s3⟩:=hS;go_simp;rfl));go_simp;refine hK _ ?_;clear hK K;(iterate 2 refine stepE0 rfl rfl fun K hK=>?_;go_simp;refine hK _ ?_;clear hK K);refine stepE2 rfl rfl ?_ (fun w1 hS=>?_) fun K hK=>?_;rotate_left;(focus (rw [HSD.out] at hS;obtain ⟨s1,s2,s3⟩:=hS;go_simp;rfl));go_simp;refine hK _ ?_;clear hK K;(iterate 2 refine stepE0 rfl rfl fun K hK=>?_;go_simp;refine hK _ ?_;clear hK K);refine stepE2 rfl rfl ?_ (fun w1 hS=>?_) fun K hK=>?_;rotate_left;(focus (rw [HSD.out] at hS;obtain ⟨s1,s2,s3⟩:=hS;go_simp;rfl));go_simp;refine hK _ ?_;clear hK K;refine stepE0 rfl rfl fun K hK=>?_;go_simp;refine hK _ ?_;clear hK K;refine stepE1S rfl rfl fun K hK=>?_;go_wp2
  refine ⟨by rw [HSD.out];exact (⟨((bcell (Below.alloc (Below.refl _ _) (Nat.le_refl _) _)).1 _ _ hg2).trans r1,((bcell (Below.alloc (Below.refl _ _) (Nat.le_refl _) _)).1 _ _ hg2).trans r2,((bcell (Below.alloc (Below.refl _ _) (Nat.le_refl _) _)).1 _ _ hg2).trans r3⟩),?_⟩
  refine stepE1 rfl rfl (by kernel_rfl) fun K hK=>?_;go_wp2
  try refine stepEnil0 ?_
  clear HSD SS
  obtain ⟨w2,hw2⟩:∃ w2:World,w2=(w1.alloc (.cells #[.int .i64 v,.int .i64 g,.int .i64 e,.bool false] 113)).drew:=⟨_,rfl⟩
  have hb12:Below w1.heap.size w1 w2:=by rw [hw2];exact belCaHeadsR2
  have KM2:=Lib.hid (show w2.heap[w1.heap.size]? = some (.cells #[.int .i64 v,.int .i64 g,.int .i64 e,.bool false] 113 (0,0)) by rw [hw2];exact heap_new w1 _)
  have HB2:=Lib.hid (HB1.out.trans (hb12.mono hz1))
  have KB2:=Lib.hid (blk_below' KB1.out hb12)
  have r5:w2.cell? ⟨gb,4,none⟩=some (.int .i64 0):=(hb12.cell hg2).trans r4
  have hz2:=hb12.size
  have hlm:=blk_lt KM2.out
  rw [←hw2]
  clear hw2 hb12 r1 r2 r3 r4
  obtain ⟨m0,m1,m2,m3⟩:=ncells KM2.out
  obtain ⟨f0,f1,f2,f3⟩:=nfree KM2.out
  obtain ⟨e0,e1,e2,e3⟩:=nfree KB2.out
  obtain ⟨x0,x1,x2,x3⟩:=ncells KB2.out
  have hl2:=blk_lt KB2.out
  have hmne:w1.heap.size≠w.heap.size:=by omega
  go_upto_region 11 with fail
  go_wp2_with fail
  refine (HRG.out _).mono ?_
  rintro r wx ⟨rfl,rfl⟩
  go_wp2
  obtain ⟨wf,hwf⟩:∃ wf,wf=set4 w2 w.heap.size (.int .i64 v) (.int .i64 g) (.int .i64 e) (.bool false):=⟨_,rfl⟩
  have HBF:=Lib.hid (show Below w.heap.size w wf by rw [hwf];exact HB2.out.trans (set4_below (Nat.le_refl _) _ _ _ _))
  have kbf:=store4 KB2.out (.int .i64 v) (.int .i64 g) (.int .i64 e) (.bool false)
  rw [←hwf] at kbf
  obtain ⟨s0,s1,s2,s3⟩:=ncells kbf
  unfold set4 at hwf
  rw [←hwf]
  refine bodyPost_ret (v:=?_) ?_ rfl ?_
  rotate_left;(focus (simp [results,Tryz.results60,go_sem,s0,s1,s2,s3];exact rfl))
  exact ⟨rfl,HBF.out⟩
 | true=>
  simp only [if_true] at hsn
  subst hsn
  obtain ⟨SS,HSD⟩:∃ SS:World→Prop,Hid (SS=fun w'=>w'.cell? ⟨gb,1,none⟩=some (.int .i64 v)∧w'.cell? ⟨gb,2,none⟩=some (.int .i64 g)∧w'.cell? ⟨gb,3,none⟩=some (.int .i64 e)):=⟨_,Lib.hid rfl⟩
  refine wp_region_order0 SS [2,5,8] [(0,0),(1,0),(2,2),(3,0),(4,0),(5,2),(6,0),(7,0),(8,2),(9,0),(10,1),(11,1)] (by kernel_rfl) (by kernel_rfl) rfl (by kernel_rfl) ?_ ?_
  (focus (rw [HSD.out];exact ⟨r1,r2,r3⟩));(iterate 2 refine stepE0 rfl rfl fun K hK=>?_;go_simp;refine hK _ ?_;clear hK K);refine stepE2 rfl rfl ?_ (fun w1 hS=>?_) fun K hK=>?_;rotate_left;(focus (rw [HSD.out] at hS;obtain ⟨s1,s2,s3⟩:=hS;go_simp;rfl));go_simp;refine hK _ ?_;clear hK K;(iterate 2 refine stepE0 rfl rfl fun K hK=>?_;go_simp;refine hK _ ?_;clear hK K);refine stepE2 rfl rfl ?_ (fun w1 hS=>?_) fun K hK=>?_;rotate_left;(focus (rw [HSD.out] at hS;obtain ⟨s1,s2,s3⟩:=hS;go_simp;rfl));go_simp;refine hK _ ?_;clear hK K;(iterate 2 refine stepE0 rfl rfl fun K hK=>?_;go_simp;refine hK _ ?_;clear hK K);refine stepE2 rfl rfl ?_ (fun w1 hS=>?_) fun K hK=>?_;rotate_left;(focus (rw [HSD.out] at hS;obtain ⟨s1,s2,s3⟩:=hS;go_simp;rfl));go_simp;refine hK _ ?_;clear hK K;refine stepE0 rfl rfl fun K hK=>?_;go_simp;refine hK _ ?_;clear hK K;refine stepE1S rfl rfl fun K hK=>?_;go_wp2
  refine ⟨by rw [HSD.out];exact (⟨((bcell (Below.alloc (Below.refl _ _) (Nat.le_refl _) _)).1 _ _ hg2).trans r1,((bcell (Below.alloc (Below.refl _ _) (Nat.le_refl _) _)).1 _ _ hg2).trans r2,((bcell (Below.alloc (Below.refl _ _) (Nat.le_refl _) _)).1 _ _ hg2).trans r3⟩),?_⟩
  refine stepE1 rfl rfl (by kernel_rfl) fun K hK=>?_;go_wp2
  try refine stepEnil0 ?_
  clear HSD SS
  obtain ⟨w2,hw2⟩:∃ w2:World,w2=(w1.alloc (.cells #[.int .i64 v,.int .i64 g,.int .i64 e,.bool false] 113)).drew:=⟨_,rfl⟩
  have hb12:Below w1.heap.size w1 w2:=by rw [hw2];exact belCaHeadsR2
  have KM2:=Lib.hid (show w2.heap[w1.heap.size]? = some (.cells #[.int .i64 v,.int .i64 g,.int .i64 e,.bool false] 113 (0,0)) by rw [hw2];exact heap_new w1 _)
  have HB2:=Lib.hid (HB1.out.trans (hb12.mono hz1))
  have KB2:=Lib.hid (blk_below' KB1.out hb12)
  have r5:w2.cell? ⟨gb,4,none⟩=some (.int .i64 1):=(hb12.cell hg2).trans r4
  have hz2:=hb12.size
  have hlm:=blk_lt KM2.out
  rw [←hw2]
  clear hw2 hb12 r1 r2 r3 r4
  obtain ⟨m0,m1,m2,m3⟩:=ncells KM2.out
  obtain ⟨f0,f1,f2,f3⟩:=nfree KM2.out
  obtain ⟨e0,e1,e2,e3⟩:=nfree KB2.out
  obtain ⟨x0,x1,x2,x3⟩:=ncells KB2.out
  have hl2:=blk_lt KB2.out
  have hmne:w1.heap.size≠w.heap.size:=by omega
  go_upto_region 11 with fail
  obtain ⟨w3,hw3⟩:∃ w3:World,w3=w2.setCell ⟨w1.heap.size,3,none⟩ (.bool true):=⟨_,rfl⟩
  have HB3:=Lib.hid (show Below w.heap.size w w3 by rw [hw3];exact Below.setCell HB2.out (by omega) _)
  have KM3:=Lib.hid (show w3.heap[w1.heap.size]? = some (.cells #[.int .i64 v,.int .i64 g,.int .i64 e,.bool true] 113 (0,0)) by rw [hw3];simpa using heap_setCell_same w2 w1.heap.size 3 _ _ (.bool true) KM2.out)
  have KB3:=Lib.hid (show w3.heap[w.heap.size]? = some (.cells #[.int .i64 0,.int .i64 0,.int .i64 0,.bool false] 113 (0,0)) by rw [hw3];rw [heap_setCell_other w2 _ _ _ (show w.heap.size≠w1.heap.size by omega)];exact KB2.out)
  rw [←hw3]
  clear hw3 m0 m1 m2 m3 f0 f1 f2 f3 e0 e1 e2 e3 x0 x1 x2 x3 r5
  obtain ⟨m0,m1,m2,m3⟩:=ncells KM3.out
  obtain ⟨e0,e1,e2,e3⟩:=nfree KB3.out
  obtain ⟨x0,x1,x2,x3⟩:=ncells KB3.out
  have hl3:=blk_lt KB3.out
  have hlm3:=blk_lt KM3.out
  go_wp2_with fail
  refine (HRG.out _).mono ?_
  rintro r wx ⟨rfl,rfl⟩
  go_wp2
  obtain ⟨wf,hwf⟩:∃ wf,wf=set4 w3 w.heap.size (.int .i64 v) (.int .i64 g) (.int .i64 e) (.bool true):=⟨_,rfl⟩
  have HBF:=Lib.hid (show Below w.heap.size w wf by rw [hwf];exact HB3.out.trans (set4_below (Nat.le_refl _) _ _ _ _))
  have kbf:=store4 KB3.out (.int .i64 v) (.int .i64 g) (.int .i64 e) (.bool true)
  rw [←hwf] at kbf
  obtain ⟨s0,s1,s2,s3⟩:=ncells kbf
  unfold set4 at hwf
  rw [←hwf]
  refine bodyPost_ret (v:=?_) ?_ rfl ?_
  rotate_left;(focus (simp [results,Tryz.results60,go_sem,s0,s1,s2,s3];exact rfl))
  exact ⟨rfl,HBF.out⟩
end Go.Proofs.YtfpjfoajonbndaaGreatDoor
