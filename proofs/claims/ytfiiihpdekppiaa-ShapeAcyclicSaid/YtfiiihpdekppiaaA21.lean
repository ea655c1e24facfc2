/- A part of the proof that vellumlaw12.ShapeAcyclic is true for every input: walks of functions that the row reaches and plain laws that they need. Conditions: none. Joined by merge.py out of PShapeReduciblex10 PShapeReduciblex11 PShapeNestedx0 T9 T21 T13 T22; a part that began as a print is named P or W there and is trimmed. -/
import Derived.Test.YtfiiihpdekppiaaA2
import Derived.Test.YtfiiihpdekppiaaA3
import Derived.Test.YtfiiihpdekppiaaA4
import Derived.Test.YtfiiihpdekppiaaA13
import Derived.Test.YtfiiihpdekppiaaA14
import Derived.Test.YtfiiihpdekppiaaA15
import Derived.Test.YtfiiihpdekppiaaA16
import Derived.Test.YtfiiihpdekppiaaA20
import Derived.Test.YtfiiihpdekppiaaProg
import Derived.Below
import Derived.Deep.Draws
import Derived.Deep.AppendLies
import Derived.Maps.AppendAt
import Derived.OwnWalk
import Derived.Laws.BytesArg
import Derived.Laws.MakeOwn
import Derived.Laws.OwnMore
import Derived.Deep.OwnRows
import Derived.Tactics
import Derived.Lib.ConvBytes
import Derived.Laws.Slices
import Derived.WalkKit
import Derived.KernelRfl
import Derived.RowKit3
import Derived.Deep.LoopGhost
import Derived.Deep.QuietTactic
import Derived.BigQuiet
import Derived.WideLaws
import Derived.Deep.DeepCutAuto
import Derived.Deep.CutBlock
import Derived.Deep.RegionHeld3
import Derived.Laws.Rows
import Derived.Lib.AppendStr
import Derived.ArgAppend
import Derived.Laws.IdiomCopy
import Derived.OrdersHeld
import Derived.Laws.BitsLemmas
import Derived.RowKit
import Derived.Laws.StructEq
set_option linter.unusedVariables false
set_option linter.unusedSimpArgs false
section
namespace Go.Proofs.Ytfiiihpdekppiaa.PShapeReducible
open Go.RowKit Go.Proofs.YtfiiihpdekppiaaW.PrintWords Go.Proofs.YtfiiihpdekppiaaW.PrintLast Go.Proofs.YtfiiihpdekppiaaW.PrintMore
attribute [local go_sem] max2_int min2_int max_two min_two max_three min_three max_four min_four
set_option linter.unusedVariables false
set_option linter.unusedSimpArgs false
mutual
def vellumref12_Nodes.j0:Nat->List Int->Int->Int->Int->List (S31)->Option (List Int)
 | 0,_,_,_,_,_=>none
 | k+1,x3,x384000,x384001,x384002,x384003=>vellumref12_Nodes.l0 k x3 0 x384000 x384001 x384002 x384003
def vellumref12_Nodes.l0:Nat->List Int->Int->Int->Int->Int->List (S31)->Option (List Int)
 | 0,_,_,_,_,_,_=>none
 | k+1,x3,x4,x384000,x384001,x384002,x384003=>if x4 < (x384003.length:Int) then (if 0<=x4 then ((vellumref12_Nodes.f k ((rd_T31 x384003 x4).f0) ((rd_T31 x384003 x4).f1) ((rd_T31 x384003 x4).f2) ((rd_T31 x384003 x4).f3)).bind fun t388=>(if x3.length+t388.length < 17592186044416 then (vellumref12_Nodes.l0 k (x3++t388) (wrap64 (x4+1)) x384000 x384001 x384002 x384003) else (none))) else (none)) else (some x3)
def vellumref12_Nodes.f:Nat->Int->Int->Int->List (S31)->Option (List Int)
 | 0,_,_,_,_=>none
 | k+1,a0_0,a0_1,a0_2,l0_3=>if a0_0=2 then (if ([]:List Int).length < 17592186044416 then (vellumref12_Nodes.j0 k (([]:List Int)++[a0_1]) a0_0 a0_1 a0_2 l0_3) else (none)) else (vellumref12_Nodes.j0 k ([]:List Int) a0_0 a0_1 a0_2 l0_3)
end
set_option maxHeartbeats 8000000 in
set_option maxRecDepth 100000 in
theorem vellumref12_Nodes.calls (k:Nat):∀ (a0_0:Int) (a0_1:Int) (a0_2:Int) (A0_3:Option Addr) (c0_3:Nat) (l0_3:List (S31)) (r:List Int) (w:World) (hr0_3:Kd.C k31 w A0_3 l0_3.length l0_3) (hc0_3:l0_3.length<=c0_3) (h:vellumref12_Nodes.f k a0_0 a0_1 a0_2 l0_3=some r),
  Calls Try.prog 28 #[.agg #[.int .i64 a0_0,.int .i64 a0_1,.int .i64 a0_2,.slice A0_3 l0_3.length c0_3]] w fun e w'=>∃ v0_:Value,e=.returned (v0_)/\Kd.R (Kd.int .i64) 3 w' w.heap.size (fun _=>True) v0_ r/\Below w.heap.size w w':=by
 induction k using Nat.strongRecOn with
 | _ k ih =>
 intro a0_0 a0_1 a0_2 A0_3 c0_3 l0_3 r w hr0_3 hc0_3 h
 cases k with
 | zero=>exact absurd h (by simp [vellumref12_Nodes.f])
 | succ k =>
 simp only [vellumref12_Nodes.f] at h
 have hu31:=Try.underlying31
 have HR0_3:=Aside0.mk hr0_3
 have HC0_3:=Aside0.mk hc0_3
 clear hr0_3 hc0_3
 have HB:=Aside0.mk (Below.refl w.heap.size w)
 have H:(if a0_0=2 then (if ([]:List Int).length < 17592186044416 then (vellumref12_Nodes.j0 k (([]:List Int)++[a0_1]) a0_0 a0_1 a0_2 l0_3) else (none)) else (vellumref12_Nodes.j0 k ([]:List Int) a0_0 a0_1 a0_2 l0_3))=some r:=h
 clear h
 have HC2:=Aside0.mk H
 clear H
 go_enter Try.func28,Try.ntmps28
 go_upto_if 7 with (first | ((with_reducible refine gate_dst (N:=1) rfl ?_);refine box_event ?hg (N:=1) ?hd (cs:=#[.int .i64 a0_0,.int .i64 a0_1,.int .i64 a0_2,.slice A0_3 l0_3.length c0_3]) (t:=31) ?hr ?_;(case hd=>rfl);(case hg=>rfl);(case hr=>first | (go_simp;done) | (go_simp;rfl));intro gb383 hg w3 hbox hb;have n0_:=Aside0.mk (below_step (by repeat (first | (with_reducible first | exact HB.out | apply below_alloc | apply pw_below_drewN | apply below_drew1) | exact HB.out)) hb);have n1_:=Aside0.mk (hbox);have n2_:=Aside0.mk ((by rw [hg];exact (below_size (by repeat (first | (with_reducible first | exact HB.out | apply below_alloc | apply pw_below_drewN | apply below_drew1) | exact HB.out))):w.heap.size<=gb383));have n3_:=Aside0.mk ((by rw [hg];exact (below_size (by repeat (first | (with_reducible first | exact HB.out | apply below_alloc | apply pw_below_drewN | apply below_drew1) | exact HB.out))):w.heap.size<=gb383));clear HB;have HB:=n0_;have BK383:=n1_;have GW383:=n2_;have GE383:=n3_;clear n0_ n1_ n2_ n3_;clear hb hbox hg;have hcz4_0:w3.cell? ⟨gb383,0,none⟩=some (.int .i64 a0_0):=(blk_cell BK383.out 0).trans rfl;have hcz4_1:w3.cell? ⟨gb383,1,none⟩=some (.int .i64 a0_1):=(blk_cell BK383.out 1).trans rfl;have hcz4_2:w3.cell? ⟨gb383,2,none⟩=some (.int .i64 a0_2):=(blk_cell BK383.out 2).trans rfl;have hcz4_3:w3.cell? ⟨gb383,3,none⟩=some (.slice A0_3 l0_3.length c0_3):=(blk_cell BK383.out 3).trans rfl;have hfz4_0:=blk_frozen BK383.out 0;have hfz4_1:=blk_frozen BK383.out 1;have hfz4_2:=blk_frozen BK383.out 2;have hfz4_3:=blk_frozen BK383.out 3))
 (try simp only [Act.put,List.setIfInBounds_toArray,List.set_cons_zero,List.set_cons_succ])
 go_cut [3] (fun v3 wc=>∃ (kq:Nat) (x3_1:List Int),Aside0 (vellumref12_Nodes.j0 kq x3_1 a0_0 a0_1 a0_2 l0_3=some r)/\Aside0 (kq<=k)/\Aside0 (Kd.R (Kd.int .i64) 3 wc w.heap.size (fun _=>True) v3 x3_1)/\Aside0 (wc.heap[gb383]?=some (.cells #[.int .i64 a0_0,.int .i64 a0_1,.int .i64 a0_2,(.slice A0_3 l0_3.length c0_3)] 31 (0,0)))/\Aside0 (Below w.heap.size w wc))
 case first =>
  have H:=HC2.out
  clear HC2
  by_cases c5:a0_0=2
  ·rw [if_pos c5] at H
   have c5b0:(a0_0 == 2)=true:=beq_iff_eq.mpr c5
   have c5b1:(a0_0 != 2)=false:=bne_eq_false_iff_eq.mpr c5
   clear c5
   (first | rw [c5b0] | (simp only [i64_w,i32_w];rw [c5b0]) | skip)
   by_cases c6:([]:List Int).length < 17592186044416
   ·rw [if_pos c6] at H
    have LMc6:=Aside0.mk c6
    clear c6
    obtain ⟨y384,hy384⟩:∃ y_:List Int,y_=(([]:List Int)++[a0_1]):=⟨_,rfl⟩
    replace H:(vellumref12_Nodes.j0 k y384 a0_0 a0_1 a0_2 l0_3)=some r:=by first | (rw [hy384];with_reducible exact H) | (have H2_:=(Option.bind_some _ _).symm.trans H;rw [hy384];with_reducible exact H2_) | (have H2_:=(Option.bind_some _ _).symm.trans H;with_reducible exact H2_) | with_reducible exact H | (rw [hy384];exact H) | exact H
    have Ny384:=Aside0.mk hy384
    clear hy384
    have H':=Aside0.mk H
    clear H
    have hcz7_0:w3.cell? ⟨gb383,0,none⟩=some (.int .i64 a0_0):=(blk_cell BK383.out 0).trans rfl
    have hcz7_1:w3.cell? ⟨gb383,1,none⟩=some (.int .i64 a0_1):=(blk_cell BK383.out 1).trans rfl
    have hcz7_2:w3.cell? ⟨gb383,2,none⟩=some (.int .i64 a0_2):=(blk_cell BK383.out 2).trans rfl
    have hcz7_3:w3.cell? ⟨gb383,3,none⟩=some (.slice A0_3 l0_3.length c0_3):=(blk_cell BK383.out 3).trans rfl
    have hfz7_0:=blk_frozen BK383.out 0
    have hfz7_1:=blk_frozen BK383.out 1
    have hfz7_2:=blk_frozen BK383.out 2
    have hfz7_3:=blk_frozen BK383.out 3
    go_wp2_with (first | ((with_reducible refine gate_builtin (b:=.append) (xs:=#[.tmp 8,.tmp 11]) rfl ?_);at_builtin;refine Kd.R_append (Kd.int .i64) (w0:=w) w.heap.size rfl (.tmp 8) (.tmp 11) 23 3 (.int .i64 0) 8 rfl Try.underlying23 info3 rfl (by decide) (by omega) (.slice none 0 0) ([]:List Int) a0_1 [.int .i64 a0_1] (fun _=>True) (fun _=>False) rfl rfl ?aP (fun _ hk=>hk.elim) ?aF ?aO ?aB ?aS ?aL ?_;(case aP=>exact rfl);(case aB=>exact (by repeat (first | (with_reducible first | exact HB.out | apply below_alloc | apply pw_below_drewN | apply below_drew1 | refine below_set ?_ GE383.out) | exact HB.out)));(case aF=>exact (fun _ _=>trivial));(case aO=>exact ((Kd.R_nil _ _ _ _ (fun _=>True))));(case aS=>exact (below_size (by repeat (first | (with_reducible first | exact HB.out | apply below_alloc | apply pw_below_drewN | apply below_drew1 | refine below_set ?_ GE383.out) | exact HB.out))));(case aL=>have:=LMc6.out;omega);intro v385 w8 ho hb hg hat;rw [<-Ny384.out] at ho;have n0_:=Aside0.mk (blk_grown (g:=gb383) (o:=.cells #[.int .i64 a0_0,.int .i64 a0_1,.int .i64 a0_2,.slice A0_3 l0_3.length c0_3] 31 (0,0)) (by (with_reducible repeat (first | refine blk_drewN ?_ _ | refine blk_drew ?_ | refine blk_alloc ?_ _));exact BK383.out) hg (by simp [Value.ownBlock]));have n1_:=Aside0.mk (hb);have n2_:=Aside0.mk (ho);clear BK383;clear HB;have BK383:=n0_;have HB:=n1_;have HO386:=n2_;clear n0_ n1_ n2_;clear ho hb hg hat))
    go_meet
    case rel=>exact ⟨_,(y384),H',⟨by first | omega | exact Nat.le_refl _⟩,⟨by (with_reducible repeat (first | apply Kd.R_alloc | apply Kd.R_drewN | apply Kd.R_drew));exact HO386.out⟩,⟨by (with_reducible repeat (first | refine blk_drewN ?_ _ | refine blk_drew ?_ | refine blk_alloc ?_ _));exact BK383.out⟩,⟨by repeat (first | (with_reducible first | exact HB.out | apply below_alloc | apply pw_below_drewN | apply below_drew1 | refine below_set ?_ GE383.out) | exact HB.out)⟩⟩
   ·rw [if_neg c6] at H
    exact absurd H (by simp)
  ·rw [if_neg c5] at H
   have c5b0:(a0_0 == 2)=false:=beq_eq_false_iff_ne.mpr c5
   have c5b1:(a0_0 != 2)=true:=bne_iff_ne.mpr c5
   (first | rw [c5b0] | (simp only [i64_w,i32_w];rw [c5b0]) | skip)
   have H':=Aside0.mk H
   clear H
   go_wp2
   go_meet
   case rel=>exact ⟨_,(([]:List Int)),H',⟨by first | omega | exact Nat.le_refl _⟩,⟨by first | exact Kd.R_nil _ _ _ _ _ | exact Kd.N_nil _ _ _ _ _ | exact Kd.V_nil _ _ _ _ _ | exact Kd.Q_nil _ _ _ _ _ | exact Kd.S_nil _ _ _ _ _⟩,⟨by (with_reducible repeat (first | refine blk_drewN ?_ _ | refine blk_drew ?_ | refine blk_alloc ?_ _));exact BK383.out⟩,⟨by repeat (first | (with_reducible first | exact HB.out | apply below_alloc | apply pw_below_drewN | apply below_drew1 | refine below_set ?_ GE383.out) | exact HB.out)⟩⟩
 case rest =>
  clear HC2
  try clear c2
  try clear p2
  try clear c5
  try clear c5b0
  try clear c5b1
  try clear c6
  try clear hcz4_0
  try clear hcz4_1
  try clear hcz4_2
  try clear hcz4_3
  try clear hcz7_0
  try clear hcz7_1
  try clear hcz7_2
  try clear hcz7_3
  try clear hfz4_0
  try clear hfz4_1
  try clear hfz4_2
  try clear hfz4_3
  try clear hfz7_0
  try clear hfz7_1
  try clear hfz7_2
  try clear hfz7_3
  obtain ⟨kq,x3_1,HA,HJ1,HO_3,BK383,HB⟩:=hcut
  cases kq with
  | zero=>exact absurd HA.out (by simp [vellumref12_Nodes.j0])
  | succ kj1 =>
   have H:=HA.out
   clear HA
   simp only [vellumref12_Nodes.j0] at H
   have H':=Aside0.mk H
   clear H
   go_wp2
   go_loopg [3,4] kj1 (fun kq v3 v4 w'=>∃ (x3_2:List Int) (x4_2:Int),v4=.int .i64 x4_2/\Aside0 (vellumref12_Nodes.l0 kq x3_2 x4_2 a0_0 a0_1 a0_2 l0_3=some r)/\Aside0 (kq<=kj1)/\Aside0 (Kd.R (Kd.int .i64) 3 w' w.heap.size (fun _=>True) v3 x3_2)/\Aside0 (w'.heap[gb383]?=some (.cells #[.int .i64 a0_0,.int .i64 a0_1,.int .i64 a0_2,(.slice A0_3 l0_3.length c0_3)] 31 (0,0)))/\Aside0 (Below w.heap.size w w'))
   case atStart=>exact ⟨(x3_1),(0),(by first | rfl | (simp;done) | (simp [*];done)),H',⟨Nat.le_refl _⟩,⟨by (with_reducible repeat (first | apply Kd.R_alloc | apply Kd.R_drewN | apply Kd.R_drew));exact HO_3.out⟩,⟨by (with_reducible repeat (first | refine blk_drewN ?_ _ | refine blk_drew ?_ | refine blk_alloc ?_ _));exact BK383.out⟩,⟨by repeat (first | (with_reducible first | exact HB.out | apply below_alloc | apply pw_below_drewN | apply below_drew1 | refine below_set ?_ GE383.out) | exact HB.out)⟩⟩
   case round =>
    clear H'
    try clear c2
    try clear p2
    try clear c5
    try clear c5b0
    try clear c5b1
    try clear c6
    try clear hcz4_0
    try clear hcz4_1
    try clear hcz4_2
    try clear hcz4_3
    try clear hcz7_0
    try clear hcz7_1
    try clear hcz7_2
    try clear hcz7_3
    try clear hfz4_0
    try clear hfz4_1
    try clear hfz4_2
    try clear hfz4_3
    try clear hfz7_0
    try clear hfz7_1
    try clear hfz7_2
    try clear hfz7_3
    try clear p2
    obtain ⟨x3_2,x4_2,rfl,HA,HK2,HO_3,BK383,HB⟩:=hrel
    cases gk with
    | zero=>exact absurd HA.out (by simp [vellumref12_Nodes.l0])
    | succ k2 =>
     have H:=HA.out
     clear HA
     simp only [vellumref12_Nodes.l0] at H
     by_cases c9:x4_2 < (l0_3.length:Int)
     ·rw [if_pos c9] at H
      have c9b0:decide (x4_2 < (l0_3.length:Int))=true:=decide_eq_true c9
      clear c9
      by_cases c10:0<=x4_2
      ·rw [if_pos c10] at H
       have c10b0:decide (0<=x4_2)=true:=decide_eq_true c10
       clear c10
       replace H:=Option.bind_eq_some_iff.mp H
       obtain ⟨t388,A110,H⟩:=H
       replace H:(if x3_2.length+t388.length < 17592186044416 then (vellumref12_Nodes.l0 k2 (x3_2++t388) (wrap64 (x4_2+1)) a0_0 a0_1 a0_2 l0_3) else (none))=some r:=H
       have A11:=Aside0.mk A110
       clear A110
       by_cases c12:x3_2.length+t388.length < 17592186044416
       ·rw [if_pos c12] at H
        have LMc12:=Aside0.mk c12
        clear c12
        obtain ⟨y391,hy391⟩:∃ y_:List Int,y_=(x3_2++t388):=⟨_,rfl⟩
        replace H:(vellumref12_Nodes.l0 k2 y391 (wrap64 (x4_2+1)) a0_0 a0_1 a0_2 l0_3)=some r:=by first | (rw [hy391];with_reducible exact H) | (have H2_:=(Option.bind_some _ _).symm.trans H;rw [hy391];with_reducible exact H2_) | (have H2_:=(Option.bind_some _ _).symm.trans H;with_reducible exact H2_) | with_reducible exact H | (rw [hy391];exact H) | exact H
        have Ny391:=Aside0.mk hy391
        clear hy391
        have H':=Aside0.mk H
        clear H
        have hcz13_0:wr.cell? ⟨gb383,0,none⟩=some (.int .i64 a0_0):=(blk_cell BK383.out 0).trans rfl
        have hcz13_1:wr.cell? ⟨gb383,1,none⟩=some (.int .i64 a0_1):=(blk_cell BK383.out 1).trans rfl
        have hcz13_2:wr.cell? ⟨gb383,2,none⟩=some (.int .i64 a0_2):=(blk_cell BK383.out 2).trans rfl
        have hcz13_3:wr.cell? ⟨gb383,3,none⟩=some (.slice A0_3 l0_3.length c0_3):=(blk_cell BK383.out 3).trans rfl
        have hfz13_0:=blk_frozen BK383.out 0
        have hfz13_1:=blk_frozen BK383.out 1
        have hfz13_2:=blk_frozen BK383.out 2
        have hfz13_3:=blk_frozen BK383.out 3
        have p387:0<=(x4_2:Int):=of_decide_eq_true (by first | (with_reducible assumption) | assumption)
        have q387:x4_2 < (l0_3.length:Int):=of_decide_eq_true (by first | (with_reducible assumption) | assumption)
        obtain ⟨ad387,A387_3,c387_3,e387,hx387_0,hx387_1,hx387_2,hx387_3,hl387_3,hi387_3⟩:=at_T31 HR0_3.out x4_2 p387 q387
        cases e387
        replace hx387_0:=(HB.out.cell (World.block_lt_of_cell? w _ hx387_0)).trans hx387_0
        replace hx387_1:=(HB.out.cell (World.block_lt_of_cell? w _ hx387_1)).trans hx387_1
        replace hx387_2:=(HB.out.cell (World.block_lt_of_cell? w _ hx387_2)).trans hx387_2
        replace hx387_3:=(HB.out.cell (World.block_lt_of_cell? w _ hx387_3)).trans hx387_3
        have HR387_3:=Aside0.mk hi387_3
        have HC387_3:=Aside0.mk hl387_3
        clear hi387_3 hl387_3
        replace p387:=eq_true p387
        replace q387:=eq_true q387
        go_wp2_with (first | ((with_reducible refine gate_callee (f:=28) rfl ?_);refine goesL_ (some 26) rfl rfl Try.func28 (by kernel_rfl) rfl #[.agg #[.int .i64 ((rd_T31 l0_3 x4_2).f0),.int .i64 ((rd_T31 l0_3 x4_2).f1),.int .i64 ((rd_T31 l0_3 x4_2).f2),.slice A387_3 ((rd_T31 l0_3 x4_2).f3).length c387_3]] rfl (by (try simp only [List.map_toArray,List.map_cons,List.map_nil]);first | done | rfl | (simp only [List.length_drop,List.length_take];rfl)) ?_;(with_reducible refine (ih k2 (by have:=HJ1.out;have:=HK2.out;omega) ((rd_T31 l0_3 x4_2).f0) ((rd_T31 l0_3 x4_2).f1) ((rd_T31 l0_3 x4_2).f2) _ _ ((rd_T31 l0_3 x4_2).f3) t388 _ ?side1 ?side2 A11.out).mono ?_);(case side1=>repeat (first | exact (Kd.C_below HR387_3.out HB.out) | (with_reducible refine Kd.C_alloc ?_ _) | (with_reducible refine Kd.C_drewN ?_ _) | (with_reducible refine Kd.C_drew ?_)));(case side2=>exact HC387_3.out);rintro e w14 ⟨v389,rfl,ho0,hb⟩;refine ⟨_,rfl,?_⟩;have n0_:=Aside0.mk (Kd.R_elder' (by (with_reducible repeat (first | apply Kd.R_alloc | apply Kd.R_drewN | apply Kd.R_drew));exact HO_3.out) (Kd.R_base ho0) hb);have n1_:=Aside0.mk (Kd.R_lower (Kd.R_new' ho0 (Kd.R_lt (by (with_reducible repeat (first | apply Kd.R_alloc | apply Kd.R_drewN | apply Kd.R_drew));exact HO_3.out))) (below_size (by repeat (first | (with_reducible first | exact HB.out | apply below_alloc | apply pw_below_drewN | apply below_drew1 | refine below_set ?_ GE383.out) | exact HB.out))));have n2_:=Aside0.mk (Go.Proofs.YtfiiihpdekppiaaW.PrintWords.blk_below (g:=gb383) (o:=.cells #[.int .i64 a0_0,.int .i64 a0_1,.int .i64 a0_2,.slice (some ad387) l0_3.length c0_3] 31 (0,0)) (by (with_reducible repeat (first | refine blk_drewN ?_ _ | refine blk_drew ?_ | refine blk_alloc ?_ _));exact BK383.out) hb);have n3_:=Aside0.mk (below_step (by repeat (first | (with_reducible first | exact HB.out | apply below_alloc | apply pw_below_drewN | apply below_drew1 | refine below_set ?_ GE383.out) | exact HB.out)) hb);clear HO_3;clear BK383;clear HB;have HO_3:=n0_;have HO390:=n1_;have BK383:=n2_;have HB:=n3_;clear n0_ n1_ n2_ n3_;(try clear hb);(try clear hb2);(try clear hk);(try clear hi);(try clear ho0);obtain ⟨Ao16,co16,eo16⟩:=Kd.R_slice HO390.out;subst eo16) | ((with_reducible refine gate_builtin (b:=.append) (xs:=#[.tmp 20,.tmp 26]) rfl ?_);at_builtin;refine Kd.R_append_rows (Kd.int .i64) (w0:=w) w.heap.size rfl (.tmp 20) (.tmp 26) 23 3 (.int .i64 0) 8 rfl Try.underlying23 info3 rfl (by decide) (by omega) u3 x3_2 t388 _ _ _ (fun k_=>some k_≠(.slice Ao16 t388.length co16:Value).ownBlock) (fun _=>False) rfl rfl ?aO ?aR (fun _ _ h=>h) (fun _ h=>h.elim) ?aF ?aB ?aS ?aL ?_;(case aR=>repeat (first | exact (Kd.R_reads' HO390.out).2.2 | (with_reducible refine Kd.C_alloc ?_ _) | (with_reducible refine Kd.C_drewN ?_ _) | (with_reducible refine Kd.C_drew ?_)));(case aB=>exact (by repeat (first | (with_reducible first | exact HB.out | apply below_alloc | apply pw_below_drewN | apply below_drew1 | refine below_set ?_ GE383.out) | exact HB.out)));(case aF=>exact (fun k_ hk=>Kd.fresh' (Kd.R_lt (by (with_reducible repeat (first | apply Kd.R_alloc | apply Kd.R_drewN | apply Kd.R_drew));exact HO390.out)) k_ hk));(case aO=>exact (by (with_reducible repeat (first | apply Kd.R_alloc | apply Kd.R_drewN | apply Kd.R_drew));exact Kd.R_mono HO_3.out (fun _ hk=>hk.2)));(case aS=>exact (below_size (by repeat (first | (with_reducible first | exact HB.out | apply below_alloc | apply pw_below_drewN | apply below_drew1 | refine below_set ?_ GE383.out) | exact HB.out))));(case aL=>have:=LMc12.out;omega);intro v392 w15 ho hb hg hat;rw [<-Ny391.out] at ho;have n0_:=Aside0.mk (blk_grown (g:=gb383) (o:=.cells #[.int .i64 a0_0,.int .i64 a0_1,.int .i64 a0_2,.slice (some ad387) l0_3.length c0_3] 31 (0,0)) (by (with_reducible repeat (first | refine blk_drewN ?_ _ | refine blk_drew ?_ | refine blk_alloc ?_ _));exact BK383.out) hg (Kd.R_ne HO_3.out BK383.out (by decide)));have n1_:=Aside0.mk (Kd.R_after (ok:=(fun _=>True)) (by (with_reducible repeat (first | apply Kd.R_alloc | apply Kd.R_drewN | apply Kd.R_drew));exact HO390.out) hg hat);have n2_:=Aside0.mk (hb);have n3_:=Aside0.mk (ho);clear BK383;clear HO390;clear HB;clear HO_3;have BK383:=n0_;have HO390:=n1_;have HB:=n2_;have HO393:=n3_;clear n0_ n1_ n2_ n3_;clear ho hb hg hat))
        go_roundg k2
        case measure=>have:=HJ1.out;have:=HK2.out;omega
        case rel=>exact ⟨(y391),(wrap64 (x4_2+1)),(by first | rfl | (simp;done) | (simp [*];done)),H',⟨by have:=HJ1.out;have:=HK2.out;omega⟩,⟨by (with_reducible repeat (first | apply Kd.R_alloc | apply Kd.R_drewN | apply Kd.R_drew));exact Kd.R_mono HO393.out (fun _ hk=>trivial)⟩,⟨by (with_reducible repeat (first | refine blk_drewN ?_ _ | refine blk_drew ?_ | refine blk_alloc ?_ _));exact BK383.out⟩,⟨by repeat (first | (with_reducible first | exact HB.out | apply below_alloc | apply pw_below_drewN | apply below_drew1 | refine below_set ?_ GE383.out) | exact HB.out)⟩⟩
       ·rw [if_neg c12] at H
        exact absurd H (by simp)
      ·rw [if_neg c10] at H
       exact absurd H (by simp)
     ·rw [if_neg c9] at H
      have c9b0:decide (x4_2 < (l0_3.length:Int))=false:=decide_eq_false c9
      clear c9
      obtain rfl:=Option.some.inj H
      have hcz17_0:wr.cell? ⟨gb383,0,none⟩=some (.int .i64 a0_0):=(blk_cell BK383.out 0).trans rfl
      have hcz17_1:wr.cell? ⟨gb383,1,none⟩=some (.int .i64 a0_1):=(blk_cell BK383.out 1).trans rfl
      have hcz17_2:wr.cell? ⟨gb383,2,none⟩=some (.int .i64 a0_2):=(blk_cell BK383.out 2).trans rfl
      have hcz17_3:wr.cell? ⟨gb383,3,none⟩=some (.slice A0_3 l0_3.length c0_3):=(blk_cell BK383.out 3).trans rfl
      have hfz17_0:=blk_frozen BK383.out 0
      have hfz17_1:=blk_frozen BK383.out 1
      have hfz17_2:=blk_frozen BK383.out 2
      have hfz17_3:=blk_frozen BK383.out 3
      go_wp2
      go_ret
      exact ⟨_,by first | rfl | (simp [errW_none,errW_some] <;> rfl) | (simp [*,errW_none,errW_some] <;> rfl),by (with_reducible repeat (first | apply Kd.R_alloc | apply Kd.R_drewN | apply Kd.R_drew));exact HO_3.out,by repeat (first | (with_reducible first | exact HB.out | apply below_alloc | apply pw_below_drewN | apply below_drew1 | refine below_set ?_ GE383.out) | exact HB.out)⟩
attribute [local go_sem] max2_int min2_int max_two min_two max_three min_three max_four min_four
set_option linter.unusedVariables false
set_option linter.unusedSimpArgs false
mutual
def vellumref12_Copies.l0:Nat->List Int->Int->Int->Option (Int)
 | 0,_,_,_=>none
 | k+1,x3,x4,x5=>if x5 < (x3.length:Int) then (vellumref12_Copies.l1 k x3 x4 x5 false 0) else (some x4)
def vellumref12_Copies.l1:Nat->List Int->Int->Int->Bool->Int->Option (Int)
 | 0,_,_,_,_,_=>none
 | k+1,x3,x4,x5,x6,x7=>if x7 < x5 then (if x6=true then (vellumref12_Copies.l1 k x3 x4 x5 true (wrap64 (x7+1))) else (if 0<=x7 then (if x7 < (x3.length:Int) then (if 0<=x5 then (if x5 < (x3.length:Int) then (vellumref12_Copies.l1 k x3 x4 x5 ((rd x3 x7) == (rd x3 x5)) (wrap64 (x7+1))) else (none)) else (none)) else (none)) else (none))) else (if x6=true then (vellumref12_Copies.l0 k x3 (wrap64 (x4+1)) (wrap64 (x5+1))) else (vellumref12_Copies.l0 k x3 x4 (wrap64 (x5+1))))
end
def vellumref12_Copies.f (k:Nat) (a0_0:Int) (a0_1:Int) (a0_2:Int) (l0_3:List (S31)):Option (Int):=(vellumref12_Nodes.f k a0_0 a0_1 a0_2 l0_3).bind fun t395=>(vellumref12_Copies.l0 k t395 0 0)
set_option maxHeartbeats 8000000 in
set_option maxRecDepth 100000 in
theorem vellumref12_Copies.calls (k:Nat) (a0_0:Int) (a0_1:Int) (a0_2:Int) (A0_3:Option Addr) (c0_3:Nat) (l0_3:List (S31)) (r:Int) (w:World) (hr0_3:Kd.C k31 w A0_3 l0_3.length l0_3) (hc0_3:l0_3.length<=c0_3) (h:vellumref12_Copies.f k a0_0 a0_1 a0_2 l0_3=some r) :
  Calls Try.prog 23 #[.agg #[.int .i64 a0_0,.int .i64 a0_1,.int .i64 a0_2,.slice A0_3 l0_3.length c0_3]] w fun e w'=>e=.returned (.int .i64 r)/\Below w.heap.size w w':=by
 have hu31:=Try.underlying31
 have HR0_3:=Aside0.mk hr0_3
 have HC0_3:=Aside0.mk hc0_3
 clear hr0_3 hc0_3
 have HB:=Aside0.mk (Below.refl w.heap.size w)
 have H:((vellumref12_Nodes.f k a0_0 a0_1 a0_2 l0_3).bind fun t395=>(vellumref12_Copies.l0 k t395 0 0))=some r:=h
 clear h
 replace H:=Option.bind_eq_some_iff.mp H
 obtain ⟨t395,A20,H⟩:=H
 replace H:(vellumref12_Copies.l0 k t395 0 0)=some r:=H
 have A2:=Aside0.mk A20
 clear A20
 have H':=Aside0.mk H
 clear H
 go_enter Try.func23,Try.ntmps23
 go_wp2_with (first | ((with_reducible refine gate_dst (N:=1) rfl ?_);refine box_event ?hg (N:=1) ?hd (cs:=#[.int .i64 a0_0,.int .i64 a0_1,.int .i64 a0_2,.slice A0_3 l0_3.length c0_3]) (t:=31) ?hr ?_;(case hd=>rfl);(case hg=>rfl);(case hr=>first | (go_simp;done) | (go_simp;rfl));intro gb394 hg w3 hbox hb;have n0_:=Aside0.mk (below_step (by repeat (first | (with_reducible first | exact HB.out | apply below_alloc | apply pw_below_drewN | apply below_drew1) | exact HB.out)) hb);have n1_:=Aside0.mk (hbox);have n2_:=Aside0.mk ((by rw [hg];exact (below_size (by repeat (first | (with_reducible first | exact HB.out | apply below_alloc | apply pw_below_drewN | apply below_drew1) | exact HB.out))):w.heap.size<=gb394));have n3_:=Aside0.mk ((by rw [hg];exact (below_size (by repeat (first | (with_reducible first | exact HB.out | apply below_alloc | apply pw_below_drewN | apply below_drew1) | exact HB.out))):w.heap.size<=gb394));clear HB;have HB:=n0_;have BK394:=n1_;have GW394:=n2_;have GE394:=n3_;clear n0_ n1_ n2_ n3_;clear hb hbox hg;have hcz4_0:w3.cell? ⟨gb394,0,none⟩=some (.int .i64 a0_0):=(blk_cell BK394.out 0).trans rfl;have hcz4_1:w3.cell? ⟨gb394,1,none⟩=some (.int .i64 a0_1):=(blk_cell BK394.out 1).trans rfl;have hcz4_2:w3.cell? ⟨gb394,2,none⟩=some (.int .i64 a0_2):=(blk_cell BK394.out 2).trans rfl;have hcz4_3:w3.cell? ⟨gb394,3,none⟩=some (.slice A0_3 l0_3.length c0_3):=(blk_cell BK394.out 3).trans rfl;have hfz4_0:=blk_frozen BK394.out 0;have hfz4_1:=blk_frozen BK394.out 1;have hfz4_2:=blk_frozen BK394.out 2;have hfz4_3:=blk_frozen BK394.out 3) | (go_at_call 28;(with_reducible refine (vellumref12_Nodes.calls k a0_0 a0_1 a0_2 _ _ l0_3 t395 _ ?side1 ?side2 A2.out).mono ?_);(case side1=>repeat (first | exact (Kd.C_below HR0_3.out HB.out) | (with_reducible refine Kd.C_alloc ?_ _) | (with_reducible refine Kd.C_drewN ?_ _) | (with_reducible refine Kd.C_drew ?_)));(case side2=>exact HC0_3.out);rintro e w5 ⟨v396,rfl,ho0,hb⟩;have n0_:=Aside0.mk (Kd.R_lower ho0 (below_size (by repeat (first | (with_reducible first | exact HB.out | apply below_alloc | apply pw_below_drewN | apply below_drew1 | refine below_set ?_ GE394.out) | exact HB.out))));have n1_:=Aside0.mk (Go.Proofs.YtfiiihpdekppiaaW.PrintWords.blk_below (g:=gb394) (o:=.cells #[.int .i64 a0_0,.int .i64 a0_1,.int .i64 a0_2,.slice A0_3 l0_3.length c0_3] 31 (0,0)) (by (with_reducible repeat (first | refine blk_drewN ?_ _ | refine blk_drew ?_ | refine blk_alloc ?_ _));exact BK394.out) hb);have n2_:=Aside0.mk (below_step (by repeat (first | (with_reducible first | exact HB.out | apply below_alloc | apply pw_below_drewN | apply below_drew1 | refine below_set ?_ GE394.out) | exact HB.out)) hb);clear BK394;clear HB;have HO397:=n0_;have BK394:=n1_;have HB:=n2_;clear n0_ n1_ n2_;(try clear hb);(try clear hb2);(try clear hk);(try clear hi);(try clear ho0)))
 repeat (go_quiet (first | ((with_reducible refine gate_dst (N:=1) rfl ?_);refine box_event ?hg (N:=1) ?hd (cs:=#[.int .i64 a0_0,.int .i64 a0_1,.int .i64 a0_2,.slice A0_3 l0_3.length c0_3]) (t:=31) ?hr ?_;(case hd=>rfl);(case hg=>rfl);(case hr=>first | (go_simp;done) | (go_simp;rfl));intro gb394 hg w3 hbox hb;have n0_:=Aside0.mk (below_step (by repeat (first | (with_reducible first | exact HB.out | apply below_alloc | apply pw_below_drewN | apply below_drew1) | exact HB.out)) hb);have n1_:=Aside0.mk (hbox);have n2_:=Aside0.mk ((by rw [hg];exact (below_size (by repeat (first | (with_reducible first | exact HB.out | apply below_alloc | apply pw_below_drewN | apply below_drew1) | exact HB.out))):w.heap.size<=gb394));have n3_:=Aside0.mk ((by rw [hg];exact (below_size (by repeat (first | (with_reducible first | exact HB.out | apply below_alloc | apply pw_below_drewN | apply below_drew1) | exact HB.out))):w.heap.size<=gb394));clear HB;have HB:=n0_;have BK394:=n1_;have GW394:=n2_;have GE394:=n3_;clear n0_ n1_ n2_ n3_;clear hb hbox hg;have hcz4_0:w3.cell? ⟨gb394,0,none⟩=some (.int .i64 a0_0):=(blk_cell BK394.out 0).trans rfl;have hcz4_1:w3.cell? ⟨gb394,1,none⟩=some (.int .i64 a0_1):=(blk_cell BK394.out 1).trans rfl;have hcz4_2:w3.cell? ⟨gb394,2,none⟩=some (.int .i64 a0_2):=(blk_cell BK394.out 2).trans rfl;have hcz4_3:w3.cell? ⟨gb394,3,none⟩=some (.slice A0_3 l0_3.length c0_3):=(blk_cell BK394.out 3).trans rfl;have hfz4_0:=blk_frozen BK394.out 0;have hfz4_1:=blk_frozen BK394.out 1;have hfz4_2:=blk_frozen BK394.out 2;have hfz4_3:=blk_frozen BK394.out 3) | (go_at_call 28;(with_reducible refine (vellumref12_Nodes.calls k a0_0 a0_1 a0_2 _ _ l0_3 t395 _ ?side1 ?side2 A2.out).mono ?_);(case side1=>repeat (first | exact (Kd.C_below HR0_3.out HB.out) | (with_reducible refine Kd.C_alloc ?_ _) | (with_reducible refine Kd.C_drewN ?_ _) | (with_reducible refine Kd.C_drew ?_)));(case side2=>exact HC0_3.out);rintro e w5 ⟨v396,rfl,ho0,hb⟩;have n0_:=Aside0.mk (Kd.R_lower ho0 (below_size (by repeat (first | (with_reducible first | exact HB.out | apply below_alloc | apply pw_below_drewN | apply below_drew1 | refine below_set ?_ GE394.out) | exact HB.out))));have n1_:=Aside0.mk (Go.Proofs.YtfiiihpdekppiaaW.PrintWords.blk_below (g:=gb394) (o:=.cells #[.int .i64 a0_0,.int .i64 a0_1,.int .i64 a0_2,.slice A0_3 l0_3.length c0_3] 31 (0,0)) (by (with_reducible repeat (first | refine blk_drewN ?_ _ | refine blk_drew ?_ | refine blk_alloc ?_ _));exact BK394.out) hb);have n2_:=Aside0.mk (below_step (by repeat (first | (with_reducible first | exact HB.out | apply below_alloc | apply pw_below_drewN | apply below_drew1 | refine below_set ?_ GE394.out) | exact HB.out)) hb);clear BK394;clear HB;have HO397:=n0_;have BK394:=n1_;have HB:=n2_;clear n0_ n1_ n2_;(try clear hb);(try clear hb2);(try clear hk);(try clear hi);(try clear ho0)));try go_wp2_with (first | ((with_reducible refine gate_dst (N:=1) rfl ?_);refine box_event ?hg (N:=1) ?hd (cs:=#[.int .i64 a0_0,.int .i64 a0_1,.int .i64 a0_2,.slice A0_3 l0_3.length c0_3]) (t:=31) ?hr ?_;(case hd=>rfl);(case hg=>rfl);(case hr=>first | (go_simp;done) | (go_simp;rfl));intro gb394 hg w3 hbox hb;have n0_:=Aside0.mk (below_step (by repeat (first | (with_reducible first | exact HB.out | apply below_alloc | apply pw_below_drewN | apply below_drew1) | exact HB.out)) hb);have n1_:=Aside0.mk (hbox);have n2_:=Aside0.mk ((by rw [hg];exact (below_size (by repeat (first | (with_reducible first | exact HB.out | apply below_alloc | apply pw_below_drewN | apply below_drew1) | exact HB.out))):w.heap.size<=gb394));have n3_:=Aside0.mk ((by rw [hg];exact (below_size (by repeat (first | (with_reducible first | exact HB.out | apply below_alloc | apply pw_below_drewN | apply below_drew1) | exact HB.out))):w.heap.size<=gb394));clear HB;have HB:=n0_;have BK394:=n1_;have GW394:=n2_;have GE394:=n3_;clear n0_ n1_ n2_ n3_;clear hb hbox hg;have hcz4_0:w3.cell? ⟨gb394,0,none⟩=some (.int .i64 a0_0):=(blk_cell BK394.out 0).trans rfl;have hcz4_1:w3.cell? ⟨gb394,1,none⟩=some (.int .i64 a0_1):=(blk_cell BK394.out 1).trans rfl;have hcz4_2:w3.cell? ⟨gb394,2,none⟩=some (.int .i64 a0_2):=(blk_cell BK394.out 2).trans rfl;have hcz4_3:w3.cell? ⟨gb394,3,none⟩=some (.slice A0_3 l0_3.length c0_3):=(blk_cell BK394.out 3).trans rfl;have hfz4_0:=blk_frozen BK394.out 0;have hfz4_1:=blk_frozen BK394.out 1;have hfz4_2:=blk_frozen BK394.out 2;have hfz4_3:=blk_frozen BK394.out 3) | (go_at_call 28;(with_reducible refine (vellumref12_Nodes.calls k a0_0 a0_1 a0_2 _ _ l0_3 t395 _ ?side1 ?side2 A2.out).mono ?_);(case side1=>repeat (first | exact (Kd.C_below HR0_3.out HB.out) | (with_reducible refine Kd.C_alloc ?_ _) | (with_reducible refine Kd.C_drewN ?_ _) | (with_reducible refine Kd.C_drew ?_)));(case side2=>exact HC0_3.out);rintro e w5 ⟨v396,rfl,ho0,hb⟩;have n0_:=Aside0.mk (Kd.R_lower ho0 (below_size (by repeat (first | (with_reducible first | exact HB.out | apply below_alloc | apply pw_below_drewN | apply below_drew1 | refine below_set ?_ GE394.out) | exact HB.out))));have n1_:=Aside0.mk (Go.Proofs.YtfiiihpdekppiaaW.PrintWords.blk_below (g:=gb394) (o:=.cells #[.int .i64 a0_0,.int .i64 a0_1,.int .i64 a0_2,.slice A0_3 l0_3.length c0_3] 31 (0,0)) (by (with_reducible repeat (first | refine blk_drewN ?_ _ | refine blk_drew ?_ | refine blk_alloc ?_ _));exact BK394.out) hb);have n2_:=Aside0.mk (below_step (by repeat (first | (with_reducible first | exact HB.out | apply below_alloc | apply pw_below_drewN | apply below_drew1 | refine below_set ?_ GE394.out) | exact HB.out)) hb);clear BK394;clear HB;have HO397:=n0_;have BK394:=n1_;have HB:=n2_;clear n0_ n1_ n2_;(try clear hb);(try clear hb2);(try clear hk);(try clear hi);(try clear ho0))))
 go_loopg [4,5] k (fun kq v4 v5 w'=>∃ (x4_1:Int) (x5_1:Int),v4=.int .i64 x4_1/\v5=.int .i64 x5_1/\Aside0 (vellumref12_Copies.l0 kq t395 x4_1 x5_1=some r)/\Aside0 (kq<=k)/\Aside0 (Kd.R (Kd.int .i64) 3 w' w.heap.size (fun _=>True) v396 t395)/\Aside0 (w'.heap[gb394]?=some (.cells #[.int .i64 a0_0,.int .i64 a0_1,.int .i64 a0_2,(.slice A0_3 l0_3.length c0_3)] 31 (0,0)))/\Aside0 (Below w.heap.size w w'))
 case atStart=>exact ⟨(0),(0),(by first | rfl | (simp;done) | (simp [*];done)),(by first | rfl | (simp;done) | (simp [*];done)),H',⟨Nat.le_refl _⟩,⟨by (with_reducible repeat (first | apply Kd.R_alloc | apply Kd.R_drewN | apply Kd.R_drew));exact HO397.out⟩,⟨by (with_reducible repeat (first | refine blk_drewN ?_ _ | refine blk_drew ?_ | refine blk_alloc ?_ _));exact BK394.out⟩,⟨by repeat (first | (with_reducible first | exact HB.out | apply below_alloc | apply pw_below_drewN | apply below_drew1 | refine below_set ?_ GE394.out) | exact HB.out)⟩⟩
 case round =>
  clear H'
  try clear c2
  try clear p2
  try clear hcz4_0
  try clear hcz4_1
  try clear hcz4_2
  try clear hcz4_3
  try clear hfz4_0
  try clear hfz4_1
  try clear hfz4_2
  try clear hfz4_3
  obtain ⟨x4_1,x5_1,rfl,rfl,HA,HK1,HO_3,BK394,HB⟩:=hrel
  cases gk with
  | zero=>exact absurd HA.out (by simp [vellumref12_Copies.l0])
  | succ k1 =>
   have H:=HA.out
   clear HA
   simp only [vellumref12_Copies.l0] at H
   by_cases c6:x5_1 < (t395.length:Int)
   ·rw [if_pos c6] at H
    have c6b0:decide (x5_1 < (t395.length:Int))=true:=decide_eq_true c6
    clear c6
    have H':=Aside0.mk H
    clear H
    obtain ⟨Ao7,co7,eo7⟩:=Kd.R_slice HO_3.out
    subst eo7
    go_wp2
    repeat (go_quiet (fail);try go_wp2)
    go_loopg [6,7] k1 (fun kq v6 v7 w'=>∃ (x6_2:Bool) (x7_2:Int),v6=.bool x6_2/\v7=.int .i64 x7_2/\Aside0 (vellumref12_Copies.l1 kq t395 x4_1 x5_1 x6_2 x7_2=some r)/\Aside0 (kq<=k1)/\Aside0 (Kd.R (Kd.int .i64) 3 w' w.heap.size (fun _=>True) (.slice Ao7 t395.length co7) t395)/\Aside0 (w'.heap[gb394]?=some (.cells #[.int .i64 a0_0,.int .i64 a0_1,.int .i64 a0_2,(.slice A0_3 l0_3.length c0_3)] 31 (0,0)))/\Aside0 (Below w.heap.size w w'))
    case atStart=>exact ⟨(false),(0),(by first | rfl | (simp;done) | (simp [*];done)),(by first | rfl | (simp;done) | (simp [*];done)),H',⟨Nat.le_refl _⟩,⟨by (with_reducible repeat (first | apply Kd.R_alloc | apply Kd.R_drewN | apply Kd.R_drew));exact HO_3.out⟩,⟨by (with_reducible repeat (first | refine blk_drewN ?_ _ | refine blk_drew ?_ | refine blk_alloc ?_ _));exact BK394.out⟩,⟨by repeat (first | (with_reducible first | exact HB.out | apply below_alloc | apply pw_below_drewN | apply below_drew1 | refine below_set ?_ GE394.out) | exact HB.out)⟩⟩
    case round =>
     clear H'
     try clear c2
     try clear p2
     try clear c6
     try clear c6b0
     try clear hcz4_0
     try clear hcz4_1
     try clear hcz4_2
     try clear hcz4_3
     try clear hfz4_0
     try clear hfz4_1
     try clear hfz4_2
     try clear hfz4_3
     try clear p2
     obtain ⟨x6_2,x7_2,rfl,rfl,HA,HK2,HO_3,BK394,HB⟩:=hrel
     cases gk with
     | zero=>exact absurd HA.out (by simp [vellumref12_Copies.l1])
     | succ k2 =>
      have H:=HA.out
      clear HA
      simp only [vellumref12_Copies.l1] at H
      by_cases c8:x7_2 < x5_1
      ·rw [if_pos c8] at H
       have c8b0:decide (x7_2 < x5_1)=true:=decide_eq_true c8
       clear c8
       by_cases c9:x6_2=true
       ·subst c9
        have H1:(vellumref12_Copies.l1 k2 t395 x4_1 x5_1 true (wrap64 (x7_2+1)))=some r:=by rw [if_pos rfl] at H;exact H
        clear H
        have H:=H1
        clear H1
        have H':=Aside0.mk H
        clear H
        go_wp2
        repeat (go_quiet (fail);try go_wp2)
        go_roundg k2
        case measure=>have:=HK1.out;have:=HK2.out;omega
        case rel=>exact ⟨(true),(wrap64 (x7_2+1)),(by first | rfl | (simp;done) | (simp [*];done)),(by first | rfl | (simp;done) | (simp [*];done)),H',⟨by have:=HK1.out;have:=HK2.out;omega⟩,⟨by (with_reducible repeat (first | apply Kd.R_alloc | apply Kd.R_drewN | apply Kd.R_drew));exact HO_3.out⟩,⟨by (with_reducible repeat (first | refine blk_drewN ?_ _ | refine blk_drew ?_ | refine blk_alloc ?_ _));exact BK394.out⟩,⟨by repeat (first | (with_reducible first | exact HB.out | apply below_alloc | apply pw_below_drewN | apply below_drew1 | refine below_set ?_ GE394.out) | exact HB.out)⟩⟩
       ·replace c9:=Bool.eq_false_iff.mpr c9
        subst c9
        have H1:(if 0<=x7_2 then (if x7_2 < (t395.length:Int) then (if 0<=x5_1 then (if x5_1 < (t395.length:Int) then (vellumref12_Copies.l1 k2 t395 x4_1 x5_1 ((rd t395 x7_2) == (rd t395 x5_1)) (wrap64 (x7_2+1))) else (none)) else (none)) else (none)) else (none))=some r:=by rw [if_neg (show ¬ (false=true) by decide)] at H;exact H
        clear H
        have H:=H1
        clear H1
        by_cases c10:0<=x7_2
        ·rw [if_pos c10] at H
         have c10b0:decide (0<=x7_2)=true:=decide_eq_true c10
         clear c10
         by_cases c11:x7_2 < (t395.length:Int)
         ·rw [if_pos c11] at H
          have c11b0:decide (x7_2 < (t395.length:Int))=true:=decide_eq_true c11
          clear c11
          by_cases c12:0<=x5_1
          ·rw [if_pos c12] at H
           have c12b0:decide (0<=x5_1)=true:=decide_eq_true c12
           clear c12
           by_cases c13:x5_1 < (t395.length:Int)
           ·rw [if_pos c13] at H
            have c13b0:decide (x5_1 < (t395.length:Int))=true:=decide_eq_true c13
            clear c13
            have H':=Aside0.mk H
            clear H
            have p398:0<=(x7_2:Int):=of_decide_eq_true (by first | (with_reducible assumption) | assumption)
            have q398:x7_2 < (t395.length:Int):=of_decide_eq_true (by first | (with_reducible assumption) | assumption)
            obtain ⟨ad398,e398,hx398_0⟩:=Kd.at_int (Kd.R_reads' HO_3.out).2.2 x7_2 p398 q398
            cases e398
            replace p398:=eq_true p398
            replace q398:=eq_true q398
            have p399:0<=(x5_1:Int):=of_decide_eq_true (by first | (with_reducible assumption) | assumption)
            have q399:x5_1 < (t395.length:Int):=of_decide_eq_true (by first | (with_reducible assumption) | assumption)
            obtain ⟨ad399,e399,hx399_0⟩:=Kd.at_int (Kd.R_reads' HO_3.out).2.2 x5_1 p399 q399
            obtain rfl:ad398=ad399:=(by injection e399)
            replace p399:=eq_true p399
            replace q399:=eq_true q399
            go_wp2
            repeat (go_quiet (fail);try go_wp2)
            go_roundg k2
            case measure=>have:=HK1.out;have:=HK2.out;omega
            case rel=>exact ⟨(((rd t395 x7_2) == (rd t395 x5_1))),(wrap64 (x7_2+1)),(by first | rfl | (simp;done) | (simp [*];done)),(by first | rfl | (simp;done) | (simp [*];done)),H',⟨by have:=HK1.out;have:=HK2.out;omega⟩,⟨by (with_reducible repeat (first | apply Kd.R_alloc | apply Kd.R_drewN | apply Kd.R_drew));exact HO_3.out⟩,⟨by (with_reducible repeat (first | refine blk_drewN ?_ _ | refine blk_drew ?_ | refine blk_alloc ?_ _));exact BK394.out⟩,⟨by repeat (first | (with_reducible first | exact HB.out | apply below_alloc | apply pw_below_drewN | apply below_drew1 | refine below_set ?_ GE394.out) | exact HB.out)⟩⟩
           ·rw [if_neg c13] at H
            exact absurd H (by simp)
          ·rw [if_neg c12] at H
           exact absurd H (by simp)
         ·rw [if_neg c11] at H
          exact absurd H (by simp)
        ·rw [if_neg c10] at H
         exact absurd H (by simp)
      ·rw [if_neg c8] at H
       have c8b0:decide (x7_2 < x5_1)=false:=decide_eq_false c8
       clear c8
       by_cases c14:x6_2=true
       ·subst c14
        have H1:(vellumref12_Copies.l0 k2 t395 (wrap64 (x4_1+1)) (wrap64 (x5_1+1)))=some r:=by rw [if_pos rfl] at H;exact H
        clear H
        have H:=H1
        clear H1
        have H':=Aside0.mk H
        clear H
        go_wp2
        repeat (go_quiet (fail);try go_wp2)
        go_roundg k2
        case measure=>have:=HK1.out;have:=HK2.out;omega
        case rel=>exact ⟨(wrap64 (x4_1+1)),(wrap64 (x5_1+1)),(by first | rfl | (simp;done) | (simp [*];done)),(by first | rfl | (simp;done) | (simp [*];done)),H',⟨by have:=HK1.out;have:=HK2.out;omega⟩,⟨by (with_reducible repeat (first | apply Kd.R_alloc | apply Kd.R_drewN | apply Kd.R_drew));exact HO_3.out⟩,⟨by (with_reducible repeat (first | refine blk_drewN ?_ _ | refine blk_drew ?_ | refine blk_alloc ?_ _));exact BK394.out⟩,⟨by repeat (first | (with_reducible first | exact HB.out | apply below_alloc | apply pw_below_drewN | apply below_drew1 | refine below_set ?_ GE394.out) | exact HB.out)⟩⟩
       ·replace c14:=Bool.eq_false_iff.mpr c14
        subst c14
        have H1:(vellumref12_Copies.l0 k2 t395 x4_1 (wrap64 (x5_1+1)))=some r:=by rw [if_neg (show ¬ (false=true) by decide)] at H;exact H
        clear H
        have H:=H1
        clear H1
        have H':=Aside0.mk H
        clear H
        go_wp2
        repeat (go_quiet (fail);try go_wp2)
        go_roundg k2
        case measure=>have:=HK1.out;have:=HK2.out;omega
        case rel=>exact ⟨(x4_1),(wrap64 (x5_1+1)),(by first | rfl | (simp;done) | (simp [*];done)),(by first | rfl | (simp;done) | (simp [*];done)),H',⟨by have:=HK1.out;have:=HK2.out;omega⟩,⟨by (with_reducible repeat (first | apply Kd.R_alloc | apply Kd.R_drewN | apply Kd.R_drew));exact HO_3.out⟩,⟨by (with_reducible repeat (first | refine blk_drewN ?_ _ | refine blk_drew ?_ | refine blk_alloc ?_ _));exact BK394.out⟩,⟨by repeat (first | (with_reducible first | exact HB.out | apply below_alloc | apply pw_below_drewN | apply below_drew1 | refine below_set ?_ GE394.out) | exact HB.out)⟩⟩
   ·rw [if_neg c6] at H
    have c6b0:decide (x5_1 < (t395.length:Int))=false:=decide_eq_false c6
    clear c6
    obtain rfl:=Option.some.inj H
    obtain ⟨Ao15,co15,eo15⟩:=Kd.R_slice HO_3.out
    subst eo15
    go_wp2
    repeat (go_quiet (fail);try go_wp2)
    go_ret
    exact ⟨by first | rfl | (simp [errW_none,errW_some] <;> rfl) | (simp [*,errW_none,errW_some] <;> rfl),by repeat (first | (with_reducible first | exact HB.out | apply below_alloc | apply pw_below_drewN | apply below_drew1 | refine below_set ?_ GE394.out) | exact HB.out)⟩
mutual
def vellumref12_Count.j0:Nat->Int->Int->Int->Int->Int->List (S31)->Option (Int)
 | 0,_,_,_,_,_,_=>none
 | k+1,x1,x5,x401000,x401001,x401002,x401003=>vellumref12_Count.l0 k x1 x5 0 x401000 x401001 x401002 x401003
def vellumref12_Count.l0:Nat->Int->Int->Int->Int->Int->Int->List (S31)->Option (Int)
 | 0,_,_,_,_,_,_,_=>none
 | k+1,x1,x5,x6,x401000,x401001,x401002,x401003=>if x6 < (x401003.length:Int) then (if 0<=x6 then ((vellumref12_Count.f k ((rd_T31 x401003 x6).f0) ((rd_T31 x401003 x6).f1) ((rd_T31 x401003 x6).f2) ((rd_T31 x401003 x6).f3) x1).bind fun t402=>(vellumref12_Count.l0 k x1 (wrap64 (x5+t402)) (wrap64 (x6+1)) x401000 x401001 x401002 x401003)) else (none)) else (some x5)
def vellumref12_Count.f:Nat->Int->Int->Int->List (S31)->Int->Option (Int)
 | 0,_,_,_,_,_=>none
 | k+1,a0_0,a0_1,a0_2,l0_3,a1=>if a0_0=a1 then (vellumref12_Count.j0 k a1 1 a0_0 a0_1 a0_2 l0_3) else (vellumref12_Count.j0 k a1 0 a0_0 a0_1 a0_2 l0_3)
end
set_option maxHeartbeats 8000000 in
set_option maxRecDepth 100000 in
theorem vellumref12_Count.calls (k:Nat):∀ (a0_0:Int) (a0_1:Int) (a0_2:Int) (A0_3:Option Addr) (c0_3:Nat) (l0_3:List (S31)) (a1:Int) (r:Int) (w:World) (hr0_3:Kd.C k31 w A0_3 l0_3.length l0_3) (hc0_3:l0_3.length<=c0_3) (h:vellumref12_Count.f k a0_0 a0_1 a0_2 l0_3 a1=some r),
  Calls Try.prog 24 #[.agg #[.int .i64 a0_0,.int .i64 a0_1,.int .i64 a0_2,.slice A0_3 l0_3.length c0_3],.int .i64 a1] w fun e w'=>e=.returned (.int .i64 r)/\Below w.heap.size w w':=by
 induction k using Nat.strongRecOn with
 | _ k ih =>
 intro a0_0 a0_1 a0_2 A0_3 c0_3 l0_3 a1 r w hr0_3 hc0_3 h
 cases k with
 | zero=>exact absurd h (by simp [vellumref12_Count.f])
 | succ k =>
 simp only [vellumref12_Count.f] at h
 have hu31:=Try.underlying31
 have HR0_3:=Aside0.mk hr0_3
 have HC0_3:=Aside0.mk hc0_3
 clear hr0_3 hc0_3
 have HB:=Aside0.mk (Below.refl w.heap.size w)
 have H:(if a0_0=a1 then (vellumref12_Count.j0 k a1 1 a0_0 a0_1 a0_2 l0_3) else (vellumref12_Count.j0 k a1 0 a0_0 a0_1 a0_2 l0_3))=some r:=h
 clear h
 have HC3:=Aside0.mk H
 clear H
 go_enter Try.func24,Try.ntmps24
 go_upto_if 10 with (first | ((with_reducible refine gate_dst (N:=2) rfl ?_);refine box_event ?hg (N:=2) ?hd (cs:=#[.int .i64 a0_0,.int .i64 a0_1,.int .i64 a0_2,.slice A0_3 l0_3.length c0_3]) (t:=31) ?hr ?_;(case hd=>rfl);(case hg=>rfl);(case hr=>first | (go_simp;done) | (go_simp;rfl));intro gb400 hg w4 hbox hb;have n0_:=Aside0.mk (below_step (by repeat (first | (with_reducible first | exact HB.out | apply below_alloc | apply pw_below_drewN | apply below_drew1) | exact HB.out)) hb);have n1_:=Aside0.mk (hbox);have n2_:=Aside0.mk ((by rw [hg];exact (below_size (by repeat (first | (with_reducible first | exact HB.out | apply below_alloc | apply pw_below_drewN | apply below_drew1) | exact HB.out))):w.heap.size<=gb400));have n3_:=Aside0.mk ((by rw [hg];exact (below_size (by repeat (first | (with_reducible first | exact HB.out | apply below_alloc | apply pw_below_drewN | apply below_drew1) | exact HB.out))):w.heap.size<=gb400));clear HB;have HB:=n0_;have BK400:=n1_;have GW400:=n2_;have GE400:=n3_;clear n0_ n1_ n2_ n3_;clear hb hbox hg;have hcz5_0:w4.cell? ⟨gb400,0,none⟩=some (.int .i64 a0_0):=(blk_cell BK400.out 0).trans rfl;have hcz5_1:w4.cell? ⟨gb400,1,none⟩=some (.int .i64 a0_1):=(blk_cell BK400.out 1).trans rfl;have hcz5_2:w4.cell? ⟨gb400,2,none⟩=some (.int .i64 a0_2):=(blk_cell BK400.out 2).trans rfl;have hcz5_3:w4.cell? ⟨gb400,3,none⟩=some (.slice A0_3 l0_3.length c0_3):=(blk_cell BK400.out 3).trans rfl;have hfz5_0:=blk_frozen BK400.out 0;have hfz5_1:=blk_frozen BK400.out 1;have hfz5_2:=blk_frozen BK400.out 2;have hfz5_3:=blk_frozen BK400.out 3))
 (try simp only [Act.put,List.setIfInBounds_toArray,List.set_cons_zero,List.set_cons_succ])
 go_cut [5] (fun v5 wc=>∃ (kq:Nat) (x5_2:Int),v5=.int .i64 x5_2/\Aside0 (vellumref12_Count.j0 kq a1 x5_2 a0_0 a0_1 a0_2 l0_3=some r)/\Aside0 (kq<=k)/\Aside0 (wc.heap[gb400]?=some (.cells #[.int .i64 a0_0,.int .i64 a0_1,.int .i64 a0_2,(.slice A0_3 l0_3.length c0_3)] 31 (0,0)))/\Aside0 (Below w.heap.size w wc))
 case first =>
  have H:=HC3.out
  clear HC3
  by_cases c6:a0_0=a1
  ·rw [if_pos c6] at H
   have c6b0:(a0_0 == a1)=true:=beq_iff_eq.mpr c6
   have c6b1:(a0_0 != a1)=false:=bne_eq_false_iff_eq.mpr c6
   clear c6
   (first | rw [c6b0] | (simp only [i64_w,i32_w];rw [c6b0]) | skip)
   have H':=Aside0.mk H
   clear H
   go_wp2
   go_meet
   case rel=>exact ⟨_,(1),(by first | rfl | (simp;done) | (simp [*];done)),H',⟨by first | omega | exact Nat.le_refl _⟩,⟨by (with_reducible repeat (first | refine blk_drewN ?_ _ | refine blk_drew ?_ | refine blk_alloc ?_ _));exact BK400.out⟩,⟨by repeat (first | (with_reducible first | exact HB.out | apply below_alloc | apply pw_below_drewN | apply below_drew1 | refine below_set ?_ GE400.out) | exact HB.out)⟩⟩
  ·rw [if_neg c6] at H
   have c6b0:(a0_0 == a1)=false:=beq_eq_false_iff_ne.mpr c6
   have c6b1:(a0_0 != a1)=true:=bne_iff_ne.mpr c6
   (first | rw [c6b0] | (simp only [i64_w,i32_w];rw [c6b0]) | skip)
   have H':=Aside0.mk H
   clear H
   go_wp2
   go_meet
   case rel=>exact ⟨_,(0),(by first | rfl | (simp;done) | (simp [*];done)),H',⟨by first | omega | exact Nat.le_refl _⟩,⟨by (with_reducible repeat (first | refine blk_drewN ?_ _ | refine blk_drew ?_ | refine blk_alloc ?_ _));exact BK400.out⟩,⟨by repeat (first | (with_reducible first | exact HB.out | apply below_alloc | apply pw_below_drewN | apply below_drew1 | refine below_set ?_ GE400.out) | exact HB.out)⟩⟩
 case rest =>
  clear HC3
  try clear c2
  try clear p2
  try clear c6
  try clear c6b0
  try clear c6b1
  try clear hcz5_0
  try clear hcz5_1
  try clear hcz5_2
  try clear hcz5_3
  try clear hfz5_0
  try clear hfz5_1
  try clear hfz5_2
  try clear hfz5_3
  obtain ⟨kq,x5_2,rfl,HA,HJ2,BK400,HB⟩:=hcut
  cases kq with
  | zero=>exact absurd HA.out (by simp [vellumref12_Count.j0])
  | succ kj2 =>
   have H:=HA.out
   clear HA
   simp only [vellumref12_Count.j0] at H
   have H':=Aside0.mk H
   clear H
   go_wp2
   go_loopg [5,6] kj2 (fun kq v5 v6 w'=>∃ (x5_2:Int) (x6_2:Int),v5=.int .i64 x5_2/\v6=.int .i64 x6_2/\Aside0 (vellumref12_Count.l0 kq a1 x5_2 x6_2 a0_0 a0_1 a0_2 l0_3=some r)/\Aside0 (kq<=kj2)/\Aside0 (w'.heap[gb400]?=some (.cells #[.int .i64 a0_0,.int .i64 a0_1,.int .i64 a0_2,(.slice A0_3 l0_3.length c0_3)] 31 (0,0)))/\Aside0 (Below w.heap.size w w'))
   case atStart=>exact ⟨(x5_2),(0),(by first | rfl | (simp;done) | (simp [*];done)),(by first | rfl | (simp;done) | (simp [*];done)),H',⟨Nat.le_refl _⟩,⟨by (with_reducible repeat (first | refine blk_drewN ?_ _ | refine blk_drew ?_ | refine blk_alloc ?_ _));exact BK400.out⟩,⟨by repeat (first | (with_reducible first | exact HB.out | apply below_alloc | apply pw_below_drewN | apply below_drew1 | refine below_set ?_ GE400.out) | exact HB.out)⟩⟩
   case round =>
    clear H'
    try clear c2
    try clear p2
    try clear c6
    try clear c6b0
    try clear c6b1
    try clear hcz5_0
    try clear hcz5_1
    try clear hcz5_2
    try clear hcz5_3
    try clear hfz5_0
    try clear hfz5_1
    try clear hfz5_2
    try clear hfz5_3
    try clear p2
    obtain ⟨x5_2,x6_2,rfl,rfl,HA,HK2,BK400,HB⟩:=hrel
    cases gk with
    | zero=>exact absurd HA.out (by simp [vellumref12_Count.l0])
    | succ k2 =>
     have H:=HA.out
     clear HA
     simp only [vellumref12_Count.l0] at H
     by_cases c7:x6_2 < (l0_3.length:Int)
     ·rw [if_pos c7] at H
      have c7b0:decide (x6_2 < (l0_3.length:Int))=true:=decide_eq_true c7
      clear c7
      by_cases c8:0<=x6_2
      ·rw [if_pos c8] at H
       have c8b0:decide (0<=x6_2)=true:=decide_eq_true c8
       clear c8
       replace H:=Option.bind_eq_some_iff.mp H
       obtain ⟨t402,A90,H⟩:=H
       replace H:(vellumref12_Count.l0 k2 a1 (wrap64 (x5_2+t402)) (wrap64 (x6_2+1)) a0_0 a0_1 a0_2 l0_3)=some r:=H
       have A9:=Aside0.mk A90
       clear A90
       have H':=Aside0.mk H
       clear H
       have hcz10_0:wr.cell? ⟨gb400,0,none⟩=some (.int .i64 a0_0):=(blk_cell BK400.out 0).trans rfl
       have hcz10_1:wr.cell? ⟨gb400,1,none⟩=some (.int .i64 a0_1):=(blk_cell BK400.out 1).trans rfl
       have hcz10_2:wr.cell? ⟨gb400,2,none⟩=some (.int .i64 a0_2):=(blk_cell BK400.out 2).trans rfl
       have hcz10_3:wr.cell? ⟨gb400,3,none⟩=some (.slice A0_3 l0_3.length c0_3):=(blk_cell BK400.out 3).trans rfl
       have hfz10_0:=blk_frozen BK400.out 0
       have hfz10_1:=blk_frozen BK400.out 1
       have hfz10_2:=blk_frozen BK400.out 2
       have hfz10_3:=blk_frozen BK400.out 3
       have p401:0<=(x6_2:Int):=of_decide_eq_true (by first | (with_reducible assumption) | assumption)
       have q401:x6_2 < (l0_3.length:Int):=of_decide_eq_true (by first | (with_reducible assumption) | assumption)
       obtain ⟨ad401,A401_3,c401_3,e401,hx401_0,hx401_1,hx401_2,hx401_3,hl401_3,hi401_3⟩:=at_T31 HR0_3.out x6_2 p401 q401
       cases e401
       replace hx401_0:=(HB.out.cell (World.block_lt_of_cell? w _ hx401_0)).trans hx401_0
       replace hx401_1:=(HB.out.cell (World.block_lt_of_cell? w _ hx401_1)).trans hx401_1
       replace hx401_2:=(HB.out.cell (World.block_lt_of_cell? w _ hx401_2)).trans hx401_2
       replace hx401_3:=(HB.out.cell (World.block_lt_of_cell? w _ hx401_3)).trans hx401_3
       have HR401_3:=Aside0.mk hi401_3
       have HC401_3:=Aside0.mk hl401_3
       clear hi401_3 hl401_3
       replace p401:=eq_true p401
       replace q401:=eq_true q401
       go_wp2_with (first | ((with_reducible refine gate_callee (f:=24) rfl ?_);refine goesL_ (some 25) rfl rfl Try.func24 (by kernel_rfl) rfl #[.agg #[.int .i64 ((rd_T31 l0_3 x6_2).f0),.int .i64 ((rd_T31 l0_3 x6_2).f1),.int .i64 ((rd_T31 l0_3 x6_2).f2),.slice A401_3 ((rd_T31 l0_3 x6_2).f3).length c401_3],.int .i64 a1] rfl (by (try simp only [List.map_toArray,List.map_cons,List.map_nil]);first | done | rfl | (simp only [List.length_drop,List.length_take];rfl)) ?_;(with_reducible refine (ih k2 (by have:=HJ2.out;have:=HK2.out;omega) ((rd_T31 l0_3 x6_2).f0) ((rd_T31 l0_3 x6_2).f1) ((rd_T31 l0_3 x6_2).f2) _ _ ((rd_T31 l0_3 x6_2).f3) a1 t402 _ ?side1 ?side2 A9.out).mono ?_);(case side1=>repeat (first | exact (Kd.C_below HR401_3.out HB.out) | (with_reducible refine Kd.C_alloc ?_ _) | (with_reducible refine Kd.C_drewN ?_ _) | (with_reducible refine Kd.C_drew ?_)));(case side2=>exact HC401_3.out);rintro e w11 ⟨rfl,hb⟩;refine ⟨_,rfl,?_⟩;have n0_:=Aside0.mk (Go.Proofs.YtfiiihpdekppiaaW.PrintWords.blk_below (g:=gb400) (o:=.cells #[.int .i64 a0_0,.int .i64 a0_1,.int .i64 a0_2,.slice (some ad401) l0_3.length c0_3] 31 (0,0)) (by (with_reducible repeat (first | refine blk_drewN ?_ _ | refine blk_drew ?_ | refine blk_alloc ?_ _));exact BK400.out) hb);have n1_:=Aside0.mk (below_step (by repeat (first | (with_reducible first | exact HB.out | apply below_alloc | apply pw_below_drewN | apply below_drew1 | refine below_set ?_ GE400.out) | exact HB.out)) hb);clear BK400;clear HB;have BK400:=n0_;have HB:=n1_;clear n0_ n1_;(try clear hb);(try clear hb2);(try clear hk);(try clear hi)))
       go_roundg k2
       case measure=>have:=HJ2.out;have:=HK2.out;omega
       case rel=>exact ⟨(wrap64 (x5_2+t402)),(wrap64 (x6_2+1)),(by first | rfl | (simp;done) | (simp [*];done)),(by first | rfl | (simp;done) | (simp [*];done)),H',⟨by have:=HJ2.out;have:=HK2.out;omega⟩,⟨by (with_reducible repeat (first | refine blk_drewN ?_ _ | refine blk_drew ?_ | refine blk_alloc ?_ _));exact BK400.out⟩,⟨by repeat (first | (with_reducible first | exact HB.out | apply below_alloc | apply pw_below_drewN | apply below_drew1 | refine below_set ?_ GE400.out) | exact HB.out)⟩⟩
      ·rw [if_neg c8] at H
       exact absurd H (by simp)
     ·rw [if_neg c7] at H
      have c7b0:decide (x6_2 < (l0_3.length:Int))=false:=decide_eq_false c7
      clear c7
      obtain rfl:=Option.some.inj H
      have hcz12_0:wr.cell? ⟨gb400,0,none⟩=some (.int .i64 a0_0):=(blk_cell BK400.out 0).trans rfl
      have hcz12_1:wr.cell? ⟨gb400,1,none⟩=some (.int .i64 a0_1):=(blk_cell BK400.out 1).trans rfl
      have hcz12_2:wr.cell? ⟨gb400,2,none⟩=some (.int .i64 a0_2):=(blk_cell BK400.out 2).trans rfl
      have hcz12_3:wr.cell? ⟨gb400,3,none⟩=some (.slice A0_3 l0_3.length c0_3):=(blk_cell BK400.out 3).trans rfl
      have hfz12_0:=blk_frozen BK400.out 0
      have hfz12_1:=blk_frozen BK400.out 1
      have hfz12_2:=blk_frozen BK400.out 2
      have hfz12_3:=blk_frozen BK400.out 3
      go_wp2
      go_ret
      exact ⟨by first | rfl | (simp [errW_none,errW_some] <;> rfl) | (simp [*,errW_none,errW_some] <;> rfl),by repeat (first | (with_reducible first | exact HB.out | apply below_alloc | apply pw_below_drewN | apply below_drew1 | refine below_set ?_ GE400.out) | exact HB.out)⟩
end Go.Proofs.Ytfiiihpdekppiaa.PShapeReducible
end
section
namespace Go.Proofs.Ytfiiihpdekppiaa.PShapeNested
open Go.RowKit Go.Proofs.YtfiiihpdekppiaaW.PrintWords Go.Proofs.YtfiiihpdekppiaaW.PrintLast Go.Proofs.YtfiiihpdekppiaaW.PrintMore
attribute [local go_sem] max2_int min2_int max_two min_two max_three min_three max_four min_four
set_option linter.unusedVariables false
set_option linter.unusedSimpArgs false
structure S77 where
 f0:Int
 f1:Int
 f2:(List Int)
def z77:S77:=⟨(0:Int),(0:Int),([]:List Int)⟩
def rd_T77 (xs:List S77) (i:Int):S77:=xs.getD i.toNat z77
end Go.Proofs.Ytfiiihpdekppiaa.PShapeNested
end
section
namespace Go.Proofs.Ytfiiihpdekppiaa
open Go.RowKit Go.Proofs Go.Proofs.YtfiiihpdekppiaaW.PrintWords
open PShapeReducible (S31 S77 rd_T77)
def StepOk (ss:List S77) (g:List (List Int)) (i:Nat):Prop :=
 (0<=(rd_T77 ss i).f1/\(rd_T77 ss i).f1 < g.length)/\(rd_T77 ss i).f2.length=(g.getD (rd_T77 ss i).f1.toNat []).length/\(rd_T77 ss i).f2.length<=1000000000 /\
  ∀ j,j < (rd_T77 ss i).f2.length->∃ m:Nat,nx ss ((rd_T77 ss i).f2.getD j 0)=some (m:Int)/\m < ss.length/\(rd_T77 ss m).f0=0/\(rd_T77 ss m).f1=(g.getD (rd_T77 ss i).f1.toNat []).getD j 0
def SimOk (ss:List S77) (g:List (List Int)):Prop :=
 (∃ f:Nat,nx ss 0=some (f:Int)/\f < ss.length/\(rd_T77 ss f).f0=0/\(rd_T77 ss f).f1=0)/\∀ i,i < ss.length->(rd_T77 ss i).f0=0->StepOk ss g i
end Go.Proofs.Ytfiiihpdekppiaa
end
section
namespace Go.Proofs.Ytfiiihpdekppiaa
open Go.RowKit Go.Proofs Go.Proofs.YtfiiihpdekppiaaW.PrintWords
open PShapeReducible (S31 S77 rd_T77 vellumref12_Next.f vellumref12_Next.l0)
theorem rd_map {L:List Stp} {i:Nat} {p:Stp} (h:L[i]?=some p):rd_T77 (L.map Stp.s77) (i:Int)=p.s77:=by
 unfold rd_T77
 rw [Int.toNat_natCast,List.getD_eq_getElem?_getD,List.getElem?_map,h]
 rfl
theorem nx_vis {L:List Stp} {t:Nat} {p:Stp} (h:L[t]?=some p) (hk:p.kind=0):nx (L.map Stp.s77) (t:Int)=some (t:Int):=by
 have hl:=lt_of_get h
 unfold nx vellumref12_Next.f
 rw [vellumref12_Next.l0,if_pos (by simp),if_pos (by omega),if_pos (by simp;omega),rd_map h,if_pos (show p.s77.f0=0 from hk)]
theorem nx_jump {L:List Stp} {t q:Nat} {p:Stp} (h:L[t]?=some ⟨1,0,[(q:Int)]⟩) (hq:L[q]?=some p) (hk:p.kind=0):nx (L.map Stp.s77) (t:Int)=some (q:Int):=by
 have hl:=lt_of_get h
 have hl2:=lt_of_get hq
 unfold nx vellumref12_Next.f
 rw [vellumref12_Next.l0,if_pos (by simp),if_pos (by omega),if_pos (by simp;omega),rd_map h]
 have e:(Stp.s77 ⟨1,0,[(q:Int)]⟩)=⟨1,0,[(q:Int)]⟩:=rfl
 rw [e,if_neg (by simp),if_neg (by simp),if_pos (by simp)]
 have e2:rd [(q:Int)] 0=(q:Int):=rfl
 dsimp only
 rw [e2,wrap64_in (by omega) (by omega),vellumref12_Next.l0,if_pos (by simp;omega),if_pos (by omega),if_pos (by simp;omega),rd_map hq,if_pos (show p.s77.f0=0 from hk)]
section
variable {ph : Int → Int} {B : Bd} {r : List Int} {hd : Int → Prop}
def Lift (ph:Int->Int) (B:Bd) (r:List Int) (g0:List (List Int)):Prop:=∀ n∈r,0<=ph n/\ph n < g0.length/\g0.getD (ph n).toNat []=(succs B.succ n).map ph
theorem Lift.proj {g0:List (List Int)} (h:Lift ph B r g0):Proj ph B r g0:=fun n hn=>by
 obtain ⟨h1,h2,h3⟩:=h n hn
 exact ⟨h1,h2,by rw [h3];simp⟩
theorem sim_ok (hB:BOk ph B r hd) (hhr:∀ h,hd h->h∈r) {g0:List (List Int)} (hL:Lift ph B r g0) (h0:(0:Int)∈r) (hph:ph 0=0) (hroot:∀ n∈r,Desc (chF B) n 0->n=0) (hrow:∀ l∈g0,l.length<=1000000000)
  {l:List (Int × Int)} (hl:∀ z,mget l z≠none↔hd z) {k:Nat} {x:S31} {s9:Bs} (h:bF B k (.tree 0) ⟨l,[],0⟩=some (x,s9)):(compileF g0 x).length≠0/\SimOk ((compileF g0 x).map Stp.s77) g0:=by
 obtain ⟨P,en⟩:=comp_ok hB hhr hL.proj k (.tree 0) ⟨l,[],0⟩ x s9 ⟨[],[],[],false⟩ [] none h ⟨rfl,⟨h0,fun h hh hd' hne=>absurd (hroot h (hhr h hh) hd') (hne.resolve_left id),fun D hD y hy hd' hne _=>absurd (hroot D hD hd') hne⟩,by simp⟩ hl
  ⟨rfl,rfl,by simp,by simp,by simp,by simp,by simp,by simp,by simp⟩
 obtain ⟨c,hc⟩:∃ c,c=shapeF g0 x ⟨[],[],[],false⟩:=⟨_,rfl⟩
 rw [<-hc] at P en
 have hfr:c.frames=[]:=List.eq_nil_of_length_eq_zero P.ctx.len
 obtain ⟨L,hLe⟩:∃ L,L=compileF g0 x:=⟨_,rfl⟩
 have hLc:L=clampT (c.steps++[⟨2,0,[]⟩]):=by
  rw [hLe];unfold compileF
  dsimp only
  rw [<-hc,if_neg (by rw [P.ctx.bad];simp)];rfl
 have hlen:L.length=c.steps.length+1:=by rw [hLc];simp [clampT]
 have hget:∀ (i:Nat) (p:Stp),c.steps[i]?=some p->L[i]?=some { p with tos:=p.tos.map fun x=>min x (c.steps.length:Int) }:=fun i p hp=>by
  rw [hLc]
  simp only [clampT,List.getElem?_map,List.getElem?_append_left (lt_of_get hp),hp,Option.map_some,List.length_append,List.length_singleton]
  congr 2
  refine List.map_congr_left fun x _=>?_
  congr 1
  omega
 have hvis:∀ (t:Nat) (y:Int),Vis ph c.steps t y->∃ p,L[t]?=some p/\p.kind=0/\p.node=ph y:=fun t y ⟨p,h1,h2,h3⟩=>⟨_,hget t p h1,h2,h3⟩
 have hgo:∀ (t:Nat) (y:Int),Goes ph c [] t y->∃ m:Nat,nx (L.map Stp.s77) (t:Int)=some (m:Int)/\∃ p,L[m]?=some p/\p.kind=0/\p.node=ph y:=fun t y hg=>by
  rcases hg with hg | ⟨q,h1,h2⟩ | ⟨i,f,_,h2,_⟩
  ·obtain ⟨p,h1,h2,h3⟩:=hvis t y hg
   exact ⟨t,nx_vis h1 h2,p,h1,h2,h3⟩
  ·obtain ⟨p,h3,h4,h5⟩:=hvis q y h2
   have h6:=hget t _ h1
   obtain ⟨p2,h7,_⟩:=h2
   have:=lt_of_get h7
   have e:min (q:Int) (c.steps.length:Int)=(q:Int):=by omega
   simp only [List.map_cons,List.map_nil,e] at h6
   exact ⟨q,nx_jump h6 h3 h4,p,h3,h4,h5⟩
  ·rw [hfr] at h2;simp at h2
 have hlt:∀ (t:Nat) (y:Int),Goes ph c [] t y->t < c.steps.length:=fun t y hg=>by
  rcases hg with ⟨p,h1,_⟩ | ⟨q,h1,h2⟩ | ⟨i,f,h1,_⟩ <;> exact lt_of_get h1
 rw [<-hLe]
 refine ⟨by omega,?_,fun i hi hk=>?_⟩
 ·obtain ⟨p,h1,h2,h3⟩:=hvis 0 0 en
  have:=lt_of_get h1
  refine ⟨0,nx_vis h1 h2,by simp;omega,?_⟩
  rw [rd_map h1]
  exact ⟨h2,h3.trans hph⟩
 ·rw [List.length_map,hlen] at hi
  have hic:i < c.steps.length:=by
   refine Classical.byContradiction fun hn=>?_
   have e:i=c.steps.length:=by omega
   have:L[i]?=some ⟨2,0,[]⟩:=by rw [hLc,e];simp [clampT]
   rw [rd_map this] at hk
   simp [Stp.s77] at hk
  obtain ⟨p,hp⟩:∃ p,c.steps[i]?=some p:=⟨_,List.getElem?_eq_getElem hic⟩
  have hp':=hget i p hp
  rw [rd_map hp'] at hk
  obtain ⟨u,h1,h2,h3,h4⟩:=P.vis i (Nat.zero_le _) p hp hk
  obtain ⟨l1,l2,l3⟩:=hL u h1
  have hrl:(g0.getD (ph u).toNat []).length<=1000000000:=by
   rw [List.getD_eq_getElem?_getD,List.getElem?_eq_getElem (by omega)]
   exact hrow _ (List.getElem_mem _)
  unfold StepOk
  rw [rd_map hp']
  simp only [Stp.s77,List.length_map]
  rw [h2]
  refine ⟨⟨l1,l2⟩,by rw [l3,List.length_map,h3],by rw [h3];rw [l3,List.length_map] at hrl;exact hrl,fun j hj=>?_⟩
  obtain ⟨y,hy⟩:∃ y,(succs B.succ u)[j]?=some y:=⟨_,List.getElem?_eq_getElem (by omega)⟩
  obtain ⟨t,h5,h6⟩:=h4 j y hy
  obtain ⟨m,h7,pm,h8,h9,h10⟩:=hgo t y h6
  have:=hlt t y h6
  refine ⟨m,?_,by have:=lt_of_get h8;simpa using this,?_⟩
  ·rw [List.getD_eq_getElem?_getD,List.getElem?_map,h5]
   simp only [Option.map_some,Option.getD_some]
   rw [show min (t:Int) (c.steps.length:Int)=(t:Int) by omega]
   exact h7
  ·rw [rd_map h8]
   refine ⟨h9,h10.trans ?_⟩
   rw [l3,List.getD_eq_getElem?_getD,List.getElem?_map,hy];rfl
end
end Go.Proofs.Ytfiiihpdekppiaa
end
section
namespace Go.Proofs.Ytfiiihpdekppiaa
open Go.RowKit Go.Proofs Go.Proofs.YtfiiihpdekppiaaW.PrintWords
open PShapeReducible (S31)
section
variable {g : List (List Int)} {r : List Int} {m : List (Int × Int)} {p : List (List Int)} {d : List Int}
theorem redIn_ok (h:DomOk g r m p d) {u:Int} (hu:u∈r) {k:Nat} (hk:r.length<=k):∀ l:List Int,∃ b,redIn k m d u l=some b
 | []=>⟨true,rfl⟩
 | s :: l=>by
  unfold redIn
  split
  ·obtain ⟨a',e,_⟩:=climb_total (h.tree.treeB h.view h.zero) (h.view.pos_nn s) k u (h.full u hu) (by have:=h.view.pos_lt hu;omega)
   rw [e]
   simp only [Option.bind_some]
   split
   ·exact redIn_ok h hu hk l
   ·exact ⟨false,rfl⟩
  ·exact redIn_ok h hu hk l
theorem redOut_ok (h:DomOk g r m p d) {k:Nat} (hk:r.length<=k):∀ xs:List Int,(∀ x∈xs,x∈r)->∃ b,redOut k g m d xs=some b
 | [],_=>⟨true,rfl⟩
 | u :: xs,hx=>by
  have hu:=hx u (by simp)
  unfold redOut
  rw [if_pos (h.view.ord.rng u hu)]
  obtain ⟨b,e⟩:=redIn_ok h hu hk (g.getD u.toNat [])
  rw [e]
  simp only [Option.bind_some]
  split
  ·exact redOut_ok h hk xs fun x hx'=>hx x (by simp [hx'])
  ·exact ⟨false,rfl⟩
end
theorem red_is {g:List (List Int)} (hv:ValidG g) (h0:0 < g.length) (hl:g.length<=10000) (hrow:∀ l∈g,l.length<=1000) :
  ∃ b r m p d k,DomIs g r m p d/\DomOk g r m p d/\redOut k g m d r=some b/\RedIs g b:=by
 obtain ⟨r,m,p,hVI,hV⟩:=viewOk_is hv h0 (by omega) hrow
 obtain ⟨kd,d,hd,hD⟩:=doms_ok hV h0
 have hr0:0 < r.length:=by obtain ⟨t,e⟩:=hV.ord.root;rw [e];simp
 obtain ⟨b,e⟩:=redOut_ok hD (Nat.le_refl r.length) r fun _ h=>h
 have hDI:DomIs g r m p d:=⟨hVI,hr0,hD.tree.len,kd,hd⟩
 exact ⟨b,r,m,p,d,_,hDI,hD,e,.inr ⟨r,m,p,d,_,hDI,e⟩⟩
section
variable {B : Bd} {R N K : Nat}
theorem brs_size {f:Int->Bs->Option (S31 × Bs)}:∀ (l:List Int) (s:Bs) (xs:List S31) (s':Bs),(∀ m∈l,∀ (s:Bs) (x:S31) (s':Bs),f m s=some (x,s')->szF x<=1+K * (visL x).length)->brs f l s=some (xs,s')->szL xs<=l.length+K * (visLs xs).length
 | [],s,xs,s',_,h=>by
  simp only [brs,Option.some.injEq,Prod.mk.injEq] at h
  rw [<-h.1];simp [szL]
 | m :: l,s,xs,s',hf,h=>by
  unfold brs at h
  obtain ⟨⟨x,s1⟩,h1,h⟩:=Option.bind_eq_some_iff.1 h
  obtain ⟨⟨ys,s2⟩,h2,h⟩:=Option.bind_eq_some_iff.1 h
  simp only [Option.some.injEq,Prod.mk.injEq] at h h2
  have a:=hf m (by simp) s x s1 h1
  have b:=brs_size l s1 ys s2 (fun m hm=>hf m (by simp [hm])) h2
  rw [<-h.1]
  simp only [szL,visLs,List.length_append,List.length_cons,Nat.mul_add]
  omega
theorem bF_size (hK:R+2 * N+4<=K) (hR:∀ n:Int,(succs B.succ n).length<=R) (hN:∀ n,(kidsOf B.kids n).length<=N):∀ (k:Nat) (j:Job) (s:Bs) (x:S31) (s':Bs),bF B k j s=some (x,s') ->
  match j with
  | .tree _=>szF x<=K * (visL x).length
  | .within _ xs=>szF x+K<=K * (visL x).length+R+1+2 * xs.length
  | .branch _ _=>szF x<=1+K * (visL x).length
 | 0,j,s,x,s',h=>by cases j <;> simp [bF] at h
 | k+1,.tree n,s,x,s',h=>by
  have hn:=hN n
  unfold bF at h
  simp only
  split at h
  ·have:=bF_size hK hR hN k _ s x s' h
   simp only at this
   omega
  ·split at h
   ·obtain ⟨⟨y,s1⟩,h1,h⟩:=Option.bind_eq_some_iff.1 h
    simp only [Option.some.injEq,Prod.mk.injEq] at h
    have:=bF_size hK hR hN k _ _ y s1 h1
    simp only at this
    rw [<-h.1]
    simp [szF,szL,visL,visLs]
    omega
   ·cases h
 | k+1,.within n (a :: l),s,x,s',h=>by
  unfold bF at h
  split at h
  ·obtain ⟨⟨y,s1⟩,h1,h⟩:=Option.bind_eq_some_iff.1 h
   obtain ⟨⟨y2,s2⟩,h2,h⟩:=Option.bind_eq_some_iff.1 h
   simp only [Option.some.injEq,Prod.mk.injEq] at h h2
   have a1:=bF_size hK hR hN k _ _ y s1 h1
   have a2:=bF_size hK hR hN k _ _ y2 s2 h2
   simp only at a1 a2
   rw [<-h.1]
   simp [szF,szL,visL,visLs,Nat.mul_add]
   omega
  ·cases h
 | k+1,.within n [],s,x,s',h=>by
  unfold bF at h
  split at h
  ·obtain ⟨⟨ys,s1⟩,h1,h⟩:=Option.bind_eq_some_iff.1 h
   simp only [Option.some.injEq,Prod.mk.injEq] at h
   have a1:=brs_size (K:=K) _ _ _ _ (fun m _ s x s' h=>bF_size hK hR hN k (.branch n m) s x s' h) h1
   have a2:=hR n
   unfold succs at a2
   rw [<-h.1]
   simp [szF,visL,Nat.mul_add] at a1 a2 ⊢
   omega
  ·cases h
 | k+1,.branch n m,s,x,s',h=>by
  unfold bF at h
  split at h
  ·simp only [Option.some.injEq,Prod.mk.injEq] at h;rw [<-h.1];simp [szF,szL]
  ·split at h
   ·simp only [Option.some.injEq,Prod.mk.injEq] at h;rw [<-h.1];simp [szF,szL]
   ·have:=bF_size hK hR hN k _ _ _ _ h
    simp only at this ⊢
    omega
end
def BackE (g:List (List Int)) (z:Int):Prop:=∃ u,Reach g 0 u/\z∈succs g u/\Dm g z u
theorem OrdOk.mem {g:List (List Int)} {r:List Int} (h:OrdOk g r) {z:Int}:z∈r↔Reach g 0 z:=by
 refine ⟨h.reach z,fun hz=>?_⟩
 have:∀ a z,Reach g a z->a=0->z∈r:=fun a z hz=>by
  induction hz with
  | refl=>rintro rfl;obtain ⟨t,e⟩:=h.root;rw [e];simp
  | step _ hc ih=>exact fun e=>h.closed _ (ih e) _ hc
 exact this 0 z hz rfl
theorem redC_of {g:List (List Int)} {r:List Int} {m:List (Int × Int)} {p:List (List Int)} (hV:ViewOk g r m p) (h:RedG g r m):RedC g:=fun X hX hc=>by
 classical
 obtain ⟨a0,ha0⟩:=hc.1
 have hmin:∃ z,X z/\∀ a,X a->mI0 m z<=mI0 m a:=by
  have:∀ (k:Nat) (a:Int),X a->mI0 m a<=k->∃ z,X z/\∀ a,X a->mI0 m z<=mI0 m a:=fun k=>by
   induction k with
   | zero=>exact fun a ha hk=>⟨a,ha,fun b _=>by have:=hV.pos_nn b;omega⟩
   | succ k ih =>
    intro a ha hk
    by_cases he:∃ b,X b/\mI0 m b<=k
    ·obtain ⟨b,hb,hbk⟩:=he;exact ih b hb hbk
    ·exact ⟨a,ha,fun b hb=>Classical.byContradiction fun hlt=>he ⟨b,hb,by omega⟩⟩
  exact this (mI0 m a0).toNat a0 ha0 (by have:=hV.pos_nn a0;omega)
 obtain ⟨z,hz,hmin⟩:=hmin
 refine ⟨z,hz,fun a ha hra=>?_⟩
 have hwalk:∀ b,Via g X a b->RA g z 0 b∨∃ u,X u/\RA g z 0 u/\z∈succs g u:=fun b hb=>by
  induction hb with
  | refl _=>exact .inl hra
  | @step b c hab hc' hx ih =>
   rcases ih with ih | ih
   ·by_cases e:c=z
    ·subst e;exact .inr ⟨b,hab.right,ih,hc'⟩
    ·exact .inl (.step ih hc' e)
   ·exact .inr ih
 obtain ⟨c,hc1,hc2⟩:=hc.2 a z ha hz
 rcases hwalk z (by
  have h0:Via g X a c:=.step (.refl ha) hc1 hc2.left
  exact h0.trans hc2) with h1 | ⟨u,hu,h1,h2⟩
 ·exact h1.ne rfl
 ·exact h u (hV.ord.mem.2 (hX u hu).2) z h2 (hmin u hu) h1
structure MadeOk (g:List (List Int)) (budget:Int) (x:S31):Prop where
 len:(compileF g x).length≠0
 sim:SimOk ((compileF g x).map Stp.s77) g
 sz:szF x<=400000
 nodes:∀ z,z∈visL x↔Reach g 0 z
 cop:∃ r:List Int,r.Nodup/\(∀ z,z∈r↔Reach g 0 z)/\(visL x).length<=r.length+(max budget 0).toNat
 cnt:cntK 3 x=(loopL x).length
 red:RedC g->(visL x).Nodup/\(loopL x).Nodup/\∀ z,z∈loopL x↔BackE g z
 acy:(∀ u,Reach g 0 u->∀ s∈succs g u,¬ Reach g s u)->cntK 6 x=0
theorem acyc_red {g:List (List Int)} (h:∀ u,Reach g 0 u->∀ s∈succs g u,¬ Reach g s u):RedC g:=fun X hX hc=>by
 obtain ⟨a,ha⟩:=hc.1
 obtain ⟨c,h1,h2⟩:=hc.2 a a ha ha
 exact absurd h2.reach (h a (hX a ha).2 c h1)
theorem rangeI_get {n:Nat} {i:Int} (h:0<=i/\i < n):(rangeI n).getD i.toNat 0=i:=by
 unfold rangeI
 rw [List.getD_eq_getElem?_getD,List.getElem?_map,List.getElem?_range (by omega)]
 simp;omega
theorem build_made {g0:List (List Int)} {s:Sp} {pi:Int->Int} {S:Int->Prop} (hv0:ValidG g0) (h0:0 < g0.length) (hrow0:∀ l∈g0,l.length<=1000) (hP:PI pi S ⟨g0,rangeI g0.length,0,0⟩ s) (hvs:VS s) (hsz:s.succ.length<=400) (hrow:∀ l∈s.succ,l.length<=100) (hred:RedC s.succ) :
  ∃ x,BuildIs s.succ s.node x/\(compileF g0 x).length≠0/\SimOk ((compileF g0 x).map Stp.s77) g0/\szF x<=400000/\(∀ z,z∈visL x↔Reach g0 0 z)/\cntK 3 x=(loopL x).length /\
   (∃ r:List Int,r.Nodup/\(∀ z,z∈r↔Reach s.succ 0 z)/\(visL x).length=r.length)/\((∀ n:Int,0<=n->n < s.succ.length->pi n=n)->(visL x).Nodup/\(loopL x).Nodup/\∀ z,z∈loopL x↔BackE s.succ z)/\((∀ u,Reach s.succ 0 u->∀ t∈succs s.succ u,¬ Reach s.succ t u)->cntK 6 x=0):=by
 obtain ⟨x,hBI,B,l,r,m,p,d,k,s9,hB,hVI,hx⟩:=build_ok (g:=s.succ) (node:=s.node) hvs.val hvs.pos (by omega) (fun l hl=>by have:=hrow l hl;omega) hvs.len
 have hV:=hB.dom.view
 have hRG:=redG_of hV (order_back hvs.val hVI.1) hred
 have hv0':VS ⟨g0,rangeI g0.length,0,0⟩:=⟨hv0,by simp [rangeI],h0⟩
 have hph:∀ n:Int,0<=n/\n < s.succ.length->s.node.getD n.toNat 0=pi n:=fun n hn=>by
  rw [hP.nod n hn.1 hn.2]
  exact rangeI_get (hP.rng n hn.1 hn.2)
 have hmr:∀ z,z∈r↔Reach s.succ 0 z:=fun z=>hV.ord.mem
 have hrl:r.length<=s.succ.length:=nodup_len hV.ord.nd hV.ord.rng
 have hL:Lift (fun n=>s.node.getD n.toNat 0) B r g0:=fun n hn=>by
  have hr:=hV.ord.rng n hn
  have hp:=hP.rng n hr.1 hr.2
  simp only
  rw [hph n hr]
  refine ⟨hp.1,hp.2,?_⟩
  rw [hB.succ]
  have:=hP.edge n hr.1 hr.2
  rw [show g0.getD (pi n).toNat []=succs g0 (pi n) from rfl]
  rw [<-this]
  exact List.map_congr_left fun c hc=>(hph c (hvs.rng hc)).symm
 obtain ⟨c1,c2⟩:=sim_ok (hB.bok hRG) hB.hdr hL hV.zero_mem (by
  have:=hph 0 ⟨Int.le_refl _,by have:=hvs.pos;omega⟩
  rw [this,hP.zero hv0']) (hB.root hRG) (fun l hl=>by have:=hrow0 l hl;omega) hB.hdl hx
 obtain ⟨⟨w,w1,w2,w3⟩,⟨v,v1,v2,v3⟩,hcnt,hacy⟩:=hB.vis hRG hx
 simp only [visLs,loopLs,List.append_nil,cntKs,Nat.add_zero] at w1 v1 hcnt hacy
 have hwl:w.length=r.length:=by
  have a:=nodup_sub_len w2 (m:=r) fun z hz=>(w3 z).1 hz
  have b:=nodup_sub_len hV.ord.nd (m:=w) fun z hz=>(w3 z).2 hz
  omega
 have hvl:(visL x).length=r.length:=by rw [w1,List.length_map,hwl]
 refine ⟨x,hBI,c1,c2,?_,fun z=>?_,hcnt,⟨r,hV.ord.nd,hmr,hvl⟩,fun hid=>?_,fun hac=>hacy fun n hn t ht hle=>?_⟩
 ·have:=bF_size (R:=100) (N:=400) (K:=904) (by omega) (fun n=>by
   rw [hB.succ]
   unfold succs
   rw [List.getD_eq_getElem?_getD]
   cases e:s.succ[n.toNat]? with
   | none=>simp
   | some l=>exact hrow l (List.mem_of_getElem? e)) (fun n=>by
   have:=nodup_sub_len (hB.knd n) (m:=r) fun y hy=>((hB.kids n y).1 hy).1
   omega) k _ _ _ _ hx
  simp only at this
  rw [hvl] at this
  have h3:904 * r.length<=904 * 400:=Nat.mul_le_mul_left _ (by omega)
  omega
 ·rw [w1,List.mem_map]
  constructor
  ·rintro ⟨n,hn,rfl⟩
   have hnr:=(w3 n).1 hn
   rw [hph n (hV.ord.rng n hnr)]
   exact hP.reach hv0' hvs ((hmr n).1 hnr) rfl
  ·intro hz
   have:∀ a z,Reach g0 a z->a=0->∃ n,Reach s.succ 0 n/\pi n=z:=fun a z hz=>by
    induction hz with
    | refl=>rintro rfl;exact ⟨0,.refl _,hP.zero hv0'⟩
    | @step b c _ hc ih =>
     intro e
     obtain ⟨n,hn,rfl⟩:=ih e
     have hr:=hvs.reach hn
     have hc:c∈succs g0 (pi n):=hc
     have he:(succs s.succ n).map pi=succs g0 (pi n):=hP.edge n hr.1 hr.2
     rw [<-he] at hc
     obtain ⟨c',hc',rfl⟩:=List.mem_map.1 hc
     exact ⟨c',hn.step hc',rfl⟩
   obtain ⟨n,hn,rfl⟩:=this 0 z hz rfl
   have hnr:=(hmr n).2 hn
   exact ⟨n,(w3 n).2 hnr,hph n (hV.ord.rng n hnr)⟩
 ·have hidm:∀ xs:List Int,(∀ z∈xs,z∈r)->xs.map (fun n=>s.node.getD n.toNat 0)=xs:=fun xs hxs=>by
   conv=>rhs;rw [<-List.map_id xs]
   exact List.map_congr_left fun z hz=>by
    have hr:=hV.ord.rng z (hxs z hz)
    show s.node.getD z.toNat 0=z
    rw [hph z hr,hid z hr.1 hr.2]
  rw [hidm w fun z hz=>(w3 z).1 hz] at w1
  rw [hidm v fun z hz=>hB.hdr z ((v3 z).1 hz)] at v1
  refine ⟨by rw [w1];exact w2,by rw [v1];exact v2,fun z=>?_⟩
  rw [v1,v3]
  constructor
  ·rintro ⟨u,hu,hz,hle⟩
   exact ⟨u,(hmr u).1 hu,hz,hRG u hu z hz hle⟩
  ·rintro ⟨u,hu,hz,hd⟩
   have hur:=(hmr u).2 hu
   exact ⟨u,hur,hz,(hd.le hV u hur).2⟩
 ·rw [hB.succ] at ht
  rw [hB.att,hB.att] at hle
  rcases order_back hvs.val hVI.1 n hn t ht with ⟨a,b,e,hb⟩ | ⟨_,hvia⟩
  ·have h1:=hV.pos_pw
   rw [e] at h1
   have:=(List.pairwise_cons.1 (List.pairwise_append.1 h1).2.1).1 t hb
   omega
  ·exact hac n ((hmr n).1 hn) t ht hvia.reach
theorem struct_full {g:List (List Int)} (hv:ValidG g) (h0:0 < g.length) (hl:g.length<=100) (hrow':∀ l∈g,l.length<=100) (budget:Int) (hb:budget<=300) :
  ∃ x err,StructIs g budget x err/\((err=0/\MadeOk g budget x)∨(err=50/\x=⟨0,0,0,[]⟩/\¬ RedC g/\∃ r:List Int,r.Nodup/\(∀ z,z∈r↔Reach g 0 z)/\max budget 0 < cst r.length)):=by
 have hrow:∀ l∈g,l.length<=1000:=fun l hl=>by have:=hrow' l hl;omega
 obtain ⟨b,r,m,p,d,k,hDI,hD,e,hR⟩:=red_is hv h0 (by omega) hrow
 have hV:=hD.view
 have hbr:=redOut_red hD k r b (fun _ h=>h) e
 have hback:=order_back hv hDI.1.1
 have hval:ValidIs g true:=by
  have:=valid_is g (by omega) (fun l hl=>by have:=hrow l hl;omega)
  rwa [decide_eq_true ⟨hv,h0⟩] at this
 have hGood:GoodG g:=⟨by omega,fun l hl=>by have:=hrow l hl;omega⟩
 have hv0':VS ⟨g,rangeI g.length,0,0⟩:=⟨hv,by simp [rangeI],h0⟩
 have hmr:∀ z,z∈r↔Reach g 0 z:=fun z=>hV.ord.mem
 cases b with
 | true =>
  have hred:RedC g:=redC_of hV (hbr.1 rfl)
  obtain ⟨x,h1,h2,h3,h4,h5,h6,⟨r',h7,h7',h7''⟩,h8,h9⟩:=build_made (s:=⟨g,rangeI g.length,0,0⟩) (S:=fun _=>True) hv h0 hrow (PI.id _ _) hv0' (by show g.length<=_;omega) hrow' hred
  exact ⟨x,0,.inr ⟨hval,hGood,.inl ⟨hR,h1,rfl⟩⟩,.inl ⟨rfl,h2,h3,h4,h5,⟨r',h7,h7',by rw [h7''];omega⟩,h6,fun _=>h8 fun _ _ _=>rfl,h9⟩⟩
 | false =>
  have hnred:¬ RedC g:=fun hc=>by
   have:=hbr.2 (redG_of hV hback hc)
   cases this
  have hr:r.length<=g.length:=nodup_len hV.ord.nd hV.ord.rng
  obtain ⟨hS,hSx⟩:=setF_ok (-1) r [] .nil
  have hSr:∀ x∈keys (setF (-1) r []),x∈r:=fun x hx=>by
   rcases (hSx x).1 hx with h | h
   ·exact h.1
   ·simp [keys] at h
  have hSl:=hS.len_le hSr
  have hOk:SpOk g.length ⟨g,rangeI g.length,0,max budget 0⟩:=by
   refine ⟨hv,by simp [rangeI],⟨Int.le_refl _,by simp⟩,⟨by show (0:Int)<=max budget 0;omega,by show max budget 0+_<=_;omega⟩,hrow,fun x hx=>rangeI_mem.1 hx⟩
  obtain ⟨t,e,hres⟩:=splitF_ok (enough+2+(setF (-1) r []).length) _ (setF (-1) r []) hOk hS (fun x hx=>hV.ord.rng x (hSr x hx)) (by omega)
  rcases hres with ⟨rfl,hbad⟩ | ⟨s,rfl,hs,hsb,hsc,hsc'⟩
  ·have:=cst_mono hSl
   have hbad:max budget 0 < 0+(cst (setF (-1) r []).length:Int):=hbad
   exact ⟨⟨0,0,0,[]⟩,50,.inr ⟨hval,hGood,.inr ⟨hR,r,_,none,hDI.1.1,e,.inl ⟨rfl,rfl,rfl⟩⟩⟩,.inr ⟨rfl,rfl,hnred,r,hV.ord.nd,hmr,by omega⟩⟩
  ·obtain ⟨hvs,pi,P,hcl⟩:=splitF_cl _ _ _ s ⟨hv,by simp [rangeI],h0⟩ hS (fun x hx=>hV.ord.rng x (hSr x hx)) (by omega) e
   have P:PI pi (·∈keys (setF (-1) r [])) ⟨g,rangeI g.length,0,0⟩ s:=⟨P.len,P.old,P.new,P.rng,P.edge,P.nod⟩
   have hred:RedC s.succ:=hcl.mono fun x _ hx=>by
    have hr:=hvs.reach hx
    refine ⟨hr.1,hr.2,?_⟩
    have hp:=(hmr _).2 (P.reach hv0' hvs hx rfl)
    exact (hSx _).2 (.inl ⟨hp,by have:=hV.ord.rng _ hp;omega⟩)
   have hcop:=hs.cop
   have hbud:=hs.bud
   have hsb:s.budget=max budget 0:=hsb
   obtain ⟨x,h1,h2,h3,h4,h5,h6,⟨r',h7,h7',h7''⟩,h8,h9⟩:=build_made hv h0 hrow P hvs (by omega) (fun l hl=>by
    obtain ⟨i,hi,rfl⟩:=List.mem_iff_getElem.1 hl
    have h1:=P.edge i (by omega) (by omega)
    have h2:succs s.succ (i:Int)=s.succ[i]:=by unfold succs;rw [Int.toNat_natCast,List.getD_eq_getElem?_getD,List.getElem?_eq_getElem hi];rfl
    have h3:(succs g (pi i)).length<=100:=by
     unfold succs
     rw [List.getD_eq_getElem?_getD]
     cases e:g[(pi i).toNat]? with
     | none=>simp
     | some l=>exact hrow' l (List.mem_of_getElem? e)
    have h4:(succs s.succ (i:Int)).map pi=succs g (pi i):=h1
    rw [<-h4,List.length_map,h2] at h3
    exact h3) hred
   refine ⟨x,0,.inr ⟨hval,hGood,.inr ⟨hR,r,_,some s,hDI.1.1,e,.inr ⟨s,rfl,h1,rfl⟩⟩⟩,.inl ⟨rfl,h2,h3,h4,h5,⟨r,hV.ord.nd,hmr,?_⟩,h6,fun hc=>absurd hc hnred,fun hac=>absurd (acyc_red hac) hnred⟩⟩
   rw [h7'']
   have:=nodup_sub_len h7 (m:=r++(rangeI s.copies.toNat).map fun j=>(g.length:Int)+j) fun z hz=>by
    have hzl:=(h7' z).1 hz
    have hzr:=hvs.reach hzl
    by_cases hlt:z < g.length
    ·refine List.mem_append.2 (.inl ((hmr z).2 ?_))
     have:=P.reach hv0' hvs hzl rfl
     rwa [P.old z hzr.1 hlt] at this
    ·exact List.mem_append.2 (.inr (List.mem_map.2 ⟨z - g.length,rangeI_mem.2 (by omega),by omega⟩))
   simp [rangeI] at this
   omega
end Go.Proofs.Ytfiiihpdekppiaa
end
