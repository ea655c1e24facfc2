/- A part of the proof that vellumlaw12.ShapeAcyclic is true for every input: walks of functions that the row reaches and plain laws that they need. Conditions: none. Joined by merge.py out of PShapeReduciblex8 C10 C11 C12; a part that began as a print is named P or W there and is trimmed. -/
import Derived.Test.YtfiiihpdekppiaaA4
import Derived.Test.YtfiiihpdekppiaaA8
set_option linter.unusedVariables false
set_option linter.unusedSimpArgs false
section
namespace Go.Proofs.Ytfiiihpdekppiaa.PShapeReducible
open Go.RowKit Go.Proofs.YtfiiihpdekppiaaW.PrintWords Go.Proofs.YtfiiihpdekppiaaW.PrintLast Go.Proofs.YtfiiihpdekppiaaW.PrintMore
attribute [local go_sem] max2_int min2_int max_two min_two max_three min_three max_four min_four
set_option linter.unusedVariables false
set_option linter.unusedSimpArgs false
def slices_Index_int_int.l0:Nat->List Int->Int->Int->Int->Option (Int)
 | 0,_,_,_,_=>none
 | k+1,x0,x1,x7,x8=>if x8 < x7 then (if 0<=x8 then (if x8 < (x0.length:Int) then (if x1=(rd x0 x8) then (some x8) else (slices_Index_int_int.l0 k x0 x1 x7 (wrap64 (x8+1)))) else (none)) else (none)) else (some (-1))
def slices_Index_int_int.f (k:Nat) (l0:List Int) (a1:Int):Option (Int):=slices_Index_int_int.l0 k l0 a1 (l0.length:Int) 0
set_option maxHeartbeats 8000000 in
set_option maxRecDepth 100000 in
theorem slices_Index_int_int.calls (k:Nat) (A0:Option Addr) (c0:Nat) (l0:List Int) (a1:Int) (r:Int) (w:World) (hr0:Kd.C (Kd.int .i64) w A0 l0.length l0) (hc0:l0.length<=c0) (h:slices_Index_int_int.f k l0 a1=some r) :
  Calls Try.prog 79 #[.slice A0 l0.length c0,.int .i64 a1] w fun e w'=>e=.returned (.int .i64 r)/\Drawn0 w w':=by
 have HR0:=Aside0.mk hr0
 have HC0:=Aside0.mk hc0
 clear hr0 hc0
 have H:(slices_Index_int_int.l0 k l0 a1 (l0.length:Int) 0)=some r:=h
 clear h
 have H':=Aside0.mk H
 clear H
 go_enter Try.func79,Try.ntmps79
 go_wp2
 go_loopg [8] k (fun kq v8 w'=>∃ (x8_1:Int),v8=.int .i64 x8_1/\Aside0 (slices_Index_int_int.l0 kq l0 a1 (l0.length:Int) x8_1=some r)/\Aside0 (kq<=k)/\Drawn0 w w')
 case atStart=>exact ⟨(0),(by first | rfl | (simp;done) | (simp [*];done)),H',⟨Nat.le_refl _⟩,by repeat (first | exact Drawn0.refl _ | apply Drawn0.step)⟩
 case round =>
  clear H'
  try clear p2
  obtain ⟨x8_1,rfl,HA,HK1,⟨m1,rfl⟩⟩:=hrel
  cases gk with
  | zero=>exact absurd HA.out (by simp [slices_Index_int_int.l0])
  | succ k1 =>
   have H:=HA.out
   clear HA
   simp only [slices_Index_int_int.l0] at H
   by_cases c3:x8_1 < (l0.length:Int)
   ·rw [if_pos c3] at H
    have c3b0:decide (x8_1 < (l0.length:Int))=true:=decide_eq_true c3
    clear c3
    by_cases c4:0<=x8_1
    ·rw [if_pos c4] at H
     have c4b0:decide (0<=x8_1)=true:=decide_eq_true c4
     clear c4
     by_cases c5:x8_1 < (l0.length:Int)
     ·rw [if_pos c5] at H
      have c5b0:decide (x8_1 < (l0.length:Int))=true:=decide_eq_true c5
      clear c5
      by_cases c6:a1=(rd l0 x8_1)
      ·rw [if_pos c6] at H
       have c6b0:(a1 == (rd l0 x8_1))=true:=beq_iff_eq.mpr c6
       have c6b1:(a1 != (rd l0 x8_1))=false:=bne_eq_false_iff_eq.mpr c6
       clear c6
       obtain rfl:=Option.some.inj H
       have p237:0<=(x8_1:Int):=of_decide_eq_true (by first | (with_reducible assumption) | assumption)
       have q237:x8_1 < (l0.length:Int):=of_decide_eq_true (by first | (with_reducible assumption) | assumption)
       obtain ⟨ad237,e237,hx237_0⟩:=Kd.at_int HR0.out x8_1 p237 q237
       cases e237
       replace p237:=eq_true p237
       replace q237:=eq_true q237
       go_wp2
       go_ret
       exact ⟨by first | rfl | (simp;done) | (simp [*];done),by repeat (first | exact Drawn0.refl _ | apply Drawn0.step)⟩
      ·rw [if_neg c6] at H
       have c6b0:(a1 == (rd l0 x8_1))=false:=beq_eq_false_iff_ne.mpr c6
       have c6b1:(a1 != (rd l0 x8_1))=true:=bne_iff_ne.mpr c6
       have H':=Aside0.mk H
       clear H
       have p237:0<=(x8_1:Int):=of_decide_eq_true (by first | (with_reducible assumption) | assumption)
       have q237:x8_1 < (l0.length:Int):=of_decide_eq_true (by first | (with_reducible assumption) | assumption)
       obtain ⟨ad237,e237,hx237_0⟩:=Kd.at_int HR0.out x8_1 p237 q237
       cases e237
       replace p237:=eq_true p237
       replace q237:=eq_true q237
       go_wp2
       go_roundg k1
       case measure=>have:=HK1.out;omega
       case rel=>exact ⟨(wrap64 (x8_1+1)),(by first | rfl | (simp;done) | (simp [*];done)),H',⟨by have:=HK1.out;omega⟩,by repeat (first | exact Drawn0.refl _ | apply Drawn0.step)⟩
     ·rw [if_neg c5] at H
      exact absurd H (by simp)
    ·rw [if_neg c4] at H
     exact absurd H (by simp)
   ·rw [if_neg c3] at H
    have c3b0:decide (x8_1 < (l0.length:Int))=false:=decide_eq_false c3
    clear c3
    obtain rfl:=Option.some.inj H
    go_wp2
    go_ret
    exact ⟨by first | rfl | (simp;done) | (simp [*];done),by repeat (first | exact Drawn0.refl _ | apply Drawn0.step)⟩
def slices_Contains_int_int.f (k:Nat) (l0:List Int) (a1:Int):Option (Bool):=(slices_Index_int_int.f k l0 a1).bind fun t238=>(some (decide (t238 ≥ 0)))
set_option maxHeartbeats 8000000 in
set_option maxRecDepth 100000 in
theorem slices_Contains_int_int.calls (k:Nat) (A0:Option Addr) (c0:Nat) (l0:List Int) (a1:Int) (r:Bool) (w:World) (hr0:Kd.C (Kd.int .i64) w A0 l0.length l0) (hc0:l0.length<=c0) (h:slices_Contains_int_int.f k l0 a1=some r) :
  Calls Try.prog 80 #[.slice A0 l0.length c0,.int .i64 a1] w fun e w'=>e=.returned (.bool r)/\Drawn0 w w':=by
 have HR0:=Aside0.mk hr0
 have HC0:=Aside0.mk hc0
 clear hr0 hc0
 have H:((slices_Index_int_int.f k l0 a1).bind fun t238=>(some (decide (t238 ≥ 0))))=some r:=h
 clear h
 replace H:=Option.bind_eq_some_iff.mp H
 obtain ⟨t238,A30,H⟩:=H
 replace H:(some (decide (t238 ≥ 0)))=some r:=H
 have A3:=Aside0.mk A30
 clear A30
 obtain rfl:=Option.some.inj H
 go_enter Try.func80,Try.ntmps80
 go_wp2_with (first | ((with_reducible refine gate_callee (f:=79) rfl ?_);refine goesL_ (some 7) rfl rfl Try.func79 (by kernel_rfl) rfl #[.slice A0 l0.length c0,.int .i64 a1] rfl (by (try simp only [List.map_toArray,List.map_cons,List.map_nil]);first | done | rfl | (simp only [List.length_drop,List.length_take];rfl)) ?_;(with_reducible refine (slices_Index_int_int.calls k _ _ l0 a1 t238 _ ?side1 ?side2 A3.out).mono ?_);(case side1=>repeat (first | exact HR0.out | (with_reducible refine Kd.C_alloc ?_ _) | (with_reducible refine Kd.C_drewN ?_ _) | (with_reducible refine Kd.C_drew ?_)));(case side2=>exact HC0.out);rintro e w' ⟨rfl,⟨nd,rfl⟩⟩;refine ⟨_,rfl,?_⟩))
 go_ret
 exact ⟨by first | rfl | (simp;done) | (simp [*];done),by repeat (first | exact Drawn0.refl _ | apply Drawn0.step)⟩
mutual
def vellumref06_Valid.l0:Nat->Int->List (List Int)->Option (Bool)
 | 0,_,_=>none
 | k+1,x3,x263000=>if x3 < (x263000.length:Int) then (vellumref06_Valid.l1 k x3 0 x263000) else (some (decide ((x263000.length:Int) > 0)))
def vellumref06_Valid.l1:Nat->Int->Int->List (List Int)->Option (Bool)
 | 0,_,_,_=>none
 | k+1,x3,x4,x263000=>if 0<=x3 then (if x3 < (x263000.length:Int) then (if x4 < ((rd_L1 x263000 x3).length:Int) then (if 0<=x4 then (if (rd (rd_L1 x263000 x3) x4) < 0 then (some false) else (if (rd (rd_L1 x263000 x3) x4) ≥ (x263000.length:Int) then (some false) else (vellumref06_Valid.l1 k x3 (wrap64 (x4+1)) x263000))) else (none)) else (vellumref06_Valid.l0 k (wrap64 (x3+1)) x263000)) else (none)) else (none)
end
def vellumref06_Valid.f (k:Nat) (l0_0:List (List Int)):Option (Bool):=vellumref06_Valid.l0 k 0 l0_0
set_option maxHeartbeats 8000000 in
set_option maxRecDepth 100000 in
theorem vellumref06_Valid.calls (k:Nat) (A0_0:Option Addr) (c0_0:Nat) (l0_0:List (List Int)) (r:Bool) (w:World) (hr0_0:Kd.C (Kd.slice 3 (Kd.int .i64)) w A0_0 l0_0.length l0_0) (hc0_0:l0_0.length<=c0_0) (h:vellumref06_Valid.f k l0_0=some r) :
  Calls Try.prog 43 #[.agg #[.slice A0_0 l0_0.length c0_0]] w fun e w'=>e=.returned (.bool r)/\Below w.heap.size w w':=by
 have hu27:=Try.underlying27
 have HR0_0:=Aside0.mk hr0_0
 have HC0_0:=Aside0.mk hc0_0
 clear hr0_0 hc0_0
 have HB:=Aside0.mk (Below.refl w.heap.size w)
 have H:(vellumref06_Valid.l0 k 0 l0_0)=some r:=h
 clear h
 have H':=Aside0.mk H
 clear H
 go_enter Try.func43,Try.ntmps43
 go_wp2_with (first | ((with_reducible refine gate_dst (N:=1) rfl ?_);(try (refine gate_guard (by rfl) ?_;dsimp only));refine box_event ?hg (N:=1) ?hd (cs:=#[.slice A0_0 l0_0.length c0_0]) (t:=27) ?hr ?_;(case hd=>rfl);(case hg=>rfl);(case hr=>first | (go_simp;done) | (go_simp;rfl));intro gb262 hg w2 hbox hb;have n0_:=Aside0.mk (below_step (by repeat (first | (with_reducible first | exact HB.out | apply below_alloc | apply pw_below_drewN | apply below_drew1) | exact HB.out)) hb);have n1_:=Aside0.mk (hbox);have n2_:=Aside0.mk ((by rw [hg];exact (below_size (by repeat (first | (with_reducible first | exact HB.out | apply below_alloc | apply pw_below_drewN | apply below_drew1) | exact HB.out))):w.heap.size<=gb262));have n3_:=Aside0.mk ((by rw [hg];exact (below_size (by repeat (first | (with_reducible first | exact HB.out | apply below_alloc | apply pw_below_drewN | apply below_drew1) | exact HB.out))):w.heap.size<=gb262));clear HB;have HB:=n0_;have BK262:=n1_;have GW262:=n2_;have GE262:=n3_;clear n0_ n1_ n2_ n3_;clear hb hbox hg))
 repeat (go_quiet (first | ((with_reducible refine gate_dst (N:=1) rfl ?_);(try (refine gate_guard (by rfl) ?_;dsimp only));refine box_event ?hg (N:=1) ?hd (cs:=#[.slice A0_0 l0_0.length c0_0]) (t:=27) ?hr ?_;(case hd=>rfl);(case hg=>rfl);(case hr=>first | (go_simp;done) | (go_simp;rfl));intro gb262 hg w2 hbox hb;have n0_:=Aside0.mk (below_step (by repeat (first | (with_reducible first | exact HB.out | apply below_alloc | apply pw_below_drewN | apply below_drew1) | exact HB.out)) hb);have n1_:=Aside0.mk (hbox);have n2_:=Aside0.mk ((by rw [hg];exact (below_size (by repeat (first | (with_reducible first | exact HB.out | apply below_alloc | apply pw_below_drewN | apply below_drew1) | exact HB.out))):w.heap.size<=gb262));have n3_:=Aside0.mk ((by rw [hg];exact (below_size (by repeat (first | (with_reducible first | exact HB.out | apply below_alloc | apply pw_below_drewN | apply below_drew1) | exact HB.out))):w.heap.size<=gb262));clear HB;have HB:=n0_;have BK262:=n1_;have GW262:=n2_;have GE262:=n3_;clear n0_ n1_ n2_ n3_;clear hb hbox hg));try go_wp2_with (first | ((with_reducible refine gate_dst (N:=1) rfl ?_);(try (refine gate_guard (by rfl) ?_;dsimp only));refine box_event ?hg (N:=1) ?hd (cs:=#[.slice A0_0 l0_0.length c0_0]) (t:=27) ?hr ?_;(case hd=>rfl);(case hg=>rfl);(case hr=>first | (go_simp;done) | (go_simp;rfl));intro gb262 hg w2 hbox hb;have n0_:=Aside0.mk (below_step (by repeat (first | (with_reducible first | exact HB.out | apply below_alloc | apply pw_below_drewN | apply below_drew1) | exact HB.out)) hb);have n1_:=Aside0.mk (hbox);have n2_:=Aside0.mk ((by rw [hg];exact (below_size (by repeat (first | (with_reducible first | exact HB.out | apply below_alloc | apply pw_below_drewN | apply below_drew1) | exact HB.out))):w.heap.size<=gb262));have n3_:=Aside0.mk ((by rw [hg];exact (below_size (by repeat (first | (with_reducible first | exact HB.out | apply below_alloc | apply pw_below_drewN | apply below_drew1) | exact HB.out))):w.heap.size<=gb262));clear HB;have HB:=n0_;have BK262:=n1_;have GW262:=n2_;have GE262:=n3_;clear n0_ n1_ n2_ n3_;clear hb hbox hg)))
 go_loopg [3] k (fun kq v3 w'=>∃ (x3_1:Int),v3=.int .i64 x3_1/\Aside0 (vellumref06_Valid.l0 kq x3_1 l0_0=some r)/\Aside0 (kq<=k)/\Aside0 (w'.heap[gb262]?=some (.cells #[(.slice A0_0 l0_0.length c0_0)] 27 (0,0)))/\Aside0 (Below w.heap.size w w'))
 case atStart=>exact ⟨(0),(by first | rfl | (simp;done) | (simp [*];done)),H',⟨Nat.le_refl _⟩,⟨by (with_reducible repeat (first | refine blk_drewN ?_ _ | refine blk_drew ?_ | refine blk_alloc ?_ _));exact BK262.out⟩,⟨by repeat (first | (with_reducible first | exact HB.out | apply below_alloc | apply pw_below_drewN | apply below_drew1 | refine below_set ?_ GE262.out) | exact HB.out)⟩⟩
 case round =>
  clear H'
  try clear p2
  obtain ⟨x3_1,rfl,HA,HK1,BK262,HB⟩:=hrel
  cases gk with
  | zero=>exact absurd HA.out (by simp [vellumref06_Valid.l0])
  | succ k1 =>
   have H:=HA.out
   clear HA
   simp only [vellumref06_Valid.l0] at H
   by_cases c3:x3_1 < (l0_0.length:Int)
   ·rw [if_pos c3] at H
    have c3b0:decide (x3_1 < (l0_0.length:Int))=true:=decide_eq_true c3
    clear c3
    have H':=Aside0.mk H
    clear H
    have hcz4_0:wr.cell? ⟨gb262,0,none⟩=some (.slice A0_0 l0_0.length c0_0):=(blk_cell BK262.out 0).trans rfl
    have hfz4_0:=blk_frozen BK262.out 0
    go_wp2
    repeat (go_quiet (fail);try go_wp2)
    go_loopg [4] k1 (fun kq v4 w'=>∃ (x4_2:Int),v4=.int .i64 x4_2/\Aside0 (vellumref06_Valid.l1 kq x3_1 x4_2 l0_0=some r)/\Aside0 (kq<=k1)/\Aside0 (w'.heap[gb262]?=some (.cells #[(.slice A0_0 l0_0.length c0_0)] 27 (0,0)))/\Aside0 (Below w.heap.size w w'))
    case atStart=>exact ⟨(0),(by first | rfl | (simp;done) | (simp [*];done)),H',⟨Nat.le_refl _⟩,⟨by (with_reducible repeat (first | refine blk_drewN ?_ _ | refine blk_drew ?_ | refine blk_alloc ?_ _));exact BK262.out⟩,⟨by repeat (first | (with_reducible first | exact HB.out | apply below_alloc | apply pw_below_drewN | apply below_drew1 | refine below_set ?_ GE262.out) | exact HB.out)⟩⟩
    case round =>
     clear H'
     try clear p2
     try clear c3
     try clear c3b0
     try clear c4
     try clear hcz4_0
     try clear hfz4_0
     try clear p2
     obtain ⟨x4_2,rfl,HA,HK2,BK262,HB⟩:=hrel
     cases gk with
     | zero=>exact absurd HA.out (by simp [vellumref06_Valid.l1])
     | succ k2 =>
      have H:=HA.out
      clear HA
      simp only [vellumref06_Valid.l1] at H
      by_cases c5:0<=x3_1
      ·rw [if_pos c5] at H
       have c5b0:decide (0<=x3_1)=true:=decide_eq_true c5
       clear c5
       by_cases c6:x3_1 < (l0_0.length:Int)
       ·rw [if_pos c6] at H
        have c6b0:decide (x3_1 < (l0_0.length:Int))=true:=decide_eq_true c6
        clear c6
        by_cases c7:x4_2 < ((rd_L1 l0_0 x3_1).length:Int)
        ·rw [if_pos c7] at H
         have c7b0:decide (x4_2 < ((rd_L1 l0_0 x3_1).length:Int))=true:=decide_eq_true c7
         clear c7
         by_cases c8:0<=x4_2
         ·rw [if_pos c8] at H
          have c8b0:decide (0<=x4_2)=true:=decide_eq_true c8
          clear c8
          by_cases c9:(rd (rd_L1 l0_0 x3_1) x4_2) < 0
          ·rw [if_pos c9] at H
           have c9b0:decide ((rd (rd_L1 l0_0 x3_1) x4_2) < 0)=true:=decide_eq_true c9
           clear c9
           obtain rfl:=Option.some.inj H
           have hcz10_0:wr.cell? ⟨gb262,0,none⟩=some (.slice A0_0 l0_0.length c0_0):=(blk_cell BK262.out 0).trans rfl
           have hfz10_0:=blk_frozen BK262.out 0
           have p263:0<=(x3_1:Int):=of_decide_eq_true (by first | (with_reducible assumption) | assumption)
           have q263:x3_1 < (l0_0.length:Int):=of_decide_eq_true (by first | (with_reducible assumption) | assumption)
           obtain ⟨ad263,A263_0,c263_0,e263,hx263_0,hl263_0,hi263_0⟩:=at_L1 HR0_0.out x3_1 p263 q263
           cases e263
           replace hx263_0:=(HB.out.cell (World.block_lt_of_cell? w _ hx263_0)).trans hx263_0
           have HR263_0:=Aside0.mk hi263_0
           have HC263_0:=Aside0.mk hl263_0
           clear hi263_0 hl263_0
           replace p263:=eq_true p263
           replace q263:=eq_true q263
           have p264:0<=(x3_1:Int):=of_decide_eq_true (by first | (with_reducible assumption) | assumption)
           have q264:x3_1 < (l0_0.length:Int):=of_decide_eq_true (by first | (with_reducible assumption) | assumption)
           obtain ⟨ad264,A264_0,c264_0,e264,hx264_0,hl264_0,hi264_0⟩:=at_L1 HR0_0.out x3_1 p264 q264
           obtain rfl:ad263=ad264:=(by injection e264)
           replace hx264_0:=(HB.out.cell (World.block_lt_of_cell? w _ hx264_0)).trans hx264_0
           have HR264_0:=Aside0.mk hi264_0
           have HC264_0:=Aside0.mk hl264_0
           clear hi264_0 hl264_0
           replace p264:=eq_true p264
           replace q264:=eq_true q264
           have ea_:=Option.some.inj (hx263_0.symm.trans hx264_0)
           injection ea_ with ea_ en_ ec_
           subst ea_
           subst ec_
           clear en_
           have p265:0<=(x4_2:Int):=of_decide_eq_true (by first | (with_reducible assumption) | assumption)
           have q265:x4_2 < ((rd_L1 l0_0 x3_1).length:Int):=of_decide_eq_true (by first | (with_reducible assumption) | assumption)
           obtain ⟨ad265,e265,hx265_0⟩:=Kd.at_int HR264_0.out x4_2 p265 q265
           cases e265
           replace hx265_0:=(HB.out.cell (World.block_lt_of_cell? w _ hx265_0)).trans hx265_0
           replace p265:=eq_true p265
           replace q265:=eq_true q265
           go_wp2
           repeat (go_quiet (fail);try go_wp2)
           go_ret
           exact ⟨by first | rfl | (simp [errW_none,errW_some] <;> rfl) | (simp [*,errW_none,errW_some] <;> rfl),by repeat (first | (with_reducible first | exact HB.out | apply below_alloc | apply pw_below_drewN | apply below_drew1 | refine below_set ?_ GE262.out) | exact HB.out)⟩
          ·rw [if_neg c9] at H
           have c9b0:decide ((rd (rd_L1 l0_0 x3_1) x4_2) < 0)=false:=decide_eq_false c9
           clear c9
           by_cases c11:(rd (rd_L1 l0_0 x3_1) x4_2) ≥ (l0_0.length:Int)
           ·rw [if_pos c11] at H
            have c11b0:decide ((l0_0.length:Int)<=(rd (rd_L1 l0_0 x3_1) x4_2))=true:=decide_eq_true c11
            clear c11
            obtain rfl:=Option.some.inj H
            have hcz12_0:wr.cell? ⟨gb262,0,none⟩=some (.slice A0_0 l0_0.length c0_0):=(blk_cell BK262.out 0).trans rfl
            have hfz12_0:=blk_frozen BK262.out 0
            have p263:0<=(x3_1:Int):=of_decide_eq_true (by first | (with_reducible assumption) | assumption)
            have q263:x3_1 < (l0_0.length:Int):=of_decide_eq_true (by first | (with_reducible assumption) | assumption)
            obtain ⟨ad263,A263_0,c263_0,e263,hx263_0,hl263_0,hi263_0⟩:=at_L1 HR0_0.out x3_1 p263 q263
            cases e263
            replace hx263_0:=(HB.out.cell (World.block_lt_of_cell? w _ hx263_0)).trans hx263_0
            have HR263_0:=Aside0.mk hi263_0
            have HC263_0:=Aside0.mk hl263_0
            clear hi263_0 hl263_0
            replace p263:=eq_true p263
            replace q263:=eq_true q263
            have p264:0<=(x3_1:Int):=of_decide_eq_true (by first | (with_reducible assumption) | assumption)
            have q264:x3_1 < (l0_0.length:Int):=of_decide_eq_true (by first | (with_reducible assumption) | assumption)
            obtain ⟨ad264,A264_0,c264_0,e264,hx264_0,hl264_0,hi264_0⟩:=at_L1 HR0_0.out x3_1 p264 q264
            obtain rfl:ad263=ad264:=(by injection e264)
            replace hx264_0:=(HB.out.cell (World.block_lt_of_cell? w _ hx264_0)).trans hx264_0
            have HR264_0:=Aside0.mk hi264_0
            have HC264_0:=Aside0.mk hl264_0
            clear hi264_0 hl264_0
            replace p264:=eq_true p264
            replace q264:=eq_true q264
            have ea_:=Option.some.inj (hx263_0.symm.trans hx264_0)
            injection ea_ with ea_ en_ ec_
            subst ea_
            subst ec_
            clear en_
            have p265:0<=(x4_2:Int):=of_decide_eq_true (by first | (with_reducible assumption) | assumption)
            have q265:x4_2 < ((rd_L1 l0_0 x3_1).length:Int):=of_decide_eq_true (by first | (with_reducible assumption) | assumption)
            obtain ⟨ad265,e265,hx265_0⟩:=Kd.at_int HR264_0.out x4_2 p265 q265
            cases e265
            replace hx265_0:=(HB.out.cell (World.block_lt_of_cell? w _ hx265_0)).trans hx265_0
            replace p265:=eq_true p265
            replace q265:=eq_true q265
            have p266:0<=(x3_1:Int):=of_decide_eq_true (by first | (with_reducible assumption) | assumption)
            have q266:x3_1 < (l0_0.length:Int):=of_decide_eq_true (by first | (with_reducible assumption) | assumption)
            obtain ⟨ad266,A266_0,c266_0,e266,hx266_0,hl266_0,hi266_0⟩:=at_L1 HR0_0.out x3_1 p266 q266
            obtain rfl:ad263=ad266:=(by injection e266)
            replace hx266_0:=(HB.out.cell (World.block_lt_of_cell? w _ hx266_0)).trans hx266_0
            have HR266_0:=Aside0.mk hi266_0
            have HC266_0:=Aside0.mk hl266_0
            clear hi266_0 hl266_0
            replace p266:=eq_true p266
            replace q266:=eq_true q266
            have ea_:=Option.some.inj (hx263_0.symm.trans hx266_0)
            injection ea_ with ea_ en_ ec_
            subst ea_
            subst ec_
            clear en_
            have p267:0<=(x4_2:Int):=of_decide_eq_true (by first | (with_reducible assumption) | assumption)
            have q267:x4_2 < ((rd_L1 l0_0 x3_1).length:Int):=of_decide_eq_true (by first | (with_reducible assumption) | assumption)
            obtain ⟨ad267,e267,hx267_0⟩:=Kd.at_int HR266_0.out x4_2 p267 q267
            cases e267
            replace hx267_0:=(HB.out.cell (World.block_lt_of_cell? w _ hx267_0)).trans hx267_0
            replace p267:=eq_true p267
            replace q267:=eq_true q267
            go_wp2
            repeat (go_quiet (fail);try go_wp2)
            go_ret
            exact ⟨by first | rfl | (simp [errW_none,errW_some] <;> rfl) | (simp [*,errW_none,errW_some] <;> rfl),by repeat (first | (with_reducible first | exact HB.out | apply below_alloc | apply pw_below_drewN | apply below_drew1 | refine below_set ?_ GE262.out) | exact HB.out)⟩
           ·rw [if_neg c11] at H
            have c11b0:decide ((l0_0.length:Int)<=(rd (rd_L1 l0_0 x3_1) x4_2))=false:=decide_eq_false c11
            clear c11
            have H':=Aside0.mk H
            clear H
            have hcz13_0:wr.cell? ⟨gb262,0,none⟩=some (.slice A0_0 l0_0.length c0_0):=(blk_cell BK262.out 0).trans rfl
            have hfz13_0:=blk_frozen BK262.out 0
            have p263:0<=(x3_1:Int):=of_decide_eq_true (by first | (with_reducible assumption) | assumption)
            have q263:x3_1 < (l0_0.length:Int):=of_decide_eq_true (by first | (with_reducible assumption) | assumption)
            obtain ⟨ad263,A263_0,c263_0,e263,hx263_0,hl263_0,hi263_0⟩:=at_L1 HR0_0.out x3_1 p263 q263
            cases e263
            replace hx263_0:=(HB.out.cell (World.block_lt_of_cell? w _ hx263_0)).trans hx263_0
            have HR263_0:=Aside0.mk hi263_0
            have HC263_0:=Aside0.mk hl263_0
            clear hi263_0 hl263_0
            replace p263:=eq_true p263
            replace q263:=eq_true q263
            have p264:0<=(x3_1:Int):=of_decide_eq_true (by first | (with_reducible assumption) | assumption)
            have q264:x3_1 < (l0_0.length:Int):=of_decide_eq_true (by first | (with_reducible assumption) | assumption)
            obtain ⟨ad264,A264_0,c264_0,e264,hx264_0,hl264_0,hi264_0⟩:=at_L1 HR0_0.out x3_1 p264 q264
            obtain rfl:ad263=ad264:=(by injection e264)
            replace hx264_0:=(HB.out.cell (World.block_lt_of_cell? w _ hx264_0)).trans hx264_0
            have HR264_0:=Aside0.mk hi264_0
            have HC264_0:=Aside0.mk hl264_0
            clear hi264_0 hl264_0
            replace p264:=eq_true p264
            replace q264:=eq_true q264
            have ea_:=Option.some.inj (hx263_0.symm.trans hx264_0)
            injection ea_ with ea_ en_ ec_
            subst ea_
            subst ec_
            clear en_
            have p265:0<=(x4_2:Int):=of_decide_eq_true (by first | (with_reducible assumption) | assumption)
            have q265:x4_2 < ((rd_L1 l0_0 x3_1).length:Int):=of_decide_eq_true (by first | (with_reducible assumption) | assumption)
            obtain ⟨ad265,e265,hx265_0⟩:=Kd.at_int HR264_0.out x4_2 p265 q265
            cases e265
            replace hx265_0:=(HB.out.cell (World.block_lt_of_cell? w _ hx265_0)).trans hx265_0
            replace p265:=eq_true p265
            replace q265:=eq_true q265
            have p266:0<=(x3_1:Int):=of_decide_eq_true (by first | (with_reducible assumption) | assumption)
            have q266:x3_1 < (l0_0.length:Int):=of_decide_eq_true (by first | (with_reducible assumption) | assumption)
            obtain ⟨ad266,A266_0,c266_0,e266,hx266_0,hl266_0,hi266_0⟩:=at_L1 HR0_0.out x3_1 p266 q266
            obtain rfl:ad263=ad266:=(by injection e266)
            replace hx266_0:=(HB.out.cell (World.block_lt_of_cell? w _ hx266_0)).trans hx266_0
            have HR266_0:=Aside0.mk hi266_0
            have HC266_0:=Aside0.mk hl266_0
            clear hi266_0 hl266_0
            replace p266:=eq_true p266
            replace q266:=eq_true q266
            have ea_:=Option.some.inj (hx263_0.symm.trans hx266_0)
            injection ea_ with ea_ en_ ec_
            subst ea_
            subst ec_
            clear en_
            have p267:0<=(x4_2:Int):=of_decide_eq_true (by first | (with_reducible assumption) | assumption)
            have q267:x4_2 < ((rd_L1 l0_0 x3_1).length:Int):=of_decide_eq_true (by first | (with_reducible assumption) | assumption)
            obtain ⟨ad267,e267,hx267_0⟩:=Kd.at_int HR266_0.out x4_2 p267 q267
            cases e267
            replace hx267_0:=(HB.out.cell (World.block_lt_of_cell? w _ hx267_0)).trans hx267_0
            replace p267:=eq_true p267
            replace q267:=eq_true q267
            go_wp2
            repeat (go_quiet (fail);try go_wp2)
            go_roundg k2
            case measure=>have:=HK1.out;have:=HK2.out;omega
            case rel=>exact ⟨(wrap64 (x4_2+1)),(by first | rfl | (simp;done) | (simp [*];done)),H',⟨by have:=HK1.out;have:=HK2.out;omega⟩,⟨by (with_reducible repeat (first | refine blk_drewN ?_ _ | refine blk_drew ?_ | refine blk_alloc ?_ _));exact BK262.out⟩,⟨by repeat (first | (with_reducible first | exact HB.out | apply below_alloc | apply pw_below_drewN | apply below_drew1 | refine below_set ?_ GE262.out) | exact HB.out)⟩⟩
         ·rw [if_neg c8] at H
          exact absurd H (by simp)
        ·rw [if_neg c7] at H
         have c7b0:decide (x4_2 < ((rd_L1 l0_0 x3_1).length:Int))=false:=decide_eq_false c7
         clear c7
         have H':=Aside0.mk H
         clear H
         have hcz14_0:wr.cell? ⟨gb262,0,none⟩=some (.slice A0_0 l0_0.length c0_0):=(blk_cell BK262.out 0).trans rfl
         have hfz14_0:=blk_frozen BK262.out 0
         have p263:0<=(x3_1:Int):=of_decide_eq_true (by first | (with_reducible assumption) | assumption)
         have q263:x3_1 < (l0_0.length:Int):=of_decide_eq_true (by first | (with_reducible assumption) | assumption)
         obtain ⟨ad263,A263_0,c263_0,e263,hx263_0,hl263_0,hi263_0⟩:=at_L1 HR0_0.out x3_1 p263 q263
         cases e263
         replace hx263_0:=(HB.out.cell (World.block_lt_of_cell? w _ hx263_0)).trans hx263_0
         have HR263_0:=Aside0.mk hi263_0
         have HC263_0:=Aside0.mk hl263_0
         clear hi263_0 hl263_0
         replace p263:=eq_true p263
         replace q263:=eq_true q263
         go_wp2
         repeat (go_quiet (fail);try go_wp2)
         go_roundg k2
         case measure=>have:=HK1.out;have:=HK2.out;omega
         case rel=>exact ⟨(wrap64 (x3_1+1)),(by first | rfl | (simp;done) | (simp [*];done)),H',⟨by have:=HK1.out;have:=HK2.out;omega⟩,⟨by (with_reducible repeat (first | refine blk_drewN ?_ _ | refine blk_drew ?_ | refine blk_alloc ?_ _));exact BK262.out⟩,⟨by repeat (first | (with_reducible first | exact HB.out | apply below_alloc | apply pw_below_drewN | apply below_drew1 | refine below_set ?_ GE262.out) | exact HB.out)⟩⟩
       ·rw [if_neg c6] at H
        exact absurd H (by simp)
      ·rw [if_neg c5] at H
       exact absurd H (by simp)
   ·rw [if_neg c3] at H
    have c3b0:decide (x3_1 < (l0_0.length:Int))=false:=decide_eq_false c3
    clear c3
    obtain rfl:=Option.some.inj H
    have hcz15_0:wr.cell? ⟨gb262,0,none⟩=some (.slice A0_0 l0_0.length c0_0):=(blk_cell BK262.out 0).trans rfl
    have hfz15_0:=blk_frozen BK262.out 0
    go_wp2
    repeat (go_quiet (fail);try go_wp2)
    go_ret
    exact ⟨by first | rfl | (simp [errW_none,errW_some] <;> rfl) | (simp [*,errW_none,errW_some] <;> rfl),by repeat (first | (with_reducible first | exact HB.out | apply below_alloc | apply pw_below_drewN | apply below_drew1 | refine below_set ?_ GE262.out) | exact HB.out)⟩
end Go.Proofs.Ytfiiihpdekppiaa.PShapeReducible
end
section
namespace Go.Proofs.Ytfiiihpdekppiaa
open Go.RowKit Go.Proofs Go.Proofs.YtfiiihpdekppiaaW.PrintWords
open PShapeReducible (slices_Contains_int_int.f slices_Index_int_int.f)
theorem index_is (l:List Int) (a:Int) (hl:l.length < 9223372036854775807):∀ (k i:Nat),i<=l.length->l.length - i < k->∃ r:Int,PShapeReducible.slices_Index_int_int.l0 k l a l.length i=some r/\(0<=r↔a∈l.drop i)
 | 0,i,hi,hk=>by omega
 | k+1,i,hi,hk=>by
  unfold PShapeReducible.slices_Index_int_int.l0
  by_cases hlt:i < l.length
  ·have h1:(i:Int) < l.length:=by omega
   have h2:(0:Int)<=i:=by omega
   rw [if_pos h1,if_pos h2,if_pos h1,List.drop_eq_getElem_cons hlt]
   have hrd:rd l i=l[i]:=by simp [rd,hlt]
   by_cases ha:a=l[i]
   ·rw [if_pos (by rw [hrd];exact ha)]
    exact ⟨i,rfl,⟨fun _=>by rw [ha];exact List.mem_cons_self,fun _=>h2⟩⟩
   ·rw [if_neg (by rw [hrd];exact ha)]
    have hw:wrap64 ((i:Int)+1)=((i+1:Nat):Int):=by unfold wrap64;omega
    rw [hw]
    obtain ⟨r,e1,e2⟩:=index_is l a hl k (i+1) (by omega) (by omega)
    exact ⟨r,e1,by rw [e2,List.mem_cons];exact ⟨.inr,fun h=>h.resolve_left ha⟩⟩
  ·obtain rfl:i=l.length:=by omega
   rw [if_neg (by omega)]
   exact ⟨-1,rfl,by simp⟩
theorem contains_is (l:List Int) (a:Int) (hl:l.length < 9223372036854775807):slices_Contains_int_int.f (l.length+1) l a=some (l.contains a):=by
 obtain ⟨r,e1,e2⟩:=index_is l a hl (l.length+1) 0 (Nat.zero_le _) (by omega)
 simp only [slices_Contains_int_int.f,slices_Index_int_int.f]
 rw [show (0:Int)=((0:Nat):Int) from rfl,e1]
 simp only [Option.bind_some,Option.some.injEq]
 rw [List.drop_zero] at e2
 by_cases h:a∈l
 ·have:=e2.2 h
  simp [h,this]
 ·have:¬ 0<=r:=fun h'=>h (e2.1 h')
  simp [h,this]
theorem contains_any (w:World) (A:Option Addr) (c:Nat) (l:List Int) (a:Int) (hC:kI.C w A l.length l) (hc:l.length<=c) (hl:l.length<=1000000000) :
  Calls Try.prog 80 #[.slice A l.length c,.int .i64 a] w fun e w'=>e=.returned (.bool (l.contains a))/\Drawn0 w w' :=
 PShapeReducible.slices_Contains_int_int.calls (l.length+1) A c l a _ w hC hc (contains_is l a (by omega))
theorem own_lit1 (w:World) (base:Nat) (x:Int) (hb:base<=w.heap.size):(w.alloc (.cells #[.int .i64 x] 3)).ownsRow base 3 1 (.slice (some ⟨w.heap.size,0,none⟩) 1 1) [x].length (nums .i64 [x]) :=
 ⟨by simp [nums],.inr ⟨w.heap.size,1,#[.int .i64 x],rfl,hb,heap_alloc_new _ _,Nat.le_refl _,by simp [maxLen],by simp,by simp [nums]⟩⟩
theorem C_lit1 (w:World) (x:Int):kI.C (w.alloc (.cells #[.int .i64 x] 3)) (some ⟨w.heap.size,0,none⟩) 1 [x]:=by
 obtain ⟨A,c,e,_,h⟩:=own_C (own_lit1 w w.heap.size x (Nat.le_refl _))
 cases e
 exact h
structure EntSt (w0 w:World) (bl:Nat) (live:List (Int × Bool)) (v:Value) (out:List Int):Prop where
 hl:w.heap[bl]?=some (mB live)
 ho:w.ownsRow w0.heap.size 3 1 v out.length (nums .i64 out)
 hb:Below w0.heap.size w0 w
theorem EntSt.same {w0 w w':World} {bl:Nat} {live:List (Int × Bool)} {v:Value} {out:List Int} (h:EntSt w0 w bl live v out) (k:Same w w'):EntSt w0 w' bl live v out :=
 ⟨k.blk h.hl,own_move h.ho (fun i _=>by rw [k.heap]),h.hb.trans (k.hb.mono h.hb.size)⟩
theorem Drawn0.same {w w':World} (h:Drawn0 w w'):Same w w':=⟨h.below,by obtain ⟨n,rfl⟩:=h.out;rfl⟩
set_option maxRecDepth 100000 in
set_option maxHeartbeats 4000000 in
theorem entries_any (w:World) (bs bin:Nat) (As A:Option Addr) (cs c:Nat) (succ:List (List Int)) (inside:List (Int × Bool)) (part r:List Int) (k:Nat)
  (h1:w.cell? ⟨bs,0,none⟩=some (.slice As succ.length cs)) (h2:kG.C w As succ.length succ) (hcs:succ.length<=cs) (h3:w.heap[bin]?=some (mB inside)) (hC:kI.C w A part.length part) (hl:part.length<=1000000) (hsl:succ.length<=1000000) (hrows:∀ l∈succ,l.length<=1000000000) (h:entriesF k succ part inside=some r) :
  Calls Try.prog 59 #[.pointer (some ⟨bs,0,none⟩),.slice A part.length c,.map (some bin)] w fun e w'=>∃ v,e=.returned v/\kI.R 3 w' w.heap.size (fun _=>True) v r/\Below w.heap.size w w':=by
 have HC:=ak_ hC
 have H1:=ak_ h1
 have H2:=ak_ h2
 have H3:=ak_ h3
 have HR:=ak_ hrows
 have hmk:=print_make_of (P:=Try.prog) 23 3 (.int .i64 0) 8 Try.underlying23 PShapeReducible.info3 rfl (by decide) succ.length (by omega)
 obtain ⟨live,hlive,hr⟩:=Option.map_eq_some_iff.1 h
 have HL:=ak_ hlive
 have HF:=ak_ hr
 clear hC h h2 h3 hlive hr hrows
 go_enter Try.func59,Try.ntmps59
 go_wp2
 clear hmk h1
 have A0:(w.alloc (.cells (madeCells #[.int .i64 0] succ.length) 3)).ownsRow w.heap.size 3 1 (.slice (some ⟨w.heap.size,0,none⟩) succ.length succ.length) succ.length (nums .i64 (List.replicate succ.length 0)):=by
  have:=own_made_of (enc:=Value.int .i64) (d:=0) w w.heap.size 3 succ.length (Nat.le_refl _) (by omega)
  simpa [nums,encs] using this
 have A0':=ak_ A0
 have B0:=ak_ (show Below w.heap.size w (w.alloc (.cells (madeCells #[.int .i64 0] succ.length) 3)) from (Below.refl _ _).alloc (Nat.le_refl _) _)
 clear A0
 go_loopw [24] (fun t wr=>∃ i:Nat,t=.int .i64 i/\i<=succ.length/\Aside0 (wr.ownsRow w.heap.size 3 1 (.slice (some ⟨w.heap.size,0,none⟩) succ.length succ.length) succ.length (nums .i64 (rangeI i++List.replicate (succ.length - i) 0)))/\Aside0 (Below w.heap.size w wr)) (fun t _=>succ.length - (intOf t).toNat)
 case atStart=>exact ⟨0,rfl,Nat.zero_le _,by simpa [rangeI] using A0',B0⟩
 case round =>
  obtain ⟨i,rfl,hi,hO,hB⟩:=hrel
  by_cases hlt:i < succ.length
  ·have f1:wr.cell? ⟨w.heap.size,i,none⟩=some (.int .i64 0):=own_cell hO.out i hlt (by rw [nums,List.map_append,List.getElem?_append_right (by simp [rangeI]),List.map_replicate,List.getElem?_replicate,if_pos (by simp [rangeI];omega)])
   have f2:wr.frozen? ⟨w.heap.size,i,none⟩=false:=hO.out.frozenAt i
   have O5:=ak_ (show (wr.setCell ⟨w.heap.size,i,none⟩ (.int .i64 i)).ownsRow w.heap.size 3 1 (.slice (some ⟨w.heap.size,0,none⟩) succ.length succ.length) succ.length (nums .i64 (rangeI (i+1)++List.replicate (succ.length - (i+1)) 0)) by
    have:=(hO.out.stored i (.int .i64 i)).1
    have e:succ.length - i=succ.length - (i+1)+1:=by omega
    rw [e,List.replicate_succ] at this
    simpa [nums,rangeI,List.range_succ] using this)
   have B5:=ak_ (hB.out.setCell (p:=⟨w.heap.size,i,none⟩) (Nat.le_refl _) (.int .i64 i))
   have hlt':(i:Int) < succ.length:=by omega
   go_wp2
   go_roundw
   case rel=>exact ⟨i+1,by go_num,by omega,O5,B5⟩
   case measure=>simp [intOf];omega
  ·obtain rfl:i=succ.length:=by omega
   have OA:=ak_ (show wr.ownsRow w.heap.size 3 1 (.slice (some ⟨w.heap.size,0,none⟩) succ.length succ.length) (rangeI succ.length).length (nums .i64 (rangeI succ.length)) by simpa [rangeI] using hO.out)
   have hrl:(rangeI succ.length).length=succ.length:=by simp [rangeI]
   obtain ⟨Aa,ca,hea,_,hCa⟩:=own_C OA.out
   simp only [hrl,Value.slice.injEq,true_and] at hea
   obtain ⟨rfl,rfl⟩:=hea
   have CA:=ak_ hCa
   have HRL:=ak_ hrl
   clear hrl hCa
   go_wp2_with (first
    | (go_at_call 40;refine (HRL.out ▸ (set_any _ _ succ.length (rangeI succ.length) (-1) (Kd.C_below CA.out ((Below.refl _ _).alloc (Nat.le_refl _) (.cells #[.int .i64 0] 3))))).mono ?_;rintro e w2 ⟨bset,rfl,hset,hbset,hb2⟩;have hBW:Below w.heap.size w w2:=(hB.out.alloc hB.out.size _).trans (hb2.mono (by simp;have:=hB.out.size;omega));have S2:=ak_ hset;have BW:=ak_ hBW;have L2:=ak_ (Kd.C_below (C_lit1 wr 0) hb2);clear hset hb2 hBW)
    | (go_at_call 61;refine (reachable_any w2 bs bset As _ cs 1 succ _ [0] live k (pw_cell_below BW.out H1.out) (Kd.C_below H2.out BW.out) S2.out L2.out (by simp) HL.out).mono ?_;rintro e w3 ⟨bl,rfl,hbl,hbl0,hb3⟩;have E3:=ak_ (show EntSt w w3 bl live (.slice none 0 0) [] from ⟨hbl,own_nil _ _ _ _,BW.out.trans (hb3.mono BW.out.size)⟩);clear hbl hb3))
   clear CA OA hbl0
   go_loopw [10,39] (fun v10 t wr=>∃ i:Nat,t=.int .i64 i/\i<=part.length/\Aside0 (EntSt w wr bl live v10 ((part.take i).filter (outsideB succ live inside)))) (fun _ t _=>part.length - (intOf t).toNat)
   case atStart=>exact ⟨0,rfl,Nat.zero_le _,by simpa using E3⟩
   case round =>
    obtain ⟨i,rfl,hi,hE⟩:=hrel
    obtain ⟨A10,c10,rfl⟩:=own_slice hE.out.ho
    by_cases hlt:i < part.length
    ·obtain ⟨ad,rfl,e1⟩:=C_num (Kd.C_below HC.out hE.out.hb) i hlt
     obtain ⟨n,hn⟩:∃ n,n=part.getD i 0:=⟨_,rfl⟩
     rw [<-hn] at e1
     have k1:wr.cell? ⟨bs,0,none⟩=some (.slice As succ.length cs):=pw_cell_below hE.out.hb H1.out
     have hlt':(i:Int) < part.length:=by omega
     have HN:=ak_ hn
     clear hn
     go_wp2
     clear e1 k1
     obtain ⟨F,hF⟩:∃ F:Nat->Bool,F=fun (m:Nat)=>mB0 live m && !mB0 inside m && (succ.getD m []).contains n:=⟨_,rfl⟩
     have HFF:=ak_ hF
     clear hF
     go_loopw [13,50] (fun v13 t wq=>∃ (j:Nat) (b:Bool),v13=.bool b/\t=.int .i64 j/\j<=succ.length/\Aside0 (b=(decide (n=0) || (List.range j).any F))/\Aside0 (EntSt w wq bl live (.slice A10 ((part.take i).filter (outsideB succ live inside)).length c10) ((part.take i).filter (outsideB succ live inside)))) (fun _ t _=>succ.length - (intOf t).toNat)
     case atStart=>exact ⟨0,decide (n=0),by first | rfl | (by_cases h0:n=0 <;> simp [h0]),rfl,Nat.zero_le _,⟨by simp⟩,hE⟩
     case round =>
      obtain ⟨j,b,rfl,rfl,hj,hb,hE2⟩:=hrel
      by_cases hjl:j < succ.length
      ·obtain ⟨ad2,A0,c0,rfl,g1,g2,g3⟩:=C_row (Kd.C_below H2.out hE2.out.hb) j hjl
       obtain ⟨l,hl'⟩:∃ l,l=succ.getD j []:=⟨_,rfl⟩
       rw [<-hl'] at g1 g2 g3
       have hll:l.length<=1000000000:=HR.out l (by rw [hl',List.getD_eq_getElem?_getD,List.getElem?_eq_getElem hjl];exact List.getElem_mem hjl)
       have hjl':(j:Int) < succ.length:=by omega
       have HFJ:F j=(mB0 live j && !mB0 inside j && l.contains n):=by rw [HFF.out,hl']
       have hstep:∀ b':Bool,b'=(b || F j)->b'=(decide (n=0) || (List.range (j+1)).any F):=by
        intro b' hb'
        rw [hb',hb.out,List.range_succ,List.any_append]
        simp [Bool.or_assoc]
       have ST:=ak_ hstep
       have L1:=look_B hE2.out.hl (j:Int)
       have L2:=look_B (blk_below H3.out hE2.out.hb) (j:Int)
       have G3:=ak_ g3
       have G2:=ak_ g2
       have HFJ:=ak_ HFJ
       clear hstep hl' g2 g3
       cases b with
       | true =>
        clear L1 L2
        go_wp2
        go_roundw
        case rel=>exact ⟨j+1,true,rfl,by go_num,by omega,⟨ST.out _ (by simp)⟩,hE2⟩
        case measure=>simp [intOf];omega
       | false =>
        cases q1:mB0 live j with
        | false =>
         rw [q1] at L1
         have E:=ak_ (show F j=false by rw [HFJ.out,q1];rfl)
         clear q1
         go_wp2
         go_roundw
         case rel=>exact ⟨j+1,false,rfl,by go_num,by omega,⟨ST.out _ (by rw [E.out];rfl)⟩,hE2⟩
         case measure=>simp [intOf];omega
        | true =>
         rw [q1] at L1
         cases q2:mB0 inside j with
         | true =>
          rw [q2] at L2
          have E:=ak_ (show F j=false by rw [HFJ.out,q1,q2];rfl)
          clear q1 q2
          go_wp2
          go_roundw
          case rel=>exact ⟨j+1,false,rfl,by go_num,by omega,⟨ST.out _ (by rw [E.out];rfl)⟩,hE2⟩
          case measure=>simp [intOf];omega
         | false =>
          rw [q2] at L2
          have E:=ak_ (show F j=l.contains n by rw [HFJ.out,q1,q2];rfl)
          obtain ⟨r5,hr5⟩:∃ r5,r5=l.contains n:=⟨_,rfl⟩
          have HR5:=ak_ hr5
          clear q1 q2 hr5
          go_wp2_with (go_at_call 80;refine (contains_any _ A0 c0 l n G3.out G2.out hll).mono ?_;rintro e w4 ⟨rfl,hd⟩;rw [<-HR5.out];have E4:=ak_ (hE2.out.same (Drawn0.same hd));clear hd)
          all_goals go_roundw
          case rel=>exact ⟨j+1,r5,rfl,by go_num,by omega,⟨ST.out _ (by rw [E.out,HR5.out];rfl)⟩,E4⟩
          case measure=>simp [intOf];omega
      ·obtain rfl:j=succ.length:=by omega
       have hout:b=outsideB succ live inside n:=by rw [hb.out,HFF.out];rfl
       have hlen:((part.take i).filter (outsideB succ live inside)).length<=1000000:=Nat.le_trans (List.length_filter_le _ _) (by simp;omega)
       have htake:(part.take (i+1)).filter (outsideB succ live inside)=(part.take i).filter (outsideB succ live inside)++[n].filter (outsideB succ live inside):=by
        rw [List.take_succ_eq_append_getElem hlt,List.filter_append,show part[i]=n by rw [HN.out];simp [List.getD_eq_getElem?_getD,hlt]]
       obtain ⟨out,hO⟩:∃ out,out=(part.take i).filter (outsideB succ live inside):=⟨_,rfl⟩
       rw [<-hO] at hlen htake hE2 ⊢
       cases b with
       | true =>
        have HT:=ak_ (show (part.take (i+1)).filter (outsideB succ live inside)=out++[n] by rw [htake];simp [<-hout])
        clear htake hout hO hb
        go_wp2_with (first
         | ((with_reducible refine gate_dst (N:=77) rfl ?_);refine print_append_cells (w0:=w) w.heap.size rfl (.tmp 74) (.tmp 76) 23 3 (.int .i64 0) 1 8 rfl Try.underlying23 PShapeReducible.info3 rfl (by decide) (by decide) _ out.length (nums .i64 out) [.int .i64 n] rfl rfl rfl (by simp [Value.oneCell']) hE2.out.ho hE2.out.hb hE2.out.hb.size (by omega) ?_;intro v5 w5 ho5 hb5 hg5 _;obtain ⟨A5,c5,rfl⟩:=own_slice ho5;have E5:=ak_ (show EntSt w w5 bl live (.slice A5 (out.length+1) c5) (out++[n]) from ⟨(hg5.block _ (blk_lt' hE2.out.hl) (fun e=>by obtain ⟨csx,hcx⟩:=own_typed hE2.out.ho bl e.symm;exact blk_ne_map hcx hE2.out.hl rfl)).trans hE2.out.hl,by simpa [nums] using ho5,hb5⟩);clear ho5 hb5 hg5))
        go_roundw
        case rel=>exact ⟨i+1,by go_num,by omega,⟨by rw [HT.out];exact E5.out⟩⟩
        case measure=>simp [intOf];omega
       | false =>
        have HT:=ak_ (show (part.take (i+1)).filter (outsideB succ live inside)=out by rw [htake];simp [<-hout])
        clear htake hout hO hb
        go_wp2
        go_roundw
        case rel=>exact ⟨i+1,by go_num,by omega,⟨by rw [HT.out];exact hE2.out⟩⟩
        case measure=>simp [intOf];omega
    ·obtain rfl:i=part.length:=by omega
     rw [List.take_length,HF.out] at hE ⊢
     go_wp2
     go_ret
     exact ⟨_,rfl,R_own hE.out.ho,hE.out.hb⟩
end Go.Proofs.Ytfiiihpdekppiaa
end
section
namespace Go.Proofs.Ytfiiihpdekppiaa
open Go.RowKit Go.Proofs Go.Proofs.YtfiiihpdekppiaaW.PrintWords
open Go.ChangeMaps (setBlock heap_setBlock_same heap_setBlock_other)
structure TarB where
 i:Nat
 l:Nat
 st:Nat
 on:Nat
 sp:Nat
 se:Nat
 f:Nat
 o:Nat
 mi:Nat
 ml:Nat
 mo:Nat
 bs:Nat
 mse:Nat
def TarB.fv (B:TarB):Value:=.func (.func 78) #[] #[.pointer (some ⟨B.i,0,none⟩),.pointer (some ⟨B.l,0,none⟩),.pointer (some ⟨B.st,0,none⟩),.pointer (some ⟨B.on,0,none⟩),.pointer (some ⟨B.sp,0,none⟩),.pointer (some ⟨B.se,0,none⟩),.pointer (some ⟨B.f,0,none⟩),.pointer (some ⟨B.o,0,none⟩)]
structure TarSt (w0 w:World) (B:TarB) (ev:List Value) (ex:List (List Int)) (vs vo:Value) (vals rv:List Value) (rx:List (List Int)) (s:Tar):Prop where
 bi:w.heap[B.i]?=some (.cells #[.map (some B.mi)] 97 (0,0))
 bl:w.heap[B.l]?=some (.cells #[.map (some B.ml)] 97 (0,0))
 bst:w.heap[B.st]?=some (.cells #[vs] 23 (0,0))
 bon:w.heap[B.on]?=some (.cells #[.map (some B.mo)] 68 (0,0))
 bsp:w.heap[B.sp]?=some (.cells #[.pointer (some ⟨B.bs,0,none⟩)] 63 (0,0))
 bse:w.heap[B.se]?=some (.cells #[.map (some B.mse)] 68 (0,0))
 bf:w.heap[B.f]?=some (.cells #[B.fv] 109 (0,0))
 bo:w.heap[B.o]?=some (.cells #[vo] 25 (0,0))
 mi:w.heap[B.mi]?=some (mI s.idx)
 ml:w.heap[B.ml]?=some (mI s.low)
 mo:w.heap[B.mo]?=some (mB s.on)
 hout:w.ownsRow w0.heap.size 23 1 vo vals.length vals
 len:vals.length=s.out.length
 hr:Rows3 w w0.heap.size (vs :: (ev++(vals++rv))) (s.st :: (ex++(s.out++rx)))
 elen:ev.length=ex.length
 hb:Below w0.heap.size w0 w
 ne1:B.mi≠B.ml
 ne2:B.mi≠B.mo
 ne3:B.ml≠B.mo
 ne4:vo.ownBlock≠some B.st
 b1:w0.heap.size<=B.st
 b2:w0.heap.size<=B.o
 b3:w0.heap.size<=B.mi
 b4:w0.heap.size<=B.ml
 b5:w0.heap.size<=B.mo
section
variable {w0 w w' : World} {B : TarB} {ev : List Value} {ex : List (List Int)} {vs vo : Value} {vals rv : List Value} {rx : List (List Int)} {s : Tar}
theorem TarSt.stack (h:TarSt w0 w B ev ex vs vo vals rv rx s):w.ownsRow w0.heap.size 3 1 vs s.st.length (nums .i64 s.st):=by
 have:=h.hr.row 0 (by simp);simpa using this
theorem TarSt.keep (h:TarSt w0 w B ev ex vs vo vals rv rx s) (hk:∀ (k:Nat) (o:Obj),w.heap[k]?=some o->w'.heap[k]?=some o) (hb:Below w0.heap.size w0 w'):TarSt w0 w' B ev ex vs vo vals rv rx s where
 bi:=hk _ _ h.bi
 bl:=hk _ _ h.bl
 bst:=hk _ _ h.bst
 bon:=hk _ _ h.bon
 bsp:=hk _ _ h.bsp
 bse:=hk _ _ h.bse
 bf:=hk _ _ h.bf
 bo:=hk _ _ h.bo
 mi:=hk _ _ h.mi
 ml:=hk _ _ h.ml
 mo:=hk _ _ h.mo
 hout:=own_move h.hout (fun k hk'=>by obtain ⟨cs,hc⟩:=own_typed h.hout k hk';rw [hc,hk _ _ hc])
 len:=h.len
 hr:=h.hr.typed (fun k cs hc=>by rw [hc,hk _ _ hc])
 elen:=h.elen
 hb:=hb
 ne1:=h.ne1
 ne2:=h.ne2
 ne3:=h.ne3
 ne4:=h.ne4
 b1:=h.b1
 b2:=h.b2
 b3:=h.b3
 b4:=h.b4
 b5:=h.b5
theorem TarSt.below (h:TarSt w0 w B ev ex vs vo vals rv rx s) (hb:Below w.heap.size w w'):TarSt w0 w' B ev ex vs vo vals rv rx s :=
 h.keep (fun _ _ hk=>blk_below hk hb) (h.hb.trans (hb.mono h.hb.size))
theorem TarSt.drew (h:TarSt w0 w B ev ex vs vo vals rv rx s):TarSt w0 w.drew B ev ex vs vo vals rv rx s:=h.below (Below.refl _ _).drew
theorem TarSt.setm (h:TarSt w0 w B ev ex vs vo vals rv rx s) {b:Nat} {es:Array MapEntry} {ck:Nat} (hm:w.heap[b]?=some (.map es ck)) (hb:w0.heap.size<=b) (o:Obj) {s':Tar} (e1:s'.st=s.st) (e2:s'.out=s.out)
  (h1:(setBlock w b o).heap[B.mi]?=some (mI s'.idx)) (h2:(setBlock w b o).heap[B.ml]?=some (mI s'.low)) (h3:(setBlock w b o).heap[B.mo]?=some (mB s'.on)):TarSt w0 (setBlock w b o) B ev ex vs vo vals rv rx s':=by
 have hk:∀ (k:Nat) (cs:Array Value) (t:TypeId) (fr:Nat × Nat),w.heap[k]?=some (Obj.cells cs t fr)->(setBlock w b o).heap[k]?=some (Obj.cells cs t fr):=fun k cs t fr hk=>(heap_setBlock_other hm _ (blk_ne_map hk hm)).trans hk
 exact ⟨hk _ _ _ _ h.bi,hk _ _ _ _ h.bl,hk _ _ _ _ h.bst,hk _ _ _ _ h.bon,hk _ _ _ _ h.bsp,hk _ _ _ _ h.bse,hk _ _ _ _ h.bf,hk _ _ _ _ h.bo,h1,h2,h3,
  own_move h.hout (fun k hk'=>by obtain ⟨cs,hc⟩:=own_typed h.hout k hk';rw [hc,hk _ _ _ _ hc]),by rw [e2];exact h.len,by rw [e1,e2];exact h.hr.typed (fun k cs hc=>by rw [hc,hk _ _ _ _ hc]),h.elen,
  below_setBlock h.hb hb hm o,h.ne1,h.ne2,h.ne3,h.ne4,h.b1,h.b2,h.b3,h.b4,h.b5⟩
theorem TarSt.putI (h:TarSt w0 w B ev ex vs vo vals rv rx s) (k v:Int):TarSt w0 (setBlock w B.mi (mI (mput s.idx k v))) B ev ex vs vo vals rv rx { s with idx:=mput s.idx k v } :=
 h.setm h.mi h.b3 _ rfl rfl (heap_setBlock_same h.mi _) ((heap_setBlock_other h.mi _ (Ne.symm h.ne1)).trans h.ml) ((heap_setBlock_other h.mi _ (Ne.symm h.ne2)).trans h.mo)
theorem TarSt.putL (h:TarSt w0 w B ev ex vs vo vals rv rx s) (k v:Int):TarSt w0 (setBlock w B.ml (mI (mput s.low k v))) B ev ex vs vo vals rv rx { s with low:=mput s.low k v } :=
 h.setm h.ml h.b4 _ rfl rfl ((heap_setBlock_other h.ml _ h.ne1).trans h.mi) (heap_setBlock_same h.ml _) ((heap_setBlock_other h.ml _ (Ne.symm h.ne3)).trans h.mo)
theorem TarSt.putO (h:TarSt w0 w B ev ex vs vo vals rv rx s) (k:Int) (v:Bool):TarSt w0 (setBlock w B.mo (mB (mput s.on k v))) B ev ex vs vo vals rv rx { s with on:=mput s.on k v } :=
 h.setm h.mo h.b5 _ rfl rfl ((heap_setBlock_other h.mo _ h.ne2).trans h.mi) ((heap_setBlock_other h.mo _ h.ne3).trans h.ml) (heap_setBlock_same h.mo _)
theorem put_I {w:World} {b:Nat} {m:List (Int × Int)} (h:w.heap[b]?=some (mI m)) (k v:Int):(Instr.mapUpdate 97 (.map (some b)) (.int .i64 k) (.int .i64 v)).run Try.prog w=.ok () (setBlock w b (mI (mput m k v))):=by
 rw [run_put Try.underlying97 Try.underlying3 h]
 congr 2
 unfold mI
 rw [<-mput_map]
theorem grown_map {w w1:World} {base n k:Nat} {e:TypeId} {size:Nat} {v:Value} {xs:List Value} {es:Array MapEntry} {ck:Nat} (hg:w.grownBy w1 v.ownBlock) (ho:w.ownsRow base e size v n xs) (hb:w.heap[k]?=some (.map es ck)):w1.heap[k]?=some (.map es ck) :=
 (hg.block k (blk_lt' hb) (fun e'=>by obtain ⟨cs,hc⟩:=own_typed ho k e'.symm;exact blk_ne_map hc hb rfl)).trans hb
theorem TarSt.stored (h:TarSt w0 w B ev ex vs vo vals rv rx s) {w6:World} {v6:Value} {st':List Int} (hg:w.grownBy w6 vs.ownBlock) (ho:w6.ownsRow w0.heap.size 3 1 v6 st'.length (nums .i64 st')) (hat:v6.ownBlock=vs.ownBlock∨∃ b,v6.ownBlock=some b/\w.heap.size<=b) :
  TarSt w0 (w6.setCell ⟨B.st,0,none⟩ v6) B ev ex v6 vo vals rv rx { s with st:=st' }:=by
 have hs:=h.stack
 have q:∀ (k:Nat) (cs:Array Value) (t:TypeId) (fr:Nat × Nat),w.heap[k]?=some (Obj.cells cs t fr)->t≠3->w6.heap[k]?=some (Obj.cells cs t fr):=fun k cs t fr hk ht=>grown_blk hg hs hk (Ne.symm ht)
 have q6:=q _ _ _ _ h.bst (by decide)
 have q':∀ (k:Nat) (cs:Array Value) (t:TypeId) (fr:Nat × Nat),w.heap[k]?=some (Obj.cells cs t fr)->t≠3->t≠23->(w6.setCell ⟨B.st,0,none⟩ v6).heap[k]?=some (Obj.cells cs t fr):=fun k cs t fr hk ht h23 =>
  set_blk (q k cs t fr hk ht) (blk_ne' (q k cs t fr hk ht) q6 h23)
 have qm:∀ (k:Nat) (es:Array MapEntry) (ck:Nat),w.heap[k]?=some (Obj.map es ck)->(w6.setCell ⟨B.st,0,none⟩ v6).heap[k]?=some (Obj.map es ck):=fun k es ck hk =>
  set_blk (grown_map hg hs hk) (fun e=>blk_ne_map q6 (grown_map hg hs hk) e.symm)
 have hr6:Rows3 w6 w0.heap.size (v6 :: (ev++(vals++rv))) (st' :: (ex++(s.out++rx))):=by
  have:=h.hr.turned (i:=0) (by simp) (v':=v6) (xs':=st') ho (by simpa using hg) (by simpa using hat)
  simpa using this
 refine ⟨q' _ _ _ _ h.bi (by decide) (by decide),q' _ _ _ _ h.bl (by decide) (by decide),?_,q' _ _ _ _ h.bon (by decide) (by decide),q' _ _ _ _ h.bsp (by decide) (by decide),q' _ _ _ _ h.bse (by decide) (by decide),q' _ _ _ _ h.bf (by decide) (by decide),q' _ _ _ _ h.bo (by decide) (by decide),qm _ _ _ h.mi,qm _ _ _ h.ml,qm _ _ _ h.mo,?_,h.len,hr6.setCell q6 (by decide) v6,h.elen,?_,h.ne1,h.ne2,h.ne3,h.ne4,h.b1,h.b2,h.b3,h.b4,h.b5⟩
 ·rw [set_here q6];rfl
 ·exact set_row (grown_row hg hs h.hout (by decide)) h.ne4
 ·exact (h.hb.grown hg h.hb.size (fun k hk=>own_base hs k hk)).setCell (p:=⟨B.st,0,none⟩) h.b1 v6
theorem TarSt.newrow (h:TarSt w0 w B ev ex vs vo vals [] [] s) (hb:Below w.heap.size w w') {vp:Value} {xs:List Int} (ho:w'.ownsRow w0.heap.size 3 1 vp xs.length (nums .i64 xs)) (hn:∀ k,vp.ownBlock=some k->w.heap.size<=k):TarSt w0 w' B ev ex vs vo vals [vp] [xs] s:=by
 have h':=h.below hb
 have hr:=h.hr.push_new hb ho hn
 simp only [List.append_nil,List.cons_append,List.append_assoc] at hr
 exact ⟨h'.bi,h'.bl,h'.bst,h'.bon,h'.bsp,h'.bse,h'.bf,h'.bo,h'.mi,h'.ml,h'.mo,h'.hout,h'.len,by simpa using hr,h'.elen,h'.hb,h'.ne1,h'.ne2,h'.ne3,h'.ne4,h'.b1,h'.b2,h'.b3,h'.b4,h'.b5⟩
theorem TarSt.part {vp:Value} {xs:List Int} (h:TarSt w0 w B ev ex vs vo vals [vp] [xs] s):w.ownsRow w0.heap.size 3 1 vp xs.length (nums .i64 xs):=by
 have hlen:=h.len
 have hel:=h.elen
 have e1:vs :: (ev++(vals++[vp]))=(vs :: (ev++vals))++[vp]:=by simp
 have e2:s.st :: (ex++(s.out++[xs]))=(s.st :: (ex++s.out))++[xs]:=by simp
 have h0:=h.hr
 rw [e1,e2] at h0
 have hlv:(vs :: (ev++vals)).length=(s.st :: (ex++s.out)).length:=by simp [hel,hlen]
 have hs:=h0.row (vs :: (ev++vals)).length (by simp)
 rw [getD_snoc_new] at hs
 rw [hlv,getD_snoc_new] at hs
 exact hs
theorem TarSt.turned {vp:Value} {xs xs':List Int} (h:TarSt w0 w B ev ex vs vo vals [vp] [xs] s) (hg:w.grownBy w' vp.ownBlock) (ho:w'.ownsRow w0.heap.size 3 1 vp xs'.length (nums .i64 xs')):TarSt w0 w' B ev ex vs vo vals [vp] [xs'] s:=by
 have hlen:=h.len
 have hel:=h.elen
 have hs:=h.part
 have q:∀ (k:Nat) (cs:Array Value) (t:TypeId) (fr:Nat × Nat),w.heap[k]?=some (Obj.cells cs t fr)->t≠3->w'.heap[k]?=some (Obj.cells cs t fr):=fun k cs t fr hk ht=>grown_blk hg hs hk (Ne.symm ht)
 have hr6:Rows3 w' w0.heap.size (vs :: (ev++(vals++[vp]))) (s.st :: (ex++(s.out++[xs']))):=by
  have e1:vs :: (ev++(vals++[vp]))=(vs :: (ev++vals))++[vp]:=by simp
  have e2:∀ y,s.st :: (ex++(s.out++[y]))=(s.st :: (ex++s.out))++[y]:=by simp
  have h0:=h.hr
  rw [e1,e2] at h0
  rw [e1,e2]
  have hlv:(vs :: (ev++vals)).length=(s.st :: (ex++s.out)).length:=by simp [hel,hlen]
  have:=h0.turned (i:=(vs :: (ev++vals)).length) (by simp) (v':=vp) (xs':=xs') ho (by rw [getD_snoc_new];exact hg) (by rw [getD_snoc_new];exact .inl rfl)
  have s1:∀ {α:Type} (l:List α) (a b:α),(l++[a]).set l.length b=l++[b]:=by intro α l a b;rw [List.set_append_right _ _ (Nat.le_refl _)];simp
  rw [s1] at this
  rw [hlv,s1] at this
  exact this
 exact ⟨q _ _ _ _ h.bi (by decide),q _ _ _ _ h.bl (by decide),q _ _ _ _ h.bst (by decide),q _ _ _ _ h.bon (by decide),q _ _ _ _ h.bsp (by decide),q _ _ _ _ h.bse (by decide),q _ _ _ _ h.bf (by decide),q _ _ _ _ h.bo (by decide),grown_map hg hs h.mi,grown_map hg hs h.ml,grown_map hg hs h.mo,
  grown_row hg hs h.hout (by decide),h.len,hr6,h.elen,h.hb.grown hg h.hb.size (fun k hk=>own_base hs k hk),h.ne1,h.ne2,h.ne3,h.ne4,h.b1,h.b2,h.b3,h.b4,h.b5⟩
theorem TarSt.added {vp:Value} {xs:List Int} (h:TarSt w0 w B ev ex vs vo vals [vp] [xs] s) {w6:World} {v6:Value} (hg:w.grownBy w6 vo.ownBlock) (ho:w6.ownsRow w0.heap.size 23 1 v6 (vals++[vp]).length (vals++[vp])) (hat:v6.ownBlock=vo.ownBlock∨∃ b,v6.ownBlock=some b/\w.heap.size<=b) :
  TarSt w0 (w6.setCell ⟨B.o,0,none⟩ v6) B ev ex vs v6 (vals++[vp]) [] [] { s with out:=s.out++[xs] }:=by
 have hs:=h.hout
 have q:∀ (k:Nat) (cs:Array Value) (t:TypeId) (fr:Nat × Nat),w.heap[k]?=some (Obj.cells cs t fr)->t≠23->w6.heap[k]?=some (Obj.cells cs t fr):=fun k cs t fr hk ht=>grown_blk hg hs hk (Ne.symm ht)
 have q6:=q _ _ _ _ h.bo (by decide)
 have q':∀ (k:Nat) (cs:Array Value) (t:TypeId) (fr:Nat × Nat),w.heap[k]?=some (Obj.cells cs t fr)->t≠23->t≠25->(w6.setCell ⟨B.o,0,none⟩ v6).heap[k]?=some (Obj.cells cs t fr):=fun k cs t fr hk ht h23 =>
  set_blk (q k cs t fr hk ht) (blk_ne' (q k cs t fr hk ht) q6 h23)
 have qm:∀ (k:Nat) (es:Array MapEntry) (ck:Nat),w.heap[k]?=some (Obj.map es ck)->(w6.setCell ⟨B.o,0,none⟩ v6).heap[k]?=some (Obj.map es ck):=fun k es ck hk =>
  set_blk (grown_map hg hs hk) (fun e=>blk_ne_map q6 (grown_map hg hs hk) e.symm)
 have hst6:w6.heap[B.st]?=some (.cells #[vs] 23 (0,0)):=(hg.block _ (blk_lt' h.bst) (fun e=>h.ne4 e.symm)).trans h.bst
 have hr6:Rows3 w6 w0.heap.size (vs :: (ev++(vals++[vp]))) (s.st :: (ex++(s.out++[xs]))):=h.hr.other hg hs (by decide)
 refine ⟨q' _ _ _ _ h.bi (by decide) (by decide),q' _ _ _ _ h.bl (by decide) (by decide),set_blk hst6 (blk_ne' hst6 q6 (by decide)),q' _ _ _ _ h.bon (by decide) (by decide),q' _ _ _ _ h.bsp (by decide) (by decide),q' _ _ _ _ h.bse (by decide) (by decide),q' _ _ _ _ h.bf (by decide) (by decide),?_,qm _ _ _ h.mi,qm _ _ _ h.ml,qm _ _ _ h.mo,?_,by simp [h.len],by simpa using hr6.setCell q6 (by decide) v6,h.elen,?_,h.ne1,h.ne2,h.ne3,?_,h.b1,h.b2,h.b3,h.b4,h.b5⟩
 ·rw [set_here q6];rfl
 ·refine set_row ho (fun e=>?_)
  obtain ⟨cs,hc⟩:=own_typed ho B.o e
  rw [q6] at hc
  cases hc
 ·exact (h.hb.grown hg h.hb.size (fun k hk=>own_base hs k hk)).setCell (p:=⟨B.o,0,none⟩) h.b2 v6
 ·rcases hat with e | ⟨b,e,hb⟩
  ·rw [e];exact h.ne4
  ·rw [e]
   intro e'
   have:=blk_lt' h.bst
   simp only [Option.some.injEq] at e'
   omega
end
theorem len_I {w:World} {b:Nat} {m:List (Int × Int)} (h:w.heap[b]?=some (mI m)) (ty:TypeId):(Builtin.len_ #[97] ty #[.map (some b)]).run Try.prog w=.ok (.int .i64 m.length) w:=by
 rw [run_mlen h Try.underlying97]
 simp
theorem look_I2 {w:World} {b:Nat} {m:List (Int × Int)} (h:w.heap[b]?=some (mI m)) (k:Int):(Instr.lookup 97 (.map (some b)) (.int .i64 k) true).run Try.prog w=.ok (.tuple #[.int .i64 (mI0 m k),.bool (mget m k).isSome]) w:=by
 rw [run_look_ok Try.underlying97 Try.underlying3 h zero3]
 congr 1
 rw [mget_map,mI0]
 cases mget m k <;> rfl
theorem index_eq (l:List Int) (a:Int) (hl:l.length < 9223372036854775807) (ha:a∈l):PShapeReducible.slices_Index_int_int.f (l.length+1) l a=some ((l.idxOf a:Nat):Int):=by
 have key:∀ (k i:Nat),i<=l.length->l.length - i < k->a∈l.drop i->PShapeReducible.slices_Index_int_int.l0 k l a l.length i=some ((i+(l.drop i).idxOf a:Nat):Int):=by
  intro k
  induction k with
  | zero=>intro i hi hk;omega
  | succ k ih =>
   intro i hi hk hm
   unfold PShapeReducible.slices_Index_int_int.l0
   have hlt:i < l.length:=by
    rcases Nat.lt_or_ge i l.length with h | h
    ·exact h
    ·rw [List.drop_of_length_le h] at hm;cases hm
   have h1:(i:Int) < l.length:=by omega
   have h2:(0:Int)<=i:=by omega
   rw [if_pos h1,if_pos h2,if_pos h1]
   rw [List.drop_eq_getElem_cons hlt] at hm ⊢
   have hrd:rd l i=l[i]:=by simp [rd,hlt]
   by_cases hx:a=l[i]
   ·rw [if_pos (by rw [hrd];exact hx),<-hx,List.idxOf_cons_self,Nat.add_zero]
   ·rw [if_neg (by rw [hrd];exact hx)]
    have hw:wrap64 ((i:Int)+1)=((i+1:Nat):Int):=by unfold wrap64;omega
    have hm':a∈l.drop (i+1):=by rcases List.mem_cons.1 hm with h | h;exact absurd h hx;exact h
    have hne:(l[i] == a)=false:=by simp [Ne.symm hx]
    rw [hw,ih (i+1) (by omega) (by omega) hm',List.idxOf_cons,hne]
    simp only [cond_false]
    congr 2
    omega
 have:=key (l.length+1) 0 (Nat.zero_le _) (by omega) (by simpa using ha)
 simpa [PShapeReducible.slices_Index_int_int.f] using this
theorem index_any (w:World) (A:Option Addr) (c:Nat) (l:List Int) (a:Int) (hC:kI.C w A l.length l) (hc:l.length<=c) (hl:l.length<=1000000000) (ha:a∈l) :
  Calls Try.prog 79 #[.slice A l.length c,.int .i64 a] w fun e w'=>e=.returned (.int .i64 (l.idxOf a:Nat))/\Drawn0 w w' :=
 PShapeReducible.slices_Index_int_int.calls (l.length+1) A c l a _ w hC hc (index_eq l a (by omega) ha)
theorem own_takeN {w:World} {base c k:Nat} {A:Option Addr} {xs:List Int} (h:w.ownsRow base 3 1 (.slice A xs.length c) xs.length (nums .i64 xs)) (hk:k<=xs.length):w.ownsRow base 3 1 (.slice A k c) (xs.take k).length (nums .i64 (xs.take k)):=by
 have:=own_take h hk
 rw [Nat.mul_one] at this
 have e:(xs.take k).length=k:=by rw [List.length_take];omega
 rw [e]
 simpa [nums,List.map_take] using this
theorem Rows3.front {w:World} {base:Nat} {vs:List Value} {xss:List (List Int)} {v:Value} {x:List Int} (h:Rows3 w base (vs++[v]) (xss++[x])):Rows3 w base vs xss:=by
 have hl:=h.len
 simp only [List.length_append,List.length_singleton] at hl
 refine ⟨by omega,fun i hi=>?_,fun i j hi hj hne=>?_⟩
 ·have:=h.row i (by simp;omega)
  rw [getD_snoc_old hi,getD_snoc_old (by omega)] at this
  exact this
 ·have:=h.apart i j (by simp;omega) (by simp;omega) hne
  rw [getD_snoc_old hi,getD_snoc_old hj] at this
  exact this
theorem TarSt.lose {w0 w:World} {B:TarB} {ev:List Value} {ex:List (List Int)} {vs vo vp:Value} {vals:List Value} {xs:List Int} {s:Tar} (h:TarSt w0 w B ev ex vs vo vals [vp] [xs] s):TarSt w0 w B ev ex vs vo vals [] [] s:=by
 have hr:Rows3 w w0.heap.size (vs :: (ev++vals)) (s.st :: (ex++s.out)):=Rows3.front (v:=vp) (x:=xs) (by have:=h.hr;simpa using this)
 exact ⟨h.bi,h.bl,h.bst,h.bon,h.bsp,h.bse,h.bf,h.bo,h.mi,h.ml,h.mo,h.hout,h.len,by simpa using hr,h.elen,h.hb,h.ne1,h.ne2,h.ne3,h.ne4,h.b1,h.b2,h.b3,h.b4,h.b5⟩
structure TarRd (w0:World) (B:TarB) (As:Option Addr) (cs:Nat) (succ:List (List Int)) (set:List (Int × Bool)):Prop where
 hs:w0.cell? ⟨B.bs,0,none⟩=some (.slice As succ.length cs)
 hg:kG.C w0 As succ.length succ
 he:w0.heap[B.mse]?=some (mB set)
 hl:∀ l∈succ,l.length<=1000000000
 hc:∀ i,i < succ.length->True
set_option maxRecDepth 100000 in
set_option maxHeartbeats 4000000 in
theorem visit_any (w0:World) (B:TarB) (ev:List Value) (ex:List (List Int)) (As:Option Addr) (cs:Nat) (succ:List (List Int)) (set:List (Int × Bool)) (hrd:TarRd w0 B As cs succ set):∀ (k:Nat) (s s':Tar) (n:Int) (w:World) (vs vo:Value) (vals:List Value),
  TarSt w0 w B ev ex vs vo vals [] [] s->tarVisit succ set k s n=some s' ->
  Calls Try.prog 78 #[.int .i64 n,.pointer (some ⟨B.i,0,none⟩),.pointer (some ⟨B.l,0,none⟩),.pointer (some ⟨B.st,0,none⟩),.pointer (some ⟨B.on,0,none⟩),.pointer (some ⟨B.sp,0,none⟩),.pointer (some ⟨B.se,0,none⟩),.pointer (some ⟨B.f,0,none⟩),.pointer (some ⟨B.o,0,none⟩)] w
   fun e w'=>e=.returned (.tuple #[])/\∃ vs' vo' vals',TarSt w0 w' B ev ex vs' vo' vals' [] [] s':=by
 intro k
 induction k with
 | zero=>intro s s' n w vs vo vals _ h;simp [tarVisit] at h
 | succ k ih =>
 intro s s' n w vs vo vals hst h
 simp only [tarVisit] at h
 by_cases hn:(0<=n/\n < succ.length)/\s.st.length<=1000000
 ·rw [if_pos hn] at h
  obtain ⟨⟨hn0,hn1⟩,hstl⟩:=hn
  obtain ⟨n,rfl⟩:=Int.eq_ofNat_of_zero_le hn0
  rw [Int.toNat_natCast] at h
  obtain ⟨s2,hkids,hrest⟩:=Option.bind_eq_some_iff.1 h
  obtain ⟨L,hL⟩:∃ L:Nat,L=s.idx.length:=⟨_,rfl⟩
  obtain ⟨ad,A0,c0,hAs,g1,g2,g3⟩:=C_row hrd.hg n (by omega)
  subst hAs
  obtain ⟨l,hl⟩:∃ l,l=succ.getD n []:=⟨_,rfl⟩
  rw [<-hl] at hkids hrest g1 g2 g3
  have hll:l.length<=1000000000:=hrd.hl l (by rw [hl,List.getD_eq_getElem?_getD,List.getElem?_eq_getElem (by omega)];exact List.getElem_mem (by omega))
  have G1:=ak_ g1
  have G2:=ak_ g2
  have G3:=ak_ g3
  have hn2:n < succ.length:=by omega
  clear hl g1 g2 g3
  have RD:=ak_ hrd
  have IH:=ak_ ih
  have HK:=ak_ hkids
  have HR:=ak_ hrest
  obtain ⟨wd,hwd⟩:∃ wd,wd=w.drew:=⟨_,rfl⟩
  have T0:TarSt w0 wd B ev ex vs vo vals [] [] s:=by rw [hwd];exact hst.drew
  have T1:=T0.putI n L
  have T2:=T1.putL n L
  have i1:wd.cell? ⟨B.i,0,none⟩=some (.map (some B.mi)):=cell_blk T0.bi rfl
  have i2:wd.cell? ⟨B.l,0,none⟩=some (.map (some B.ml)):=cell_blk T0.bl rfl
  have p1:=put_I T0.mi n L
  have p2:=put_I T1.ml n L
  have l1:=len_I T0.mi 3
  rw [<-hL] at l1
  obtain ⟨w1,hw1⟩:∃ w1,w1=setBlock wd B.mi (mI (mput s.idx n L)):=⟨_,rfl⟩
  obtain ⟨w2,hw2⟩:∃ w2,w2=setBlock w1 B.ml (mI (mput s.low n L)):=⟨_,rfl⟩
  rw [<-hw1] at p1 p2 T1 T2
  simp only at T2
  rw [<-hw2] at p2 T2
  have j0:wd.cell? ⟨B.i,0,none⟩=some (.map (some B.mi))/\wd.cell? ⟨B.l,0,none⟩=some (.map (some B.ml)):=⟨i1,i2⟩
  have j1:w1.cell? ⟨B.i,0,none⟩=some (.map (some B.mi))/\w1.cell? ⟨B.l,0,none⟩=some (.map (some B.ml)):=⟨cell_blk T1.bi rfl,cell_blk T1.bl rfl⟩
  have j2:w2.cell? ⟨B.i,0,none⟩=some (.map (some B.mi))/\w2.cell? ⟨B.l,0,none⟩=some (.map (some B.ml)):=⟨cell_blk T2.bi rfl,cell_blk T2.bl rfl⟩
  have HD:=ak_ hwd
  have TT:=ak_ T2
  have HL:=ak_ hL
  clear hst T0 T1 T2 hwd hw1 hw2 hkids hrest h hL ih hrd
  go_enter Try.func78,Try.ntmps78
  go_wp2_with (first | (refine wp_region_txt (fun W=>W.cell? ⟨B.i,0,none⟩=some (.map (some B.mi))/\W.cell? ⟨B.l,0,none⟩=some (.map (some B.ml))) [0,2,4,6] (by kernel_rfl) (by kernel_rfl) ?_;rw [<-HD.out]))
  iterate 8 ((first | (with_reducible refine wpT_nil ?_) | (refine wpT_W (v:=?_) (by assumption) (by decide) (wn_ rfl) (fun _ hS_=>?_) ?_;rotate_left;(focus ((try dsimp only at hS_);go_simp;rfl))) | (refine wpT_R (v:=?_) (by assumption) (by decide) (wn_ rfl) ?_ ?_;rotate_left;(focus (go_simp;rfl))) | (refine wpT_A (v:=?_) (ob:=?_) (by assumption) (by decide) (wn_ rfl) ?_ ?_ ?_;rotate_left 2;(focus (go_simp;first | (constructor <;> rfl) | rfl));(focus (apply cell_alloc;assumption))));(try simp only [Act.put,sA_,sB_,sC_]))
  refine wpT_L j0 (by decide) (wn_ rfl) (fun K_ hK_=>?_)
  go_simp
  refine hK_ _ _ j1 ?_
  clear hK_
  refine wpT_L j1 (by decide) (wn_ rfl) (fun K_ hK_=>?_)
  go_simp
  refine hK_ _ _ j2 ?_
  clear hK_
  refine wpT_nil ?_
  clear i1 i2 p1 p2 l1 j0 j1 j2
  obtain ⟨A2,c2,rfl⟩:=own_slice TT.out.stack
  have k2:w2.cell? ⟨B.st,0,none⟩=some (.slice A2 s.st.length c2):=cell_blk TT.out.bst rfl
  go_wp2_with (first
   | ((with_reducible refine gate_dst (N:=29) rfl ?_);refine print_append_cells (w0:=w0) w0.heap.size rfl (.tmp 26) (.tmp 28) 23 3 (.int .i64 0) 1 8 rfl Try.underlying23 PShapeReducible.info3 rfl (by decide) (by decide) _ s.st.length (nums .i64 s.st) [.int .i64 n] rfl rfl rfl (by simp [Value.oneCell']) TT.out.stack TT.out.hb TT.out.hb.size (by omega) ?_;intro v3 w3 ho3 hb3 hg3 hat3;obtain ⟨A3,c3,rfl⟩:=own_slice ho3;have q2:w3.cell? ⟨B.st,0,none⟩=some (.slice A2 s.st.length c2):=cell_blk (grown_blk hg3 TT.out.stack TT.out.bst (by decide)) rfl;have q3:w3.frozen? ⟨B.st,0,none⟩=false:=free_blk (grown_blk hg3 TT.out.stack TT.out.bst (by decide));have T3:=TT.out.stored (st':=s.st++[(n:Int)]) hg3 (by simpa [nums] using ho3) hat3;have q4:(w3.setCell ⟨B.st,0,none⟩ (.slice A3 (s.st.length+1) c3)).cell? ⟨B.on,0,none⟩=some (.map (some B.mo)):=cell_blk T3.bon rfl;have p4:=put_B T3.mo (n:Int) true;have T4:=T3.putO (n:Int) true;obtain ⟨w4,hw4⟩:∃ w4,w4=setBlock (w3.setCell ⟨B.st,0,none⟩ (.slice A3 (s.st.length+1) c3)) B.mo (mB (mput s.on n true)):=⟨_,rfl⟩;simp only [<-hw4] at p4 T4;have m1:w4.cell? ⟨B.sp,0,none⟩=some (.pointer (some ⟨B.bs,0,none⟩)):=cell_blk T4.bsp rfl;have m2:w4.cell? ⟨B.bs,0,none⟩=some (.slice (some ad) succ.length cs):=pw_cell_below T4.hb RD.out.hs;have m3:w4.cell? (ad.add n)=some (.slice A0 l.length c0):=pw_cell_below T4.hb G1.out;have TU:=ak_ T4;clear hw4 T3 T4 ho3 hb3 hg3 hat3))
  rw [<-HL.out] at HK
  clear k2 q2 q3 q4 p4 m1 m2 m3
  go_loopw [40] (fun t wr=>∃ (j:Nat) (sc:Tar) (vs vo:Value) (vals:List Value),t=.int .i64 j/\j<=l.length/\Aside0 (tarKids set (tarVisit succ set k) n (l.drop j) sc=some s2)/\Aside0 (TarSt w0 wr B ev ex vs vo vals [] [] sc)) (fun t _=>l.length - (intOf t).toNat)
  case atStart=>exact ⟨0,_,_,_,_,rfl,Nat.zero_le _,by simpa using HK,TU⟩
  case round =>
   obtain ⟨j,sc,vs,vo,vals,rfl,hj,hH,hT⟩:=hrel
   have h1:=hH.out
   by_cases hlt:j < l.length
   ·obtain ⟨m,hm⟩:∃ m,m=l.getD j 0:=⟨_,rfl⟩
    rw [List.drop_eq_getElem_cons hlt,show l[j]=m by simp [hm,List.getD_eq_getElem?_getD,hlt]] at h1
    simp only [tarKids] at h1
    obtain ⟨adl,rfl,e1⟩:=C_num (Kd.C_below G3.out hT.out.hb) j hlt
    rw [<-hm] at e1
    have b6:wr.cell? ⟨B.se,0,none⟩=some (.map (some B.mse)):=cell_blk hT.out.bse rfl
    have L6:=look_B (blk_below RD.out.he hT.out.hb) m
    have hlt':(j:Int) < l.length:=by omega
    clear hm hH
    cases q1:mB0 set m with
    | false =>
     rw [if_pos q1] at h1
     have H2:=ak_ h1
     rw [q1] at L6
     clear h1 q1
     go_wp2
     go_roundw
     case rel=>exact ⟨j+1,_,_,_,_,by go_num,by omega,H2,hT⟩
     case measure=>simp [intOf];omega
    | true =>
     rw [if_neg (by rw [q1];decide)] at h1
     rw [q1] at L6
     have b1:wr.cell? ⟨B.i,0,none⟩=some (.map (some B.mi)):=cell_blk hT.out.bi rfl
     have L1:=look_I2 hT.out.mi m
     clear q1
     cases q2:mget sc.idx m with
     | none =>
      rw [if_pos q2] at h1
      rw [q2] at L1
      obtain ⟨s5,hv,h5⟩:=Option.bind_eq_some_iff.1 h1
      have HV:=ak_ hv
      have H5:=ak_ h5
      have b7:wr.cell? ⟨B.f,0,none⟩=some B.fv:=cell_blk hT.out.bf rfl
      unfold TarB.fv at b7
      clear h1 hv h5 q2
      go_wp2_with (go_at_call 78;refine (IH.out sc s5 m _ vs vo vals hT.out HV.out).mono ?_;rintro e w5 ⟨rfl,vs5,vo5,vals5,hT5⟩;have d1:w5.cell? ⟨B.l,0,none⟩=some (.map (some B.ml)):=cell_blk hT5.bl rfl;have d2:=look_I hT5.ml (n:Int);have d3:=look_I hT5.ml m;have d4:=put_I hT5.ml (n:Int) (min (mI0 s5.low n) (mI0 s5.low m));have T6:=hT5.putL (n:Int) (min (mI0 s5.low n) (mI0 s5.low m));obtain ⟨w6,hw6⟩:∃ w6,w6=setBlock w5 B.ml (mI (mput s5.low n (min (mI0 s5.low n) (mI0 s5.low m)))):=⟨_,rfl⟩;rw [<-hw6] at d4 T6;have T6:=ak_ T6;clear hw6 hT5)
      go_roundw
      case rel=>exact ⟨j+1,_,_,_,_,by go_num,by omega,H5,T6⟩
      case measure=>simp [intOf];omega
     | some ix =>
      rw [if_neg (by rw [q2];simp)] at h1
      rw [q2] at L1
      have b3:wr.cell? ⟨B.on,0,none⟩=some (.map (some B.mo)):=cell_blk hT.out.bon rfl
      have L3:=look_B hT.out.mo m
      cases q3:mB0 sc.on m with
      | true =>
       rw [if_pos q3] at h1
       rw [q3] at L3
       have H5:=ak_ h1
       have b2:wr.cell? ⟨B.l,0,none⟩=some (.map (some B.ml)):=cell_blk hT.out.bl rfl
       have d2:=look_I hT.out.ml (n:Int)
       have d3:=look_I hT.out.mi m
       have d4:=put_I hT.out.ml (n:Int) (min (mI0 sc.low n) (mI0 sc.idx m))
       have T6:=hT.out.putL (n:Int) (min (mI0 sc.low n) (mI0 sc.idx m))
       obtain ⟨w6,hw6⟩:∃ w6,w6=setBlock wr B.ml (mI (mput sc.low n (min (mI0 sc.low n) (mI0 sc.idx m)))):=⟨_,rfl⟩
       rw [<-hw6] at d4 T6
       have T6:=ak_ T6
       clear hw6 h1 q3 q2
       go_wp2
       go_roundw
       case rel=>exact ⟨j+1,_,_,_,_,by go_num,by omega,H5,T6⟩
       case measure=>simp [intOf];omega
      | false =>
       rw [if_neg (by rw [q3];decide)] at h1
       rw [q3] at L3
       have H5:=ak_ h1
       clear h1 q3 q2
       go_wp2
       go_roundw
       case rel=>exact ⟨j+1,_,_,_,_,by go_num,by omega,H5,hT⟩
       case measure=>simp [intOf];omega
   ·obtain rfl:j=l.length:=by omega
    rw [List.drop_length] at h1
    simp only [tarKids,Option.some.injEq] at h1
    subst h1
    have h2:=HR.out
    have b1:wr.cell? ⟨B.i,0,none⟩=some (.map (some B.mi)):=cell_blk hT.out.bi rfl
    have b2:wr.cell? ⟨B.l,0,none⟩=some (.map (some B.ml)):=cell_blk hT.out.bl rfl
    have d2:=look_I hT.out.ml (n:Int)
    have d3:=look_I hT.out.mi (n:Int)
    by_cases hlow:mI0 sc.low n=mI0 sc.idx n
    ·rw [if_pos hlow] at h2
     rw [hlow] at d2
     by_cases hg:sc.st.idxOf (n:Int) < sc.st.length/\sc.st.length<=1000000/\sc.out.length<=1000000
     ·rw [if_pos hg] at h2
      obtain ⟨hat,hsl,hol⟩:=hg
      have hmem:(n:Int)∈sc.st:=List.idxOf_lt_length_iff.1 hat
      obtain ⟨a,ha⟩:∃ a,a=sc.st.idxOf (n:Int):=⟨_,rfl⟩
      rw [<-ha] at h2 hat
      obtain ⟨part,hpart⟩:∃ part,part=sc.st.drop a:=⟨_,rfl⟩
      rw [<-hpart] at h2
      have hpl:part.length=sc.st.length - a:=by rw [hpart,List.length_drop]
      obtain ⟨b4,c4,rfl,hb4,_⟩:=hT.out.stack.form (by omega)
      have hc4:sc.st.length<=c4:=own_capn hT.out.stack
      obtain ⟨A4,c4',he4,_,hC4⟩:=own_C hT.out.stack
      simp only [Value.slice.injEq,true_and] at he4
      obtain ⟨rfl,rfl⟩:=he4
      have k3:wr.cell? ⟨B.st,0,none⟩=some (.slice (some ⟨b4,0,none⟩) sc.st.length c4):=cell_blk hT.out.bst rfl
      have hdrop:kI.C wr (some ⟨b4,a,none⟩) part.length part:=by
       have:=Kd.C_drop (c:=c4) hC4 (m:=a) (by omega) hc4
       rw [if_neg (by omega)] at this
       rw [hpart]
       have e:(⟨b4,0,none⟩:Addr).add (a * 1)=⟨b4,a,none⟩:=by unfold Addr.add;split <;> simp_all
       rw [<-e]
       exact this
      have C4:=ak_ hC4
      have CD:=ak_ hdrop
      have H2:=ak_ (Option.some.inj h2)
      have HA:=ak_ ha
      have HP:=ak_ hpart
      have HPL:=ak_ hpl
      have hai:(a:Int) < sc.st.length:=by omega
      clear h2 hC4 hdrop ha hpart hpl
      go_wp2_with (first
       | (go_at_call 79;refine (index_any _ _ c4 sc.st n C4.out hc4 (by omega) hmem).mono ?_;rintro e w5 ⟨rfl,hd⟩;rw [<-HA.out];have T5:=hT.out.below hd.below;have k5:w5.cell? ⟨B.st,0,none⟩=some (.slice (some ⟨b4,0,none⟩) sc.st.length c4):=cell_blk T5.bst rfl;have CD5:=ak_ (Kd.C_below CD.out hd.below);have T5:=ak_ T5;clear hd)
       | (go_at_call 37;have hcl:=clone_any w5 (some ⟨b4,a,none⟩) (c4 - a) part CD5.out (by have:=HPL.out;omega);rw [HPL.out] at hcl;refine hcl.mono ?_;clear hcl;rintro e w6 ⟨vp,rfl,hr6,hb6⟩;have hr6':=Kd.R_lower hr6 (base':=w0.heap.size) T5.out.hb.size;obtain ⟨A7,c7,rfl⟩:=Kd.R_slice hr6;have T6:=T5.out.newrow hb6 (own_R hr6') (fun k hk=>own_base (own_R hr6) k hk);have k6:w6.cell? ⟨B.st,0,none⟩=some (.slice (some ⟨b4,0,none⟩) sc.st.length c4):=cell_blk T6.bst rfl;have k6f:w6.frozen? ⟨B.st,0,none⟩=false:=free_blk T6.bst;have T7:=T6.stored (v6:=.slice (some ⟨b4,0,none⟩) a c4) (st':=sc.st.take a) (World.grownBy.refl w6 _) (own_takeN T6.stack (Nat.le_of_lt hat)) (.inl rfl);have T7:=ak_ T7;clear hr6 hr6' hb6 T6))
      obtain ⟨w7,hw7⟩:∃ w7,w7=w6.setCell ⟨B.st,0,none⟩ (.slice (some ⟨b4,0,none⟩) a c4):=⟨_,rfl⟩
      rw [<-hw7] at T7 ⊢
      clear hw7 k3 k5 k6 k6f b1 b2 d2 d3
      go_loopw [100] (fun t wq=>∃ j:Nat,t=.int .i64 j/\j<=part.length/\Aside0 (TarSt w0 wq B ev ex (.slice (some ⟨b4,0,none⟩) a c4) vo vals [.slice A7 part.length c7] [part] { sc with st:=sc.st.take a,on:=(part.take j).foldl (fun m x=>mput m x false) sc.on })) (fun t _=>part.length - (intOf t).toNat)
      case atStart=>exact ⟨0,rfl,Nat.zero_le _,by simpa using T7⟩
      case round =>
       obtain ⟨j,rfl,hj,hT8⟩:=hrel
       obtain ⟨A7',c7',he7,hc7,hC7⟩:=own_C hT8.out.part
       simp only [Value.slice.injEq,true_and] at he7
       obtain ⟨rfl,rfl⟩:=he7
       by_cases hjl:j < part.length
       ·obtain ⟨ad7,rfl,e1⟩:=C_num hC7 j hjl
        obtain ⟨m,hm⟩:∃ m,m=part.getD j 0:=⟨_,rfl⟩
        rw [<-hm] at e1
        have b4':wr.cell? ⟨B.on,0,none⟩=some (.map (some B.mo)):=cell_blk hT8.out.bon rfl
        have p4:=put_B hT8.out.mo m false
        have T9:=hT8.out.putO m false
        obtain ⟨w9,hw9⟩:∃ w9,w9=setBlock wr B.mo (mB (mput ((part.take j).foldl (fun m x=>mput m x false) sc.on) m false)):=⟨_,rfl⟩
        simp only [<-hw9] at p4 T9
        have e9:(part.take (j+1)).foldl (fun m x=>mput m x false) sc.on=mput ((part.take j).foldl (fun m x=>mput m x false) sc.on) m false:=by
         rw [List.take_succ_eq_append_getElem hjl,show part[j]=m by simp [hm,List.getD_eq_getElem?_getD,hjl]]
         simp
        have E9:=ak_ e9
        have T9:=ak_ T9
        have hjl':(j:Int) < part.length:=by omega
        have hj9:part.length<=9223372036854775807:=hC7.2.1
        clear hm hw9 hC7 e9
        go_wp2
        go_roundw
        case rel=>exact ⟨j+1,by go_num,by omega,⟨by rw [E9.out];exact T9.out⟩⟩
        case measure=>simp [intOf];omega
       ·obtain rfl:j=part.length:=by omega
        rw [List.take_length] at hT8
        obtain ⟨Ao,co,rfl⟩:=own_slice hT8.out.hout
        have C7:=ak_ hC7
        have i5:wr.cell? ⟨B.sp,0,none⟩=some (.pointer (some ⟨B.bs,0,none⟩)):=cell_blk hT8.out.bsp rfl
        have i6:wr.cell? ⟨B.bs,0,none⟩=some (.slice (some ad) succ.length cs):=pw_cell_below hT8.out.hb RD.out.hs
        have i7:wr.cell? (ad.add n)=some (.slice A0 l.length c0):=pw_cell_below hT8.out.hb G1.out
        have hns:(n:Int) < succ.length:=hn1
        by_cases hbig:1 < part.length
        ·have hE:=H2.out
         rw [if_pos (.inl hbig)] at hE
         have HE:=ak_ hE
         have hbig':(1:Int) < part.length:=by omega
         have hpl9:part.length<=1000000000:=by have:=HPL.out;omega
         clear hE hC7
         go_wp2_with (first
          | (go_at_call 81;refine (sort_any _ w0.heap.size _ part hT8.out.part (by omega)).mono ?_;rintro e w10 ⟨rfl,ho10,hg10⟩;have T10:=hT8.out.turned hg10 (xs':=sortI part) (by rw [sortI_length];exact ho10);have k10:w10.cell? ⟨B.o,0,none⟩=some (.slice Ao vals.length co):=cell_blk T10.bo rfl;have T10:=ak_ T10;clear ho10 hg10) | ((with_reducible refine gate_dst (N:=126) rfl ?_);refine print_append_cells (w0:=w0) w0.heap.size rfl (.tmp 123) (.tmp 125) 25 23 (.slice none 0 0) 1 24 rfl Try.underlying25 info23 rfl (by decide) (by decide) _ vals.length vals [.slice A7 part.length c7] rfl rfl rfl (by simp [Value.oneCell']) T10.out.hout T10.out.hb T10.out.hb.size (by have h24:vals.length=sc.out.length:=T10.out.len;omega) ?_;intro v11 w11 ho11 hb11 hg11 hat11;obtain ⟨A11,c11,rfl⟩:=own_slice ho11;have q11:w11.cell? ⟨B.o,0,none⟩=some (.slice Ao vals.length co):=cell_blk (grown_blk hg11 T10.out.hout T10.out.bo (by decide)) rfl;have q12:w11.frozen? ⟨B.o,0,none⟩=false:=free_blk (grown_blk hg11 T10.out.hout T10.out.bo (by decide));have T12:=ak_ (T10.out.added hg11 (by simpa using ho11) hat11);clear ho11 hb11 hg11 hat11))
         go_end0
         exact ⟨rfl,_,_,_,by rw [<-HE.out];exact T12.out⟩
        ·have hC5:=Kd.C_below G3.out hT8.out.hb
         have C5:=ak_ hC5
         have hbig':¬ (1:Int) < part.length:=by omega
         clear hC5 hC7
         cases hcon:l.contains (n:Int) with
         | true =>
          have hE:=H2.out
          rw [if_pos (.inr hcon)] at hE
          have HE:=ak_ hE
          clear hE
          have HCN:=ak_ hcon
          clear hcon
          go_wp2_with (first
           | (go_at_call 80;refine (contains_any _ A0 c0 l n C5.out G2.out hll).mono ?_;rintro e w9 ⟨rfl,hd⟩;rw [HCN.out];have T9:=ak_ (hT8.out.below hd.below);clear hd)
           | (go_at_call 81;refine (sort_any _ w0.heap.size _ part T9.out.part (by omega)).mono ?_;rintro e w10 ⟨rfl,ho10,hg10⟩;have T10:=T9.out.turned hg10 (xs':=sortI part) (by rw [sortI_length];exact ho10);have k10:w10.cell? ⟨B.o,0,none⟩=some (.slice Ao vals.length co):=cell_blk T10.bo rfl;have T10:=ak_ T10;clear ho10 hg10) | ((with_reducible refine gate_dst (N:=126) rfl ?_);refine print_append_cells (w0:=w0) w0.heap.size rfl (.tmp 123) (.tmp 125) 25 23 (.slice none 0 0) 1 24 rfl Try.underlying25 info23 rfl (by decide) (by decide) _ vals.length vals [.slice A7 part.length c7] rfl rfl rfl (by simp [Value.oneCell']) T10.out.hout T10.out.hb T10.out.hb.size (by have h24:vals.length=sc.out.length:=T10.out.len;omega) ?_;intro v11 w11 ho11 hb11 hg11 hat11;obtain ⟨A11,c11,rfl⟩:=own_slice ho11;have q11:w11.cell? ⟨B.o,0,none⟩=some (.slice Ao vals.length co):=cell_blk (grown_blk hg11 T10.out.hout T10.out.bo (by decide)) rfl;have q12:w11.frozen? ⟨B.o,0,none⟩=false:=free_blk (grown_blk hg11 T10.out.hout T10.out.bo (by decide));have T12:=ak_ (T10.out.added hg11 (by simpa using ho11) hat11);clear ho11 hb11 hg11 hat11))
          go_end0
          exact ⟨rfl,_,_,_,by rw [<-HE.out];exact T12.out⟩
         | false =>
          have hE:=H2.out
          rw [if_neg (by rw [hcon];simp;omega)] at hE
          have HE:=ak_ hE
          clear hE
          have HCN:=ak_ hcon
          clear hcon
          go_wp2_with (first
           | (go_at_call 80;refine (contains_any _ A0 c0 l n C5.out G2.out hll).mono ?_;rintro e w9 ⟨rfl,hd⟩;rw [HCN.out];have T9:=ak_ (hT8.out.below hd.below);clear hd))
          go_end0
          exact ⟨rfl,_,_,_,by rw [<-HE.out];exact T9.out.lose⟩
     ·rw [if_neg hg] at h2;cases h2
    ·rw [if_neg hlow] at h2
     have H2:=ak_ (Option.some.inj h2)
     clear h2
     go_wp2
     refine bodyPost_ret (results_none rfl _ _ _) rfl ?_
     exact ⟨rfl,_,_,_,by rw [<-H2.out];exact hT.out⟩
 ·rw [if_neg hn] at h;cases h
end Go.Proofs.Ytfiiihpdekppiaa
end
