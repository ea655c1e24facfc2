/- A part of the proof that vellumlaw12.ShapeAcyclic is true for every input: walks of functions that the row reaches and plain laws that they need. Conditions: none. Joined by merge.py out of PShapeReduciblex0 PShapeReduciblex1 S4 T2; a part that began as a print is named P or W there and is trimmed. -/
import Derived.Test.YtfiiihpdekppiaaA1
import Derived.Test.YtfiiihpdekppiaaA2
import Derived.Test.YtfiiihpdekppiaaA3
import Derived.Test.YtfiiihpdekppiaaProg
import Derived.Below
import Derived.Deep.Draws
import Derived.Deep.AppendLies
import Derived.Maps.AppendAt
import Derived.OwnWalk
import Derived.Laws.BytesArg
import Derived.Laws.MakeOwn
import Derived.Laws.OwnMore
import Derived.Deep.OwnRows
import Derived.Tactics
import Derived.Lib.ConvBytes
import Derived.Laws.Slices
import Derived.WalkKit
import Derived.KernelRfl
import Derived.RowKit3
import Derived.Deep.LoopGhost
import Derived.Deep.QuietTactic
import Derived.BigQuiet
import Derived.WideLaws
import Derived.Deep.DeepCutAuto
import Derived.Deep.CutBlock
import Derived.Deep.RegionHeld3
import Derived.Laws.Rows
import Derived.Lib.AppendStr
import Derived.ArgAppend
import Derived.Laws.IdiomCopy
import Derived.OrdersHeld
import Derived.Laws.BitsLemmas
import Derived.RowKit
import Derived.Laws.StructEq
set_option linter.unusedVariables false
set_option linter.unusedSimpArgs false
section
namespace Go.Proofs.Ytfiiihpdekppiaa.PShapeReducible
open Go.RowKit Go.Proofs.YtfiiihpdekppiaaW.PrintWords Go.Proofs.YtfiiihpdekppiaaW.PrintLast Go.Proofs.YtfiiihpdekppiaaW.PrintMore
attribute [local go_sem] max2_int min2_int max_two min_two max_three min_three max_four min_four
set_option linter.unusedVariables false
set_option linter.unusedSimpArgs false
def errW:Option Int->Value
 | none=>.nilIface
 | some c=>.iface 0 (.int .i64 c)
theorem errW_none:errW none=.nilIface:=rfl
theorem errW_some (c:Int):errW (some c)=.iface 0 (.int .i64 c):=rfl
theorem info3:(Try.prog.info? 3).map (fun i=>(i.zero,i.size,i.bytes))=some (some (.int .i64 0),1,8):=by kernel_rfl
def rd_L1 (xs:List (List Int)) (i:Int):(List Int):=xs.getD i.toNat ([]:List Int)
theorem at_L1 {w:World} {A:Option Addr} {n:Nat} {xs:List (List Int)} (h:Kd.C (Kd.slice 3 (Kd.int .i64)) w A n xs) (i:Int) (h0:0<=i) (h1:i < n):∃ ad A0 c0,A=some ad/\w.cell? (ad.add i.toNat)=some (.slice A0 (rd_L1 xs i).length c0)/\(rd_L1 xs i).length<=c0/\(Kd.int .i64).C w A0 (rd_L1 xs i).length (rd_L1 xs i):=by
 obtain ⟨ad,c,e,_,hK,hc0⟩:=Kd.C_get h ([]:List Int) i h0 h1
 have hc:∀ j u,c[j]?=some u->w.cell? (ad.add (i.toNat * 1+j))=some u:=hc0
 obtain ⟨A0,c0,rfl,l0,g0⟩:=hK
 exact ⟨ad,A0,c0,e,by have hq:=hc 0 _ rfl;rwa [Nat.mul_one,Nat.add_zero] at hq,l0,g0⟩
structure S31 where
 f0:Int
 f1:Int
 f2:Int
 f3:(List S31)
def z31:S31:=⟨(0:Int),(0:Int),(0:Int),([]:List S31)⟩
def F31 (d:Kd S31):Kd S31:=Kd.iso (Kd.pair (Kd.int .i64) (Kd.pair (Kd.int .i64) (Kd.pair (Kd.int .i64) (Kd.slice 31 d)))) (fun x:S31=>(x.f0,x.f1,x.f2,x.f3))
theorem mono31:Kd.Mono F31:=Kd.mono_iso _ (Kd.mono_pair (Kd.mono_const _) (Kd.mono_pair (Kd.mono_const _) (Kd.mono_pair (Kd.mono_const _) (Kd.mono_slice 31 Kd.mono_id))))
theorem sub31:Kd.Sub F31 [31]:=Kd.sub_iso _ (Kd.sub_pair (Kd.sub_const _ (by decide)) (Kd.sub_pair (Kd.sub_const _ (by decide)) (Kd.sub_pair (Kd.sub_const _ (by decide)) (Kd.sub_slice 31 (by decide) Kd.sub_id))))
theorem sz31:∀ n,(Kd.upto F31 4 [31] n).sz=4:=Kd.upto_sz (fun _=>rfl)
def k31:Kd S31:=Kd.fix F31 4 [31] sz31 (Kd.upto_E sub31)
theorem k31_open {w:World} {x:S31} {cs:List Value} (h:k31.K w x cs):∃ A3 c3,cs=[.int .i64 x.f0,.int .i64 x.f1,.int .i64 x.f2,.slice A3 x.f3.length c3]/\x.f3.length<=c3/\k31.C w A3 x.f3.length x.f3:=by
 obtain ⟨n,h⟩:=h
 cases n with
 | zero=>exact h.elim
 | succ n =>
  obtain ⟨_,_,rfl,rfl,⟨_,_,rfl,rfl,⟨_,_,rfl,rfl,⟨A3,c3,rfl,l3,g3⟩⟩⟩⟩:=h
  exact ⟨A3,c3,rfl,l3,Kd.fix_C g3⟩
theorem k31_mk (w:World) (x:S31) {A3:Option Addr} {c3:Nat} (l3:x.f3.length<=c3) (g3:k31.C w A3 x.f3.length x.f3):k31.K w x [.int .i64 x.f0,.int .i64 x.f1,.int .i64 x.f2,.slice A3 x.f3.length c3]:=by
 obtain ⟨n3,q3⟩:=Kd.fix_C_back mono31 g3
 have r3:=Kd.upto_C_le mono31 sz31 (show n3<=n3 by omega) q3
 exact ⟨n3+1,⟨[.int .i64 x.f0],[.int .i64 x.f1,.int .i64 x.f2,.slice A3 x.f3.length c3],rfl,rfl,⟨[.int .i64 x.f1],[.int .i64 x.f2,.slice A3 x.f3.length c3],rfl,rfl,⟨[.int .i64 x.f2],[.slice A3 x.f3.length c3],rfl,rfl,⟨A3,c3,rfl,l3,r3⟩⟩⟩⟩⟩
theorem k31_mkF (W:World) (ok:Nat->Prop) (x:S31) {A3:Option Addr} {c3:Nat} (l3:x.f3.length<=c3) (g3:Kd.F k31 W ok A3 x.f3.length x.f3):Kd.FK k31 W ok x [.int .i64 x.f0,.int .i64 x.f1,.int .i64 x.f2,.slice A3 x.f3.length c3]:=fun W2 hW=>k31_mk W2 x l3 (g3 W2 hW)
def rd_T31 (xs:List S31) (i:Int):S31:=xs.getD i.toNat z31
theorem at_T31 {w:World} {A:Option Addr} {n:Nat} {xs:List S31} (h:Kd.C k31 w A n xs) (i:Int) (h0:0<=i) (h1:i < n):∃ ad A3 c3,A=some ad/\w.cell? (ad.add (i.toNat * 4))=some (.int .i64 (rd_T31 xs i).f0)/\w.cell? ⟨(ad.add (i.toNat * 4)).block,(ad.add (i.toNat * 4)).off+1,none⟩=some (.int .i64 (rd_T31 xs i).f1)/\w.cell? ⟨(ad.add (i.toNat * 4)).block,(ad.add (i.toNat * 4)).off+2,none⟩=some (.int .i64 (rd_T31 xs i).f2)/\w.cell? ⟨(ad.add (i.toNat * 4)).block,(ad.add (i.toNat * 4)).off+3,none⟩=some (.slice A3 (rd_T31 xs i).f3.length c3)/\(rd_T31 xs i).f3.length<=c3/\k31.C w A3 (rd_T31 xs i).f3.length (rd_T31 xs i).f3:=by
 obtain ⟨ad,c,e,_,hK,hc0⟩:=Kd.C_get h z31 i h0 h1
 have hc:∀ j u,c[j]?=some u->w.cell? (ad.add (i.toNat * 4+j))=some u:=hc0
 obtain ⟨A3,c3,rfl,l3,g3⟩:=k31_open hK
 exact ⟨ad,A3,c3,e,hc 0 _ rfl,by rw [<-add_field _ _ 1 (by omega)];exact hc 1 _ rfl,by rw [<-add_field _ _ 2 (by omega)];exact hc 2 _ rfl,by rw [<-add_field _ _ 3 (by omega)];exact hc 3 _ rfl,l3,g3⟩
structure S77 where
 f0:Int
 f1:Int
 f2:(List Int)
def z77:S77:=⟨(0:Int),(0:Int),([]:List Int)⟩
def k77:Kd S77:=Kd.iso (Kd.pair (Kd.int .i64) (Kd.pair (Kd.int .i64) (Kd.slice 3 (Kd.int .i64)))) (fun x:S77=>(x.f0,x.f1,x.f2))
theorem k77_open {w:World} {x:S77} {cs:List Value} (h:k77.K w x cs):∃ A2 c2,cs=[.int .i64 x.f0,.int .i64 x.f1,.slice A2 x.f2.length c2]/\x.f2.length<=c2/\(Kd.int .i64).C w A2 x.f2.length x.f2:=by
 obtain ⟨_,_,rfl,rfl,⟨_,_,rfl,rfl,⟨A2,c2,rfl,l2,g2⟩⟩⟩:=h
 exact ⟨A2,c2,rfl,l2,g2⟩
theorem k77_mk (w:World) (x:S77) {A2:Option Addr} {c2:Nat} (l2:x.f2.length<=c2) (g2:(Kd.int .i64).C w A2 x.f2.length x.f2):k77.K w x [.int .i64 x.f0,.int .i64 x.f1,.slice A2 x.f2.length c2]:=⟨[.int .i64 x.f0],[.int .i64 x.f1,.slice A2 x.f2.length c2],rfl,rfl,⟨[.int .i64 x.f1],[.slice A2 x.f2.length c2],rfl,rfl,⟨A2,c2,rfl,l2,g2⟩⟩⟩
def rd_T77 (xs:List S77) (i:Int):S77:=xs.getD i.toNat z77
theorem at_T77 {w:World} {A:Option Addr} {n:Nat} {xs:List S77} (h:Kd.C k77 w A n xs) (i:Int) (h0:0<=i) (h1:i < n):∃ ad A2 c2,A=some ad/\w.cell? (ad.add (i.toNat * 3))=some (.int .i64 (rd_T77 xs i).f0)/\w.cell? ⟨(ad.add (i.toNat * 3)).block,(ad.add (i.toNat * 3)).off+1,none⟩=some (.int .i64 (rd_T77 xs i).f1)/\w.cell? ⟨(ad.add (i.toNat * 3)).block,(ad.add (i.toNat * 3)).off+2,none⟩=some (.slice A2 (rd_T77 xs i).f2.length c2)/\(rd_T77 xs i).f2.length<=c2/\(Kd.int .i64).C w A2 (rd_T77 xs i).f2.length (rd_T77 xs i).f2:=by
 obtain ⟨ad,c,e,_,hK,hc0⟩:=Kd.C_get h z77 i h0 h1
 have hc:∀ j u,c[j]?=some u->w.cell? (ad.add (i.toNat * 3+j))=some u:=hc0
 obtain ⟨A2,c2,rfl,l2,g2⟩:=k77_open hK
 exact ⟨ad,A2,c2,e,hc 0 _ rfl,by rw [<-add_field _ _ 1 (by omega)];exact hc 1 _ rfl,by rw [<-add_field _ _ 2 (by omega)];exact hc 2 _ rfl,l2,g2⟩
attribute [local go_sem] max2_int min2_int max_two min_two max_three min_three max_four min_four
set_option linter.unusedVariables false
set_option linter.unusedSimpArgs false
mutual
def flow_Valid.l0:Nat->List (List Int)->Int->Int->List (List Int)->Option (Bool)
 | 0,_,_,_,_=>none
 | k+1,x8,x9,x10,x102000=>if x10 < x9 then (if 0<=x10 then (if x10 < (x8.length:Int) then (flow_Valid.l1 k x8 x9 x10 (rd_L1 x8 x10) ((rd_L1 x8 x10).length:Int) 0 x102000) else (none)) else (none)) else (some (decide ((x102000.length:Int) > 0)))
def flow_Valid.l1:Nat->List (List Int)->Int->Int->List Int->Int->Int->List (List Int)->Option (Bool)
 | 0,_,_,_,_,_,_,_=>none
 | k+1,x8,x9,x10,x14,x15,x16,x102000=>if x16 < x15 then (if 0<=x16 then (if x16 < (x14.length:Int) then (if (rd x14 x16) < 0 then (some false) else (if (rd x14 x16) ≥ (x102000.length:Int) then (some false) else (flow_Valid.l1 k x8 x9 x10 x14 x15 (wrap64 (x16+1)) x102000))) else (none)) else (none)) else (flow_Valid.l0 k x8 x9 (wrap64 (x10+1)) x102000)
end
def flow_Valid.f (k:Nat) (l0_0:List (List Int)):Option (Bool):=flow_Valid.l0 k l0_0 (l0_0.length:Int) 0 l0_0
set_option maxHeartbeats 8000000 in
set_option maxRecDepth 100000 in
theorem flow_Valid.calls (k:Nat) (A0_0:Option Addr) (c0_0:Nat) (l0_0:List (List Int)) (r:Bool) (w:World) (hr0_0:Kd.C (Kd.slice 3 (Kd.int .i64)) w A0_0 l0_0.length l0_0) (hc0_0:l0_0.length<=c0_0) (h:flow_Valid.f k l0_0=some r) :
  Calls Try.prog 36 #[.agg #[.slice A0_0 l0_0.length c0_0]] w fun e w'=>e=.returned (.bool r)/\Below w.heap.size w w':=by
 have hu27:=Try.underlying27
 have HR0_0:=Aside0.mk hr0_0
 have HC0_0:=Aside0.mk hc0_0
 clear hr0_0 hc0_0
 have HB:=Aside0.mk (Below.refl w.heap.size w)
 have H:(flow_Valid.l0 k l0_0 (l0_0.length:Int) 0 l0_0)=some r:=h
 clear h
 have H':=Aside0.mk H
 clear H
 go_enter Try.func36,Try.ntmps36
 go_wp2_with (first | ((with_reducible refine gate_dst (N:=1) rfl ?_);(try (refine gate_guard (by rfl) ?_;dsimp only));refine box_event ?hg (N:=1) ?hd (cs:=#[.slice A0_0 l0_0.length c0_0]) (t:=27) ?hr ?_;(case hd=>rfl);(case hg=>rfl);(case hr=>first | (go_simp;done) | (go_simp;rfl));intro gb101 hg w2 hbox hb;have n0_:=Aside0.mk (below_step (by repeat (first | (with_reducible first | exact HB.out | apply below_alloc | apply pw_below_drewN | apply below_drew1) | exact HB.out)) hb);have n1_:=Aside0.mk (hbox);have n2_:=Aside0.mk ((by rw [hg];exact (below_size (by repeat (first | (with_reducible first | exact HB.out | apply below_alloc | apply pw_below_drewN | apply below_drew1) | exact HB.out))):w.heap.size<=gb101));have n3_:=Aside0.mk ((by rw [hg];exact (below_size (by repeat (first | (with_reducible first | exact HB.out | apply below_alloc | apply pw_below_drewN | apply below_drew1) | exact HB.out))):w.heap.size<=gb101));clear HB;have HB:=n0_;have BK101:=n1_;have GW101:=n2_;have GE101:=n3_;clear n0_ n1_ n2_ n3_;clear hb hbox hg;have hcz3_0:w2.cell? ⟨gb101,0,none⟩=some (.slice A0_0 l0_0.length c0_0):=(blk_cell BK101.out 0).trans rfl;have hfz3_0:=blk_frozen BK101.out 0))
 go_loopg [10] k (fun kq v10 w'=>∃ (x10_1:Int),v10=.int .i64 x10_1/\Aside0 (flow_Valid.l0 kq l0_0 (l0_0.length:Int) x10_1 l0_0=some r)/\Aside0 (kq<=k)/\Aside0 (w'.heap[gb101]?=some (.cells #[(.slice A0_0 l0_0.length c0_0)] 27 (0,0)))/\Aside0 (Below w.heap.size w w'))
 case atStart=>exact ⟨(0),(by first | rfl | (simp;done) | (simp [*];done)),H',⟨Nat.le_refl _⟩,⟨by (with_reducible repeat (first | refine blk_drewN ?_ _ | refine blk_drew ?_ | refine blk_alloc ?_ _));exact BK101.out⟩,⟨by repeat (first | (with_reducible first | exact HB.out | apply below_alloc | apply pw_below_drewN | apply below_drew1 | refine below_set ?_ GE101.out) | exact HB.out)⟩⟩
 case round =>
  clear H'
  try clear p2
  try clear c3
  try clear hcz3_0
  try clear hfz3_0
  obtain ⟨x10_1,rfl,HA,HK1,BK101,HB⟩:=hrel
  cases gk with
  | zero=>exact absurd HA.out (by simp [flow_Valid.l0])
  | succ k1 =>
   have H:=HA.out
   clear HA
   simp only [flow_Valid.l0] at H
   by_cases c4:x10_1 < (l0_0.length:Int)
   ·rw [if_pos c4] at H
    have c4b0:decide (x10_1 < (l0_0.length:Int))=true:=decide_eq_true c4
    clear c4
    by_cases c5:0<=x10_1
    ·rw [if_pos c5] at H
     have c5b0:decide (0<=x10_1)=true:=decide_eq_true c5
     clear c5
     by_cases c6:x10_1 < (l0_0.length:Int)
     ·rw [if_pos c6] at H
      have c6b0:decide (x10_1 < (l0_0.length:Int))=true:=decide_eq_true c6
      clear c6
      have H':=Aside0.mk H
      clear H
      have p102:0<=(x10_1:Int):=of_decide_eq_true (by first | (with_reducible assumption) | assumption)
      have q102:x10_1 < (l0_0.length:Int):=of_decide_eq_true (by first | (with_reducible assumption) | assumption)
      obtain ⟨ad102,A102_0,c102_0,e102,hx102_0,hl102_0,hi102_0⟩:=at_L1 HR0_0.out x10_1 p102 q102
      cases e102
      replace hx102_0:=(HB.out.cell (World.block_lt_of_cell? w _ hx102_0)).trans hx102_0
      have HR102_0:=Aside0.mk hi102_0
      have HC102_0:=Aside0.mk hl102_0
      clear hi102_0 hl102_0
      replace p102:=eq_true p102
      replace q102:=eq_true q102
      go_wp2
      go_loopg [16] k1 (fun kq v16 w'=>∃ (x16_2:Int),v16=.int .i64 x16_2/\Aside0 (flow_Valid.l1 kq l0_0 (l0_0.length:Int) x10_1 (rd_L1 l0_0 x10_1) ((rd_L1 l0_0 x10_1).length:Int) x16_2 l0_0=some r)/\Aside0 (kq<=k1)/\Aside0 (w'.heap[gb101]?=some (.cells #[(.slice (some ad102) l0_0.length c0_0)] 27 (0,0)))/\Aside0 (Below w.heap.size w w'))
      case atStart=>exact ⟨(0),(by first | rfl | (simp;done) | (simp [*];done)),H',⟨Nat.le_refl _⟩,⟨by (with_reducible repeat (first | refine blk_drewN ?_ _ | refine blk_drew ?_ | refine blk_alloc ?_ _));exact BK101.out⟩,⟨by repeat (first | (with_reducible first | exact HB.out | apply below_alloc | apply pw_below_drewN | apply below_drew1 | refine below_set ?_ GE101.out) | exact HB.out)⟩⟩
      case round =>
       clear H'
       try clear c1
       try clear p1
       try clear q1
       try clear hx1
       try clear p2
       try clear c3
       try clear c4
       try clear c4b0
       try clear c5
       try clear c5b0
       try clear c6
       try clear c6b0
       try clear hcz3_0
       try clear hfz3_0
       try clear hx102_0
       try clear p102
       try clear p2
       try clear q102
       obtain ⟨x16_2,rfl,HA,HK2,BK101,HB⟩:=hrel
       cases gk with
       | zero=>exact absurd HA.out (by simp [flow_Valid.l1])
       | succ k2 =>
        have H:=HA.out
        clear HA
        simp only [flow_Valid.l1] at H
        by_cases c7:x16_2 < ((rd_L1 l0_0 x10_1).length:Int)
        ·rw [if_pos c7] at H
         have c7b0:decide (x16_2 < ((rd_L1 l0_0 x10_1).length:Int))=true:=decide_eq_true c7
         clear c7
         by_cases c8:0<=x16_2
         ·rw [if_pos c8] at H
          have c8b0:decide (0<=x16_2)=true:=decide_eq_true c8
          clear c8
          by_cases c9:x16_2 < ((rd_L1 l0_0 x10_1).length:Int)
          ·rw [if_pos c9] at H
           have c9b0:decide (x16_2 < ((rd_L1 l0_0 x10_1).length:Int))=true:=decide_eq_true c9
           clear c9
           by_cases c10:(rd (rd_L1 l0_0 x10_1) x16_2) < 0
           ·rw [if_pos c10] at H
            have c10b0:decide ((rd (rd_L1 l0_0 x10_1) x16_2) < 0)=true:=decide_eq_true c10
            clear c10
            obtain rfl:=Option.some.inj H
            have p103:0<=(x16_2:Int):=of_decide_eq_true (by first | (with_reducible assumption) | assumption)
            have q103:x16_2 < ((rd_L1 l0_0 x10_1).length:Int):=of_decide_eq_true (by first | (with_reducible assumption) | assumption)
            obtain ⟨ad103,e103,hx103_0⟩:=Kd.at_int HR102_0.out x16_2 p103 q103
            cases e103
            replace hx103_0:=(HB.out.cell (World.block_lt_of_cell? w _ hx103_0)).trans hx103_0
            replace p103:=eq_true p103
            replace q103:=eq_true q103
            go_wp2
            go_ret
            exact ⟨by first | rfl | (simp [errW_none,errW_some] <;> rfl) | (simp [*,errW_none,errW_some] <;> rfl),by repeat (first | (with_reducible first | exact HB.out | apply below_alloc | apply pw_below_drewN | apply below_drew1 | refine below_set ?_ GE101.out) | exact HB.out)⟩
           ·rw [if_neg c10] at H
            have c10b0:decide ((rd (rd_L1 l0_0 x10_1) x16_2) < 0)=false:=decide_eq_false c10
            clear c10
            by_cases c11:(rd (rd_L1 l0_0 x10_1) x16_2) ≥ (l0_0.length:Int)
            ·rw [if_pos c11] at H
             have c11b0:decide ((l0_0.length:Int)<=(rd (rd_L1 l0_0 x10_1) x16_2))=true:=decide_eq_true c11
             clear c11
             obtain rfl:=Option.some.inj H
             have p103:0<=(x16_2:Int):=of_decide_eq_true (by first | (with_reducible assumption) | assumption)
             have q103:x16_2 < ((rd_L1 l0_0 x10_1).length:Int):=of_decide_eq_true (by first | (with_reducible assumption) | assumption)
             obtain ⟨ad103,e103,hx103_0⟩:=Kd.at_int HR102_0.out x16_2 p103 q103
             cases e103
             replace hx103_0:=(HB.out.cell (World.block_lt_of_cell? w _ hx103_0)).trans hx103_0
             replace p103:=eq_true p103
             replace q103:=eq_true q103
             have hcz12_0:wr.cell? ⟨gb101,0,none⟩=some (.slice (some ad102) l0_0.length c0_0):=(blk_cell BK101.out 0).trans rfl
             have hfz12_0:=blk_frozen BK101.out 0
             go_wp2
             go_ret
             exact ⟨by first | rfl | (simp [errW_none,errW_some] <;> rfl) | (simp [*,errW_none,errW_some] <;> rfl),by repeat (first | (with_reducible first | exact HB.out | apply below_alloc | apply pw_below_drewN | apply below_drew1 | refine below_set ?_ GE101.out) | exact HB.out)⟩
            ·rw [if_neg c11] at H
             have c11b0:decide ((l0_0.length:Int)<=(rd (rd_L1 l0_0 x10_1) x16_2))=false:=decide_eq_false c11
             clear c11
             have H':=Aside0.mk H
             clear H
             have p103:0<=(x16_2:Int):=of_decide_eq_true (by first | (with_reducible assumption) | assumption)
             have q103:x16_2 < ((rd_L1 l0_0 x10_1).length:Int):=of_decide_eq_true (by first | (with_reducible assumption) | assumption)
             obtain ⟨ad103,e103,hx103_0⟩:=Kd.at_int HR102_0.out x16_2 p103 q103
             cases e103
             replace hx103_0:=(HB.out.cell (World.block_lt_of_cell? w _ hx103_0)).trans hx103_0
             replace p103:=eq_true p103
             replace q103:=eq_true q103
             have hcz13_0:wr.cell? ⟨gb101,0,none⟩=some (.slice (some ad102) l0_0.length c0_0):=(blk_cell BK101.out 0).trans rfl
             have hfz13_0:=blk_frozen BK101.out 0
             go_wp2
             go_roundg k2
             case measure=>have:=HK1.out;have:=HK2.out;omega
             case rel=>exact ⟨(wrap64 (x16_2+1)),(by first | rfl | (simp;done) | (simp [*];done)),H',⟨by have:=HK1.out;have:=HK2.out;omega⟩,⟨by (with_reducible repeat (first | refine blk_drewN ?_ _ | refine blk_drew ?_ | refine blk_alloc ?_ _));exact BK101.out⟩,⟨by repeat (first | (with_reducible first | exact HB.out | apply below_alloc | apply pw_below_drewN | apply below_drew1 | refine below_set ?_ GE101.out) | exact HB.out)⟩⟩
          ·rw [if_neg c9] at H
           exact absurd H (by simp)
         ·rw [if_neg c8] at H
          exact absurd H (by simp)
        ·rw [if_neg c7] at H
         have c7b0:decide (x16_2 < ((rd_L1 l0_0 x10_1).length:Int))=false:=decide_eq_false c7
         clear c7
         have H':=Aside0.mk H
         clear H
         go_wp2
         go_roundg k2
         case measure=>have:=HK1.out;have:=HK2.out;omega
         case rel=>exact ⟨(wrap64 (x10_1+1)),(by first | rfl | (simp;done) | (simp [*];done)),H',⟨by have:=HK1.out;have:=HK2.out;omega⟩,⟨by (with_reducible repeat (first | refine blk_drewN ?_ _ | refine blk_drew ?_ | refine blk_alloc ?_ _));exact BK101.out⟩,⟨by repeat (first | (with_reducible first | exact HB.out | apply below_alloc | apply pw_below_drewN | apply below_drew1 | refine below_set ?_ GE101.out) | exact HB.out)⟩⟩
     ·rw [if_neg c6] at H
      exact absurd H (by simp)
    ·rw [if_neg c5] at H
     exact absurd H (by simp)
   ·rw [if_neg c4] at H
    have c4b0:decide (x10_1 < (l0_0.length:Int))=false:=decide_eq_false c4
    clear c4
    obtain rfl:=Option.some.inj H
    have hcz14_0:wr.cell? ⟨gb101,0,none⟩=some (.slice A0_0 l0_0.length c0_0):=(blk_cell BK101.out 0).trans rfl
    have hfz14_0:=blk_frozen BK101.out 0
    go_wp2
    go_ret
    exact ⟨by first | rfl | (simp [errW_none,errW_some] <;> rfl) | (simp [*,errW_none,errW_some] <;> rfl),by repeat (first | (with_reducible first | exact HB.out | apply below_alloc | apply pw_below_drewN | apply below_drew1 | refine below_set ?_ GE101.out) | exact HB.out)⟩
def slices_Reverse_int_int.l0:Nat->List Int->Int->Int->Option (List Int)
 | 0,_,_,_=>none
 | k+1,x0,x2,x3=>if x2 < x3 then (if 0<=x3 then (if x3 < (x0.length:Int) then (if 0<=x2 then (if x2 < (x0.length:Int) then (slices_Reverse_int_int.l0 k ((x0.set (x2:Int).toNat (rd x0 x3)).set (x3:Int).toNat (rd x0 x2)) (wrap64 (x2+1)) (wrap64 (x3 - 1))) else (none)) else (none)) else (none)) else (none)) else (some x0)
def slices_Reverse_int_int.f (k:Nat) (l0:List Int):Option (List Int):=slices_Reverse_int_int.l0 k l0 0 (wrap64 ((l0.length:Int) - 1))
def slices_Reverse_int_int.T3:Bool × List (List Nat × List Nat):=(true,[([],[]),([],[]),([],[]),([],[]),([],[]),([],[]),([4,5],[4,5]),([6],[6]),([],[]),([],[]),([8,9],[8,9]),([10],[10]),([0,1,0,1,4,5,6,7,11],[0,1]),([12,7,0,1,4,5,6,7,11],[7,12]),([2,3,0,1,2,3,4,5,6,7,8,9,10,11,12,13],[2,3]),([14,11,13,0,1,2,3,4,5,6,7,8,9,10,11,12,13],[11,14])])
def slices_Reverse_int_int.B3:List Nat:=[0,0,0,0,0,0,48,112,0,0,768,1792,4083,8179,16383,32767]
theorem slices_Reverse_int_int.tab3:rtab .any (opsOf Try.f63 3)=slices_Reverse_int_int.T3:=by kernel_rfl
theorem slices_Reverse_int_int.bits3:waitsOk slices_Reverse_int_int.T3.2 slices_Reverse_int_int.B3=true:=by kernel_rfl
set_option maxHeartbeats 8000000 in
set_option maxRecDepth 100000 in
theorem slices_Reverse_int_int.calls (k:Nat) (P0_:Nat->Prop) (u9000_:Value) (l0:List Int) (r:List Int) (w0 w:World) (hB:Below w0.heap.size w0 w) (ho0:Kd.R (Kd.int .i64) 3 w w0.heap.size P0_ u9000_ l0) (h:slices_Reverse_int_int.f k l0=some r) :
  Calls Try.prog 63 #[u9000_] w fun e w'=>e=.returned (.tuple #[])/\Kd.R (Kd.int .i64) 3 w' w0.heap.size (fun k_=>(P0_ k_∨w.heap.size<=k_)) u9000_ r/\Below w0.heap.size w0 w'/\Kept w w' (fun k_=>P0_ k_):=by
 have HO0:=Aside0.mk (show Kd.R (Kd.int .i64) 3 w w0.heap.size (fun k_=>(P0_ k_∨w.heap.size<=k_)) u9000_ l0 from Kd.R_mono ho0 (fun k_ hk=>(.inl hk)))
 have HK:=Aside0.mk (Kept.refl w (fun k_=>P0_ k_))
 have HW0:=Aside0.mk hB.size
 have HB:=Aside0.mk hB
 clear hB
 have H:(slices_Reverse_int_int.l0 k l0 0 (wrap64 ((l0.length:Int) - 1)))=some r:=h
 clear h
 have H':=Aside0.mk H
 clear H
 obtain ⟨Ao2,co2,eo2⟩:=Kd.R_slice HO0.out
 subst eo2
 go_enter Try.func63,Try.ntmps63
 go_wp2
 go_loopg [2,3] k (fun kq v2 v3 w'=>∃ (x0_1:List Int) (x2_1:Int) (x3_1:Int),v2=.int .i64 x2_1/\v3=.int .i64 x3_1/\Aside0 (slices_Reverse_int_int.l0 kq x0_1 x2_1 x3_1=some r)/\Aside0 (kq<=k)/\Aside0 (Kd.R (Kd.int .i64) 3 w' w0.heap.size (fun k_=>(P0_ k_∨w.heap.size<=k_)) (.slice Ao2 l0.length co2) x0_1)/\Aside0 (Kept w w' (fun k_=>P0_ k_))/\Aside0 (Below w0.heap.size w0 w'))
 case atStart=>exact ⟨(l0),(0),(wrap64 ((l0.length:Int) - 1)),(by first | rfl | (simp;done) | (simp [*];done)),(by first | rfl | (simp;done) | (simp [*];done)),H',⟨Nat.le_refl _⟩,⟨by (with_reducible repeat (first | apply Kd.R_alloc | apply Kd.R_drewN | apply Kd.R_drew));exact HO0.out⟩,⟨by repeat (first | (with_reducible first | exact HK.out | apply Kept.alloc | apply Kept.drewN | apply Kept.drew) | exact HK.out)⟩,⟨by repeat (first | (with_reducible first | exact HB.out | apply below_alloc | apply pw_below_drewN | apply below_drew1) | exact HB.out)⟩⟩
 case round =>
  clear H'
  try clear p2
  obtain ⟨x0_1,x2_1,x3_1,rfl,rfl,HA,HK1,HO_0,HK,HB⟩:=hrel
  have hl0_1:=(Kd.R_reads' HO_0.out).1
  rw [hl0_1] at HO_0
  (try simp only [hl0_1])
  cases gk with
  | zero=>exact absurd HA.out (by simp [slices_Reverse_int_int.l0])
  | succ k1 =>
   have H:=HA.out
   clear HA
   simp only [slices_Reverse_int_int.l0] at H
   by_cases c3:x2_1 < x3_1
   ·rw [if_pos c3] at H
    have c3b0:decide (x2_1 < x3_1)=true:=decide_eq_true c3
    clear c3
    by_cases c4:0<=x3_1
    ·rw [if_pos c4] at H
     have c4b0:decide (0<=x3_1)=true:=decide_eq_true c4
     clear c4
     by_cases c5:x3_1 < (x0_1.length:Int)
     ·rw [if_pos c5] at H
      have c5b0:decide (x3_1 < (x0_1.length:Int))=true:=decide_eq_true c5
      clear c5
      by_cases c6:0<=x2_1
      ·rw [if_pos c6] at H
       have c6b0:decide (0<=x2_1)=true:=decide_eq_true c6
       clear c6
       by_cases c7:x2_1 < (x0_1.length:Int)
       ·rw [if_pos c7] at H
        have c7b0:decide (x2_1 < (x0_1.length:Int))=true:=decide_eq_true c7
        clear c7
        obtain ⟨y106,hy106⟩:∃ y_:List Int,y_=(x0_1.set (x2_1:Int).toNat (rd x0_1 x3_1)):=⟨_,rfl⟩
        replace H:(slices_Reverse_int_int.l0 k1 (y106.set (x3_1:Int).toNat (rd x0_1 x2_1)) (wrap64 (x2_1+1)) (wrap64 (x3_1 - 1)))=some r:=by first | (rw [hy106];with_reducible exact H) | (have H2_:=(Option.bind_some _ _).symm.trans H;rw [hy106];with_reducible exact H2_) | (have H2_:=(Option.bind_some _ _).symm.trans H;with_reducible exact H2_) | with_reducible exact H | (rw [hy106];exact H) | exact H
        have Ny106:=Aside0.mk hy106
        clear hy106
        obtain ⟨y107,hy107⟩:∃ y_:List Int,y_=(y106.set (x3_1:Int).toNat (rd x0_1 x2_1)):=⟨_,rfl⟩
        replace H:(slices_Reverse_int_int.l0 k1 y107 (wrap64 (x2_1+1)) (wrap64 (x3_1 - 1)))=some r:=by first | (rw [hy107];with_reducible exact H) | (have H2_:=(Option.bind_some _ _).symm.trans H;rw [hy107];with_reducible exact H2_) | (have H2_:=(Option.bind_some _ _).symm.trans H;with_reducible exact H2_) | with_reducible exact H | (rw [hy107];exact H) | exact H
        have Ny107:=Aside0.mk hy107
        clear hy107
        have H':=Aside0.mk H
        clear H
        try go_wp2
        have n0_:=Aside0.mk (Kd.R_drew HO_0.out)
        have n1_:=Aside0.mk (Kept.drew HK.out)
        have n2_:=Aside0.mk (below_drew1 HB.out)
        clear HO_0
        clear HK
        clear HB
        have HO_0:=n0_
        have HK:=n1_
        have HB:=n2_
        clear n0_ n1_ n2_
        have p104:0<=(x3_1:Int):=of_decide_eq_true (by first | (with_reducible assumption) | assumption)
        have q104:x3_1 < (x0_1.length:Int):=of_decide_eq_true (by first | (with_reducible assumption) | assumption)
        obtain ⟨ad104,e104,hx104_0⟩:=Kd.at_int (Kd.R_reads' HO_0.out).2.2 x3_1 p104 q104
        cases e104
        replace p104:=eq_true p104
        replace q104:=eq_true q104
        have p105:0<=(x2_1:Int):=of_decide_eq_true (by first | (with_reducible assumption) | assumption)
        have q105:x2_1 < (x0_1.length:Int):=of_decide_eq_true (by first | (with_reducible assumption) | assumption)
        obtain ⟨ad105,e105,hx105_0⟩:=Kd.at_int (Kd.R_reads' HO_0.out).2.2 x2_1 p105 q105
        obtain rfl:ad104=ad105:=(by injection e105)
        replace p105:=eq_true p105
        replace q105:=eq_true q105
        have p8:0<=(x2_1:Int):=of_decide_eq_true (by first | (with_reducible assumption) | assumption)
        have q8:(x2_1:Int) < ((x0_1.length:Int):Int):=of_decide_eq_true (by first | (with_reducible assumption) | assumption)
        obtain ⟨go8,co8,eo8,gb8,gl8,cl8,HG8⟩:=Kd.R_form HO_0.out (by omega)
        (first | cases eo8 | (injection eo8 with ea_ en_ ec_;(first | subst ea_ | (injection ea_ with ea_;subst ea_));subst ec_;clear en_))
        have GB8:=Aside0.mk gb8
        have GG8:=Aside0.mk HG8
        clear gb8 gl8 HG8
        have HMgo8:=Aside0.mk (show (P0_ go8∨w.heap.size<=go8) from (HO_0.out.1 _ rfl))
        (first | simp only [add_plain] at hx104_0 | skip)
        (first | simp only [add_plain] at hx105_0 | skip)
        obtain ⟨hx8_0,hf8_0⟩:=Kd.R_celln 0 HO_0.out (x2_1:Int) p8 q8
        replace p8:=eq_true p8
        replace q8:=eq_true q8
        have HP11:=Kd.R_putn HO_0.out (x2_1:Int) (rd x0_1 x3_1)
        rw [<-Ny106.out] at HP11
        have HQ11:=Aside0.mk HP11
        clear HP11
        have p9:0<=(x3_1:Int):=of_decide_eq_true (by first | (with_reducible assumption) | assumption)
        have q9:(x3_1:Int) < ((x0_1.length:Int):Int):=of_decide_eq_true (by first | (with_reducible assumption) | assumption)
        obtain ⟨hx9_0,hf9_0⟩:=Kd.R_celln 0 HQ11.out (x3_1:Int) p9 q9
        replace p9:=eq_true p9
        replace q9:=eq_true q9
        have HP12:=Kd.R_putn HQ11.out (x3_1:Int) (rd x0_1 x2_1)
        rw [<-Ny107.out] at HP12
        have HQ12:=Aside0.mk HP12
        clear HP12
        refine start_ (n:=16) (S:=fun w'=>w'.cell? ⟨go8,(x3_1).toNat,none⟩=some (.int .i64 (rd x0_1 x3_1))/\w'.cell? ⟨go8,(x2_1).toNat,none⟩=some (.int .i64 (rd x0_1 x2_1))) (ds:=[13,15]) #[false,false,false,false,false,false,false,false,false,false,false,false,false,false,false,false] (by kernel_rfl) rfl rfl ⟨hx104_0,hx105_0⟩ (fun hHeld=>?_);refine with_tabW slices_Reverse_int_int.tab3 slices_Reverse_int_int.bits3 (fun HT_ HW_=>?_)
        generalize wr.drew=w10 at HO_0 HK HB GG8 HQ11 HQ12 hf8_0 hf9_0 hx104_0 hx105_0 hx8_0 hx9_0 hHeld ⊢
        refine pure_ (i:=0) (N:=some 14) (v:=?_) (a':=?_) #[true,false,false,false,false,false,false,false,false,false,false,false,false,false,false,false] rfl rfl (any_of HT_.out (by kernel_rfl)) (fun _ _ _ h=>h) (Or.inl ⟨by rfl,?_⟩) ?_ ?_
        rotate_left
        ·intro w'
         go_simp
         with_reducible rfl
        rotate_left
        ·simp only [Act.put,List.setIfInBounds_toArray,List.set_cons_zero,List.set_cons_succ,i64_w,i32_w]
         rfl
        refine pure_ (i:=1) (N:=some 15) (v:=?_) (a':=?_) #[true,true,false,false,false,false,false,false,false,false,false,false,false,false,false,false] rfl rfl (any_of HT_.out (by kernel_rfl)) (fun _ _ _ h=>h) (Or.inl ⟨by rfl,?_⟩) ?_ ?_
        rotate_left
        ·intro w'
         go_simp
         with_reducible rfl
        rotate_left
        ·simp only [Act.put,List.setIfInBounds_toArray,List.set_cons_zero,List.set_cons_succ,i64_w,i32_w]
         rfl
        refine pure_ (i:=2) (N:=some 16) (v:=?_) (a':=?_) #[true,true,true,false,false,false,false,false,false,false,false,false,false,false,false,false] rfl rfl (any_of HT_.out (by kernel_rfl)) (fun _ _ _ h=>h) (Or.inl ⟨by rfl,?_⟩) ?_ ?_
        rotate_left
        ·intro w'
         go_simp
         with_reducible rfl
        rotate_left
        ·simp only [Act.put,List.setIfInBounds_toArray,List.set_cons_zero,List.set_cons_succ,i64_w,i32_w]
         rfl
        refine pure_ (i:=3) (N:=some 17) (v:=?_) (a':=?_) #[true,true,true,true,false,false,false,false,false,false,false,false,false,false,false,false] rfl rfl (any_of HT_.out (by kernel_rfl)) (fun _ _ _ h=>h) (Or.inl ⟨by rfl,?_⟩) ?_ ?_
        rotate_left
        ·intro w'
         go_simp
         with_reducible rfl
        rotate_left
        ·simp only [Act.put,List.setIfInBounds_toArray,List.set_cons_zero,List.set_cons_succ,i64_w,i32_w]
         rfl
        refine pure_ (i:=4) (N:=some 18) (v:=?_) (a':=?_) #[true,true,true,true,true,false,false,false,false,false,false,false,false,false,false,false] rfl rfl (any_of HT_.out (by kernel_rfl)) (fun _ _ _ h=>h) (Or.inl ⟨by rfl,?_⟩) ?_ ?_
        rotate_left
        ·intro w'
         go_simp
         with_reducible rfl
        rotate_left
        ·simp only [Act.put,List.setIfInBounds_toArray,List.set_cons_zero,List.set_cons_succ,i64_w,i32_w]
         rfl
        refine pure_ (i:=5) (N:=some 19) (v:=?_) (a':=?_) #[true,true,true,true,true,true,false,false,false,false,false,false,false,false,false,false] rfl rfl (any_of HT_.out (by kernel_rfl)) (fun _ _ _ h=>h) (Or.inl ⟨by rfl,?_⟩) ?_ ?_
        rotate_left
        ·intro w'
         go_simp
         with_reducible rfl
        rotate_left
        ·simp only [Act.put,List.setIfInBounds_toArray,List.set_cons_zero,List.set_cons_succ,i64_w,i32_w]
         rfl
        refine pure_ (i:=6) (N:=some 20) (v:=?_) (a':=?_) #[true,true,true,true,true,true,true,false,false,false,false,false,false,false,false,false] rfl rfl (any_of HT_.out (by kernel_rfl)) (fun _ _ _ h=>h) (Or.inl ⟨by rfl,?_⟩) ?_ ?_
        rotate_left
        ·intro w'
         go_simp
         with_reducible rfl
        rotate_left
        ·simp only [Act.put,List.setIfInBounds_toArray,List.set_cons_zero,List.set_cons_succ,i64_w,i32_w]
         rfl
        refine pure_ (i:=8) (N:=some 22) (v:=?_) (a':=?_) #[true,true,true,true,true,true,true,false,true,false,false,false,false,false,false,false] rfl rfl (any_of HT_.out (by kernel_rfl)) (fun _ _ _ h=>h) (Or.inl ⟨by rfl,?_⟩) ?_ ?_
        rotate_left
        ·intro w'
         go_simp
         with_reducible rfl
        rotate_left
        ·simp only [Act.put,List.setIfInBounds_toArray,List.set_cons_zero,List.set_cons_succ,i64_w,i32_w]
         rfl
        refine pure_ (i:=9) (N:=some 23) (v:=?_) (a':=?_) #[true,true,true,true,true,true,true,false,true,true,false,false,false,false,false,false] rfl rfl (any_of HT_.out (by kernel_rfl)) (fun _ _ _ h=>h) (Or.inl ⟨by rfl,?_⟩) ?_ ?_
        rotate_left
        ·intro w'
         go_simp
         with_reducible rfl
        rotate_left
        ·simp only [Act.put,List.setIfInBounds_toArray,List.set_cons_zero,List.set_cons_succ,i64_w,i32_w]
         rfl
        refine pure_ (i:=10) (N:=some 24) (v:=?_) (a':=?_) #[true,true,true,true,true,true,true,false,true,true,true,false,false,false,false,false] rfl rfl (any_of HT_.out (by kernel_rfl)) (fun _ _ _ h=>h) (Or.inl ⟨by rfl,?_⟩) ?_ ?_
        rotate_left
        ·intro w'
         go_simp
         with_reducible rfl
        rotate_left
        ·simp only [Act.put,List.setIfInBounds_toArray,List.set_cons_zero,List.set_cons_succ,i64_w,i32_w]
         rfl
        refine take_ (i:=7) (N:=some 21) (v:=?_) (a':=?_) #[true,true,true,true,true,true,true,true,true,true,true,false,false,false,false,false] rfl rfl (take_ofW HT_.out HW_.out (by kernel_rfl)) (fun _ _ _ h=>h) (Or.inl ⟨by rfl,?_⟩) hHeld ?_ ?_
        rotate_left
        ·rintro w' ⟨s0,s1⟩
         go_simp
         with_reducible rfl
        rotate_left
        ·simp only [Act.put,List.setIfInBounds_toArray,List.set_cons_zero,List.set_cons_succ,i64_w,i32_w]
         rfl
        refine take_ (i:=11) (N:=some 25) (v:=?_) (a':=?_) #[true,true,true,true,true,true,true,true,true,true,true,true,false,false,false,false] rfl rfl (take_ofW HT_.out HW_.out (by kernel_rfl)) (fun _ _ _ h=>h) (Or.inl ⟨by rfl,?_⟩) hHeld ?_ ?_
        rotate_left
        ·rintro w' ⟨s0,s1⟩
         go_simp
         with_reducible rfl
        rotate_left
        ·simp only [Act.put,List.setIfInBounds_toArray,List.set_cons_zero,List.set_cons_succ,i64_w,i32_w]
         rfl
        refine pure_ (i:=12) (N:=some 26) (v:=?_) (a':=?_) #[true,true,true,true,true,true,true,true,true,true,true,true,true,false,false,false] rfl rfl (any_of HT_.out (by kernel_rfl)) (fun _ _ _ h=>h) (Or.inl ⟨by rfl,?_⟩) ?_ ?_
        rotate_left
        ·intro w'
         go_simp
         with_reducible rfl
        rotate_left
        ·simp only [Act.put,List.setIfInBounds_toArray,List.set_cons_zero,List.set_cons_succ,i64_w,i32_w]
         rfl
        refine last_ (i:=13) (N:=none) #[true,true,true,true,true,true,true,true,true,true,true,true,true,true,false,false] rfl rfl (one_of HT_.out (by kernel_rfl)) (by decide) (fun K hK=>?_)
        refine skip_ (w1:=?_) (by rfl) rfl ?_ ?_
        rotate_left
        ·go_simp
         rfl
        refine hK.out _ _ ?_
        clear hK K
        refine pure_ (i:=14) (N:=some 27) (v:=?_) (a':=?_) #[true,true,true,true,true,true,true,true,true,true,true,true,true,true,true,false] rfl rfl (any_of HT_.out (by kernel_rfl)) (fun _ _ _ h=>h) (Or.inl ⟨by rfl,?_⟩) ?_ ?_
        rotate_left
        ·intro w'
         go_simp
         with_reducible rfl
        rotate_left
        ·simp only [Act.put,List.setIfInBounds_toArray,List.set_cons_zero,List.set_cons_succ,i64_w,i32_w]
         rfl
        refine last_ (i:=15) (N:=none) #[true,true,true,true,true,true,true,true,true,true,true,true,true,true,true,true] rfl rfl (one_of HT_.out (by kernel_rfl)) (by decide) (fun K hK=>?_)
        refine skip_ (w1:=?_) (by rfl) rfl ?_ ?_
        rotate_left
        ·go_simp
         rfl
        refine hK.out _ _ ?_
        clear hK K
        refine done_ (done_of HT_.out (by kernel_rfl)) ?_
        try go_wp2
        (try simp only [<-hl0_1])
        go_roundg k1
        case measure=>have:=HK1.out;omega
        case rel=>exact ⟨(y107),(wrap64 (x2_1+1)),(wrap64 (x3_1 - 1)),(by first | rfl | (simp;done) | (simp [*];done)),(by first | rfl | (simp;done) | (simp [*];done)),H',⟨by have:=HK1.out;omega⟩,⟨by (try simp only [hl0_1]);(with_reducible repeat (first | apply Kd.R_alloc | apply Kd.R_drewN | apply Kd.R_drew));exact HQ12.out⟩,⟨by repeat (first | (with_reducible first | exact HK.out | apply Kept.alloc | apply Kept.drewN | apply Kept.drew | refine Kept.setCell ?_ HMgo8.out _ | refine Kept.setCell ?_ HMgo8.out _) | exact HK.out)⟩,⟨by repeat (first | (with_reducible first | exact HB.out | apply below_alloc | apply pw_below_drewN | apply below_drew1 | refine below_set ?_ GB8.out | refine below_set ?_ GB8.out) | exact HB.out)⟩⟩
       ·rw [if_neg c7] at H
        exact absurd H (by simp)
      ·rw [if_neg c6] at H
       exact absurd H (by simp)
     ·rw [if_neg c5] at H
      exact absurd H (by simp)
    ·rw [if_neg c4] at H
     exact absurd H (by simp)
   ·rw [if_neg c3] at H
    have c3b0:decide (x2_1 < x3_1)=false:=decide_eq_false c3
    clear c3
    obtain rfl:=Option.some.inj H
    go_wp2
    first | go_end0 | ((try simp only [Exit.inBlock,Exit.then]);refine bodyPost_ret (results_none rfl _ _ _) rfl ?_)
    exact ⟨by first | rfl | (simp [errW_none,errW_some] <;> rfl) | (simp [*,errW_none,errW_some] <;> rfl),(by first | exact (by (with_reducible repeat (first | apply Kd.R_alloc | apply Kd.R_drewN | apply Kd.R_drew));exact HO_0.out) | (simp only [hl0_1];exact (by (with_reducible repeat (first | apply Kd.R_alloc | apply Kd.R_drewN | apply Kd.R_drew));exact HO_0.out))),by repeat (first | (with_reducible first | exact HB.out | apply below_alloc | apply pw_below_drewN | apply below_drew1) | exact HB.out),by repeat (first | (with_reducible first | exact HK.out | apply Kept.alloc | apply Kept.drewN | apply Kept.drew) | exact HK.out)⟩
def bits_Mul64.f (a0:Int) (a1:Int):Option (Int × Int):=some (IntKind.u64.wrap ((IntKind.u64.wrap ((IntKind.u64.wrap ((a0 / 4294967296) * (a1 / 4294967296)))+((IntKind.u64.wrap ((IntKind.u64.wrap ((a0 / 4294967296) * (Go.bits .and .u64 a1 4294967295)))+((IntKind.u64.wrap ((Go.bits .and .u64 a0 4294967295) * (Go.bits .and .u64 a1 4294967295))) / 4294967296))) / 4294967296)))+((IntKind.u64.wrap ((Go.bits .and .u64 (IntKind.u64.wrap ((IntKind.u64.wrap ((a0 / 4294967296) * (Go.bits .and .u64 a1 4294967295)))+((IntKind.u64.wrap ((Go.bits .and .u64 a0 4294967295) * (Go.bits .and .u64 a1 4294967295))) / 4294967296))) 4294967295)+(IntKind.u64.wrap ((Go.bits .and .u64 a0 4294967295) * (a1 / 4294967296))))) / 4294967296)),IntKind.u64.wrap (a0 * a1))
set_option maxHeartbeats 8000000 in
set_option maxRecDepth 100000 in
theorem bits_Mul64.calls (a0:Int) (a1:Int) (r1:Int) (r2:Int) (w:World) (h:bits_Mul64.f a0 a1=some (r1,r2)) :
  Calls Try.prog 102 #[.int .u64 a0,.int .u64 a1] w fun e w'=>e=.returned (.tuple #[.int .u64 r1,.int .u64 r2])/\Drawn0 w w':=by
 have H:(some (IntKind.u64.wrap ((IntKind.u64.wrap ((IntKind.u64.wrap ((a0 / 4294967296) * (a1 / 4294967296)))+((IntKind.u64.wrap ((IntKind.u64.wrap ((a0 / 4294967296) * (Go.bits .and .u64 a1 4294967295)))+((IntKind.u64.wrap ((Go.bits .and .u64 a0 4294967295) * (Go.bits .and .u64 a1 4294967295))) / 4294967296))) / 4294967296)))+((IntKind.u64.wrap ((Go.bits .and .u64 (IntKind.u64.wrap ((IntKind.u64.wrap ((a0 / 4294967296) * (Go.bits .and .u64 a1 4294967295)))+((IntKind.u64.wrap ((Go.bits .and .u64 a0 4294967295) * (Go.bits .and .u64 a1 4294967295))) / 4294967296))) 4294967295)+(IntKind.u64.wrap ((Go.bits .and .u64 a0 4294967295) * (a1 / 4294967296))))) / 4294967296)),IntKind.u64.wrap (a0 * a1)))=some (r1,r2):=h
 clear h
 simp only [Option.some.injEq,Prod.mk.injEq] at H
 obtain ⟨rfl,rfl⟩:=H
 go_enter Try.func102,Try.ntmps102
 go_wp2
 go_ret2
 exact ⟨by first | rfl | (simp;done) | (simp [*];done),by repeat (first | exact Drawn0.refl _ | apply Drawn0.step)⟩
def bits_Mul.f (a0:Int) (a1:Int):Option (Int × Int):=(bits_Mul64.f a0 a1).bind fun bt113=>(some (bt113.1,bt113.2))
set_option maxHeartbeats 8000000 in
set_option maxRecDepth 100000 in
theorem bits_Mul.calls (a0:Int) (a1:Int) (r1:Int) (r2:Int) (w:World) (h:bits_Mul.f a0 a1=some (r1,r2)) :
  Calls Try.prog 94 #[.int .u64 a0,.int .u64 a1] w fun e w'=>e=.returned (.tuple #[.int .u64 r1,.int .u64 r2])/\Drawn0 w w':=by
 have H:((bits_Mul64.f a0 a1).bind fun bt113=>(some (bt113.1,bt113.2)))=some (r1,r2):=h
 clear h
 replace H:=Option.bind_eq_some_iff.mp H
 obtain ⟨⟨t113,t114⟩,A30,H⟩:=H
 replace H:(some (t113,t114))=some (r1,r2):=H
 have A3:=Aside0.mk A30
 clear A30
 simp only [Option.some.injEq,Prod.mk.injEq] at H
 obtain ⟨rfl,rfl⟩:=H
 go_enter Try.func94,Try.ntmps94
 go_wp2_with (first | ((with_reducible refine gate_callee (f:=102) rfl ?_);refine goesL_ (some 25) rfl rfl Try.func102 (by kernel_rfl) rfl #[.int .u64 a0,.int .u64 a1] rfl (by (try simp only [List.map_toArray,List.map_cons,List.map_nil]);first | done | rfl | (simp only [List.length_drop,List.length_take];rfl)) ?_;(with_reducible refine (bits_Mul64.calls a0 a1 t113 t114 _ A3.out).mono ?_);rintro e w' ⟨rfl,⟨nd,rfl⟩⟩;refine ⟨_,rfl,?_⟩))
 go_ret2
 exact ⟨by first | rfl | (simp;done) | (simp [*];done),by repeat (first | exact Drawn0.refl _ | apply Drawn0.step)⟩
end Go.Proofs.Ytfiiihpdekppiaa.PShapeReducible
end
section
namespace Go.Proofs.Ytfiiihpdekppiaa
open PShapeReducible (flow_Valid.f slices_Reverse_int_int.f)
def ValidIs (g:List (List Int)) (b:Bool):Prop:=∃ k,flow_Valid.f k g=some b
def OrderIs (g:List (List Int)) (r:List Int):Prop:=0 < g.length/\g.length<=1000000/\ValidIs g true/\(∃ k,orderF k g=some r)/\∃ k,slices_Reverse_int_int.f k r.reverse=some r
def ViewIs (g:List (List Int)) (r:List Int) (m:List (Int × Int)) (p:List (List Int)):Prop:=OrderIs g r/\viewLoop g r 0 [] (List.replicate g.length [])=some (m,p)/\p.length=g.length
def DomIs (g:List (List Int)) (r:List Int) (m:List (Int × Int)) (p:List (List Int)) (d:List Int):Prop:=ViewIs g r m p/\0 < r.length/\d.length=g.length/\∃ k,domsF k r m p g.length=some d
def redIn (k:Nat) (m:List (Int × Int)) (idom:List Int) (u:Int):List Int->Option Bool
 | []=>some true
 | s :: l=>if mI0 m s<=mI0 m u then (climb m idom k u s).bind fun n=>if n=s then redIn k m idom u l else some false else redIn k m idom u l
def redOut (k:Nat) (g:List (List Int)) (m:List (Int × Int)) (idom:List Int):List Int->Option Bool
 | []=>some true
 | u :: r=>if 0<=u/\u < g.length then (redIn k m idom u (g.getD u.toNat [])).bind fun b=>if b=true then redOut k g m idom r else some false else none
def RedIs (g:List (List Int)) (b:Bool):Prop:=(ValidIs g false/\b=false)∨∃ r m p d k,DomIs g r m p d/\redOut k g m d r=some b
def DominatorsIs (g:List (List Int)) (d:List Int):Prop:=∃ r m p d',DomIs g r m p d'/\d=d'.set 0 (-1)
end Go.Proofs.Ytfiiihpdekppiaa
end
section
namespace Go.Proofs.Ytfiiihpdekppiaa
open Go.RowKit Go.Proofs Go.Proofs.YtfiiihpdekppiaaW.PrintWords
open PShapeReducible (flow_Valid.f flow_Valid.l0 flow_Valid.l1 slices_Reverse_int_int.f slices_Reverse_int_int.l0 rd_L1)
instance (g:List (List Int)):Decidable (ValidG g):=inferInstanceAs (Decidable (∀ l∈g,∀ s∈l,0<=s/\s < g.length))
theorem wrap64_in {i:Int} (h:-9223372036854775808<=i) (h':i<=9223372036854775807):wrap64 i=i:=by unfold wrap64;omega
theorem valid_l1 (g:List (List Int)) (b:Bool) (x8:List (List Int)) (x9 x10:Int) (l:List Int) (hl:l.length<=1000000000)
  (hbad:(∃ s∈l,¬ (0<=s/\s < g.length))->b=false) (hgood:(∀ s∈l,0<=s/\s < g.length)->∃ k,flow_Valid.l0 k x8 x9 (wrap64 (x10+1)) g=some b) :
  ∀ (m i:Nat),i+m=l.length->(∀ j,j < i->0<=l.getD j 0/\l.getD j 0 < g.length)->∃ k,flow_Valid.l1 k x8 x9 x10 l (l.length:Int) i g=some b
 | 0,i,hi,hj=>by
  obtain ⟨k,hk⟩:=hgood (fun s hs=>by
   obtain ⟨j,hjj⟩:=List.mem_iff_getElem?.1 hs
   have:=(List.getElem?_eq_some_iff.1 hjj).1
   have h1:=hj j (by omega)
   rw [List.getD_eq_getElem?_getD,hjj] at h1
   exact h1)
  refine ⟨k+1,?_⟩
  rw [flow_Valid.l1,if_neg (by omega)]
  exact hk
 | m+1,i,hi,hj=>by
  have hget:l.getD i 0∈l:=by rw [List.getD_eq_getElem?_getD,List.getElem?_eq_getElem (by omega)];exact List.getElem_mem _
  have e:rd l (i:Int)=l.getD i 0:=rfl
  by_cases h1:0<=l.getD i 0/\l.getD i 0 < g.length
  ·obtain ⟨k,hk⟩:=valid_l1 g b x8 x9 x10 l hl hbad hgood m (i+1) (by omega) (fun j hjj=>by
    by_cases h:j < i
    ·exact hj j h
    ·have:j=i:=by omega
     rw [this];exact h1)
   refine ⟨k+1,?_⟩
   rw [flow_Valid.l1,if_pos (by omega),if_pos (by omega),if_pos (by omega),e,if_neg (by omega),if_neg (by omega),wrap64_in (by omega) (by omega)]
   exact hk
  ·have hb:=hbad ⟨_,hget,h1⟩
   refine ⟨1,?_⟩
   rw [flow_Valid.l1,if_pos (by omega),if_pos (by omega),if_pos (by omega),e,hb]
   by_cases h2:l.getD i 0 < 0
   ·rw [if_pos h2]
   ·rw [if_neg h2,if_pos (by omega)]
theorem valid_l0 (g:List (List Int)) (hg:g.length<=1000000000) (hr:∀ l∈g,l.length<=1000000000) (b:Bool) (hb:b=decide (ValidG g/\0 < g.length)) :
  ∀ (m i:Nat),i+m=g.length->(∀ j,j < i->∀ s∈g.getD j [],0<=s/\s < g.length)->∃ k,flow_Valid.l0 k g (g.length:Int) i g=some b
 | 0,i,hi,hj=>by
  refine ⟨1,?_⟩
  rw [flow_Valid.l0,if_neg (by omega),hb]
  have hv:ValidG g:=fun l hl s hs=>by
   obtain ⟨j,hjj⟩:=List.mem_iff_getElem?.1 hl
   have:=(List.getElem?_eq_some_iff.1 hjj).1
   have h1:=hj j (by omega) s
   rw [List.getD_eq_getElem?_getD,hjj] at h1
   exact h1 hs
  congr 1
  simp [hv]
 | m+1,i,hi,hj=>by
  have hmem:g.getD i []∈g:=by rw [List.getD_eq_getElem?_getD,List.getElem?_eq_getElem (by omega)];exact List.getElem_mem _
  have e:rd_L1 g (i:Int)=g.getD i []:=rfl
  obtain ⟨k,hk⟩:=valid_l1 g b g (g.length:Int) i (g.getD i []) (hr _ hmem) (by
    rintro ⟨s,hs,hn⟩
    rw [hb]
    exact decide_eq_false (fun h=>hn (h.1 _ hmem s hs))) (by
    intro h
    rw [wrap64_in (by omega) (by omega)]
    exact valid_l0 g hg hr b hb m (i+1) (by omega) (fun j hjj=>by
     by_cases h':j < i
     ·exact hj j h'
     ·have:j=i:=by omega
      rw [this];exact h)) (g.getD i []).length 0 (by omega) (by omega)
  refine ⟨k+1,?_⟩
  rw [flow_Valid.l0,if_pos (by omega),if_pos (by omega),if_pos (by omega),e]
  exact hk
theorem valid_is (g:List (List Int)) (hg:g.length<=1000000000) (hr:∀ l∈g,l.length<=1000000000):ValidIs g (decide (ValidG g/\0 < g.length)) :=
 valid_l0 g hg hr _ rfl g.length 0 (by omega) (by omega)
theorem reverse_l0:∀ (m:Nat) (a b mid:List Int),mid.length<=m->a.length=b.length->(a++mid++b).length<=1000000000->∃ k,slices_Reverse_int_int.l0 k (a++mid++b) a.length ((a.length:Int)+mid.length - 1)=some (a++mid.reverse++b)
 | m,a,b,[],_,_,_=>⟨1,by rw [slices_Reverse_int_int.l0,if_neg (by simp;omega)];simp⟩
 | m,a,b,[x],_,_,_=>⟨1,by rw [slices_Reverse_int_int.l0,if_neg (by simp)];simp⟩
 | 0,a,b,_ :: _ :: _,h,_,_=>by simp at h
 | m+1,a,b,x :: y :: r,hm,hab,hl=>by
  obtain ⟨mid,z,hz⟩:∃ mid z,y :: r=mid++[z]:=⟨_,_,(List.dropLast_concat_getLast (by simp)).symm⟩
  rw [hz] at hm hl ⊢
  have hlen:(a++x :: (mid++[z])++b).length=a.length+mid.length+2+b.length:=by simp;omega
  rw [hlen] at hl
  obtain ⟨k,hk⟩:=reverse_l0 m (a++[z]) (x :: b) mid (by simp at hm;omega) (by simp;omega) (by simp;omega)
  refine ⟨k+1,?_⟩
  have e1:rd (a++x :: (mid++[z])++b) (a.length:Int)=x:=by
   show (a++x :: (mid++[z])++b).getD a.length 0=x
   simp [List.getD_eq_getElem?_getD]
  have e2:rd (a++x :: (mid++[z])++b) ((a.length:Int)+(x :: (mid++[z])).length - 1)=z:=by
   show (a++x :: (mid++[z])++b).getD ((a.length:Int)+(x :: (mid++[z])).length - 1).toNat 0=z
   have:((a.length:Int)+(x :: (mid++[z])).length - 1).toNat=(a++x :: mid).length:=by simp;omega
   rw [this,List.getD_eq_getElem?_getD,show a++x :: (mid++[z])++b=(a++x :: mid)++z :: b by simp]
   rw [List.getElem?_append_right (Nat.le_refl _)]
   simp
  have e3:((a++x :: (mid++[z])++b).set (a.length:Int).toNat z).set ((a.length:Int)+(x :: (mid++[z])).length - 1).toNat x=(a++[z])++mid++x :: b:=by
   have:((a.length:Int)+(x :: (mid++[z])).length - 1).toNat=(a++z :: mid).length:=by simp;omega
   rw [this,Int.toNat_natCast]
   rw [show a++x :: (mid++[z])++b=a++x :: (mid++z :: b) by simp,List.set_append_right _ _ (Nat.le_refl _),Nat.sub_self,List.set_cons_zero]
   rw [show a++z :: (mid++z :: b)=(a++z :: mid)++z :: b by simp,List.set_append_right _ _ (Nat.le_refl _),Nat.sub_self,List.set_cons_zero]
   simp
  rw [slices_Reverse_int_int.l0,if_pos (by simp;omega),if_pos (by simp;omega),if_pos (by simp;omega),if_pos (by omega),if_pos (by simp;omega),e1,e2,e3,wrap64_in (by omega) (by omega),wrap64_in (by simp;omega) (by simp;omega)]
  have e4:((a.length:Int)+1)=((a++[z]).length:Int):=by simp
  have e5:(a.length:Int)+(x :: (mid++[z])).length - 1 - 1=((a++[z]).length:Int)+mid.length - 1:=by simp;omega
  rw [e4,e5,hk]
  simp
theorem reverse_is (xs:List Int) (hl:xs.length<=1000000000):∃ k,slices_Reverse_int_int.f k xs.reverse=some xs:=by
 obtain ⟨k,hk⟩:=reverse_l0 xs.length [] [] xs.reverse (by simp) rfl (by simpa using hl)
 refine ⟨k,?_⟩
 unfold slices_Reverse_int_int.f
 rw [wrap64_in (by omega) (by simp;omega)]
 simpa using hk
theorem order_is {g:List (List Int)} (hv:ValidG g) (h0:0 < g.length) (hl:g.length<=1000000) (hr:∀ l∈g,l.length<=1000000000):∃ r,OrderIs g r/\OrdOk g r:=by
 obtain ⟨k,r,h1,h2⟩:=order_total hv h0 hl
 have hv1:=valid_is g (by omega) hr
 rw [decide_eq_true (show ValidG g/\0 < g.length from ⟨hv,h0⟩)] at hv1
 exact ⟨r,⟨h0,hl,hv1,⟨k,h1⟩,reverse_is r (by have:=nodup_len h2.nd h2.rng;omega)⟩,h2⟩
end Go.Proofs.Ytfiiihpdekppiaa
end
