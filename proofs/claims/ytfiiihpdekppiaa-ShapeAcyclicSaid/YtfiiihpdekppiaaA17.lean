/- A part of the proof that vellumlaw12.ShapeAcyclic is true for every input: walks of functions that the row reaches and plain laws that they need. Conditions: none. Joined by merge.py out of C24 C25 B12 PShapeReduciblex9; a part that began as a print is named P or W there and is trimmed. -/
import Derived.Test.YtfiiihpdekppiaaA4
import Derived.Test.YtfiiihpdekppiaaA16
set_option linter.unusedVariables false
set_option linter.unusedSimpArgs false
section
namespace Go.Proofs.Ytfiiihpdekppiaa
open Go.RowKit Go.Proofs Go.Proofs.YtfiiihpdekppiaaW.PrintWords
open Go.ChangeMaps (setBlock heap_setBlock_same heap_setBlock_other)
open PShapeReducible (S31 k31 at_T31 rd_T31)
theorem frm_len (fs:List Frm):∀ h∈fs.map Frm.cells,h.length=3:=by
 intro h hh
 obtain ⟨a,_,rfl⟩:=List.mem_map.1 hh
 rfl
theorem addz (a:Addr):a.add 0=a:=by
 cases a
 unfold Addr.add
 split <;> simp_all
def rbodyF (g:List (List Int)) (kind node label:Int) (kids:List S31) (c:Cs):Cs :=
 if kids.length≠1∨node≠0∨label < 0∨c.used.contains label=true then c.fail
 else (seqF g kids (c.open label (decide (kind=3)))).close (decide (kind=3)) c.steps.length
set_option maxRecDepth 100000 in
set_option maxHeartbeats 4000000 in
theorem rbody_any (w0:World) (bc:Nat) (gA:Option Addr) (gc:Nat) (g:List (List Int)) (kind node label:Int) (kids:List S31) (ih:∀ k∈kids,ShapeOk w0 bc gA gc g k)
  (F:List Pc) (c:Cs) (p:Cp) (w:World) (A:Option Addr) (n m:Nat) (M:Mem w0 w F (c.own bc (.slice gA g.length gc) p)) (hok:c.Ok (szL kids+1+m)) (hbd:c.bad=false) (hK:k31.C w0 A kids.length kids) :
  Calls Try.prog 89 #[.pointer (some ⟨bc,0,none⟩),.agg #[.int .i64 kind,.int .i64 node,.int .i64 label,.slice A kids.length n]] w fun e w'=>e=.returned (.tuple #[])/\∃ p',Mem w0 w' F ((rbodyF g kind node label kids c).own bc (.slice gA g.length gc) p'):=by
 obtain ⟨vS,vF,vU,ts,bs⟩:=p
 obtain ⟨AU,nU,e,_⟩:=M.rowSlice' (k:=5) rfl
 dsimp only at e
 subst e
 obtain ⟨AS,nS,e,_⟩:=M.rowSlice' (k:=1) rfl
 dsimp only at e
 subst e
 obtain ⟨AF,nF,e,_⟩:=M.rowSlice' (k:=3) rfl
 dsimp only at e
 subst e
 have hus:c.used.length < 1000000000:=by have:=hok.us;simp only [big] at this;omega
 obtain ⟨b3,w1,z1,a1,M1⟩:=M.alloc (.cells #[.int .i64 kind,.int .i64 node,.int .i64 label,.slice A kids.length n] 31)
 have M1:=ak_ M1
 have HK:=ak_ hK
 have IH:=ak_ ih
 have HOK:=ak_ hok
 have HBD:=ak_ hbd
 have e0:w1.cell? ⟨b3,0,none⟩=some (.int .i64 kind):=M1.out.cell (k:=6) (j:=0) rfl rfl
 obtain ⟨lp,hlp⟩:∃ lp,lp=decide (kind=3):=⟨_,rfl⟩
 have hlp':(kind == 3)=lp:=by rw [hlp];exact Bool.beq_eq_decide_eq _ _
 have HLP:=ak_ hlp
 clear M hK ih hok hbd hlp
 go_enter Try.func89,Try.ntmps89
 go_wp2
 go_loopw [5] (fun t wr=>∃ (i:Nat) (bad:Bool),t=.int .i64 i/\i<=c.used.length/\Aside0 (bad=(c.used.take i).contains label) /\
  Aside0 (Mem w0 wr F [.blk bc (.cells #[.slice gA g.length gc,.slice AS c.steps.length nS,.slice AF c.frames.length nF,.slice AU c.used.length nU,.bool bad] 124 (0,0)),.row (.slice AS c.steps.length nS) 77 3 c.steps.length (recs (c.steps.map Stp.cells) ts),.rows ts (c.steps.map Stp.tos),
   .row (.slice AF c.frames.length nF) 141 4 c.frames.length (recs (c.frames.map Frm.cells) bs),.rows bs (c.frames.map Frm.brk),.row (.slice AU c.used.length nU) 3 1 c.used.length (nums .i64 c.used),.blk b3 (.cells #[.int .i64 kind,.int .i64 node,.int .i64 label,.slice A kids.length n] 31 (0,0))])) (fun t _=>c.used.length - (intOf t).toNat)
 case atStart=>exact ⟨0,false,rfl,Nat.zero_le _,⟨by simp⟩,⟨by have:=M1.out;rw [<-HBD.out];exact this⟩⟩
 case round =>
  clear M1 e0 a1 z1
  obtain ⟨i,bad,rfl,hi,hB,hM⟩:=hrel
  have k3:wr.cell? ⟨bc,3,none⟩=some (.slice AU c.used.length nU):=hM.out.cell (k:=0) (j:=3) rfl rfl
  by_cases hlt:i < c.used.length
  ·obtain ⟨w2,z2,M2⟩:=hM.out.drew
   obtain ⟨bU,cU,e9,j2⟩:=M2.rowNum (k:=5) (i:=i) rfl rfl hlt
   simp only [Value.slice.injEq] at e9
   obtain ⟨rfl,hx9,rfl⟩:=e9
   clear hx9
   obtain ⟨x,hx⟩:∃ x,x=c.used.getD i 0:=⟨_,rfl⟩
   rw [<-hx] at j2
   have k3':w2.cell? ⟨bc,3,none⟩=some (.slice (some ⟨bU,0,none⟩) c.used.length nU):=M2.cell (k:=0) (j:=3) rfl rfl
   have e2:w2.cell? ⟨b3,2,none⟩=some (.int .i64 label):=M2.cell (k:=6) (j:=2) rfl rfl
   have hxe:c.used[i]?=some x:=by rw [hx,List.getD_eq_getElem?_getD,List.getElem?_eq_getElem hlt];rfl
   have hB2:(c.used.take (i+1)).contains label=(bad || decide (x=label)):=by
    rw [hB.out,List.take_add_one,hxe]
    simp [Bool.eq_iff_iff,eq_comm]
   have HB:=ak_ hB2
   obtain ⟨w3,s3,M3⟩:=M2.set (k:=0) 4 rfl (.bool true)
   have f4:=M2.free (k:=0) (j:=4) rfl
   have k4:w2.cell? ⟨bc,4,none⟩=some (.bool bad):=M2.cell (k:=0) (j:=4) rfl rfl
   have M2:=ak_ M2
   have M3:=ak_ M3
   have hlt':(i:Int) < c.used.length:=by omega
   clear hB hB2 hx hxe
   by_cases hxl:x=label
   ·subst hxl
    go_wp2_with (first | (rw [z2]) | (refine wp_region_txt (fun _=>True) [] (by kernel_rfl) (by kernel_rfl) ?_) | (with_reducible refine wpT_nil ?_) | (refine wpT_W (v:=?_) trivial (by decide) (wn_ rfl) (fun _ hS_=>?_) ?_;rotate_left;(focus ((try dsimp only at hS_);go_simp;rfl));(simp only [Act.put,sA_,sB_,sC_])) | (refine wpT_R (v:=?_) trivial (by decide) (wn_ rfl) ?_ ?_;rotate_left;(focus (go_simp;rfl));(simp only [Act.put,sA_,sB_,sC_])) | (refine wpT_A (v:=?_) (ob:=?_) trivial (by decide) (wn_ rfl) ?_ ?_ ?_;rotate_left 2;(focus (go_simp;first | (constructor <;> rfl) | rfl));(focus (exact trivial));(simp only [Act.put,sA_,sB_,sC_])))
    go_roundw
    case rel=>exact ⟨i+1,true,by go_num,by omega,⟨by rw [HB.out];simp⟩,M3⟩
    case measure=>simp [intOf];omega
   ·have hxl':(x == label)=false:=by simpa using hxl
    clear s3 f4 k4 M3
    go_wp2_with (first | (rw [z2]) | (refine wp_region_txt (fun _=>True) [] (by kernel_rfl) (by kernel_rfl) ?_) | (with_reducible refine wpT_nil ?_) | (refine wpT_W (v:=?_) trivial (by decide) (wn_ rfl) (fun _ hS_=>?_) ?_;rotate_left;(focus ((try dsimp only at hS_);go_simp;rfl));(simp only [Act.put,sA_,sB_,sC_])) | (refine wpT_R (v:=?_) trivial (by decide) (wn_ rfl) ?_ ?_;rotate_left;(focus (go_simp;rfl));(simp only [Act.put,sA_,sB_,sC_])) | (refine wpT_A (v:=?_) (ob:=?_) trivial (by decide) (wn_ rfl) ?_ ?_ ?_;rotate_left 2;(focus (go_simp;first | (constructor <;> rfl) | rfl));(focus (exact trivial));(simp only [Act.put,sA_,sB_,sC_])))
    go_roundw
    case rel=>exact ⟨i+1,bad,by go_num,by omega,⟨by rw [HB.out];simp [hxl]⟩,M2⟩
    case measure=>simp [intOf];omega
  ·obtain rfl:i=c.used.length:=by omega
   have hB2:=hB.out
   rw [List.take_length] at hB2
   have e1:wr.cell? ⟨b3,1,none⟩=some (.int .i64 node):=hM.out.cell (k:=6) (j:=1) rfl rfl
   have e2:wr.cell? ⟨b3,2,none⟩=some (.int .i64 label):=hM.out.cell (k:=6) (j:=2) rfl rfl
   have e3:wr.cell? ⟨b3,3,none⟩=some (.slice A kids.length n):=hM.out.cell (k:=6) (j:=3) rfl rfl
   have k4:wr.cell? ⟨bc,4,none⟩=some (.bool bad):=hM.out.cell (k:=0) (j:=4) rfl rfl
   obtain ⟨w3,s3,M3⟩:=hM.out.set (k:=0) 4 rfl (.bool true)
   have f4:=hM.out.free (k:=0) (j:=4) rfl
   have M3:=ak_ M3
   have HB:=ak_ hB2
   by_cases hbad:kids.length≠1∨node≠0∨label < 0∨c.used.contains label=true
   ·have HF:=ak_ (show rbodyF g kind node label kids c=c.fail from if_pos hbad)
    by_cases h1:kids.length=1
    ·by_cases h2:node=0
     ·by_cases h3:label < 0
      ·have h1':((kids.length:Int) != 1)=false:=by simp [h1]
       have h2':(node != 0)=false:=by simp [h2]
       clear hbad h1 h2 hB2 hB hM
       go_wp2
       refine bodyPost_ret (results_none rfl _ _ _) rfl ?_
       refine ⟨rfl,⟨.slice AS c.steps.length nS,.slice AF c.frames.length nF,.slice AU c.used.length nU,ts,bs⟩,?_⟩
       rw [HF.out]
       exact M3.out.lose (k:=6) rfl
      ·have h4:bad=true:=by
        rw [hB2]
        rcases hbad with h | h | h | h
        ·exact absurd h1 h
        ·exact absurd h2 h
        ·exact absurd h h3
        ·exact h
       subst h4
       have h1':((kids.length:Int) != 1)=false:=by simp [h1]
       have h2':(node != 0)=false:=by simp [h2]
       clear hbad h1 h2 hB2 hB hM
       go_wp2
       refine bodyPost_ret (results_none rfl _ _ _) rfl ?_
       refine ⟨rfl,⟨.slice AS c.steps.length nS,.slice AF c.frames.length nF,.slice AU c.used.length nU,ts,bs⟩,?_⟩
       rw [HF.out]
       exact M3.out.lose (k:=6) rfl
     ·have h1':((kids.length:Int) != 1)=false:=by simp [h1]
      clear hbad h1 hB2 hB hM
      go_wp2
      refine bodyPost_ret (results_none rfl _ _ _) rfl ?_
      refine ⟨rfl,⟨.slice AS c.steps.length nS,.slice AF c.frames.length nF,.slice AU c.used.length nU,ts,bs⟩,?_⟩
      rw [HF.out]
      exact M3.out.lose (k:=6) rfl
    ·have h1':((kids.length:Int) != 1)=true:=bne_iff_ne.mpr (by omega)
     clear hbad h1 hB2 hB hM
     go_wp2
     refine bodyPost_ret (results_none rfl _ _ _) rfl ?_
     refine ⟨rfl,⟨.slice AS c.steps.length nS,.slice AF c.frames.length nF,.slice AU c.used.length nU,ts,bs⟩,?_⟩
     rw [HF.out]
     exact M3.out.lose (k:=6) rfl
   ·have HF:=ak_ (show rbodyF g kind node label kids c=(seqF g kids (c.open label (decide (kind=3)))).close (decide (kind=3)) c.steps.length from if_neg hbad)
    have hgood:kids.length=1/\node=0/\¬ label < 0/\c.used.contains label=false:=by
     refine ⟨?_,?_,fun h=>hbad (.inr (.inr (.inl h))),?_⟩
     ·exact Classical.byContradiction (fun h=>hbad (.inl h))
     ·exact Classical.byContradiction (fun h=>hbad (.inr (.inl h)))
     ·cases h:c.used.contains label with
      | false=>rfl
      | true=>exact absurd (.inr (.inr (.inr h))) hbad
    obtain ⟨h1,rfl,h3,h4⟩:=hgood
    rw [h4] at hB2
    subst hB2
    obtain ⟨k,rfl⟩:∃ k,kids=[k]:=List.length_eq_one_iff.1 h1
    clear s3 f4 M3 hB HB hbad h1 h4
    obtain ⟨w4,z4,M4⟩:=hM.out.drew
    have k3d:w4.cell? ⟨bc,3,none⟩=some (.slice AU c.used.length nU):=M4.cell (k:=0) (j:=3) rfl rfl
    have e2d:w4.cell? ⟨b3,2,none⟩=some (.int .i64 label):=M4.cell (k:=6) (j:=2) rfl rfl
    have M4:=ak_ M4
    have hkl:(([k]:List S31).length:Int)=1:=rfl
    clear hM
    go_wp2_with (first | (rw [z4]) | (refine wp_region_txt (fun _=>True) [] (by kernel_rfl) (by kernel_rfl) ?_))
    iterate 8 ((first | (with_reducible refine wpT_nil ?_) | (refine wpT_W (v:=?_) trivial (by decide) (wn_ rfl) (fun _ hS_=>?_) ?_;rotate_left;(focus ((try dsimp only at hS_);go_simp;rfl))) | (refine wpT_R (v:=?_) trivial (by decide) (wn_ rfl) ?_ ?_;rotate_left;(focus (go_simp;rfl))) | (refine wpT_A (v:=?_) (ob:=?_) trivial (by decide) (wn_ rfl) ?_ ?_ ?_;rotate_left 2;(focus (go_simp;first | (constructor <;> rfl) | rfl));(focus (exact trivial))));(try simp only [Act.put,sA_,sB_,sC_]))
    refine wpT_L trivial (by decide) (wn_ rfl) (fun K_ hK_=>?_)
    refine step_mem_app (ops:=#[]) 5 rfl (.tmp 61) (.tmp 64) 23 3 (.int .i64 0) 1 8 rfl Try.underlying23 PShapeReducible.info3 rfl (by decide) (by decide) _ c.used.length (nums .i64 c.used) [.int .i64 label] rfl rfl rfl (by simp [Value.oneCell']) M4.out rfl (by omega) ?_
    intro A5 c5 w5 M5
    refine hK_ _ _ trivial ?_
    clear hK_
    have d1:w5.cell? ⟨bc,3,none⟩=some (.slice AU c.used.length nU):=M5.cell (k:=0) (j:=3) rfl rfl
    have d2:=M5.free (k:=0) (j:=3) rfl
    obtain ⟨w6,s6,M6⟩:=M5.set (k:=0) 3 rfl (.slice A5 (c.used.length+1) c5)
    obtain ⟨w7,z7,M7⟩:=M6.drew
    have k1:w6.cell? ⟨bc,1,none⟩=some (.slice AS c.steps.length nS):=M6.cell (k:=0) (j:=1) rfl rfl
    have k2:w7.cell? ⟨bc,2,none⟩=some (.slice AF c.frames.length nF):=M7.cell (k:=0) (j:=2) rfl rfl
    have e2f:w7.cell? ⟨b3,2,none⟩=some (.int .i64 label):=M7.cell (k:=6) (j:=2) rfl rfl
    have M7:=ak_ M7
    clear M5 M6
    iterate 2 ((first | (with_reducible refine wpT_nil ?_) | (refine wpT_W (v:=?_) trivial (by decide) (wn_ rfl) (fun _ hS_=>?_) ?_;rotate_left;(focus ((try dsimp only at hS_);go_simp;rfl))) | (refine wpT_R (v:=?_) trivial (by decide) (wn_ rfl) ?_ ?_;rotate_left;(focus (go_simp;rfl))) | (refine wpT_A (v:=?_) (ob:=?_) trivial (by decide) (wn_ rfl) ?_ ?_ ?_;rotate_left 2;(focus (go_simp;first | (constructor <;> rfl) | rfl));(focus (exact trivial))));(try simp only [Act.put,sA_,sB_,sC_]))
    (refine wpT_L trivial (by decide) (wn_ rfl) (fun K_ hK_=>?_);go_simp;refine hK_ _ _ trivial ?_;clear hK_)
    refine wpT_nil ?_
    clear d1 d2 s6 z4 k3d e2d k3 e1 e2 e3 k4
    go_wp2_with (first | (rw [z7]) | (refine wp_region_txt (fun _=>True) [] (by kernel_rfl) (by kernel_rfl) ?_))
    iterate 11 ((first | (with_reducible refine wpT_nil ?_) | (refine wpT_W (v:=?_) trivial (by decide) (wn_ rfl) (fun _ hS_=>?_) ?_;rotate_left;(focus ((try dsimp only at hS_);go_simp;rfl))) | (refine wpT_R (v:=?_) trivial (by decide) (wn_ rfl) ?_ ?_;rotate_left;(focus (go_simp;rfl))) | (refine wpT_A (v:=?_) (ob:=?_) trivial (by decide) (wn_ rfl) ?_ ?_ ?_;rotate_left 2;(focus (go_simp;first | (constructor <;> rfl) | rfl));(focus (exact trivial))));(try simp only [Act.put,sA_,sB_,sC_]))
    refine wpT_L trivial (by decide) (wn_ rfl) (fun K_ hK_=>?_)
    refine step_mem_app (ops:=#[]) 3 rfl (.tmp 77) (.tmp 83) 122 141 (.agg #[.int .i64 0,.int .i64 0,.bool false,.slice none 0 0]) 4 48 rfl Try.underlying122 info141 rfl (by decide) (by decide) _ c.frames.length (recs (c.frames.map Frm.cells) bs) [.int .i64 label,.int .i64 (c.steps.length:Int),.bool lp,nilS] rfl rfl rfl (by simp [Value.oneCell']) M7.out rfl (by have:=HOK.out.fr;simp only [big] at this;omega) ?_
    intro A8 c8 w8 M8
    refine hK_ _ _ trivial ?_
    clear hK_
    have d1:w8.cell? ⟨bc,2,none⟩=some (.slice AF c.frames.length nF):=M8.cell (k:=0) (j:=2) rfl rfl
    have d2:=M8.free (k:=0) (j:=2) rfl
    obtain ⟨w9,s9,M9⟩:=M8.set (k:=0) 2 rfl (.slice A8 (c.frames.length+1) c8)
    have hbs:bs.length=c.frames.length:=by have:=(M8.rows (k:=4) rfl).len;simpa using this
    have M10:Mem w0 w9 F ((c.open label lp).own bc (.slice gA g.length gc) ⟨.slice AS c.steps.length nS,.slice A8 (c.frames.length+1) c8,.slice A5 (c.used.length+1) c5,ts,bs++[nilS]⟩++[.blk b3 (.cells #[.int .i64 kind,.int .i64 0,.int .i64 label,.slice A [k].length n] 31 (0,0))]):=by
     have h1:=((M9.nilrow 3 1).join (k:=4) (j:=6) (xs:=[]) rfl rfl).order [1,2,3,4,0] rfl
     unfold Cs.own Cs.open
     simp only [List.map_append,List.map_cons,List.map_nil,List.length_append,List.length_singleton,nums_append]
     rw [recs_snoc _ _ (by rw [List.length_map];exact hbs.symm),HBD.out]
     exact h1
    have M10:=ak_ M10
    clear M8 M9
    iterate 2 ((first | (with_reducible refine wpT_nil ?_) | (refine wpT_W (v:=?_) trivial (by decide) (wn_ rfl) (fun _ hS_=>?_) ?_;rotate_left;(focus ((try dsimp only at hS_);go_simp;rfl))) | (refine wpT_R (v:=?_) trivial (by decide) (wn_ rfl) ?_ ?_;rotate_left;(focus (go_simp;rfl))) | (refine wpT_A (v:=?_) (ob:=?_) trivial (by decide) (wn_ rfl) ?_ ?_ ?_;rotate_left 2;(focus (go_simp;first | (constructor <;> rfl) | rfl));(focus (exact trivial))));(try simp only [Act.put,sA_,sB_,sC_]))
    (refine wpT_L trivial (by decide) (wn_ rfl) (fun K_ hK_=>?_);go_simp;refine hK_ _ _ trivial ?_;clear hK_)
    refine wpT_nil ?_
    clear d1 d2 s9 z7 k2 e2f k1 hbs
    obtain ⟨ad,A3,c3,e,g0,g1,g2,g3,hc3,hC3⟩:=kid_at HK.out 0 (by simp)
    subst e
    have e3:w9.cell? ⟨b3,3,none⟩=some (.slice (some ad) [k].length n):=M10.out.cell (k:=6) (j:=3) rfl rfl
    have q0:=pw_cell_below M10.out.hb g0
    have q1:=pw_cell_below M10.out.hb g1
    have q2:=pw_cell_below M10.out.hb g2
    have q3:=pw_cell_below M10.out.hb g3
    simp only [List.getElem_cons_zero,Nat.zero_mul,addz] at q0 q1 q2 q3 hC3 hc3
    have HC3:=ak_ hC3
    have HOO:=ak_ (show (c.open label lp).Ok (szF k+m) from (HOK.out.mono (by simp [szL];omega)).open label lp)
    clear g0 g1 g2 g3 hC3
    go_wp2_with (first
     | (go_at_call 68;refine (IH.out k (by simp) F _ (c.open label lp) _ w9 A3 c3 m M10.out HOO.out HC3.out hc3).mono ?_;rintro e w10 ⟨rfl,p10,M10'⟩;have M11:=ak_ M10'))
    have h9:=shapeF_ok g m k (c.open label lp) HOO.out
    obtain ⟨d,hd⟩:∃ d,d=shapeF g k (c.open label lp):=⟨_,rfl⟩
    rw [<-hd] at h9
    have M11:=M11.out
    rw [<-hd] at M11
    have hL:d.frames.length=c.frames.length+1:=by rw [h9.2.2.1];simp [Cs.open]
    obtain ⟨fs,f,hfs⟩:∃ fs f,d.frames=fs++[f]:=by
     have hne:d.frames≠[]:=fun h=>by rw [h] at hL;simp at hL
     exact ⟨_,_,(List.dropLast_concat_getLast hne).symm⟩
    have hLf:fs.length=c.frames.length:=by rw [hfs] at hL;simpa using hL
    have HFIN:=ak_ (show rbodyF g kind 0 label [k] c=(if lp=true then Cs.emit { d with frames:=fs } ⟨1,0,[(c.steps.length:Int)]⟩ else { d with frames:=fs }).land f.brk by
     rw [HF.out,<-HLP.out]
     simp only [seqF,<-hd,Cs.close,Cs.breaks]
     rw [hfs]
     simp)
    obtain ⟨dst,dfr,dus,dbd⟩:=d
    dsimp only at hfs hLf hL h9 HFIN
    subst hfs
    obtain ⟨vS,vF,vU,ts',bs'⟩:=p10
    obtain ⟨bF,cF,e,hcF,hcell⟩:=M11.rowForm (k:=3) rfl (by simp)
    dsimp only at e
    subst e
    have hbl:bs'.length=fs.length+1:=by have:=(M11.rows (k:=4) rfl).len;simpa using this
    obtain ⟨bs2,v,rfl⟩:∃ bs2 v,bs'=bs2++[v]:=by
     have hne:bs'≠[]:=fun h=>by rw [h] at hbl;simp at hbl
     exact ⟨_,_,(List.dropLast_concat_getLast hne).symm⟩
    have hbl2:bs2.length=fs.length:=by simpa using hbl
    obtain ⟨Av,nv,hv,hnv⟩:=(M11.rowsPop (k:=4) (vs:=bs2) (v:=v) (xss:=fs.map Frm.brk) (xs:=f.brk) (by show some (Pc.rows _ ((fs++[f]).map Frm.brk))=_;rw [List.map_append];rfl)).rowSlice' (k:=1) rfl
    subst hv
    have hrec:∀ j,j<=3->(recs ((fs++[f]).map Frm.cells) (bs2++[.slice Av f.brk.length nv]))[fs.length * 4+j]?=(f.cells++[.slice Av f.brk.length nv])[j]?:=fun j hj=>by
     rw [recs_get (m:=3) (by simp [hbl2]) (frm_len _) (by simp) hj]
     congr 2
     ·simp [List.getD_eq_getElem?_getD]
     ·rw [<-hbl2,getD_snoc_new]
    obtain ⟨w12,z12,M12⟩:=M11.drew
    have k2:w12.cell? ⟨bc,2,none⟩=some (.slice (some ⟨bF,0,none⟩) (fs.length+1) cF):=by
     have:=M12.cell (k:=0) (j:=2) rfl rfl
     simpa using this
    obtain ⟨bF',cF',e',_,hcell2⟩:=M12.rowForm (k:=3) rfl (by simp)
    simp only [Value.slice.injEq,Option.some.injEq,Addr.mk.injEq,and_true,true_and] at e'
    obtain ⟨rfl,rfl⟩:=e'
    have r0:w12.cell? ⟨bF,fs.length * 4,none⟩=some (.int .i64 f.label):=hcell2 _ _ ((hrec 0 (by omega)).trans rfl)
    have r1:w12.cell? ⟨bF,fs.length * 4+1,none⟩=some (.int .i64 f.start):=hcell2 _ _ ((hrec 1 (by omega)).trans rfl)
    have r2:w12.cell? ⟨bF,fs.length * 4+2,none⟩=some (.bool f.loop):=hcell2 _ _ ((hrec 2 (by omega)).trans rfl)
    have r3:w12.cell? ⟨bF,fs.length * 4+3,none⟩=some (.slice Av f.brk.length nv):=hcell2 _ _ ((hrec 3 (by omega)).trans rfl)
    obtain ⟨b7,w13,z13,a13,M13⟩:=M12.alloc (.cells #[.int .i64 0,.int .i64 0,.bool false,.slice none 0 0] 141)
    obtain ⟨y1,y2,y3,y4,ys,yc,yf,M14⟩:=M13.fill4 (k:=7) rfl (.int .i64 f.label) (.int .i64 f.start) (.bool f.loop) (.slice Av f.brk.length nv)
    have hfr:fs.length < 1000000000:=by have:=HOK.out.fr;simp only [big] at this;omega
    have hw1:IntKind.i64.wrap (fs.length:Int)=(fs.length:Int):=IntWalk.i64_in _ (by omega)
    have hw2:(fs.length:Int) < (fs.length:Int)+1:=by omega
    have A13:=ak_ (And.intro a13 z13)
    have YS:=ak_ ys
    have M14:=ak_ M14
    have HB2:=ak_ hbl2
    have HLF:=ak_ hLf
    have H9:=ak_ h9
    have HCF:=ak_ hcF
    clear a13 z13 M11 M12 M13 hcell hcell2 hrec hd hL hbl hbl2 hLf h9 hcF q0 q1 q2 q3 e3 M10 M7 M4 HF
    go_wp2_with (first | (rw [z12]) | (refine wp_region_txt (fun _=>True) [] (by kernel_rfl) (by kernel_rfl) ?_))
    iterate 13 ((first | (with_reducible refine wpT_nil ?_) | (refine wpT_W (v:=?_) trivial (by decide) (wn_ rfl) (fun _ hS_=>?_) ?_;rotate_left;(focus ((try dsimp only at hS_);go_simp;rfl))) | (refine wpT_R (v:=?_) trivial (by decide) (wn_ rfl) ?_ ?_;rotate_left;(focus (go_simp;rfl))) | (refine wpT_A (v:=?_) (ob:=?_) trivial (by decide) (wn_ rfl) ?_ ?_ ?_;rotate_left 2;(focus (go_simp;first | (constructor <;> rfl) | rfl));(focus (exact trivial))));(try simp only [Act.put,sA_,sB_,sC_]))
    rw [A13.out.1,A13.out.2]
    obtain ⟨ys1,ys2,ys3,ys4⟩:=YS.out
    obtain ⟨yc1,yc2,yc3,yc4⟩:=yc
    obtain ⟨yf1,yf2,yf3,yf4⟩:=yf
    (refine wpT_L trivial (by decide) (wn_ rfl) (fun K_ hK_=>?_);go_simp;refine hK_ _ _ trivial ?_;clear hK_)
    refine wpT_nil ?_
    clear ys1 ys2 ys3 ys4 yc1 yc2 yc3 yc4 yf1 yf2 yf3 yf4 YS r0 r1 r2 r3 k2 z12
    obtain ⟨w15,z15,M15⟩:=M14.out.drew
    have k2:w15.cell? ⟨bc,2,none⟩=some (.slice (some ⟨bF,0,none⟩) (fs.length+1) cF):=by
     have:=M15.cell (k:=0) (j:=2) rfl rfl
     simpa using this
    have hcF':fs.length<=cF:=by have:=HCF.out;simp at this;omega
    have f2:=M15.free (k:=0) (j:=2) rfl
    obtain ⟨w16,s16,M16⟩:=M15.set (k:=0) 2 rfl (.slice (some ⟨bF,0,none⟩) fs.length cF)
    have M16:=ak_ M16
    clear M14 M15
    go_wp2_with (first | (rw [z15]) | (refine wp_region_txt (fun _=>True) [] (by kernel_rfl) (by kernel_rfl) ?_))
    iterate 14 ((first | (with_reducible refine wpT_nil ?_) | (refine wpT_W (v:=?_) trivial (by decide) (wn_ rfl) (fun _ hS_=>?_) ?_;rotate_left;(focus ((try dsimp only at hS_);go_simp;rfl))) | (refine wpT_R (v:=?_) trivial (by decide) (wn_ rfl) ?_ ?_;rotate_left;(focus (go_simp;rfl))) | (refine wpT_A (v:=?_) (ob:=?_) trivial (by decide) (wn_ rfl) ?_ ?_ ?_;rotate_left 2;(focus (go_simp;first | (constructor <;> rfl) | rfl));(focus (exact trivial))));(try simp only [Act.put,sA_,sB_,sC_]))
    (refine wpT_L trivial (by decide) (wn_ rfl) (fun K_ hK_=>?_);go_simp;refine hK_ _ _ trivial ?_;clear hK_)
    refine wpT_nil ?_
    clear k2 f2 s16 z15
    obtain ⟨bd,hbd⟩:∃ bd:Cs,bd=⟨dst,fs,dus,dbd⟩:=⟨_,rfl⟩
    have M17:Mem w0 w16 F (bd.own bc (.slice gA g.length gc) ⟨vS,.slice (some ⟨bF,0,none⟩) fs.length cF,vU,ts',bs2⟩++[.blk b3 (.cells #[.int .i64 kind,.int .i64 0,.int .i64 label,.slice (some ad) [k].length n] 31 (0,0)),.blk b7 (.cells #[.int .i64 f.label,.int .i64 f.start,.bool f.loop,.slice Av f.brk.length nv] 141 (0,0)),.row (.slice Av f.brk.length nv) 3 1 f.brk.length (nums .i64 f.brk)]):=by
     have h1:=M16.out.rowCut (k:=3) fs.length rfl (by simp)
     have hk:(recs ((fs++[f]).map Frm.cells) (bs2++[.slice Av f.brk.length nv])).take (fs.length * 4)=recs (fs.map Frm.cells) bs2:=by
      rw [recs_take (m:=3) (by simp [HB2.out]) (frm_len _),<-HB2.out]
      simp [List.take_append_of_le_length,HB2.out]
     have h2:=h1.rowsPop (k:=4) (vs:=bs2) (v:=.slice Av f.brk.length nv) (xss:=fs.map Frm.brk) (xs:=f.brk) (by show some (Pc.rows _ ((fs++[f]).map Frm.brk))=_;rw [List.map_append];rfl)
     have h3:=h2.order [2,3,4,5,0,6,7,8,1] rfl
     subst hbd
     unfold Cs.own
     rw [<-hk]
     exact h3
    have hbrk:∀ e∈f.brk,0<=e/\e < (dst.length:Int):=fun e he=>(H9.out.1.br f (by simp)).2 e he
    have HBRK:=ak_ hbrk
    have hbig:f.brk.length<=1000000000:=by have h8:=(H9.out.1.br f (by simp)).1;simp only [big] at h8;omega
    have M17:=ak_ M17
    have HBDE:=ak_ hbd
    clear hbrk M16 hbd
    cases lp with
    | false =>
     go_wp2
     obtain ⟨cZ,hcZ⟩:∃ cZ,cZ=(Cs.mk dst fs dus dbd).land f.brk:=⟨_,rfl⟩
     have HZ:=ak_ hcZ
     clear hcZ
     go_loopw [8] (fun t wr=>∃ (i:Nat) (c'':Cs) (p'':Cp),t=.int .i64 i/\i<=f.brk.length/\Aside0 (c''.land (f.brk.drop i)=cZ)/\Aside0 (∀ e∈f.brk,0<=e/\e < c''.steps.length) /\
      Aside0 (Mem w0 wr F (c''.own bc (.slice gA g.length gc) p''++[.blk b3 (.cells #[.int .i64 kind,.int .i64 0,.int .i64 label,.slice (some ad) [k].length n] 31 (0,0)),.blk b7 (.cells #[.int .i64 f.label,.int .i64 f.start,.bool f.loop,.slice Av f.brk.length nv] 141 (0,0)),.row (.slice Av f.brk.length nv) 3 1 f.brk.length (nums .i64 f.brk)]))) (fun t _=>f.brk.length - (intOf t).toNat)
     case atStart=>exact ⟨0,_,_,rfl,Nat.zero_le _,⟨HZ.out.symm⟩,⟨HBRK.out⟩,⟨by have:=M17.out;rw [HBDE.out] at this;exact this⟩⟩
     case round =>
      obtain ⟨i,c2,p2,rfl,hi,hA,hE,hM⟩:=hrel
      have v3:wr.cell? ⟨b7,3,none⟩=some (.slice Av f.brk.length nv):=hM.out.cell (k:=7) (j:=3) rfl rfl
      by_cases hlt:i < f.brk.length
      ·obtain ⟨w20,z20,M20⟩:=hM.out.drew
       obtain ⟨b6,c6',e9,j2⟩:=M20.rowNum (k:=8) (i:=i) rfl rfl hlt
       simp only [Value.slice.injEq] at e9
       obtain ⟨rfl,hx9,rfl⟩:=e9
       clear hx9
       have hbi:f.brk.getD i 0∈f.brk:=by rw [List.getD_eq_getElem?_getD,List.getElem?_eq_getElem hlt];exact List.getElem_mem _
       obtain ⟨q,hq⟩:∃ q:Nat,f.brk.getD i 0=q:=⟨(f.brk.getD i 0).toNat,by have:=(hE.out _ hbi).1;omega⟩
       have hql:q < c2.steps.length:=by have:=(hE.out _ hbi).2;omega
       have hA2:=hA.out
       rw [List.drop_eq_getElem_cons hlt,Cs.land,show f.brk[i]=(q:Int) by rw [<-hq,List.getD_eq_getElem?_getD,List.getElem?_eq_getElem hlt];rfl,Int.toNat_natCast] at hA2
       have HA:=ak_ hA2
       rw [hq] at j2
       have v4:w20.cell? ⟨b7,3,none⟩=some (.slice (some ⟨b6,0,none⟩) f.brk.length nv):=M20.cell (k:=7) (j:=3) rfl rfl
       obtain ⟨n8,w21,z21,a21,M21⟩:=M20.one (c2.steps.length:Int)
       have M21':=(M21.order [0,1,2,3,4,5,9,6,7,8] rfl)
       obtain ⟨bS,cS,w22,k1,s22,⟨u9',t22⟩,f22,M22⟩:=Mem.setTo (n:=q) (xs:=[(c2.steps.length:Int)]) (H:=[.blk b3 (.cells #[.int .i64 kind,.int .i64 0,.int .i64 label,.slice (some ad) [k].length n] 31 (0,0)),.blk b7 (.cells #[.int .i64 f.label,.int .i64 f.start,.bool f.loop,.slice (some ⟨b6,0,none⟩) f.brk.length nv] 141 (0,0)),.row _ 3 1 f.brk.length (nums .i64 f.brk)]) M21' hql
       have k2:w20.cell? ⟨bc,1,none⟩=some (.slice (some ⟨bS,0,none⟩) c2.steps.length cS):=by
        obtain ⟨A,nn,e⟩:=own_vS M20
        have h1:=pw_cell_below (below_alloc (Below.refl _ _) (.cells #[.int .i64 (c2.steps.length:Int)] 3)) e
        rw [a21,k1] at h1
        rw [e,<-h1]
       have hlt':(i:Int) < f.brk.length:=by omega
       have hql':(q:Int) < c2.steps.length:=by omega
       have A8:=ak_ (And.intro a21 z21)
       have HLT:=ak_ hlt
       have M22:=ak_ M22
       clear hA hA2 hM hbi hq hql M20 M21 M21' a21 z21 hlt
       go_wp2_with (first | (rw [z20]) | (refine wp_region_txt (fun _=>True) [] (by kernel_rfl) (by kernel_rfl) ?_))
       iterate 15 ((first | (with_reducible refine wpT_nil ?_) | (refine wpT_W (v:=?_) trivial (by decide) (wn_ rfl) (fun _ hS_=>?_) ?_;rotate_left;(focus ((try dsimp only at hS_);go_simp;rfl))) | (refine wpT_R (v:=?_) trivial (by decide) (wn_ rfl) ?_ ?_;rotate_left;(focus (go_simp;rfl))) | (refine wpT_A (v:=?_) (ob:=?_) trivial (by decide) (wn_ rfl) ?_ ?_ ?_;rotate_left 2;(focus (go_simp;first | (constructor <;> rfl) | rfl));(focus (exact trivial))));(try simp only [Act.put,sA_,sB_,sC_]))
       rw [A8.out.1,A8.out.2]
       iterate 2 ((first | (with_reducible refine wpT_nil ?_) | (refine wpT_W (v:=?_) trivial (by decide) (wn_ rfl) (fun _ hS_=>?_) ?_;rotate_left;(focus ((try dsimp only at hS_);go_simp;rfl))) | (refine wpT_R (v:=?_) trivial (by decide) (wn_ rfl) ?_ ?_;rotate_left;(focus (go_simp;rfl))) | (refine wpT_A (v:=?_) (ob:=?_) trivial (by decide) (wn_ rfl) ?_ ?_ ?_;rotate_left 2;(focus (go_simp;first | (constructor <;> rfl) | rfl));(focus (exact trivial))));(try simp only [Act.put,sA_,sB_,sC_]))
       (refine wpT_L trivial (by decide) (wn_ rfl) (fun K_ hK_=>?_);go_simp;refine hK_ _ _ trivial ?_;clear hK_)
       refine wpT_nil ?_
       clear k1 k2 j2 v3 v4 s22 t22 f22 z20
       go_wp2
       go_roundw
       case rel=>exact ⟨i+1,_,_,by go_num,by have:=HLT.out;omega,HA,⟨by simpa [Cs.setTo,setTos_length] using hE.out⟩,M22⟩
       case measure=>have:=HLT.out;simp [intOf];omega
      ·obtain rfl:i=f.brk.length:=by omega
       have hA2:=hA.out
       rw [List.drop_length,Cs.land] at hA2
       go_wp2
       go_end0
       refine ⟨rfl,p2,?_⟩
       rw [HFIN.out]
       rw [HZ.out] at hA2
       have h1:=((hM.out.lose (k:=8) rfl).lose (k:=7) rfl).lose (k:=6) rfl
       rw [hA2] at h1
       exact h1
    | true =>
     obtain ⟨b8,w17,z17,a17,M18⟩:=M17.out.one (c.steps.length:Int)
     have MF:Mem w0 w17 ([.blk b3 (.cells #[.int .i64 kind,.int .i64 0,.int .i64 label,.slice (some ad) [k].length n] 31 (0,0)),.blk b7 (.cells #[.int .i64 f.label,.int .i64 f.start,.bool f.loop,.slice Av f.brk.length nv] 141 (0,0)),.row (.slice Av f.brk.length nv) 3 1 f.brk.length (nums .i64 f.brk)]++F)
      (bd.own bc (.slice gA g.length gc) ⟨vS,.slice (some ⟨bF,0,none⟩) fs.length cF,vU,ts',bs2⟩++[.row (.slice (some ⟨b8,0,none⟩) 1 1) 3 1 ([(c.steps.length:Int)]).length (nums .i64 [(c.steps.length:Int)])]):=M18.focus [0,1,2,3,4,5,9] rfl
     have MF:=ak_ MF
     have HLB:bd.steps.length < 1000000000:=by have h8:dst.length+1+2 * m<=big:=H9.out.2.1;rw [HBDE.out];show dst.length < 1000000000;simp only [big] at h8;omega
     clear M18
     go_wp2_with (first
      | (go_at_call 69;refine (emit_any w0 w17 _ bc _ bd _ 1 0 (.slice (some ⟨b8,0,none⟩) 1 1) [(c.steps.length:Int)] MF.out HLB).mono ?_;rintro e w18 ⟨rfl,A9,c9,M19⟩;have M20:=M19.wide;have M20:=ak_ M20;clear M19))
     obtain ⟨cZ,hcZ⟩:∃ cZ,cZ=(bd.emit ⟨1,0,[(c.steps.length:Int)]⟩).land f.brk:=⟨_,rfl⟩
     have HZ:=ak_ hcZ
     clear hcZ
     go_loopw [8] (fun t wr=>∃ (i:Nat) (c'':Cs) (p'':Cp),t=.int .i64 i/\i<=f.brk.length/\Aside0 (c''.land (f.brk.drop i)=cZ)/\Aside0 (∀ e∈f.brk,0<=e/\e < c''.steps.length) /\
      Aside0 (Mem w0 wr F (c''.own bc (.slice gA g.length gc) p''++[.blk b3 (.cells #[.int .i64 kind,.int .i64 0,.int .i64 label,.slice (some ad) [k].length n] 31 (0,0)),.blk b7 (.cells #[.int .i64 f.label,.int .i64 f.start,.bool f.loop,.slice Av f.brk.length nv] 141 (0,0)),.row (.slice Av f.brk.length nv) 3 1 f.brk.length (nums .i64 f.brk)]))) (fun t _=>f.brk.length - (intOf t).toNat)
     case atStart=>exact ⟨0,_,_,rfl,Nat.zero_le _,⟨HZ.out.symm⟩,⟨fun e he=>by have:=HBRK.out e he;rw [HBDE.out];simp [Cs.emit];omega⟩,M20⟩
     case round =>
      obtain ⟨i,c2,p2,rfl,hi,hA,hE,hM⟩:=hrel
      have v3:wr.cell? ⟨b7,3,none⟩=some (.slice Av f.brk.length nv):=hM.out.cell (k:=7) (j:=3) rfl rfl
      by_cases hlt:i < f.brk.length
      ·obtain ⟨w20,z20,M20⟩:=hM.out.drew
       obtain ⟨b6,c6',e9,j2⟩:=M20.rowNum (k:=8) (i:=i) rfl rfl hlt
       simp only [Value.slice.injEq] at e9
       obtain ⟨rfl,hx9,rfl⟩:=e9
       clear hx9
       have hbi:f.brk.getD i 0∈f.brk:=by rw [List.getD_eq_getElem?_getD,List.getElem?_eq_getElem hlt];exact List.getElem_mem _
       obtain ⟨q,hq⟩:∃ q:Nat,f.brk.getD i 0=q:=⟨(f.brk.getD i 0).toNat,by have:=(hE.out _ hbi).1;omega⟩
       have hql:q < c2.steps.length:=by have:=(hE.out _ hbi).2;omega
       have hA2:=hA.out
       rw [List.drop_eq_getElem_cons hlt,Cs.land,show f.brk[i]=(q:Int) by rw [<-hq,List.getD_eq_getElem?_getD,List.getElem?_eq_getElem hlt];rfl,Int.toNat_natCast] at hA2
       have HA:=ak_ hA2
       rw [hq] at j2
       have v4:w20.cell? ⟨b7,3,none⟩=some (.slice (some ⟨b6,0,none⟩) f.brk.length nv):=M20.cell (k:=7) (j:=3) rfl rfl
       obtain ⟨n8,w21,z21,a21,M21⟩:=M20.one (c2.steps.length:Int)
       have M21':=(M21.order [0,1,2,3,4,5,9,6,7,8] rfl)
       obtain ⟨bS,cS,w22,k1,s22,⟨u9',t22⟩,f22,M22⟩:=Mem.setTo (n:=q) (xs:=[(c2.steps.length:Int)]) (H:=[.blk b3 (.cells #[.int .i64 kind,.int .i64 0,.int .i64 label,.slice (some ad) [k].length n] 31 (0,0)),.blk b7 (.cells #[.int .i64 f.label,.int .i64 f.start,.bool f.loop,.slice (some ⟨b6,0,none⟩) f.brk.length nv] 141 (0,0)),.row _ 3 1 f.brk.length (nums .i64 f.brk)]) M21' hql
       have k2:w20.cell? ⟨bc,1,none⟩=some (.slice (some ⟨bS,0,none⟩) c2.steps.length cS):=by
        obtain ⟨A,nn,e⟩:=own_vS M20
        have h1:=pw_cell_below (below_alloc (Below.refl _ _) (.cells #[.int .i64 (c2.steps.length:Int)] 3)) e
        rw [a21,k1] at h1
        rw [e,<-h1]
       have hlt':(i:Int) < f.brk.length:=by omega
       have hql':(q:Int) < c2.steps.length:=by omega
       have A8:=ak_ (And.intro a21 z21)
       have HLT:=ak_ hlt
       have M22:=ak_ M22
       clear hA hA2 hM hbi hq hql M20 M21 M21' a21 z21 hlt
       go_wp2_with (first | (rw [z20]) | (refine wp_region_txt (fun _=>True) [] (by kernel_rfl) (by kernel_rfl) ?_))
       iterate 15 ((first | (with_reducible refine wpT_nil ?_) | (refine wpT_W (v:=?_) trivial (by decide) (wn_ rfl) (fun _ hS_=>?_) ?_;rotate_left;(focus ((try dsimp only at hS_);go_simp;rfl))) | (refine wpT_R (v:=?_) trivial (by decide) (wn_ rfl) ?_ ?_;rotate_left;(focus (go_simp;rfl))) | (refine wpT_A (v:=?_) (ob:=?_) trivial (by decide) (wn_ rfl) ?_ ?_ ?_;rotate_left 2;(focus (go_simp;first | (constructor <;> rfl) | rfl));(focus (exact trivial))));(try simp only [Act.put,sA_,sB_,sC_]))
       rw [A8.out.1,A8.out.2]
       iterate 2 ((first | (with_reducible refine wpT_nil ?_) | (refine wpT_W (v:=?_) trivial (by decide) (wn_ rfl) (fun _ hS_=>?_) ?_;rotate_left;(focus ((try dsimp only at hS_);go_simp;rfl))) | (refine wpT_R (v:=?_) trivial (by decide) (wn_ rfl) ?_ ?_;rotate_left;(focus (go_simp;rfl))) | (refine wpT_A (v:=?_) (ob:=?_) trivial (by decide) (wn_ rfl) ?_ ?_ ?_;rotate_left 2;(focus (go_simp;first | (constructor <;> rfl) | rfl));(focus (exact trivial))));(try simp only [Act.put,sA_,sB_,sC_]))
       (refine wpT_L trivial (by decide) (wn_ rfl) (fun K_ hK_=>?_);go_simp;refine hK_ _ _ trivial ?_;clear hK_)
       refine wpT_nil ?_
       clear k1 k2 j2 v3 v4 s22 t22 f22 z20
       go_wp2
       go_roundw
       case rel=>exact ⟨i+1,_,_,by go_num,by have:=HLT.out;omega,HA,⟨by simpa [Cs.setTo,setTos_length] using hE.out⟩,M22⟩
       case measure=>have:=HLT.out;simp [intOf];omega
      ·obtain rfl:i=f.brk.length:=by omega
       have hA2:=hA.out
       rw [List.drop_length,Cs.land] at hA2
       go_wp2
       go_end0
       refine ⟨rfl,p2,?_⟩
       rw [HFIN.out]
       rw [HBDE.out] at HZ
       rw [HZ.out] at hA2
       have h1:=((hM.out.lose (k:=8) rfl).lose (k:=7) rfl).lose (k:=6) rfl
       rw [hA2] at h1
       exact h1
theorem step_mem_at {P:Program} {ops:Array Oper} {o:Oper} {a:Act} {Q:Exit->Act->World->Prop} {K:Act->World->Prop} {w0 W:World} {F H:List Pc} (k i:Nat) (hgd:o.guard=none) (s x:Operand)
  (ho:o.op=.call { callee:=.builtin .append,args:=#[s,x],argTypes:=#[23,23] })
  (ht:P.underlying 23=some (.slice 3)) (hinfo:(P.info? 3).map (fun i=>(i.zero,i.size,i.bytes))=some (some (.int .i64 0),1,8))
  (vs:List Value) (xss:List (List Int)) (y:Int) (hs:a.eval s=vs.getD i nilS) (hx:a.eval x=.slice (some ⟨W.heap.size,0,none⟩) 1 1)
  (M:Mem w0 W F H) (hk:H[k]?=some (.rows vs xss)) (hi:i < xss.length) (hl:(xss.getD i []).length < 1000000000)
  (h:∀ A c w1,Mem w0 w1 F (H.set k (.rows (vs.set i (.slice A ((xss.getD i []).length+1) c)) (xss.set i (xss.getD i []++[y]))))->K (a.put o.dst (.slice A ((xss.getD i []).length+1) c)) w1) :
  o.wp P a (W.alloc (.cells #[.int .i64 y] 3)) K Q:=by
 have hr:=M.rows hk
 have hlen:=hr.len
 refine step_app (ops:=ops) (ys:=[.int .i64 y]) w0.heap.size hgd s x 23 3 (.int .i64 0) 1 8 ho ht hinfo rfl (by decide) (by decide) _ (xss.getD i []).length (nums .i64 (xss.getD i [])) hs hx rfl (by simp [Value.oneCell']) (hr.row i (by omega)) M.size (by omega) ?_
 intro A c w1 ho1 hg1 hat1
 refine h A c w1 (M.rowsTurn hk (by omega) (b':=w0.heap.size) hg1 ?_ hat1)
 simpa [nums] using ho1
theorem addBrk_cells (fs:List Frm) (n:Nat) (j:Int):(addBrk fs n j).map Frm.cells=fs.map Frm.cells:=by
 apply List.ext_getElem?
 intro i
 simp only [addBrk,List.getElem?_map,List.getElem?_modify]
 cases fs[i]? with
 | none=>rfl
 | some q=>by_cases hn:n=i <;> simp [hn,Frm.cells]
theorem addBrk_brk (fs:List Frm) (n:Nat) (j:Int):(addBrk fs n j).map Frm.brk=(fs.map Frm.brk).set n ((fs.map Frm.brk).getD n []++[j]):=by
 apply List.ext_getElem?
 intro i
 simp only [addBrk,List.getElem?_map,List.getElem?_modify,List.getElem?_set,List.getD_eq_getElem?_getD]
 by_cases hn:n=i
 ·subst hn
  cases h:fs[n]? with
  | none =>
   have:=List.getElem?_eq_none_iff.1 h
   simp;omega
  | some q =>
   have:=(List.getElem?_eq_some_iff.1 h).1
   simp [this]
 ·simp [hn]
theorem leave_eq (c:Cs) (kind node label:Int) (kids:List S31) (lv:Bool) (h:decide (kind=6)=lv) (N:Int) (hN:N=enclF (fun f=>decide (f.label=label) && (!lv || f.loop)) c.frames c.frames.length) :
  c.leave kind node label kids=if N < 0∨kids.length≠0∨node≠0 then c.fail else if kind=5 then { c.emit ⟨1,0,[]⟩ with frames:=addBrk c.frames N.toNat (c.steps.length:Int) } else (c.emit ⟨1,0,[]⟩).setTo c.steps.length [((c.frames[N.toNat]?).map Frm.start).getD 0]:=by
 subst h
 subst hN
 rfl
theorem enclF_lt (t:Frm->Bool) (fs:List Frm):∀ k,k<=fs.length->enclF t fs k < 0∨∃ n:Nat,enclF t fs k=n/\n < fs.length
 | 0,_=>.inl (by simp [enclF])
 | k+1,h=>by
  unfold enclF
  split
  ·exact .inr ⟨k,rfl,h⟩
  ·exact enclF_lt t fs k (by omega)
theorem szF_eq (s:S31):szF s=1+szL s.f3:=by cases s;rfl
theorem szL_mem:∀ {ks:List S31} {k:S31},k∈ks->szF k<=szL ks
 | a :: ks,k,h=>by
  simp only [szL]
  rcases List.mem_cons.1 h with rfl | h
  ·omega
  ·have:=szL_mem h;omega
set_option maxRecDepth 100000 in
set_option maxHeartbeats 4000000 in
theorem rshape_step (w0:World) (bc:Nat) (gA:Option Addr) (gc:Nat) (g:List (List Int)) (hG:kG.C w0 gA g.length g) (hg:g.length<=1000000000) (kind node label:Int) (kids:List S31) (ih:∀ k∈kids,ShapeOk w0 bc gA gc g k)
  (F:List Pc) (c:Cs) (p:Cp) (w:World) (A:Option Addr) (n m:Nat) (M:Mem w0 w F (c.own bc (.slice gA g.length gc) p)) (hok:c.Ok (szL kids+1+m)) (hK:k31.C w0 A kids.length kids) (hn:kids.length<=n) :
  Calls Try.prog 68 #[.pointer (some ⟨bc,0,none⟩),.agg #[.int .i64 kind,.int .i64 node,.int .i64 label,.slice A kids.length n]] w fun e w'=>e=.returned (.tuple #[])/\∃ p',Mem w0 w' F ((shapeF g ⟨kind,node,label,kids⟩ c).own bc (.slice gA g.length gc) p'):=by
 obtain ⟨b3,w1,z1,a1,M1⟩:=M.alloc (.cells #[.int .i64 kind,.int .i64 node,.int .i64 label,.slice A kids.length n] 31)
 have M1:=ak_ (show Mem w0 w1 F (c.own bc (.slice gA g.length gc) p++[.blk b3 (.cells #[.int .i64 kind,.int .i64 node,.int .i64 label,.slice A kids.length n] 31 (0,0))]) from M1)
 have HG:=ak_ hG
 have HK:=ak_ hK
 have IH:=ak_ ih
 have HOK:=ak_ hok
 have e0:w1.cell? ⟨b3,0,none⟩=some (.int .i64 kind):=M1.out.cell (k:=6) (j:=0) rfl rfl
 have e1:w1.cell? ⟨b3,1,none⟩=some (.int .i64 node):=M1.out.cell (k:=6) (j:=1) rfl rfl
 have e2:w1.cell? ⟨b3,2,none⟩=some (.int .i64 label):=M1.out.cell (k:=6) (j:=2) rfl rfl
 have e3:w1.cell? ⟨b3,3,none⟩=some (.slice A kids.length n):=M1.out.cell (k:=6) (j:=3) rfl rfl
 have k4:w1.cell? ⟨bc,4,none⟩=some (.bool c.bad):=M1.out.cell (k:=0) (j:=4) rfl rfl
 have hbig:kids.length < 1000000000:=by have h8:=hok.st;have:=szL_len kids;simp only [big] at h8;omega
 clear M hG hK ih hok
 by_cases hbad:c.bad=true
 ·rw [hbad] at k4
  have HF:=ak_ (show shapeF g ⟨kind,node,label,kids⟩ c=c by rw [shapeF,if_pos hbad])
  clear hbad
  go_enter Try.func68,Try.ntmps68
  go_wp2
  refine bodyPost_ret (results_none rfl _ _ _) rfl ?_
  refine ⟨rfl,p,?_⟩
  rw [HF.out]
  exact M1.out.lose (k:=6) rfl
 have hbf:c.bad=false:=by simpa using hbad
 rw [hbf] at k4
 obtain ⟨w3,s3,M3⟩:=M1.out.set (k:=0) 4 rfl (.bool true)
 have f4:=M1.out.free (k:=0) (j:=4) rfl
 have M3:=ak_ (show Mem w0 w3 F (c.fail.own bc (.slice gA g.length gc) p++[.blk b3 (.cells #[.int .i64 kind,.int .i64 node,.int .i64 label,.slice A kids.length n] 31 (0,0))]) from M3)
 have HF0:=ak_ hbad
 have HBF:=ak_ hbf
 clear hbad hbf
 by_cases h1:kind=1
 ·subst h1
  by_cases hb:node≠0∨label≠0
  ·have HF:=ak_ (show shapeF g ⟨1,node,label,kids⟩ c=c.fail by rw [shapeF,if_neg HF0.out,if_pos rfl,if_pos hb])
   clear HF0
   by_cases hn0:node=0
   ·have hl0:(label != 0)=true:=by simpa using hb.resolve_left (by simpa using hn0)
    subst hn0
    clear hb
    go_enter Try.func68,Try.ntmps68
    go_wp2
    refine bodyPost_ret (results_none rfl _ _ _) rfl ?_
    refine ⟨rfl,p,?_⟩
    rw [HF.out]
    exact M3.out.lose (k:=6) rfl
   ·have hl0:(node != 0)=true:=by simpa using hn0
    clear hb hn0
    go_enter Try.func68,Try.ntmps68
    go_wp2
    refine bodyPost_ret (results_none rfl _ _ _) rfl ?_
    refine ⟨rfl,p,?_⟩
    rw [HF.out]
    exact M3.out.lose (k:=6) rfl
  ·have hn0:node=0:=Classical.byContradiction fun h=>hb (.inl h)
   have hl0:label=0:=Classical.byContradiction fun h=>hb (.inr h)
   subst hn0 hl0
   have HF:=ak_ (show shapeF g ⟨1,0,0,kids⟩ c=seqF g kids c by rw [shapeF,if_neg HF0.out,if_pos rfl,if_neg hb])
   clear HF0 hb s3 f4 M3
   go_enter Try.func68,Try.ntmps68
   go_wp2
   clear k4 e0 e1 e2 e3
   go_loopw [4] (fun t wr=>∃ (i:Nat) (c':Cs) (p':Cp),t=.int .i64 i/\i<=kids.length/\Aside0 (seqF g (kids.drop i) c'=seqF g kids c)/\Aside0 (c'.Ok (szL (kids.drop i)+1+m)) /\
    Aside0 (Mem w0 wr F (c'.own bc (.slice gA g.length gc) p'++[.blk b3 (.cells #[.int .i64 1,.int .i64 0,.int .i64 0,.slice A kids.length n] 31 (0,0))]))) (fun t _=>kids.length - (intOf t).toNat)
   case atStart=>exact ⟨0,c,p,rfl,Nat.zero_le _,⟨rfl⟩,⟨HOK.out⟩,M1⟩
   case round =>
    clear M1 HOK a1 z1
    obtain ⟨i,c',p',rfl,hi,hA,hO,hM⟩:=hrel
    have e3:wr.cell? ⟨b3,3,none⟩=some (.slice A kids.length n):=hM.out.cell (k:=6) (j:=3) rfl rfl
    by_cases hlt:i < kids.length
    ·obtain ⟨k,hk⟩:∃ k,k=kids[i]:=⟨_,rfl⟩
     obtain ⟨ad,A3,c3,e,g0,g1,g2,g3,hc3,hC3⟩:=kid_at HK.out i hlt
     subst e
     rw [<-hk] at g0 g1 g2 g3 hc3 hC3
     have hA2:=hA.out
     have hO2:=hO.out
     rw [List.drop_eq_getElem_cons hlt,<-hk] at hA2 hO2
     rw [seqF] at hA2
     simp only [szL] at hO2
     have hkm:k∈kids:=by rw [hk];exact List.getElem_mem hlt
     have IHK:=ak_ (IH.out k hkm)
     have HA:=ak_ hA2
     have HO:=ak_ hO2
     have HC3:=ak_ hC3
     have q0:=pw_cell_below hM.out.hb g0
     have q1:=pw_cell_below hM.out.hb g1
     have q2:=pw_cell_below hM.out.hb g2
     have q3:=pw_cell_below hM.out.hb g3
     have hlt':(i:Int) < kids.length:=by omega
     have HLT:=ak_ hlt
     clear hA hO hA2 hO2 hkm hC3 g0 g1 g2 g3 hk
     go_wp2_with (first
      | (go_at_call 68;refine (IHK.out F _ c' p' wr A3 c3 (szL (kids.drop (i+1))+1+m) hM.out (HO.out.mono (by omega)) HC3.out hc3).mono ?_;rintro e w8 ⟨rfl,p8,M8⟩;have M8:=ak_ M8))
     go_roundw
     case rel =>
      have h9:=shapeF_ok g (szL (kids.drop (i+1))+1+m) k c' (HO.out.mono (by omega))
      exact ⟨i+1,_,p8,by go_num,by have:=HLT.out;omega,HA,⟨h9.1⟩,M8⟩
     case measure=>have:=HLT.out;simp [intOf];omega
    ·obtain rfl:i=kids.length:=by omega
     have hA2:=hA.out
     rw [List.drop_length,seqF] at hA2
     subst hA2
     go_wp2
     go_end0
     refine ⟨rfl,p',?_⟩
     rw [HF.out]
     exact hM.out.lose (k:=6) rfl
 by_cases h2:kind=2
 ·subst h2
  have HF:=ak_ (show shapeF g ⟨2,node,label,kids⟩ c=rvisitF g node label kids c by rw [shapeF,if_neg HF0.out,if_neg (by decide),if_pos rfl];rfl)
  clear HF0 s3 f4 M3 h1
  have HN:=ak_ hn
  go_enter Try.func68,Try.ntmps68
  go_wp2_with (first
   | (go_at_call 88;refine (rvisit_any w0 bc gA gc g HG.out hg 2 node label kids IH.out _ c p w1 A n m M1.out.narrow HOK.out HK.out HN.out).mono ?_;rintro e w8 ⟨rfl,p8,M8⟩;have M9:=M8.wide;have M9:=ak_ M9;clear M8))
  go_end0
  refine ⟨rfl,p8,?_⟩
  rw [HF.out]
  exact M9.out.lose (k:=6) rfl
 have h1':(kind == 1)=false:=by simpa using h1
 have h2':(kind == 2)=false:=by simpa using h2
 by_cases h34:kind=3∨kind=4
 ·have HF:=ak_ (show shapeF g ⟨kind,node,label,kids⟩ c=rbodyF g kind node label kids c by rw [shapeF,if_neg HF0.out,if_neg h1,if_neg h2,if_pos h34];rfl)
  clear HF0 s3 f4 M3 h1 h2
  by_cases h3:kind=3
  ·subst h3
   clear h1' h2' h34
   go_enter Try.func68,Try.ntmps68
   go_wp2_with (first
    | (go_at_call 89;refine (rbody_any w0 bc gA gc g 3 node label kids IH.out _ c p w1 A n m M1.out.narrow HOK.out HBF.out HK.out).mono ?_;rintro e w8 ⟨rfl,p8,M8⟩;have M9:=M8.wide;have M9:=ak_ M9;clear M8))
   go_end0
   refine ⟨rfl,p8,?_⟩
   rw [HF.out]
   exact M9.out.lose (k:=6) rfl
  ·have h4:kind=4:=h34.resolve_left h3
   subst h4
   clear h1' h2' h34 h3
   go_enter Try.func68,Try.ntmps68
   go_wp2_with (first
    | (go_at_call 89;refine (rbody_any w0 bc gA gc g 4 node label kids IH.out _ c p w1 A n m M1.out.narrow HOK.out HBF.out HK.out).mono ?_;rintro e w8 ⟨rfl,p8,M8⟩;have M9:=M8.wide;have M9:=ak_ M9;clear M8))
   go_end0
   refine ⟨rfl,p8,?_⟩
   rw [HF.out]
   exact M9.out.lose (k:=6) rfl
 have h3':(kind == 3)=false:=by simpa using fun h=>h34 (.inl h)
 have h4':(kind == 4)=false:=by simpa using fun h=>h34 (.inr h)
 by_cases h56:kind=5∨kind=6
 ·obtain ⟨vS,vF,vU,ts,bs⟩:=p
  have hbl:bs.length=c.frames.length:=by have:=(M1.out.rows (k:=4) rfl).len;simpa using this
  have hfr:c.frames.length < 1000000000:=by have:=HOK.out.fr;simp only [big] at this;omega
  have hst:c.steps.length < 1000000000:=by have:=HOK.out.st;simp only [big] at this;omega
  have k2:w1.cell? ⟨bc,2,none⟩=some vF:=M1.out.cell (k:=0) (j:=2) rfl rfl
  have ho:w1.ownsRow 0 141 4 vF c.frames.length (recs (c.frames.map Frm.cells) bs):=M1.out.says (k:=3) rfl
  have HBL:=ak_ hbl
  rcases h56 with rfl | rfl
  ·have HF:=ak_ (show shapeF g ⟨5,node,label,kids⟩ c=c.leave 5 node label kids by rw [shapeF,if_neg HF0.out,if_neg (by decide),if_neg (by decide),if_neg (by decide),if_pos (by decide)])
   obtain ⟨N,hN⟩:∃ N,N=enclF (fun f=>decide (f.label=label) && (!false || f.loop)) c.frames c.frames.length:=⟨_,rfl⟩
   have EN:=ak_ (enclosing_any w1 bc vF c.frames bs label false k2 hfr hbl.symm ho)
   have HNL:=ak_ (enclF_lt (fun f=>decide (f.label=label) && (!false || f.loop)) c.frames c.frames.length (Nat.le_refl _))
   rw [<-hN] at HNL
   have HN:=ak_ hN
   clear HF0 s3 f4 M3 ho hN hbl h1 h2 h34 h1' h2' h3' h4'
   by_cases hbad:N < 0∨kids.length≠0∨node≠0
   ·have HFL:=ak_ (show shapeF g ⟨5,node,label,kids⟩ c=c.fail from HF.out.trans (by rw [leave_eq c 5 node label kids false rfl N HN.out,if_pos hbad]))
    by_cases hNneg:N < 0
    ·clear hbad
     go_enter Try.func68,Try.ntmps68
     go_wp2_with (first
      | (go_at_call 90;refine EN.out.mono ?_;rintro e w4 ⟨rfl,hd4⟩;rw [<-HN.out];have M4:=M1.out.drawn hd4;have k4':w4.cell? ⟨bc,4,none⟩=some (.bool false):=(by have:=M4.cell (k:=0) (j:=4) rfl rfl;rw [HBF.out] at this;exact this);have e0':w4.cell? ⟨b3,0,none⟩=some (.int .i64 5):=M4.cell (k:=6) (j:=0) rfl rfl;have e1':w4.cell? ⟨b3,1,none⟩=some (.int .i64 node):=M4.cell (k:=6) (j:=1) rfl rfl;have e3':w4.cell? ⟨b3,3,none⟩=some (.slice A kids.length n):=M4.cell (k:=6) (j:=3) rfl rfl;obtain ⟨w5,s5,M5⟩:=M4.set (k:=0) 4 rfl (.bool true);have f5:=M4.free (k:=0) (j:=4) rfl;have M5:=ak_ (show Mem w0 w5 F (c.fail.own bc (.slice gA g.length gc) ⟨vS,vF,vU,ts,bs⟩++[.blk b3 (.cells #[.int .i64 5,.int .i64 node,.int .i64 label,.slice A kids.length n] 31 (0,0))]) from M5);have M4:=ak_ M4;clear hd4))
     refine bodyPost_ret (results_none rfl _ _ _) rfl ?_
     refine ⟨rfl,⟨vS,vF,vU,ts,bs⟩,?_⟩
     rw [HFL.out]
     exact M5.out.lose (k:=6) rfl
    ·by_cases hk0:kids.length=0
     ·have hn0:(node != 0)=true:=by simpa using (hbad.resolve_left hNneg).resolve_left (by simpa using hk0)
      have hk1:((kids.length:Int) != 0)=false:=by simp [hk0]
      clear hbad hk0
      go_enter Try.func68,Try.ntmps68
      go_wp2_with (first
       | (go_at_call 90;refine EN.out.mono ?_;rintro e w4 ⟨rfl,hd4⟩;rw [<-HN.out];have M4:=M1.out.drawn hd4;have k4':w4.cell? ⟨bc,4,none⟩=some (.bool false):=(by have:=M4.cell (k:=0) (j:=4) rfl rfl;rw [HBF.out] at this;exact this);have e0':w4.cell? ⟨b3,0,none⟩=some (.int .i64 5):=M4.cell (k:=6) (j:=0) rfl rfl;have e1':w4.cell? ⟨b3,1,none⟩=some (.int .i64 node):=M4.cell (k:=6) (j:=1) rfl rfl;have e3':w4.cell? ⟨b3,3,none⟩=some (.slice A kids.length n):=M4.cell (k:=6) (j:=3) rfl rfl;obtain ⟨w5,s5,M5⟩:=M4.set (k:=0) 4 rfl (.bool true);have f5:=M4.free (k:=0) (j:=4) rfl;have M5:=ak_ (show Mem w0 w5 F (c.fail.own bc (.slice gA g.length gc) ⟨vS,vF,vU,ts,bs⟩++[.blk b3 (.cells #[.int .i64 5,.int .i64 node,.int .i64 label,.slice A kids.length n] 31 (0,0))]) from M5);have M4:=ak_ M4;clear hd4))
      refine bodyPost_ret (results_none rfl _ _ _) rfl ?_
      refine ⟨rfl,⟨vS,vF,vU,ts,bs⟩,?_⟩
      rw [HFL.out]
      exact M5.out.lose (k:=6) rfl
     ·have hk1:((kids.length:Int) != 0)=true:=bne_iff_ne.mpr (by omega)
      clear hbad hk0
      go_enter Try.func68,Try.ntmps68
      go_wp2_with (first
       | (go_at_call 90;refine EN.out.mono ?_;rintro e w4 ⟨rfl,hd4⟩;rw [<-HN.out];have M4:=M1.out.drawn hd4;have k4':w4.cell? ⟨bc,4,none⟩=some (.bool false):=(by have:=M4.cell (k:=0) (j:=4) rfl rfl;rw [HBF.out] at this;exact this);have e0':w4.cell? ⟨b3,0,none⟩=some (.int .i64 5):=M4.cell (k:=6) (j:=0) rfl rfl;have e1':w4.cell? ⟨b3,1,none⟩=some (.int .i64 node):=M4.cell (k:=6) (j:=1) rfl rfl;have e3':w4.cell? ⟨b3,3,none⟩=some (.slice A kids.length n):=M4.cell (k:=6) (j:=3) rfl rfl;obtain ⟨w5,s5,M5⟩:=M4.set (k:=0) 4 rfl (.bool true);have f5:=M4.free (k:=0) (j:=4) rfl;have M5:=ak_ (show Mem w0 w5 F (c.fail.own bc (.slice gA g.length gc) ⟨vS,vF,vU,ts,bs⟩++[.blk b3 (.cells #[.int .i64 5,.int .i64 node,.int .i64 label,.slice A kids.length n] 31 (0,0))]) from M5);have M4:=ak_ M4;clear hd4))
      refine bodyPost_ret (results_none rfl _ _ _) rfl ?_
      refine ⟨rfl,⟨vS,vF,vU,ts,bs⟩,?_⟩
      rw [HFL.out]
      exact M5.out.lose (k:=6) rfl
   ·have hNneg:¬ N < 0:=fun h=>hbad (.inl h)
    have hk0:kids.length=0:=Classical.byContradiction fun h=>hbad (.inr (.inl h))
    have hn0:node=0:=Classical.byContradiction fun h=>hbad (.inr (.inr h))
    subst hn0
    obtain ⟨q,hq,hql⟩:∃ q:Nat,N=q/\q < c.frames.length:=HNL.out.resolve_left hNneg
    subst hq
    have hk1:((kids.length:Int) != 0)=false:=by simp [hk0]
    have hNn:¬ ((q:Int) < 0):=hNneg
    have HBAD:=ak_ hbad
    clear hbad hNneg hk0 HNL
    go_enter Try.func68,Try.ntmps68
    go_wp2_with (first
     | (go_at_call 90;refine EN.out.mono ?_;rintro e w4 ⟨rfl,hd4⟩;rw [<-HN.out];have M4:=M1.out.drawn hd4;have k4':w4.cell? ⟨bc,4,none⟩=some (.bool false):=(by have:=M4.cell (k:=0) (j:=4) rfl rfl;rw [HBF.out] at this;exact this);have e0':w4.cell? ⟨b3,0,none⟩=some (.int .i64 5):=M4.cell (k:=6) (j:=0) rfl rfl;have e1':w4.cell? ⟨b3,1,none⟩=some (.int .i64 0):=M4.cell (k:=6) (j:=1) rfl rfl;have e3':w4.cell? ⟨b3,3,none⟩=some (.slice A kids.length n):=M4.cell (k:=6) (j:=3) rfl rfl;have M4:=ak_ M4;clear hd4)
     | (go_at_call 69;refine (emit0 bc _ c _ 1 0 M4.out hst).mono ?_;rintro e w9 ⟨rfl,p9,M9⟩;have e0'':w9.cell? ⟨b3,0,none⟩=some (.int .i64 5):=M9.cell (k:=6) (j:=0) rfl rfl;have M9:=ak_ M9))
    obtain ⟨vS,vF,vU,ts',bs'⟩:=p9
    obtain ⟨d,hd⟩:∃ d,d=c.emit ⟨1,0,[]⟩:=⟨_,rfl⟩
    rw [<-hd] at M9
    have hdf:d.frames=c.frames:=by rw [hd];rfl
    have hds:d.steps.length=c.steps.length+1:=by rw [hd];simp [Cs.emit]
    have hql':(q:Int) < d.frames.length:=by rw [hdf];omega
    have hql2:q < d.frames.length:=by rw [hdf];exact hql
    obtain ⟨w10,z10,M10⟩:=M9.out.drew
    obtain ⟨bF,cF,e,hcF,hcell⟩:=M10.rowForm (k:=3) rfl (by omega)
    dsimp only at e
    subst e
    have hbl2:bs'.length=d.frames.length:=by have:=(M10.rows (k:=4) rfl).len;simpa using this
    obtain ⟨fq,hfq⟩:∃ fq,d.frames[q]?=some fq:=⟨_,List.getElem?_eq_getElem hql2⟩
    have hrec:∀ j,j<=3->(recs (d.frames.map Frm.cells) bs')[q * 4+j]?=(fq.cells++[bs'.getD q nilS])[j]?:=fun j hj=>by
     rw [recs_get (m:=3) (by simp [hbl2]) (frm_len _) (by simpa using hql2) hj]
     congr 2
     simp [List.getD_eq_getElem?_getD,hfq]
    have k2d:w10.cell? ⟨bc,2,none⟩=some (.slice (some ⟨bF,0,none⟩) d.frames.length cF):=M10.cell (k:=0) (j:=2) rfl rfl
    obtain ⟨bks,hbks⟩:∃ bks,bks=(d.frames.map Frm.brk).getD q []:=⟨_,rfl⟩
    obtain ⟨Av,nv,hv⟩:∃ A c,bs'.getD q nilS=.slice A bks.length c:=by
     have:=(M10.rows (k:=4) rfl).row q (by show q < bs'.length;omega)
     rw [<-hbks] at this
     exact own_slice this
    have hbk:bks.length < 1000000000:=by
     have h8:=(HOK.out.br c.frames[q] (List.getElem_mem _)).1
     have h7:bks=c.frames[q].brk:=by rw [hbks,hdf];simp [List.getD_eq_getElem?_getD,hql]
     rw [h7];simp only [big] at h8;omega
    have r3:w10.cell? ⟨bF,q * 4+3,none⟩=some (.slice Av bks.length nv):=hcell _ _ ((hrec 3 (by omega)).trans (by rw [hv];rfl))
    have HC:=ak_ hrec
    have HB2:=ak_ hbl2
    have HV:=ak_ hv
    have HBK:=ak_ hbks
    have HD:=ak_ hd
    have HDF:=ak_ hdf
    have M10:=ak_ M10
    have HQ:=ak_ hql2
    clear hfq hrec hbl2 hv hbks hd hdf hds hql hql2 M9 M4 M1 hcell hcF e0 e1 e2 e3 k4 k2
    go_wp2_with (first | (rw [z10]) | (refine wp_region_txt (fun W=>W.cell? ⟨bc,2,none⟩=some (.slice (some ⟨bF,0,none⟩) d.frames.length cF)) [3] (by kernel_rfl) (by kernel_rfl) ?_))
    iterate 15 ((first | (with_reducible refine wpT_nil ?_) | (refine wpT_W (v:=?_) (by assumption) (by decide) (wn_ rfl) (fun _ hS_=>?_) ?_;rotate_left;(focus ((try dsimp only at hS_);go_simp;rfl))) | (refine wpT_R (v:=?_) (by assumption) (by decide) (wn_ rfl) ?_ ?_;rotate_left;(focus (go_simp;rfl))) | (refine wpT_A (v:=?_) (ob:=?_) (by assumption) (by decide) (wn_ rfl) ?_ ?_ ?_;rotate_left 2;(focus (go_simp;first | (constructor <;> rfl) | rfl));(focus (apply cell_alloc;assumption))));(try simp only [Act.put,sA_,sB_,sC_]))
    refine wpT_L (cell_alloc _ k2d) (by decide) (wn_ rfl) (fun K_ hK_=>?_)
    refine step_mem_at (ops:=#[]) 4 q rfl (.tmp 98) (.tmp 100) rfl Try.underlying23 PShapeReducible.info3 bs' (d.frames.map Frm.brk) (c.steps.length:Int) (by rw [HV.out];rfl) rfl M10.out rfl (by simpa using HQ.out) (by rw [<-HBK.out];exact hbk) ?_
    intro A12 c12 w12 M12
    rw [<-HBK.out] at M12 ⊢
    have k2e:w12.cell? ⟨bc,2,none⟩=some (.slice (some ⟨bF,0,none⟩) d.frames.length cF):=M12.cell (k:=0) (j:=2) rfl rfl
    refine hK_ _ _ k2e ?_
    clear hK_
    obtain ⟨w13,s13,M13⟩:=M12.rowPut (k:=3) (q * 4+3) rfl (.slice A12 (bks.length+1) c12)
    have r4:w12.cell? ⟨bF,q * 4+3,none⟩=some (.slice Av bks.length nv):=by
     obtain ⟨bF',cF',e,_,hc⟩:=M12.rowForm (k:=3) rfl (by omega)
     simp only [Value.slice.injEq,Option.some.injEq,Addr.mk.injEq,and_true,true_and] at e
     obtain ⟨rfl,rfl⟩:=e
     exact hc _ _ ((HC.out 3 (by omega)).trans (by rw [HV.out];rfl))
    have r5:=(M12.row (k:=3) rfl).frozenAt (q * 4+3)
    have k2f:w13.cell? ⟨bc,2,none⟩=some (.slice (some ⟨bF,0,none⟩) d.frames.length cF):=M13.cell (k:=0) (j:=2) rfl rfl
    have M13:=ak_ M13
    clear M12
    iterate 2 ((first | (with_reducible refine wpT_nil ?_) | (refine wpT_W (v:=?_) (by assumption) (by decide) (wn_ rfl) (fun _ hS_=>?_) ?_;rotate_left;(focus ((try dsimp only at hS_);go_simp;rfl))) | (refine wpT_R (v:=?_) (by assumption) (by decide) (wn_ rfl) ?_ ?_;rotate_left;(focus (go_simp;rfl))) | (refine wpT_A (v:=?_) (ob:=?_) (by assumption) (by decide) (wn_ rfl) ?_ ?_ ?_;rotate_left 2;(focus (go_simp;first | (constructor <;> rfl) | rfl));(focus (apply cell_alloc;assumption))));(try simp only [Act.put,sA_,sB_,sC_]))
    refine wpT_L k2e (by decide) (wn_ rfl) (fun K_ hK_=>?_)
    go_simp
    refine hK_ _ _ k2f ?_
    clear hK_
    refine wpT_nil ?_
    go_wp2
    go_end0
    refine ⟨rfl,⟨vS,.slice (some ⟨bF,0,none⟩) d.frames.length cF,vU,ts',bs'.set q (.slice A12 (bks.length+1) c12)⟩,?_⟩
    rw [HF.out]
    have hfin:c.leave 5 0 label kids={ d with frames:=addBrk d.frames q (c.steps.length:Int) }:=by
     rw [leave_eq c 5 0 label kids false rfl q HN.out,if_neg HBAD.out,if_pos rfl,HD.out]
     rfl
    have hr2:(recs (d.frames.map Frm.cells) bs').set (q * 4+3) (.slice A12 (bks.length+1) c12)=recs (d.frames.map Frm.cells) (bs'.set q (.slice A12 (bks.length+1) c12)):=recs_set (m:=3) (by simp [HB2.out]) (frm_len _) (by simpa using HQ.out) _
    rw [hfin]
    unfold Cs.own
    simp only [addBrk_cells,addBrk_brk,addBrk_length]
    rw [<-hr2,<-HBK.out]
    exact M13.out.lose (k:=6) rfl
  ·have HF:=ak_ (show shapeF g ⟨6,node,label,kids⟩ c=c.leave 6 node label kids by rw [shapeF,if_neg HF0.out,if_neg (by decide),if_neg (by decide),if_neg (by decide),if_pos (by decide)])
   obtain ⟨N,hN⟩:∃ N,N=enclF (fun f=>decide (f.label=label) && (!true || f.loop)) c.frames c.frames.length:=⟨_,rfl⟩
   have EN:=ak_ (enclosing_any w1 bc vF c.frames bs label true k2 hfr hbl.symm ho)
   have HNL:=ak_ (enclF_lt (fun f=>decide (f.label=label) && (!true || f.loop)) c.frames c.frames.length (Nat.le_refl _))
   rw [<-hN] at HNL
   have HN:=ak_ hN
   clear HF0 s3 f4 M3 ho hN hbl h1 h2 h34 h1' h2' h3' h4'
   by_cases hbad:N < 0∨kids.length≠0∨node≠0
   ·have HFL:=ak_ (show shapeF g ⟨6,node,label,kids⟩ c=c.fail from HF.out.trans (by rw [leave_eq c 6 node label kids true rfl N HN.out,if_pos hbad]))
    by_cases hNneg:N < 0
    ·clear hbad
     go_enter Try.func68,Try.ntmps68
     go_wp2_with (first
      | (go_at_call 90;refine EN.out.mono ?_;rintro e w4 ⟨rfl,hd4⟩;rw [<-HN.out];have M4:=M1.out.drawn hd4;have k4':w4.cell? ⟨bc,4,none⟩=some (.bool false):=(by have:=M4.cell (k:=0) (j:=4) rfl rfl;rw [HBF.out] at this;exact this);have e0':w4.cell? ⟨b3,0,none⟩=some (.int .i64 6):=M4.cell (k:=6) (j:=0) rfl rfl;have e1':w4.cell? ⟨b3,1,none⟩=some (.int .i64 node):=M4.cell (k:=6) (j:=1) rfl rfl;have e3':w4.cell? ⟨b3,3,none⟩=some (.slice A kids.length n):=M4.cell (k:=6) (j:=3) rfl rfl;obtain ⟨w5,s5,M5⟩:=M4.set (k:=0) 4 rfl (.bool true);have f5:=M4.free (k:=0) (j:=4) rfl;have M5:=ak_ (show Mem w0 w5 F (c.fail.own bc (.slice gA g.length gc) ⟨vS,vF,vU,ts,bs⟩++[.blk b3 (.cells #[.int .i64 6,.int .i64 node,.int .i64 label,.slice A kids.length n] 31 (0,0))]) from M5);have M4:=ak_ M4;clear hd4))
     refine bodyPost_ret (results_none rfl _ _ _) rfl ?_
     refine ⟨rfl,⟨vS,vF,vU,ts,bs⟩,?_⟩
     rw [HFL.out]
     exact M5.out.lose (k:=6) rfl
    ·by_cases hk0:kids.length=0
     ·have hn0:(node != 0)=true:=by simpa using (hbad.resolve_left hNneg).resolve_left (by simpa using hk0)
      have hk1:((kids.length:Int) != 0)=false:=by simp [hk0]
      clear hbad hk0
      go_enter Try.func68,Try.ntmps68
      go_wp2_with (first
       | (go_at_call 90;refine EN.out.mono ?_;rintro e w4 ⟨rfl,hd4⟩;rw [<-HN.out];have M4:=M1.out.drawn hd4;have k4':w4.cell? ⟨bc,4,none⟩=some (.bool false):=(by have:=M4.cell (k:=0) (j:=4) rfl rfl;rw [HBF.out] at this;exact this);have e0':w4.cell? ⟨b3,0,none⟩=some (.int .i64 6):=M4.cell (k:=6) (j:=0) rfl rfl;have e1':w4.cell? ⟨b3,1,none⟩=some (.int .i64 node):=M4.cell (k:=6) (j:=1) rfl rfl;have e3':w4.cell? ⟨b3,3,none⟩=some (.slice A kids.length n):=M4.cell (k:=6) (j:=3) rfl rfl;obtain ⟨w5,s5,M5⟩:=M4.set (k:=0) 4 rfl (.bool true);have f5:=M4.free (k:=0) (j:=4) rfl;have M5:=ak_ (show Mem w0 w5 F (c.fail.own bc (.slice gA g.length gc) ⟨vS,vF,vU,ts,bs⟩++[.blk b3 (.cells #[.int .i64 6,.int .i64 node,.int .i64 label,.slice A kids.length n] 31 (0,0))]) from M5);have M4:=ak_ M4;clear hd4))
      refine bodyPost_ret (results_none rfl _ _ _) rfl ?_
      refine ⟨rfl,⟨vS,vF,vU,ts,bs⟩,?_⟩
      rw [HFL.out]
      exact M5.out.lose (k:=6) rfl
     ·have hk1:((kids.length:Int) != 0)=true:=bne_iff_ne.mpr (by omega)
      clear hbad hk0
      go_enter Try.func68,Try.ntmps68
      go_wp2_with (first
       | (go_at_call 90;refine EN.out.mono ?_;rintro e w4 ⟨rfl,hd4⟩;rw [<-HN.out];have M4:=M1.out.drawn hd4;have k4':w4.cell? ⟨bc,4,none⟩=some (.bool false):=(by have:=M4.cell (k:=0) (j:=4) rfl rfl;rw [HBF.out] at this;exact this);have e0':w4.cell? ⟨b3,0,none⟩=some (.int .i64 6):=M4.cell (k:=6) (j:=0) rfl rfl;have e1':w4.cell? ⟨b3,1,none⟩=some (.int .i64 node):=M4.cell (k:=6) (j:=1) rfl rfl;have e3':w4.cell? ⟨b3,3,none⟩=some (.slice A kids.length n):=M4.cell (k:=6) (j:=3) rfl rfl;obtain ⟨w5,s5,M5⟩:=M4.set (k:=0) 4 rfl (.bool true);have f5:=M4.free (k:=0) (j:=4) rfl;have M5:=ak_ (show Mem w0 w5 F (c.fail.own bc (.slice gA g.length gc) ⟨vS,vF,vU,ts,bs⟩++[.blk b3 (.cells #[.int .i64 6,.int .i64 node,.int .i64 label,.slice A kids.length n] 31 (0,0))]) from M5);have M4:=ak_ M4;clear hd4))
      refine bodyPost_ret (results_none rfl _ _ _) rfl ?_
      refine ⟨rfl,⟨vS,vF,vU,ts,bs⟩,?_⟩
      rw [HFL.out]
      exact M5.out.lose (k:=6) rfl
   ·have hNneg:¬ N < 0:=fun h=>hbad (.inl h)
    have hk0:kids.length=0:=Classical.byContradiction fun h=>hbad (.inr (.inl h))
    have hn0:node=0:=Classical.byContradiction fun h=>hbad (.inr (.inr h))
    subst hn0
    obtain ⟨q,hq,hql⟩:∃ q:Nat,N=q/\q < c.frames.length:=HNL.out.resolve_left hNneg
    subst hq
    have hk1:((kids.length:Int) != 0)=false:=by simp [hk0]
    have hNn:¬ ((q:Int) < 0):=hNneg
    have HBAD:=ak_ hbad
    clear hbad hNneg hk0 HNL
    go_enter Try.func68,Try.ntmps68
    go_wp2_with (first
     | (go_at_call 90;refine EN.out.mono ?_;rintro e w4 ⟨rfl,hd4⟩;rw [<-HN.out];have M4:=M1.out.drawn hd4;have k4':w4.cell? ⟨bc,4,none⟩=some (.bool false):=(by have:=M4.cell (k:=0) (j:=4) rfl rfl;rw [HBF.out] at this;exact this);have e0':w4.cell? ⟨b3,0,none⟩=some (.int .i64 6):=M4.cell (k:=6) (j:=0) rfl rfl;have e1':w4.cell? ⟨b3,1,none⟩=some (.int .i64 0):=M4.cell (k:=6) (j:=1) rfl rfl;have e3':w4.cell? ⟨b3,3,none⟩=some (.slice A kids.length n):=M4.cell (k:=6) (j:=3) rfl rfl;have M4:=ak_ M4;clear hd4)
     | (go_at_call 69;refine (emit0 bc _ c _ 1 0 M4.out hst).mono ?_;rintro e w9 ⟨rfl,p9,M9⟩;have e0'':w9.cell? ⟨b3,0,none⟩=some (.int .i64 6):=M9.cell (k:=6) (j:=0) rfl rfl;have M9:=ak_ M9))
    obtain ⟨vS,vF,vU,ts',bs'⟩:=p9
    obtain ⟨d,hd⟩:∃ d,d=c.emit ⟨1,0,[]⟩:=⟨_,rfl⟩
    rw [<-hd] at M9
    have hdf:d.frames=c.frames:=by rw [hd];rfl
    have hds:d.steps.length=c.steps.length+1:=by rw [hd];simp [Cs.emit]
    have hql':(q:Int) < d.frames.length:=by rw [hdf];omega
    have hql2:q < d.frames.length:=by rw [hdf];exact hql
    obtain ⟨w10,z10,M10⟩:=M9.out.drew
    obtain ⟨bF,cF,e,hcF,hcell⟩:=M10.rowForm (k:=3) rfl (by omega)
    dsimp only at e
    subst e
    have hbl2:bs'.length=d.frames.length:=by have:=(M10.rows (k:=4) rfl).len;simpa using this
    obtain ⟨fq,hfq⟩:∃ fq,d.frames[q]?=some fq:=⟨_,List.getElem?_eq_getElem hql2⟩
    have hrec:∀ j,j<=3->(recs (d.frames.map Frm.cells) bs')[q * 4+j]?=(fq.cells++[bs'.getD q nilS])[j]?:=fun j hj=>by
     rw [recs_get (m:=3) (by simp [hbl2]) (frm_len _) (by simpa using hql2) hj]
     congr 2
     simp [List.getD_eq_getElem?_getD,hfq]
    have k2d:w10.cell? ⟨bc,2,none⟩=some (.slice (some ⟨bF,0,none⟩) d.frames.length cF):=M10.cell (k:=0) (j:=2) rfl rfl
    obtain ⟨st,hst2⟩:∃ st,st=fq.start:=⟨_,rfl⟩
    have HFQ:=ak_ hfq
    have r1:w10.cell? ⟨bF,q * 4+1,none⟩=some (.int .i64 st):=hcell _ _ ((hrec 1 (by omega)).trans (by rw [hst2];rfl))
    obtain ⟨n8,w11,z11,a11,M11⟩:=M10.one st
    have M11':=(M11.order [0,1,2,3,4,5,7,6] rfl)
    obtain ⟨bS,cS,w12,k1,s12,⟨u9',t12⟩,f12,M12⟩:=Mem.setTo (n:=c.steps.length) (xs:=[st]) (H:=[.blk b3 (.cells #[.int .i64 6,.int .i64 0,.int .i64 label,.slice A kids.length n] 31 (0,0))]) M11' (by omega)
    have k1d:w10.cell? ⟨bc,1,none⟩=some (.slice (some ⟨bS,0,none⟩) d.steps.length cS):=by
     obtain ⟨A,nn,e⟩:=own_vS M10
     have h1:=pw_cell_below (below_alloc (Below.refl _ _) (.cells #[.int .i64 st] 3)) e
     rw [a11,k1] at h1
     rw [e,<-h1]
    have hsl:(c.steps.length:Int) < d.steps.length:=by omega
    have A8:=ak_ (And.intro a11 z11)
    have M12:=ak_ M12
    have HD:=ak_ hd
    have HDF:=ak_ hdf
    have HDS:=ak_ hds
    have HS2:=ak_ hst2
    have HQL:=ak_ hql
    clear hfq hrec hbl2 hd hdf hds hql hql2 M9 M4 M1 hcell hcF e0 e1 e2 e3 k4 k2 M10 M11 M11' a11 z11 hst2
    go_wp2_with (first | (rw [z10]) | (refine wp_region_txt (fun _=>True) [] (by kernel_rfl) (by kernel_rfl) ?_))
    iterate 14 ((first | (with_reducible refine wpT_nil ?_) | (refine wpT_W (v:=?_) trivial (by decide) (wn_ rfl) (fun _ hS_=>?_) ?_;rotate_left;(focus ((try dsimp only at hS_);go_simp;rfl))) | (refine wpT_R (v:=?_) trivial (by decide) (wn_ rfl) ?_ ?_;rotate_left;(focus (go_simp;rfl))) | (refine wpT_A (v:=?_) (ob:=?_) trivial (by decide) (wn_ rfl) ?_ ?_ ?_;rotate_left 2;(focus (go_simp;first | (constructor <;> rfl) | rfl));(focus (exact trivial))));(try simp only [Act.put,sA_,sB_,sC_]))
    rw [A8.out.1,A8.out.2]
    iterate 2 ((first | (with_reducible refine wpT_nil ?_) | (refine wpT_W (v:=?_) trivial (by decide) (wn_ rfl) (fun _ hS_=>?_) ?_;rotate_left;(focus ((try dsimp only at hS_);go_simp;rfl))) | (refine wpT_R (v:=?_) trivial (by decide) (wn_ rfl) ?_ ?_;rotate_left;(focus (go_simp;rfl))) | (refine wpT_A (v:=?_) (ob:=?_) trivial (by decide) (wn_ rfl) ?_ ?_ ?_;rotate_left 2;(focus (go_simp;first | (constructor <;> rfl) | rfl));(focus (exact trivial))));(try simp only [Act.put,sA_,sB_,sC_]))
    (refine wpT_L trivial (by decide) (wn_ rfl) (fun K_ hK_=>?_);go_simp;refine hK_ _ _ trivial ?_;clear hK_)
    refine wpT_nil ?_
    go_wp2
    go_end0
    refine ⟨rfl,?_⟩
    rw [HF.out]
    have hfin:c.leave 6 0 label kids=d.setTo c.steps.length [st]:=by
     rw [leave_eq c 6 0 label kids true rfl q HN.out,if_neg HBAD.out,if_neg (by decide),<-HD.out,Int.toNat_natCast,HS2.out]
     congr 2
     rw [<-HDF.out,HFQ.out]
     rfl
    rw [hfin]
    exact ⟨_,M12.out.lose (k:=6) rfl⟩
 ·have h5':(kind == 5)=false:=by simpa using fun h=>h56 (.inl h)
  have h6':(kind == 6)=false:=by simpa using fun h=>h56 (.inr h)
  have HF:=ak_ (show shapeF g ⟨kind,node,label,kids⟩ c=c.fail by rw [shapeF,if_neg HF0.out,if_neg h1,if_neg h2,if_neg h34,if_neg h56])
  clear HF0 h1 h2 h34 h56
  go_enter Try.func68,Try.ntmps68
  go_wp2
  go_end0
  refine ⟨rfl,p,?_⟩
  rw [HF.out]
  exact M3.out.lose (k:=6) rfl
theorem rshape_any (w0:World) (bc:Nat) (gA:Option Addr) (gc:Nat) (g:List (List Int)) (hG:kG.C w0 gA g.length g) (hg:g.length<=1000000000):∀ (N:Nat) (s:S31),szF s<=N->ShapeOk w0 bc gA gc g s
 | 0,s,h=>by rw [szF_eq] at h;omega
 | N+1,s,h=>by
  intro F H c p w A n m M hok hK hn
  rw [szF_eq] at h hok
  obtain ⟨kind,node,label,kids⟩:=s
  refine (rshape_step w0 bc gA gc g hG hg kind node label kids (fun k hk=>rshape_any w0 bc gA gc g hG hg N k ?_) (H++F) c p w A n m M.narrow (hok.mono (by simp only [];omega)) hK hn).mono ?_
  ·have:=szL_mem hk
   simp only [] at h
   omega
  ·rintro e w' ⟨rfl,p',M'⟩
   exact ⟨rfl,p',M'.wide⟩
end Go.Proofs.Ytfiiihpdekppiaa
end
section
namespace Go.Proofs.Ytfiiihpdekppiaa
open Go.RowKit Go.Proofs Go.Proofs.YtfiiihpdekppiaaW.PrintWords
open PShapeReducible (S31 S77 k77 k77_mk)
def Stp.s77 (p:Stp):S77:=⟨p.kind,p.node,p.tos⟩
theorem recs_chunk {m:Nat}:∀ {hs:List (List Value)} {vs:List Value},hs.length=vs.length->(∀ h∈hs,h.length=m)->∀ {i:Nat},i < hs.length->((recs hs vs).drop (i * (m+1))).take (m+1)=hs.getD i []++[vs.getD i nilS]
 | [],_,_,_,i,hi=>by simp at hi
 | h :: hs,[],hl,_,_,_=>by simp at hl
 | h :: hs,v :: vs,hl,hm,i,hi=>by
  have h0:=hm h (by simp)
  have e:recs (h :: hs) (v :: vs)=(h++[v])++recs hs vs:=by simp [recs]
  cases i with
  | zero =>
   rw [e]
   simp only [Nat.zero_mul,List.drop_zero,List.getD_cons_zero]
   rw [List.take_append_of_le_length (by simp [h0]),List.take_of_length_le (by simp [h0])]
  | succ i =>
   have ih:=recs_chunk (hs:=hs) (vs:=vs) (by simpa using hl) (fun x hx=>hm x (by simp [hx])) (i:=i) (by simpa using hi)
   rw [e,show (i+1) * (m+1)=(h++[v]).length+i * (m+1) by simp [h0,Nat.add_mul];omega,List.drop_append]
   simp only [List.getD_cons_succ]
   rw [<-ih,List.drop_of_length_le (by omega),List.nil_append,Nat.add_sub_cancel_left]
section
variable {w0 w w' : World} {F H L : List Pc}
theorem Mem.stepsC {k j:Nat} {v:Value} {ts:List Value} {ss:List Stp} (h:Mem w0 w F H) (hk:H[k]?=some (.row v 77 3 ss.length (recs (ss.map Stp.cells) ts))) (hj:H[j]?=some (.rows ts (ss.map Stp.tos))) :
  ∃ A n,v=.slice A (ss.map Stp.s77).length n/\(ss.map Stp.s77).length<=n/\k77.C w A (ss.map Stp.s77).length (ss.map Stp.s77):=by
 have h1:w.ownsRow 0 77 3 v ss.length (recs (ss.map Stp.cells) ts):=h.says hk
 have h2:=h.rows hj
 have hlen:ts.length=ss.length:=by simpa using h2.len
 have hr:OwnRow (k77.K w) 77 3 w 0 v (ss.map Stp.s77):=by
  refine ⟨_,by rw [List.length_map];exact h1,by rw [List.length_map,recs_len (m:=2) (by simpa using hlen.symm) (by simp [Stp.cells])];simp,fun i p hp=>?_⟩
  rw [List.getElem?_map] at hp
  obtain ⟨s,hs,rfl⟩:=Option.map_eq_some_iff.1 hp
  have hi:=(List.getElem?_eq_some_iff.1 hs).1
  rw [recs_chunk (m:=2) (by simpa using hlen.symm) (by simp [Stp.cells]) (by simpa using hi)]
  obtain ⟨A,c,e1,e2,e3⟩:=own_C (h2.row i (by omega))
  have e4:(ss.map Stp.tos).getD i []=s.tos:=by simp [List.getD_eq_getElem?_getD,hs]
  have e5:(ss.map Stp.cells).getD i []=s.cells:=by simp [List.getD_eq_getElem?_getD,hs]
  rw [e4] at e1 e2 e3
  rw [e5,e1]
  exact k77_mk w s.s77 e2 e3
 exact OwnRow.reads hr
theorem Mem.rowsPut {k i j b n:Nat} {vs:List Value} {xss:List (List Int)} (h:Mem w0 w F H) (hk:H[k]?=some (.rows vs xss)) (hi:i < xss.length) (hv:vs.getD i nilS=.slice (some ⟨b,0,none⟩) (xss.getD i []).length n) (x:Int) :
  ∃ w2,w.setCell ⟨b,j,none⟩ (.int .i64 x)=w2/\Mem w0 w2 F (H.set k (.rows vs (xss.set i ((xss.getD i []).set j x)))):=by
 refine ⟨_,rfl,?_⟩
 have h2:Rows3 w 0 vs xss:=h.says hk
 have hlen:=h2.len
 have hrow:=h2.row i (by omega)
 rw [hv] at hrow
 have hst:=(hrow.stored j (.int .i64 x)).1
 have hg:w.grownBy (w.setCell ⟨b,j,none⟩ (.int .i64 x)) (vs.getD i nilS).ownBlock:=⟨rfl,rfl,rfl,by simp [World.setCell],fun q hq hn=>by
  rw [hv] at hn
  exact Below.heap_setCell w _ _ q (fun e=>hn (by rw [e];rfl))⟩
 have:=h.rowsTurn (i:=i) hk (by omega) (v':=vs.getD i nilS) (xs':=(xss.getD i []).set j x) (b':=0) hg (by
  rw [hv,List.length_set]
  have e:nums .i64 ((xss.getD i []).set j x)=(nums .i64 (xss.getD i [])).set j (.int .i64 x):=by simp [nums,List.map_set]
  rw [e]
  exact hst) (.inl rfl)
 have hset:vs.set i (vs.getD i nilS)=vs:=by
  rw [List.getD_eq_getElem?_getD,List.getElem?_eq_getElem (by omega)]
  simp
 rw [hset] at this
 exact this
theorem Mem.rowsAt {k i:Nat} {vs:List Value} {xss:List (List Int)} (h:Mem w0 w F H) (hk:H[k]?=some (.rows vs xss)) (hi:i < xss.length):∃ A n,vs.getD i nilS=.slice A (xss.getD i []).length n/\(0 < (xss.getD i []).length->∃ b,A=some ⟨b,0,none⟩/\∀ j,j < (xss.getD i []).length->w.cell? ⟨b,j,none⟩=some (.int .i64 ((xss.getD i []).getD j 0))/\w.frozen? ⟨b,j,none⟩=false):=by
 have h2:=h.rows hk
 have hrow:=h2.row i (by have:=h2.len;omega)
 obtain ⟨A,c,e⟩:=own_slice hrow
 refine ⟨A,c,e,fun h0=>?_⟩
 rcases hrow.2 with ⟨_,h1⟩ | ⟨b,cap,cur,e1,_,_,hn',_⟩
 ·omega
 ·rw [e1] at hrow e
  injection e with e2 _ _
  refine ⟨b,e2.symm,fun j hj=>⟨?_,hrow.frozenAt j⟩⟩
  rw [hrow.cellAt j (by omega)]
  generalize xss.getD i []=l at hj ⊢
  simp [nums,List.getD_eq_getElem?_getD,hj]
end
end Go.Proofs.Ytfiiihpdekppiaa
end
section
namespace Go.Proofs.Ytfiiihpdekppiaa.PShapeReducible
open Go.RowKit Go.Proofs.YtfiiihpdekppiaaW.PrintWords Go.Proofs.YtfiiihpdekppiaaW.PrintLast Go.Proofs.YtfiiihpdekppiaaW.PrintMore
attribute [local go_sem] max2_int min2_int max_two min_two max_three min_three max_four min_four
set_option linter.unusedVariables false
set_option linter.unusedSimpArgs false
def vellumref12_Next.l0:Nat->List (S77)->Int->Int->Option (Int)
 | 0,_,_,_=>none
 | k+1,x0,x1,x5=>if x5<=(x0.length:Int) then (if 0<=x1 then (if x1 < (x0.length:Int) then (if ((rd_T77 x0 x1).f0)=0 then (some x1) else (if ((rd_T77 x0 x1).f0)=2 then (some (-1)) else (if 0 < (((rd_T77 x0 x1).f2).length:Int) then (vellumref12_Next.l0 k x0 (rd ((rd_T77 x0 x1).f2) 0) (wrap64 (x5+1))) else (none)))) else (none)) else (none)) else (some (-1))
def vellumref12_Next.f (k:Nat) (l0:List (S77)) (a1:Int):Option (Int):=vellumref12_Next.l0 k l0 a1 0
set_option maxHeartbeats 8000000 in
set_option maxRecDepth 100000 in
theorem vellumref12_Next.calls (k:Nat) (A0:Option Addr) (c0:Nat) (l0:List (S77)) (a1:Int) (r:Int) (w:World) (hr0:Kd.C k77 w A0 l0.length l0) (hc0:l0.length<=c0) (h:vellumref12_Next.f k l0 a1=some r) :
  Calls Try.prog 46 #[.slice A0 l0.length c0,.int .i64 a1] w fun e w'=>e=.returned (.int .i64 r)/\Drawn0 w w':=by
 have HR0:=Aside0.mk hr0
 have HC0:=Aside0.mk hc0
 clear hr0 hc0
 have H:(vellumref12_Next.l0 k l0 a1 0)=some r:=h
 clear h
 have H':=Aside0.mk H
 clear H
 go_enter Try.func46,Try.ntmps46
 go_wp2
 go_loopg [1,5] k (fun kq v1 v5 w'=>∃ (x1_1:Int) (x5_1:Int),v1=.int .i64 x1_1/\v5=.int .i64 x5_1/\Aside0 (vellumref12_Next.l0 kq l0 x1_1 x5_1=some r)/\Aside0 (kq<=k)/\Drawn0 w w')
 case atStart=>exact ⟨(a1),(0),(by first | rfl | (simp;done) | (simp [*];done)),(by first | rfl | (simp;done) | (simp [*];done)),H',⟨Nat.le_refl _⟩,by repeat (first | exact Drawn0.refl _ | apply Drawn0.step)⟩
 case round =>
  clear H'
  try clear p2
  obtain ⟨x1_1,x5_1,rfl,rfl,HA,HK1,⟨m1,rfl⟩⟩:=hrel
  cases gk with
  | zero=>exact absurd HA.out (by simp [vellumref12_Next.l0])
  | succ k1 =>
   have H:=HA.out
   clear HA
   simp only [vellumref12_Next.l0] at H
   by_cases c3:x5_1<=(l0.length:Int)
   ·rw [if_pos c3] at H
    have c3b0:decide (x5_1<=(l0.length:Int))=true:=decide_eq_true c3
    clear c3
    by_cases c4:0<=x1_1
    ·rw [if_pos c4] at H
     have c4b0:decide (0<=x1_1)=true:=decide_eq_true c4
     clear c4
     by_cases c5:x1_1 < (l0.length:Int)
     ·rw [if_pos c5] at H
      have c5b0:decide (x1_1 < (l0.length:Int))=true:=decide_eq_true c5
      clear c5
      by_cases c6:((rd_T77 l0 x1_1).f0)=0
      ·rw [if_pos c6] at H
       have c6b0:(((rd_T77 l0 x1_1).f0) == 0)=true:=beq_iff_eq.mpr c6
       have c6b1:(((rd_T77 l0 x1_1).f0) != 0)=false:=bne_eq_false_iff_eq.mpr c6
       clear c6
       obtain rfl:=Option.some.inj H
       have p281:0<=(x1_1:Int):=of_decide_eq_true (by first | (with_reducible assumption) | assumption)
       have q281:x1_1 < (l0.length:Int):=of_decide_eq_true (by first | (with_reducible assumption) | assumption)
       obtain ⟨ad281,A281_2,c281_2,e281,hx281_0,hx281_1,hx281_2,hl281_2,hi281_2⟩:=at_T77 HR0.out x1_1 p281 q281
       cases e281
       have HR281_2:=Aside0.mk hi281_2
       have HC281_2:=Aside0.mk hl281_2
       clear hi281_2 hl281_2
       replace p281:=eq_true p281
       replace q281:=eq_true q281
       go_wp2
       go_ret
       exact ⟨by first | rfl | (simp;done) | (simp [*];done),by repeat (first | exact Drawn0.refl _ | apply Drawn0.step)⟩
      ·rw [if_neg c6] at H
       have c6b0:(((rd_T77 l0 x1_1).f0) == 0)=false:=beq_eq_false_iff_ne.mpr c6
       have c6b1:(((rd_T77 l0 x1_1).f0) != 0)=true:=bne_iff_ne.mpr c6
       by_cases c7:((rd_T77 l0 x1_1).f0)=2
       ·rw [if_pos c7] at H
        have c7b0:(((rd_T77 l0 x1_1).f0) == 2)=true:=beq_iff_eq.mpr c7
        have c7b1:(((rd_T77 l0 x1_1).f0) != 2)=false:=bne_eq_false_iff_eq.mpr c7
        clear c7
        obtain rfl:=Option.some.inj H
        have p281:0<=(x1_1:Int):=of_decide_eq_true (by first | (with_reducible assumption) | assumption)
        have q281:x1_1 < (l0.length:Int):=of_decide_eq_true (by first | (with_reducible assumption) | assumption)
        obtain ⟨ad281,A281_2,c281_2,e281,hx281_0,hx281_1,hx281_2,hl281_2,hi281_2⟩:=at_T77 HR0.out x1_1 p281 q281
        cases e281
        have HR281_2:=Aside0.mk hi281_2
        have HC281_2:=Aside0.mk hl281_2
        clear hi281_2 hl281_2
        replace p281:=eq_true p281
        replace q281:=eq_true q281
        go_wp2
        go_ret
        exact ⟨by first | rfl | (simp;done) | (simp [*];done),by repeat (first | exact Drawn0.refl _ | apply Drawn0.step)⟩
       ·rw [if_neg c7] at H
        have c7b0:(((rd_T77 l0 x1_1).f0) == 2)=false:=beq_eq_false_iff_ne.mpr c7
        have c7b1:(((rd_T77 l0 x1_1).f0) != 2)=true:=bne_iff_ne.mpr c7
        by_cases c8:0 < (((rd_T77 l0 x1_1).f2).length:Int)
        ·rw [if_pos c8] at H
         have c8b0:decide (0 < (((rd_T77 l0 x1_1).f2).length:Int))=true:=decide_eq_true c8
         have c8b1:decide (0 < ((rd_T77 l0 x1_1).f2).length)=true:=decide_eq_true (by omega)
         clear c8
         have H':=Aside0.mk H
         clear H
         have p281:0<=(x1_1:Int):=of_decide_eq_true (by first | (with_reducible assumption) | assumption)
         have q281:x1_1 < (l0.length:Int):=of_decide_eq_true (by first | (with_reducible assumption) | assumption)
         obtain ⟨ad281,A281_2,c281_2,e281,hx281_0,hx281_1,hx281_2,hl281_2,hi281_2⟩:=at_T77 HR0.out x1_1 p281 q281
         cases e281
         have HR281_2:=Aside0.mk hi281_2
         have HC281_2:=Aside0.mk hl281_2
         clear hi281_2 hl281_2
         replace p281:=eq_true p281
         replace q281:=eq_true q281
         have p282:0<=(x1_1:Int):=of_decide_eq_true (by first | (with_reducible assumption) | assumption)
         have q282:x1_1 < (l0.length:Int):=of_decide_eq_true (by first | (with_reducible assumption) | assumption)
         obtain ⟨ad282,A282_2,c282_2,e282,hx282_0,hx282_1,hx282_2,hl282_2,hi282_2⟩:=at_T77 HR0.out x1_1 p282 q282
         obtain rfl:ad281=ad282:=(by injection e282)
         have HR282_2:=Aside0.mk hi282_2
         have HC282_2:=Aside0.mk hl282_2
         clear hi282_2 hl282_2
         replace p282:=eq_true p282
         replace q282:=eq_true q282
         have ea_:=Option.some.inj (hx281_2.symm.trans hx282_2)
         injection ea_ with ea_ en_ ec_
         subst ea_
         subst ec_
         clear en_
         have p283:0<=(0:Int):=(by omega)
         have q283:0 < (((rd_T77 l0 x1_1).f2).length:Int):=of_decide_eq_true (by first | (with_reducible assumption) | assumption)
         obtain ⟨ad283,e283,hx283_0⟩:=Kd.at_int HR282_2.out 0 p283 q283
         cases e283
         have qi283:(0 < ((rd_T77 l0 x1_1).f2).length)=True:=eq_true (by omega)
         (try rw [show ((0:Int)).toNat=0 from rfl] at hx283_0)
         (try rw [Addr.add_zero'] at hx283_0)
         replace p283:=eq_true p283
         replace q283:=eq_true q283
         go_wp2
         go_roundg k1
         case measure=>have:=HK1.out;omega
         case rel=>exact ⟨(rd ((rd_T77 l0 x1_1).f2) 0),(wrap64 (x5_1+1)),(by first | rfl | (simp;done) | (simp [*];done)),(by first | rfl | (simp;done) | (simp [*];done)),H',⟨by have:=HK1.out;omega⟩,by repeat (first | exact Drawn0.refl _ | apply Drawn0.step)⟩
        ·rw [if_neg c8] at H
         exact absurd H (by simp)
     ·rw [if_neg c5] at H
      exact absurd H (by simp)
    ·rw [if_neg c4] at H
     exact absurd H (by simp)
   ·rw [if_neg c3] at H
    have c3b0:decide (x5_1<=(l0.length:Int))=false:=decide_eq_false c3
    clear c3
    obtain rfl:=Option.some.inj H
    go_wp2
    go_ret
    exact ⟨by first | rfl | (simp;done) | (simp [*];done),by repeat (first | exact Drawn0.refl _ | apply Drawn0.step)⟩
end Go.Proofs.Ytfiiihpdekppiaa.PShapeReducible
end
