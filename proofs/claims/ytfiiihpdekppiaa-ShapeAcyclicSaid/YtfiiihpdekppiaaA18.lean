/- A part of the proof that vellumlaw12.ShapeAcyclic is true for every input: walks of functions that the row reaches and plain laws that they need. Conditions: none. Joined by merge.py out of C26 S10 C27 C28 S11 C29 C30; a part that began as a print is named P or W there and is trimmed. -/
import Derived.Test.YtfiiihpdekppiaaA9
import Derived.Test.YtfiiihpdekppiaaA16
import Derived.Test.YtfiiihpdekppiaaA17
set_option linter.unusedVariables false
set_option linter.unusedSimpArgs false
section
namespace Go.Proofs.Ytfiiihpdekppiaa
open Go.RowKit Go.Proofs Go.Proofs.YtfiiihpdekppiaaW.PrintWords
open Go.ChangeMaps (setBlock heap_setBlock_same heap_setBlock_other)
open PShapeReducible (S31 k31 at_T31 rd_T31 S77 k77)
def clampAt (hi:Int) (i j:Nat) (xss:List (List Int)):List (List Int) :=
 xss.mapIdx fun a l=>if a < i then l.map (min · hi) else if a=i then l.mapIdx fun b x=>if b < j then min x hi else x else l
theorem clampAt_length (hi:Int) (i j:Nat) (xss:List (List Int)):(clampAt hi i j xss).length=xss.length:=by simp [clampAt]
theorem clampAt_get (hi:Int) (i j:Nat) (xss:List (List Int)):(clampAt hi i j xss).getD i []=(xss.getD i []).mapIdx fun b x=>if b < j then min x hi else x:=by
 simp only [clampAt,List.getD_eq_getElem?_getD,List.getElem?_mapIdx]
 cases xss[i]? <;> simp
theorem mapIdx_id' {α:Type} (l:List α):l.mapIdx (fun _ x=>x)=l:=by
 apply List.ext_getElem?
 intro i
 simp only [List.getElem?_mapIdx]
 cases l[i]? <;> rfl
theorem clampAt_zero (hi:Int) (xss:List (List Int)):clampAt hi 0 0 xss=xss:=by
 apply List.ext_getElem?
 intro i
 simp only [clampAt,List.getElem?_mapIdx]
 cases xss[i]? with
 | none=>rfl
 | some l=>by_cases h:i=0 <;> simp [h,mapIdx_id']
theorem clampAt_end (hi:Int) (i:Nat) (xss:List (List Int)):clampAt hi i (xss.getD i []).length xss=clampAt hi (i+1) 0 xss:=by
 apply List.ext_getElem?
 intro a
 simp only [clampAt,List.getElem?_mapIdx,List.getD_eq_getElem?_getD]
 cases h:xss[a]? with
 | none=>rfl
 | some l =>
  simp only [Option.map_some,Option.some.injEq]
  by_cases h1:a < i
  ·rw [if_pos h1,if_pos (by omega)]
  ·by_cases h2:a=i
   ·subst h2
    rw [if_neg h1,if_pos rfl,if_pos (by omega),h]
    apply List.ext_getElem?
    intro b
    simp only [Option.getD_some,List.getElem?_mapIdx,List.getElem?_map]
    cases h3:l[b]? with
    | none=>rfl
    | some x=>simp only [Option.map_some];rw [if_pos (List.getElem?_eq_some_iff.1 h3).1]
   ·rw [if_neg h1,if_neg h2,if_neg (by omega)]
    by_cases h4:a=i+1
    ·rw [if_pos h4];simp [mapIdx_id']
    ·rw [if_neg h4]
theorem clampAt_step (hi:Int) (i j:Nat) (xss:List (List Int)) (hij:j < (xss.getD i []).length) :
  (clampAt hi i j xss).set i (((clampAt hi i j xss).getD i []).set j (min ((xss.getD i []).getD j 0) hi))=clampAt hi i (j+1) xss:=by
 rw [clampAt_get]
 apply List.ext_getElem?
 intro a
 rw [List.getElem?_set]
 by_cases h1:i=a
 ·subst h1
  have hlt:i < xss.length:=by
   rcases Nat.lt_or_ge i xss.length with h | h
   ·exact h
   ·rw [List.getD_eq_getElem?_getD,List.getElem?_eq_none h] at hij;simp at hij
  rw [if_pos rfl,clampAt_length,if_pos hlt]
  simp only [clampAt,List.getElem?_mapIdx,List.getElem?_eq_getElem hlt,Option.map_some,Nat.lt_irrefl,if_false,if_true,Option.some.injEq,List.getD_eq_getElem?_getD,Option.getD_some]
  rw [List.getD_eq_getElem?_getD,List.getElem?_eq_getElem hlt,Option.getD_some] at hij
  apply List.ext_getElem?
  intro b
  rw [List.getElem?_set]
  by_cases h2:j=b
  ·subst h2
   rw [if_pos rfl]
   simp [hij]
  ·rw [if_neg h2]
   simp only [List.getElem?_mapIdx]
   cases xss[i][b]? with
   | none=>rfl
   | some x =>
    simp only [Option.map_some,Option.some.injEq]
    by_cases h3:b < j
    ·rw [if_pos h3,if_pos (by omega)]
    ·rw [if_neg h3,if_neg (by omega)]
 ·rw [if_neg h1]
  simp only [clampAt,List.getElem?_mapIdx]
  cases xss[a]? with
  | none=>rfl
  | some l =>
   simp only [Option.map_some,Option.some.injEq]
   by_cases h2:a < i
   ·rw [if_pos h2,if_pos h2]
   ·rw [if_neg h2,if_neg h2,if_neg (fun h=>h1 h.symm),if_neg (fun h=>h1 h.symm)]
def withTos (ss:List Stp) (xss:List (List Int)):List Stp:=ss.mapIdx fun a p=>{ p with tos:=xss.getD a [] }
theorem withTos_cells (ss:List Stp) (xss:List (List Int)):(withTos ss xss).map Stp.cells=ss.map Stp.cells:=by
 apply List.ext_getElem?
 intro i
 simp only [withTos,List.getElem?_map,List.getElem?_mapIdx]
 cases ss[i]? <;> rfl
theorem withTos_tos (ss:List Stp) (xss:List (List Int)) (h:xss.length=ss.length):(withTos ss xss).map Stp.tos=xss:=by
 apply List.ext_getElem?
 intro i
 simp only [withTos,List.getElem?_map,List.getElem?_mapIdx]
 by_cases hi:i < ss.length
 ·simp [hi,List.getD_eq_getElem?_getD,h]
 ·rw [List.getElem?_eq_none (by omega),List.getElem?_eq_none (by omega)];rfl
theorem withTos_length (ss:List Stp) (xss:List (List Int)):(withTos ss xss).length=ss.length:=by simp [withTos]
theorem withTos_clamp (ss:List Stp):withTos ss (clampAt ((ss.length:Int) - 1) ss.length 0 (ss.map Stp.tos))=clampT ss:=by
 apply List.ext_getElem?
 intro i
 simp only [withTos,clampT,List.getElem?_mapIdx,List.getElem?_map]
 cases h:ss[i]? with
 | none=>rfl
 | some p =>
  have hi:=(List.getElem?_eq_some_iff.1 h).1
  simp only [Option.map_some,Option.some.injEq,clampAt,List.getD_eq_getElem?_getD,List.getElem?_mapIdx,List.getElem?_map,h,if_pos hi,Option.getD_some]
def stepsOwn (v:Value) (ts:List Value) (ss:List Stp):List Pc:=[.row v 77 3 ss.length (recs (ss.map Stp.cells) ts),.rows ts (ss.map Stp.tos)]
set_option maxRecDepth 100000 in
set_option maxHeartbeats 4000000 in
theorem compile_any (w:World) (A:Option Addr) (c n cg:Nat) (g:List (List Int)) (kind node label:Int) (kids:List S31) (hG:kG.C w A g.length g) (hg:g.length<=1000000000) (hgc:g.length<=cg) (A3:Option Addr) (hK:k31.C w A3 kids.length kids) (hn:kids.length<=n) (hsz:szL kids<=100000000) :
  Calls Try.prog 45 #[.agg #[.int .i64 kind,.int .i64 node,.int .i64 label,.slice A3 kids.length n],.agg #[.slice A g.length cg]] w fun e w'=>∃ v ts,e=.returned v/\Mem w w' [] (stepsOwn v ts (compileF g ⟨kind,node,label,kids⟩)):=by
 obtain ⟨b2,w1,z1,a1,M1⟩:=(Mem.start w).alloc (.cells #[.int .i64 kind,.int .i64 node,.int .i64 label,.slice A3 kids.length n] 31)
 obtain ⟨b3,w2,z2,a2,M2⟩:=M1.alloc (.cells #[.slice A g.length cg] 27)
 obtain ⟨bc,w3,z3,a3,M3⟩:=M2.alloc (.cells #[.slice A g.length cg,nilS,nilS,nilS,.bool false] 124)
 have k1:=M2.cell (k:=1) (j:=0) rfl rfl
 have e0:w3.cell? ⟨b2,0,none⟩=some (.int .i64 kind):=M3.cell (k:=0) (j:=0) rfl rfl
 have e1:w3.cell? ⟨b2,1,none⟩=some (.int .i64 node):=M3.cell (k:=0) (j:=1) rfl rfl
 have e2:w3.cell? ⟨b2,2,none⟩=some (.int .i64 label):=M3.cell (k:=0) (j:=2) rfl rfl
 have e3:w3.cell? ⟨b2,3,none⟩=some (.slice A3 kids.length n):=M3.cell (k:=0) (j:=3) rfl rfl
 have M4:Mem w w3 [] ((Cs.mk [] [] [] false).own bc (.slice A g.length cg) ⟨nilS,nilS,nilS,[],[]⟩++[.blk b2 (.cells #[.int .i64 kind,.int .i64 node,.int .i64 label,.slice A3 kids.length n] 31 (0,0)),.blk b3 (.cells #[.slice A g.length cg] 27 (0,0))]):=by
  have h1:=(((((M3.nilrow 77 3).norows).nilrow 141 4).norows).nilrow 3 1).order [2,3,4,5,6,7,0,1] rfl
  exact h1
 have M4:=ak_ M4
 have HG:=ak_ hG
 have HK:=ak_ hK
 have HN:=ak_ hn
 have SH:=ak_ (rshape_any w bc A cg g hG hg _ ⟨kind,node,label,kids⟩ (Nat.le_refl _))
 have HSZ:=ak_ hsz
 obtain ⟨cF,hcF⟩:∃ cF,cF=shapeF g ⟨kind,node,label,kids⟩ ⟨[],[],[],false⟩:=⟨_,rfl⟩
 have HOK:=ak_ (shapeF_ok g 100000000 ⟨kind,node,label,kids⟩ ⟨[],[],[],false⟩ ⟨by simp only [szF_eq,big,List.length_nil];omega,by simp only [szF_eq,big,List.length_nil];omega,by simp only [szF_eq,big,List.length_nil];omega,by simp⟩)
 have HOK0:=ak_ (show (Cs.mk [] [] [] false).Ok (szF ⟨kind,node,label,kids⟩+100000000) from ⟨by simp only [szF_eq,big,List.length_nil];omega,by simp only [szF_eq,big,List.length_nil];omega,by simp only [szF_eq,big,List.length_nil];omega,by simp⟩)
 rw [<-hcF] at HOK
 have HCF:=ak_ hcF
 clear hG hK M1 M2 M3 hcF hn hsz
 go_enter Try.func45,Try.ntmps45
 go_wp2_with (first
  | (go_at_call 68;refine (SH.out [] _ _ _ w3 A3 n 100000000 M4.out HOK0.out HK.out HN.out).mono ?_;rintro e w5 ⟨rfl,p5,M5⟩;rw [<-HCF.out] at M5;have k4:w5.cell? ⟨bc,4,none⟩=some (.bool cF.bad):=M5.cell (k:=0) (j:=4) rfl rfl;obtain ⟨bd,hbd⟩:∃ bd,bd=cF.bad:=⟨_,rfl⟩;rw [<-hbd] at k4;have HBD:=ak_ hbd;have M5:=ak_ M5;clear hbd;cases bd))
 ·have HLC:cF.steps.length < 1000000000:=by have h8:=HOK.out.2.1;simp only [big] at h8;omega
  have HCOMP:=ak_ (show compileF g ⟨kind,node,label,kids⟩=clampT (cF.steps++[⟨2,0,[]⟩]) by
   unfold compileF
   simp only []
   rw [<-HCF.out,if_neg (by rw [<-HBD.out];decide)]
   rfl)
  go_wp2_with (first
   | (go_at_call 69;refine (emit0 bc _ cF p5 2 0 M5.out HLC).mono ?_;rintro e w6 ⟨rfl,p6,M6⟩;have M6:=ak_ M6))
  obtain ⟨vS,vF,vU,ts,bs⟩:=p6
  obtain ⟨ss,hss⟩:∃ ss,ss=cF.steps++[⟨2,0,[]⟩]:=⟨_,rfl⟩
  obtain ⟨R,hR⟩:∃ R,Mem w w6 R [.blk bc (.cells #[.slice A g.length cg,vS,vF,vU,.bool cF.bad] 124 (0,0)),.row vS 77 3 ss.length (recs (ss.map Stp.cells) ts),.rows ts (clampAt ((ss.length:Int) - 1) 0 0 (ss.map Stp.tos))]:=by
   have h1:=M6.out.focus [0,1,2] rfl
   rw [clampAt_zero,hss]
   exact ⟨_,h1⟩
  have HM:=ak_ hR
  have HLS:ss.length=cF.steps.length+1:=by rw [hss];simp
  obtain ⟨bS,cS,e,hcS,_⟩:=hR.rowForm (k:=1) rfl (by omega)
  subst e
  have HTS:=ak_ (show ts.length=ss.length by have:=(hR.rows (k:=2) rfl).len;simpa [clampAt_length] using this)
  rw [<-hss] at HCOMP
  have HBIG:ss.length<=1000000000:=by omega
  have HX:=ak_ (show ∀ i:Nat,i < ss.length->∀ j≤2,(recs (ss.map Stp.cells) ts)[i * 3+j]?=((ss.map Stp.cells).getD i []++[ts.getD i nilS])[j]? from fun i hi j hj=>step_cell HTS.out hi hj)
  obtain ⟨X,hX⟩:∃ X,X=ss.map Stp.tos:=⟨_,rfl⟩
  rw [<-hX] at HM
  have HXE:=ak_ hX
  have HXL:=ak_ (show X.length=ss.length by rw [hX];simp)
  clear hR hss M5 M6 M4 e0 e1 e2 e3 k1 k4 z1 z2 z3 a1 a2 a3 hX HLS HLC
  go_loopw [6] (fun t wr=>∃ i:Nat,t=.int .i64 i/\i<=ss.length/\Aside0 (Mem w wr R [.blk bc (.cells #[.slice A g.length cg,.slice (some ⟨bS,0,none⟩) ss.length cS,vF,vU,.bool cF.bad] 124 (0,0)),.row (.slice (some ⟨bS,0,none⟩) ss.length cS) 77 3 ss.length (recs (ss.map Stp.cells) ts),.rows ts (clampAt ((ss.length:Int) - 1) i 0 X)])) (fun t _=>ss.length - (intOf t).toNat)
  case atStart=>exact ⟨0,rfl,Nat.zero_le _,HM⟩
  case round =>
   clear HM
   obtain ⟨i,rfl,hi,hM⟩:=hrel
   have k1:wr.cell? ⟨bc,1,none⟩=some (.slice (some ⟨bS,0,none⟩) ss.length cS):=hM.out.cell (k:=0) (j:=1) rfl rfl
   by_cases hlt:i < ss.length
   ·have hlt':(i:Int) < ss.length:=by omega
    have HLT:=ak_ hlt
    have hll:(X.getD i []).length<=9223372036854775807:=by
     have h1:=(hM.out.rows (k:=2) rfl).row i (by have:=HTS.out;omega)
     rw [clampAt_get] at h1
     rcases h1.2 with ⟨_,h0⟩ | ⟨_,cap,_,_,_,_,h4,h5,_⟩
     ·simp only [List.length_mapIdx] at h0;omega
     ·simp only [List.length_mapIdx] at h4;unfold maxLen at h5;omega
    go_wp2
    go_loopw [7] (fun t wr=>∃ j:Nat,t=.int .i64 j/\j<=(X.getD i []).length/\Aside0 (Mem w wr R [.blk bc (.cells #[.slice A g.length cg,.slice (some ⟨bS,0,none⟩) ss.length cS,vF,vU,.bool cF.bad] 124 (0,0)),.row (.slice (some ⟨bS,0,none⟩) ss.length cS) 77 3 ss.length (recs (ss.map Stp.cells) ts),.rows ts (clampAt ((ss.length:Int) - 1) i j X)])) (fun t _=>(X.getD i []).length - (intOf t).toNat)
    case atStart=>exact ⟨0,rfl,Nat.zero_le _,hM⟩
    case round =>
     clear hM k1
     obtain ⟨j,rfl,hj,hM⟩:=hrel
     obtain ⟨w8,z8,M8⟩:=hM.out.drew
     have hget:(clampAt ((ss.length:Int) - 1) i j X).getD i []=(X.getD i []).mapIdx fun b x=>if b < j then min x ((ss.length:Int) - 1) else x:=clampAt_get _ _ _ _
     have hgl:((clampAt ((ss.length:Int) - 1) i j X).getD i []).length=(X.getD i []).length:=by rw [hget];simp
     obtain ⟨Ai,ni,hti,hrow⟩:=M8.rowsAt (k:=2) (i:=i) rfl (by rw [clampAt_length,HXL.out];exact HLT.out)
     rw [hgl] at hti hrow
     obtain ⟨bS',cS',e,_,hcell⟩:=M8.rowForm (k:=1) rfl (by have:=HLT.out;omega)
     simp only [Value.slice.injEq,Option.some.injEq,Addr.mk.injEq,and_true,true_and] at e
     obtain ⟨rfl,rfl⟩:=e
     have r2:w8.cell? ⟨bS,i * 3+2,none⟩=some (.slice Ai (X.getD i []).length ni):=hcell _ _ ((HX.out i HLT.out 2 (Nat.le_refl _)).trans (by
      have h1:((ss.map Stp.cells).getD i []).length=2:=by
       simp [List.getD_eq_getElem?_getD,HLT.out,Stp.cells]
      rw [List.getElem?_append_right (by omega),h1,hti];rfl))
     have r2':wr.cell? ⟨bS,i * 3+2,none⟩=some (.slice Ai (X.getD i []).length ni):=by rw [<-z8] at r2;exact r2
     have k1:wr.cell? ⟨bc,1,none⟩=some (.slice (some ⟨bS,0,none⟩) ss.length cS):=hM.out.cell (k:=0) (j:=1) rfl rfl
     have k1':w8.cell? ⟨bc,1,none⟩=some (.slice (some ⟨bS,0,none⟩) ss.length cS):=M8.cell (k:=0) (j:=1) rfl rfl
     by_cases hjl:j < (X.getD i []).length
     ·obtain ⟨bi,rfl,hrw⟩:=hrow (by omega)
      obtain ⟨q1,q2⟩:=hrw j hjl
      have hx:((clampAt ((ss.length:Int) - 1) i j X).getD i []).getD j 0=(X.getD i []).getD j 0:=by
       rw [hget]
       simp [List.getD_eq_getElem?_getD,List.getElem?_mapIdx]
      rw [hx] at q1
      obtain ⟨x,hxx⟩:∃ x,x=(X.getD i []).getD j 0:=⟨_,rfl⟩
      rw [<-hxx] at q1
      obtain ⟨w9,z9,M9⟩:=M8.rowsPut (k:=2) (i:=i) (j:=j) (b:=bi) (n:=ni) rfl (by rw [clampAt_length,HXL.out];exact HLT.out) (by rw [hgl];exact hti) (min x ((ss.length:Int) - 1))
      have M10:Mem w w9 R [.blk bc (.cells #[.slice A g.length cg,.slice (some ⟨bS,0,none⟩) ss.length cS,vF,vU,.bool cF.bad] 124 (0,0)),.row (.slice (some ⟨bS,0,none⟩) ss.length cS) 77 3 ss.length (recs (ss.map Stp.cells) ts),.rows ts (clampAt ((ss.length:Int) - 1) i (j+1) X)]:=by
       have:=clampAt_step ((ss.length:Int) - 1) i j X hjl
       rw [<-this,<-hxx]
       exact M9
      have M10:=ak_ M10
      have HJL:=ak_ hjl
      have hjl':(j:Int) < (X.getD i []).length:=by omega
      have hw1:IntKind.i64.wrap ((ss.length:Int) - 1)=(ss.length:Int) - 1:=IntWalk.i64_in _ (by omega)
      clear hget hgl hti hrow hrw hcell hx hxx M8 M9 hM
      go_wp2_with (first | (rw [z8]) | (refine wp_region_txt (fun _=>True) [] (by kernel_rfl) (by kernel_rfl) ?_))
      iterate 28 ((first | (with_reducible refine wpT_nil ?_) | (refine wpT_W (v:=?_) trivial (by decide) (wn_ rfl) (fun _ hS_=>?_) ?_;rotate_left;(focus ((try dsimp only at hS_);go_simp;rfl))) | (refine wpT_R (v:=?_) trivial (by decide) (wn_ rfl) ?_ ?_;rotate_left;(focus (go_simp;rfl))) | (refine wpT_A (v:=?_) (ob:=?_) trivial (by decide) (wn_ rfl) ?_ ?_ ?_;rotate_left 2;(focus (go_simp;first | (constructor <;> rfl) | rfl));(focus (exact trivial))));(try simp only [Act.put,sA_,sB_,sC_]))
      (refine wpT_L trivial (by decide) (wn_ rfl) (fun K_ hK_=>?_);go_simp;refine hK_ _ _ trivial ?_;clear hK_)
      refine wpT_nil ?_
      go_wp2
      go_roundw
      case rel=>exact ⟨j+1,by go_num,by have:=HJL.out;omega,M10⟩
      case measure=>have:=HJL.out;simp [intOf];omega
     ·obtain rfl:j=(X.getD i []).length:=by omega
      have M11:=ak_ (show Mem w wr R [.blk bc (.cells #[.slice A g.length cg,.slice (some ⟨bS,0,none⟩) ss.length cS,vF,vU,.bool cF.bad] 124 (0,0)),.row (.slice (some ⟨bS,0,none⟩) ss.length cS) 77 3 ss.length (recs (ss.map Stp.cells) ts),.rows ts (clampAt ((ss.length:Int) - 1) (i+1) 0 X)] by rw [<-clampAt_end];exact hM.out)
      clear hget hgl hti hrow hcell M8 hM
      go_wp2
      go_roundw
      case rel=>exact ⟨i+1,by go_num,by have:=HLT.out;omega,M11⟩
      case measure=>have:=HLT.out;simp [intOf];omega
   ·obtain rfl:i=ss.length:=by omega
    go_wp2
    go_ret
    refine ⟨_,ts,rfl,?_⟩
    rw [HCOMP.out,<-withTos_clamp,<-HXE.out]
    unfold stepsOwn
    rw [withTos_length,withTos_cells,withTos_tos _ _ (by rw [clampAt_length,HXL.out])]
    have h0:=hM.out
    rw [<-List.append_nil R] at h0
    exact (Mem.sub (F':=R) h0).lose (k:=0) rfl
 ·go_ret
  refine ⟨nilS,[],rfl,?_⟩
  have:compileF g ⟨kind,node,label,kids⟩=[]:=by
   unfold compileF
   simp only []
   rw [<-HCF.out,if_pos HBD.out.symm]
  rw [this]
  exact (((Mem.start w).below M5.out.hb).nilrow 77 3).norows
end Go.Proofs.Ytfiiihpdekppiaa
end
section
namespace Go.Proofs.Ytfiiihpdekppiaa
open Go.RowKit Go.Proofs Go.Proofs.YtfiiihpdekppiaaW.PrintWords
open PShapeReducible (S31 S77 k77 rd_T77 vellumref12_Next.f vellumref06_Valid.f)
def nx (ss:List S77) (a:Int):Option Int:=vellumref12_Next.f (ss.length+2) ss a
def rTos (ss:List S77) (row:List Int):Nat->List Int->List Int->Option (Option (List Int))
 | _,[],st=>some (some st)
 | j,t :: ts,st=>(nx ss t).bind fun m =>
  if m < 0 then some none
  else if m < ss.length/\j < row.length/\st.length < 1000000000 then
   if (rd_T77 ss m).f1≠row.getD j 0 then some none else rTos ss row (j+1) ts (m :: st)
  else none
def rChk (ss:List S77) (g:List (List Int)):Nat->List Bool->List Int->Option Bool
 | 0,_,_=>none
 | _+1,_,[]=>some true
 | k+1,seen,n :: st =>
  if 0<=n/\n < ss.length then
   if seen.getD n.toNat false=true then rChk ss g k seen st
   else if 0<=(rd_T77 ss n).f1/\(rd_T77 ss n).f1 < g.length then
    (rTos ss (g.getD (rd_T77 ss n).f1.toNat []) 0 (rd_T77 ss n).f2 st).bind fun r =>
     match r with
     | none=>some false
     | some st'=>rChk ss g k (seen.set n.toNat true) st'
   else none
  else none
def rCheckS (ss:List S77) (g:List (List Int)) (k:Nat):Option Bool :=
 if ss.length=0 then some false
 else (nx ss 0).bind fun f =>
  if f < 0 then some false
  else if f < ss.length then (if (rd_T77 ss f).f1≠0 then some false else rChk ss g k (List.replicate ss.length false) [f])
  else none
def RefValidIs (g:List (List Int)) (b:Bool):Prop:=∃ k,vellumref06_Valid.f k g=some b
def RefCheckIs (s:S31) (g:List (List Int)) (b:Bool):Prop :=
 (RefValidIs g false/\b=false)∨(RefValidIs g true/\g.length<=1000000000/\szL s.f3<=100000000/\∃ k,rCheckS ((compileF g s).map Stp.s77) g k=some b)
def modI (a m:Int):Int:=Int.tmod (wrap64 (Int.tmod a m+m)) m
end Go.Proofs.Ytfiiihpdekppiaa
end
section
namespace Go.Proofs.Ytfiiihpdekppiaa
open Go.RowKit Go.Proofs Go.Proofs.YtfiiihpdekppiaaW.PrintWords
open Go.ChangeMaps (setBlock heap_setBlock_same heap_setBlock_other)
open PShapeReducible (S31 k31 at_T31 rd_T31 S77 k77 at_T77 rd_T77)
section
variable {w0 w w' : World} {F H L : List Pc}
theorem Mem.call (M:Mem w0 w F H) (N:Mem w w' [] L):Mem w0 w' F (H++L):=by
 have M1:MemL w0 w' (H++F):=M.below N.hb
 have hN:MemL w w' L:=by have:=N;unfold Mem at this;rwa [List.append_nil] at this
 have hsz:=M.size
 have:MemL w0 w' (L++(H++F)):=by
  refine ⟨M1.hb,?_,?_,?_⟩
  ·intro c hc
   rcases List.mem_append.1 hc with hc | hc
   ·exact hN.says c hc
   ·exact M1.says c hc
  ·intro c hc b hb
   rcases List.mem_append.1 hc with hc | hc
   ·have:=hN.base c hc b hb;omega
   ·exact M1.base c hc b hb
  ·refine List.pairwise_append.2 ⟨hN.apart,M1.apart,fun c hc d hd b h1 h2=>?_⟩
   have h3:=hN.base c hc b h1
   have h4:=d.lt (MemL.says M d hd) h2
   omega
 refine MemL.perm this ?_
 rw [List.append_assoc,<-List.append_assoc L]
 rw [<-List.append_assoc]
 exact List.Perm.append_right F List.perm_append_comm
theorem Mem.rowBool {k n i:Nat} {v:Value} {xs:List Bool} (h:Mem w0 w F H) (hk:H[k]?=some (.row v 4 1 n (bools xs))) (hn:n=xs.length) (hi:i < xs.length):∃ b c,v=.slice (some ⟨b,0,none⟩) xs.length c/\w.cell? ⟨b,i,none⟩=some (.bool (xs.getD i false))/\w.frozen? ⟨b,i,none⟩=false:=by
 subst hn
 have ho:=h.row hk
 obtain ⟨b,c,rfl,_⟩:=ho.form (by omega)
 exact ⟨b,c,rfl,own_cell ho i hi (by simp [bools,List.getD_eq_getElem?_getD,hi]),ho.frozenAt i⟩
end
theorem compileF_len (g:List (List Int)) (s:S31):(compileF g s).length<=2 * szF s:=by
 unfold compileF
 simp only []
 split
 ·simp
 ·have:=shapeF_st g s ⟨[],[],[],false⟩
  simp only [List.length_nil] at this
  simp [clampT,Cs.emit]
  omega
theorem cell_of_drew {w w2:World} {a:Addr} {v:Value} (e:w.drew=w2) (h:w.cell? a=some v):w2.cell? a=some v:=by rw [<-e];exact h
theorem step_at {w:World} {A:Option Addr} {xs:List S77} (h:k77.C w A xs.length xs) (i:Nat) (hi:i < xs.length):∃ ad A2 c2,A=some ad/\w.cell? (ad.add (i * 3))=some (.int .i64 (rd_T77 xs i).f0)/\w.cell? ⟨(ad.add (i * 3)).block,(ad.add (i * 3)).off+1,none⟩=some (.int .i64 (rd_T77 xs i).f1) /\
  w.cell? ⟨(ad.add (i * 3)).block,(ad.add (i * 3)).off+2,none⟩=some (.slice A2 (rd_T77 xs i).f2.length c2)/\(rd_T77 xs i).f2.length<=c2/\kI.C w A2 (rd_T77 xs i).f2.length (rd_T77 xs i).f2:=by
 have:=at_T77 h (i:Int) (by omega) (by omega)
 simpa using this
theorem mem_makeB {P:Program} {ops:Array Oper} {rest_:List Oper} {o:Oper} {a:Act} {Q:Exit->Act->World->Prop} {w0 W:World} {F H:List Pc} (hgd:o.guard=none) {N:Tmp} (hd:o.dst=some N) (t:TypeId) (x:Operand)
  (ho:o.op=.makeSlice t x x) (n:Nat) (hx:a.eval x=.int .i64 n) (ht:P.underlying t=some (.slice 4)) (hinfo:(P.info? 4).map (fun i=>(i.zero,i.size,i.bytes))=some (some (.bool false),1,1)) (hl:n<=1000000000)
  (M:Mem w0 W F H) (h:∀ A c w1,Mem w0 w1 F (H++[.row (.slice A n c) 4 1 n (bools (List.replicate n false))])->wpList P ops Q rest_ (a.put o.dst (.slice A n c)) w1) :
  wpList P ops Q (o :: rest_) a W:=by
 refine Kd.R_make Kd.bool (w0:=W) W.heap.size 4 hgd hd t x x ho (n:Int) hx hx ht (.bool false) 1 hinfo rfl (by decide) (by decide) false (ok:=fun _=>True) (okp:=fun _=>True) rfl (fun _ h=>h) trivial (by omega) (by omega) (Below.refl _ _) (Nat.le_refl _) ?_
 intro v1 w1 hr hb hg ⟨b,hv1,hv2⟩
 have ho1:w1.ownsRow W.heap.size 4 1 v1 n (bools (List.replicate n false)):=by
  have:=Kd.own_of_R hr
  simpa [bools,encs] using this
 obtain ⟨A,c,rfl⟩:=own_slice ho1
 exact h A c w1 (M.newrow hb ho1 (fun k hk=>own_base ho1 k hk))
set_option maxRecDepth 100000 in
set_option maxHeartbeats 4000000 in
theorem rcheck_any (w:World) (A:Option Addr) (n cg:Nat) (g:List (List Int)) (kind node label:Int) (kids:List S31) (b:Bool) (hG:kG.C w A g.length g) (hgc:g.length<=cg) (A3:Option Addr) (hK:k31.C w A3 kids.length kids) (hn:kids.length<=n)
  (h:RefCheckIs ⟨kind,node,label,kids⟩ g b) :
  Calls Try.prog 22 #[.agg #[.int .i64 kind,.int .i64 node,.int .i64 label,.slice A3 kids.length n],.agg #[.slice A g.length cg]] w fun e w'=>e=.returned (.bool b)/\Below w.heap.size w w':=by
 obtain ⟨b2,w1,z1,a1,M1⟩:=(Mem.start w).alloc (.cells #[.int .i64 kind,.int .i64 node,.int .i64 label,.slice A3 kids.length n] 31)
 obtain ⟨b3,w2,z2,a2,M2⟩:=M1.alloc (.cells #[.slice A g.length cg] 27)
 have k1:=M2.cell (k:=1) (j:=0) rfl rfl
 have HG:=ak_ hG
 have HK:=ak_ hK
 have M2:=ak_ M2
 clear hG hK M1
 rcases h with ⟨⟨kv,hv⟩,rfl⟩ | ⟨⟨kv,hv⟩,hg9,hsz,k,hk⟩
 ·have HV:=ak_ hv
  clear hv
  go_enter Try.func22,Try.ntmps22
  go_wp2_with (go_at_call 43;refine (PShapeReducible.vellumref06_Valid.calls kv A cg g false w2 (Kd.C_below HG.out M2.out.hb) hgc HV.out).mono ?_;rintro e w3 ⟨rfl,hb3⟩;have M3:=ak_ (M2.out.below hb3);clear hb3)
  go_ret
  exact ⟨rfl,M3.out.hb⟩
 ·have HV:=ak_ hv
  have HN:=ak_ hn
  have HSZ:=ak_ hsz
  have HGC:=ak_ hgc
  obtain ⟨L,hL⟩:∃ L,L=compileF g ⟨kind,node,label,kids⟩:=⟨_,rfl⟩
  obtain ⟨SS,hSS⟩:∃ SS,SS=L.map Stp.s77:=⟨_,rfl⟩
  have hs:rCheckS SS g k=some b:=by rw [hSS,hL];exact hk
  have HLL:=ak_ hL
  have HSE:=ak_ hSS
  have e0:=M2.out.cell (k:=0) (j:=0) rfl rfl
  have e1:=M2.out.cell (k:=0) (j:=1) rfl rfl
  have e2:=M2.out.cell (k:=0) (j:=2) rfl rfl
  have e3:=M2.out.cell (k:=0) (j:=3) rfl rfl
  clear hv hk hL hSS hn hsz e0 e1 e2 e3
  unfold rCheckS at hs
  by_cases hz:SS.length=0
  ·rw [if_pos hz] at hs
   have hz':((SS.length:Int) == 0)=true:=by simp [hz]
   have HB:=ak_ (Option.some.inj hs)
   clear hz hs
   go_enter Try.func22,Try.ntmps22
   go_wp2_with (first
    | (go_at_call 43;refine (PShapeReducible.vellumref06_Valid.calls kv A cg g true w2 (Kd.C_below HG.out M2.out.hb) hgc HV.out).mono ?_;rintro e w3 ⟨rfl,hb3⟩;have M3:=M2.out.below hb3;have k1':=M3.cell (k:=1) (j:=0) rfl rfl;have e0:=M3.cell (k:=0) (j:=0) rfl rfl;have e1:=M3.cell (k:=0) (j:=1) rfl rfl;have e2:=M3.cell (k:=0) (j:=2) rfl rfl;have e3:=M3.cell (k:=0) (j:=3) rfl rfl;have M3:=ak_ M3;clear hb3)
    | (go_at_call 45;refine (compile_any w3 A cg n cg g kind node label kids (Kd.C_below HG.out M3.out.hb) hg9 HGC.out A3 (Kd.C_below HK.out M3.out.hb) HN.out HSZ.out).mono ?_;rintro e w4 ⟨v,ts,rfl,M4⟩;rw [<-HLL.out] at M4;have M5:=M3.out.call M4;clear M4;obtain ⟨As,ns,rfl,hns,hCs⟩:=M5.stepsC (k:=2) (j:=3) rfl rfl;rw [<-HSE.out] at hns hCs M5;have HNS:=ak_ hns;have HCS:=ak_ hCs;have hLs:L.length=SS.length:=(by rw [HSE.out];simp);clear hns hCs;rw [<-HSE.out];have M5:=ak_ M5))
   go_ret
   exact ⟨by rw [<-HB.out];rfl,M5.out.hb⟩
  rw [if_neg hz] at hs
  have hz':((SS.length:Int) == 0)=false:=by simpa using hz
  obtain ⟨f,hf,hs⟩:=Option.bind_eq_some_iff.1 hs
  have HF:=ak_ hf
  unfold nx at HF
  by_cases hneg:f < 0
  ·rw [if_pos hneg] at hs
   have HB:=ak_ (Option.some.inj hs)
   clear hz hs hf
   go_enter Try.func22,Try.ntmps22
   go_wp2_with (first
    | (go_at_call 43;refine (PShapeReducible.vellumref06_Valid.calls kv A cg g true w2 (Kd.C_below HG.out M2.out.hb) hgc HV.out).mono ?_;rintro e w3 ⟨rfl,hb3⟩;have M3:=M2.out.below hb3;have k1':=M3.cell (k:=1) (j:=0) rfl rfl;have e0:=M3.cell (k:=0) (j:=0) rfl rfl;have e1:=M3.cell (k:=0) (j:=1) rfl rfl;have e2:=M3.cell (k:=0) (j:=2) rfl rfl;have e3:=M3.cell (k:=0) (j:=3) rfl rfl;have M3:=ak_ M3;clear hb3)
    | (go_at_call 45;refine (compile_any w3 A cg n cg g kind node label kids (Kd.C_below HG.out M3.out.hb) hg9 HGC.out A3 (Kd.C_below HK.out M3.out.hb) HN.out HSZ.out).mono ?_;rintro e w4 ⟨v,ts,rfl,M4⟩;rw [<-HLL.out] at M4;have M5:=M3.out.call M4;clear M4;obtain ⟨As,ns,rfl,hns,hCs⟩:=M5.stepsC (k:=2) (j:=3) rfl rfl;rw [<-HSE.out] at hns hCs M5;have HNS:=ak_ hns;have HCS:=ak_ hCs;have hLs:L.length=SS.length:=(by rw [HSE.out];simp);clear hns hCs;rw [<-HSE.out];have M5:=ak_ M5)
    | (go_at_call 46;refine (PShapeReducible.vellumref12_Next.calls _ As ns SS 0 f w4 HCS.out HNS.out HF.out).mono ?_;rintro e w6 ⟨rfl,hd6⟩;have M6:=ak_ (M5.out.drawn hd6);clear hd6))
   go_ret
   exact ⟨by rw [<-HB.out];rfl,M6.out.hb⟩
  rw [if_neg hneg] at hs
  have hfl:f < SS.length:=Classical.byContradiction fun hc=>by rw [if_neg hc] at hs;cases hs
  rw [if_pos hfl] at hs
  obtain ⟨f,rfl⟩:∃ q:Nat,f=q:=⟨f.toNat,by omega⟩
  have hf0:¬ ((f:Int) < 0):=hneg
  have HFL:=ak_ (show f < SS.length by omega)
  obtain ⟨fn,hfn⟩:∃ fn,fn=(rd_T77 SS f).f1:=⟨_,rfl⟩
  rw [<-hfn] at hs
  have HFN:=ak_ hfn
  by_cases hnz:fn≠0
  ·rw [if_pos hnz] at hs
   have HB:=ak_ (Option.some.inj hs)
   have hnz':(fn != 0)=true:=by simpa using hnz
   clear hz hs hf hneg hnz hfn
   go_enter Try.func22,Try.ntmps22
   go_wp2_with (first
    | (go_at_call 43;refine (PShapeReducible.vellumref06_Valid.calls kv A cg g true w2 (Kd.C_below HG.out M2.out.hb) hgc HV.out).mono ?_;rintro e w3 ⟨rfl,hb3⟩;have M3:=M2.out.below hb3;have k1':=M3.cell (k:=1) (j:=0) rfl rfl;have e0:=M3.cell (k:=0) (j:=0) rfl rfl;have e1:=M3.cell (k:=0) (j:=1) rfl rfl;have e2:=M3.cell (k:=0) (j:=2) rfl rfl;have e3:=M3.cell (k:=0) (j:=3) rfl rfl;have M3:=ak_ M3;clear hb3)
    | (go_at_call 45;refine (compile_any w3 A cg n cg g kind node label kids (Kd.C_below HG.out M3.out.hb) hg9 HGC.out A3 (Kd.C_below HK.out M3.out.hb) HN.out HSZ.out).mono ?_;rintro e w4 ⟨v,ts,rfl,M4⟩;rw [<-HLL.out] at M4;have M5:=M3.out.call M4;clear M4;obtain ⟨As,ns,rfl,hns,hCs⟩:=M5.stepsC (k:=2) (j:=3) rfl rfl;rw [<-HSE.out] at hns hCs M5;have HNS:=ak_ hns;have HCS:=ak_ hCs;have hLs:L.length=SS.length:=(by rw [HSE.out];simp);clear hns hCs;rw [<-HSE.out];have M5:=ak_ M5)
    | (go_at_call 46;refine (PShapeReducible.vellumref12_Next.calls _ As ns SS 0 f w4 HCS.out HNS.out HF.out).mono ?_;rintro e w6 ⟨rfl,hd6⟩;have M6:=M5.out.drawn hd6;obtain ⟨ads,A2,c2,eAs,g0,g1,g2,hc2,hC2⟩:=step_at (Kd.C_below HCS.out hd6.below) f HFL.out;subst eAs;rw [<-HFN.out] at g1;have HCS6:=ak_ (Kd.C_below HCS.out hd6.below);have M6:=ak_ M6;clear hd6 hC2 hc2))
   go_ret
   exact ⟨by rw [<-HB.out];rfl,M6.out.hb⟩
  rw [if_neg hnz] at hs
  have hnz':fn=0:=by simpa using hnz
  subst hnz'
  have HS:=ak_ hs
  have hN9:SS.length<=1000000000:=by
   have:=compileF_len g ⟨kind,node,label,kids⟩
   rw [HSE.out,HLL.out,List.length_map]
   have:=HSZ.out
   rw [szF_eq] at *
   simp only [] at *
   omega
  clear hz hs hf hneg hnz hfn
  go_enter Try.func22,Try.ntmps22
  go_wp2_with (first
   | (go_at_call 43;refine (PShapeReducible.vellumref06_Valid.calls kv A cg g true w2 (Kd.C_below HG.out M2.out.hb) hgc HV.out).mono ?_;rintro e w3 ⟨rfl,hb3⟩;have M3:=M2.out.below hb3;have k1':=M3.cell (k:=1) (j:=0) rfl rfl;have e0:=M3.cell (k:=0) (j:=0) rfl rfl;have e1:=M3.cell (k:=0) (j:=1) rfl rfl;have e2:=M3.cell (k:=0) (j:=2) rfl rfl;have e3:=M3.cell (k:=0) (j:=3) rfl rfl;have M3:=ak_ M3;clear hb3)
   | (go_at_call 45;refine (compile_any w3 A cg n cg g kind node label kids (Kd.C_below HG.out M3.out.hb) hg9 HGC.out A3 (Kd.C_below HK.out M3.out.hb) HN.out HSZ.out).mono ?_;rintro e w4 ⟨v,ts,rfl,M4⟩;rw [<-HLL.out] at M4;have M5:=M3.out.call M4;clear M4;obtain ⟨As,ns,rfl,hns,hCs⟩:=M5.stepsC (k:=2) (j:=3) rfl rfl;rw [<-HSE.out] at hns hCs M5;have HNS:=ak_ hns;have HCS:=ak_ hCs;have hLs:L.length=SS.length:=(by rw [HSE.out];simp);clear hns hCs;rw [<-HSE.out];have M5:=ak_ M5)
   | (go_at_call 46;refine (PShapeReducible.vellumref12_Next.calls _ As ns SS 0 f w4 HCS.out HNS.out HF.out).mono ?_;rintro e w6 ⟨rfl,hd6⟩;have M6:=M5.out.drawn hd6;obtain ⟨ads,A2,c2,eAs,g0,g1,g2,hc2,hC2⟩:=step_at (Kd.C_below HCS.out hd6.below) f HFL.out;subst eAs;rw [<-HFN.out] at g1;have HCS6:=ak_ (Kd.C_below HCS.out hd6.below);have M6:=ak_ M6;clear hd6 hC2 hc2)
   | ((with_reducible refine gate_dst (N:=37) rfl ?_);refine mem_makeB rfl (N:=37) rfl 52 _ rfl SS.length rfl Try.underlying52 info4' hN9 M6.out ?_;intro As7 cs7 w7 M7;obtain ⟨b8,w8,z8,a8,M8⟩:=M7.one (f:Int);have M8:=ak_ M8;clear M7))
  clear k1 k1' e0 e1 e2 e3 g0 g1 g2 z1 z2 a1 a2 z8 a8 M2 hf0
  obtain ⟨b7,c7,e7,hc7,_⟩:=M8.out.rowForm (k:=4) rfl (by have:=HFL.out;omega)
  injection e7 with e7a _ e7c
  subst e7a e7c
  go_loopg [9] k (fun kq v9 wr=>∃ (seen:List Bool) (st:List Int),Aside0 (rChk SS g kq seen st=some b)/\Aside0 (seen.length=SS.length)/\Aside0 (Mem w wr [] [.blk b2 (.cells #[.int .i64 kind,.int .i64 node,.int .i64 label,.slice A3 kids.length n] 31 (0,0)),.blk b3 (.cells #[.slice A g.length cg] 27 (0,0)),.row (.slice (some ads) SS.length ns) 77 3 L.length (recs (L.map Stp.cells) ts),.rows ts (L.map Stp.tos),.row (.slice (some ⟨b7,0,none⟩) SS.length cs7) 4 1 SS.length (bools seen),.row v9 3 1 st.length (nums .i64 st.reverse)]))
  case atStart=>exact ⟨List.replicate SS.length false,[(f:Int)],HS,⟨by simp⟩,M8⟩
  case round =>
   clear M8 HS HF
   obtain ⟨seen,st,hH,hSL,hM⟩:=hrel
   have h:=hH.out
   cases hk:gk with
   | zero=>rw [hk] at h;simp [rChk] at h
   | succ gk' =>
    rw [hk] at h
    have HK':=ak_ hk
    clear hH hk
    match st,h,hM with
    | [],h,hM =>
     have HB:=ak_ (show true=b by simpa [rChk] using h)
     obtain ⟨A9,c9,rfl,_⟩:=hM.out.rowSlice' (k:=5) rfl
     clear h
     go_wp2
     go_ret
     exact ⟨by rw [<-HB.out];rfl,hM.out.hb⟩
    | x :: st,h,hM =>
     obtain ⟨b9,c9,rfl,hcap,hcell⟩:=hM.out.rowForm (k:=5) rfl (by simp)
     have hl9:st.length+1<=9223372036854775807:=own_len (hM.out.row (k:=5) rfl)
     have hcap:st.length+1<=c9:=hcap
     have q9:wr.cell? ⟨b9,st.length,none⟩=some (.int .i64 x):=hcell _ _ (by simp [nums])
     have hcut:=hM.out.rowCut (k:=5) st.length rfl (by simp)
     have hM2:Mem w wr [] [.blk b2 (.cells #[.int .i64 kind,.int .i64 node,.int .i64 label,.slice A3 kids.length n] 31 (0,0)),.blk b3 (.cells #[.slice A g.length cg] 27 (0,0)),.row (.slice (some ads) SS.length ns) 77 3 L.length (recs (L.map Stp.cells) ts),.rows ts (L.map Stp.tos),.row (.slice (some ⟨b7,0,none⟩) SS.length cs7) 4 1 SS.length (bools seen),.row (.slice (some ⟨b9,0,none⟩) st.length c9) 3 1 st.length (nums .i64 st.reverse)]:=by
      have e:(nums .i64 (x :: st).reverse).take (st.length * 1)=nums .i64 st.reverse:=by
       rw [List.reverse_cons,nums_append,Nat.mul_one,List.take_append_of_le_length (by simp [nums_length]),List.take_of_length_le (by simp [nums_length])]
      rw [<-e]
      exact hcut
     have HM2:=ak_ hM2
     rw [rChk] at h
     have hxr:0<=x/\x < SS.length:=Classical.byContradiction fun hc=>by rw [if_neg hc] at h;cases h
     rw [if_pos hxr] at h
     obtain ⟨x,rfl⟩:∃ q:Nat,x=q:=⟨x.toNat,by omega⟩
     have hx:x < SS.length:=by omega
     rw [Int.toNat_natCast] at h
     obtain ⟨b7',c7',e7,q7,f7⟩:=hM2.rowBool (k:=4) (i:=x) rfl hSL.out.symm (by rw [hSL.out];exact hx)
     rw [hSL.out] at e7
     obtain rfl:b7=b7':=by injection e7 with e7a _ _;injection e7a with e7b;injection e7b
     clear e7
     have hxl:(x:Int) < SS.length:=hxr.2
     have HX:=ak_ hx
     cases hsn:seen.getD x false with
     | true =>
      rw [if_pos hsn] at h
      rw [hsn] at q7
      have HH:=ak_ h
      clear h hsn hM hM2 hcell hcut hx hxr
      go_wp2
      go_roundg gk'
      case measure=>have:=HK'.out;omega
      case rel=>exact ⟨seen,st,HH,hSL,HM2⟩
     | false =>
      rw [if_neg (by rw [hsn];decide)] at h
      rw [hsn] at q7
      have hnode:0<=(rd_T77 SS x).f1/\(rd_T77 SS x).f1 < g.length:=Classical.byContradiction fun hc=>by rw [if_neg hc] at h;cases h
      rw [if_pos hnode] at h
      obtain ⟨nd,hnd⟩:∃ q:Nat,(rd_T77 SS x).f1=q:=⟨(rd_T77 SS x).f1.toNat,by omega⟩
      rw [hnd,Int.toNat_natCast] at h
      obtain ⟨tos,htos⟩:∃ tos,tos=(rd_T77 SS x).f2:=⟨_,rfl⟩
      rw [<-htos] at h
      obtain ⟨row,hrow⟩:∃ row,row=g.getD nd []:=⟨_,rfl⟩
      rw [<-hrow] at h
      obtain ⟨rr,hr1,hr2⟩:=Option.bind_eq_some_iff.1 h
      obtain ⟨w10,s10,M10⟩:=hM2.rowPut (k:=4) x rfl (.bool true)
      have M11:Mem w w10 [] [.blk b2 (.cells #[.int .i64 kind,.int .i64 node,.int .i64 label,.slice A3 kids.length n] 31 (0,0)),.blk b3 (.cells #[.slice A g.length cg] 27 (0,0)),.row (.slice (some ads) SS.length ns) 77 3 L.length (recs (L.map Stp.cells) ts),.rows ts (L.map Stp.tos),.row (.slice (some ⟨b7,0,none⟩) SS.length cs7) 4 1 SS.length (bools (seen.set x true)),.row (.slice (some ⟨b9,0,none⟩) st.length c9) 3 1 st.length (nums .i64 st.reverse)]:=by
       have e:bools (seen.set x true)=(bools seen).set x (.bool true):=by simp [bools,List.map_set]
       rw [e]
       exact M10
      have M11:=ak_ M11
      have HR1:=ak_ hr1
      have HR2:=ak_ hr2
      have HND:=ak_ hnd
      have HNL:=ak_ (show nd < g.length by omega)
      have HTOS:=ak_ htos
      have HROW:=ak_ hrow
      clear h hsn hM hM2 hcell hcut hx hxr hnode hr1 hr2 hrow htos hnd M10
      go_wp2
      clear q7 f7 q9 s10
      go_loopw [9,11] (fun v9 t wr=>∃ (j:Nat) (st':List Int),t=.int .i64 j/\j<=tos.length/\Aside0 (rTos SS row j (tos.drop j) st'=some rr)/\Aside0 (Mem w wr [] [.blk b2 (.cells #[.int .i64 kind,.int .i64 node,.int .i64 label,.slice A3 kids.length n] 31 (0,0)),.blk b3 (.cells #[.slice A g.length cg] 27 (0,0)),.row (.slice (some ads) SS.length ns) 77 3 L.length (recs (L.map Stp.cells) ts),.rows ts (L.map Stp.tos),.row (.slice (some ⟨b7,0,none⟩) SS.length cs7) 4 1 SS.length (bools (seen.set x true)),.row v9 3 1 st'.length (nums .i64 st'.reverse)])) (fun _ t _=>tos.length - (intOf t).toNat)
      case atStart=>exact ⟨0,st,rfl,Nat.zero_le _,HR1,M11⟩
      case round =>
       clear M11 HM2
       obtain ⟨j,st',rfl,hj,hT,hM⟩:=hrel
       obtain ⟨A9,c9',rfl,hc9⟩:=hM.out.rowSlice' (k:=5) rfl
       obtain ⟨A',n',e',hn',hC'⟩:=hM.out.stepsC (k:=2) (j:=3) rfl rfl
       rw [<-HSE.out] at hn' hC' e'
       obtain ⟨ads',A2,c2,e2,g0,g1,g2,hc2,hC2⟩:=step_at hC' x HX.out
       subst e2
       obtain rfl:ads=ads':=by injection e' with e'' _ _;injection e''
       clear e' hC' g0
       rw [HND.out] at g1
       rw [<-HTOS.out] at g2 hc2 hC2
       have htl:tos.length<=9223372036854775807:=hC2.2.1
       have ht:=hT.out
       by_cases hjl:j < tos.length
       ·have hjl':(j:Int) < tos.length:=by omega
        have HJL:=ak_ hjl
        obtain ⟨tt,htt⟩:∃ tt,tt=tos[j]:=⟨_,rfl⟩
        rw [List.drop_eq_getElem_cons hjl,<-htt,rTos] at ht
        obtain ⟨mm,hm1,hm2⟩:=Option.bind_eq_some_iff.1 ht
        obtain ⟨ad2,rfl,q2⟩:=C_num hC2 j hjl
        rw [show tos.getD j 0=tt by rw [htt,List.getD_eq_getElem?_getD,List.getElem?_eq_getElem hjl];rfl] at q2
        have HM1:=ak_ hm1
        unfold nx at HM1
        have HCSr:=ak_ (show k77.C wr (some ads) SS.length SS from by
         obtain ⟨A',n',e',hn',hC'⟩:=hM.out.stepsC (k:=2) (j:=3) rfl rfl
         rw [<-HSE.out] at hn' hC' e'
         injection e' with e'' _ _
         rw [e''];exact hC')
        by_cases hmn:mm < 0
        ·rw [if_pos hmn] at hm2
         have hrr:=(Option.some.inj hm2).symm
         subst hrr
         have HB:=ak_ (show false=b by simpa using HR2.out)
         clear hm1 hm2 ht htt hC2 hc2 hn' hT hjl
         go_wp2_with (first
          | (go_at_call 46;refine (PShapeReducible.vellumref12_Next.calls _ (some ads) ns SS tt mm wr HCSr.out HNS.out HM1.out).mono ?_;rintro e w12 ⟨rfl,hd12⟩;have M12:=ak_ (hM.out.drawn hd12);clear hd12)
          | (refine wp_region_txt (fun _=>True) [] (by kernel_rfl) (by kernel_rfl) ?_) | (with_reducible refine wpT_nil ?_) | (refine wpT_W (v:=?_) trivial (by decide) (by first | exact wn_ rfl | rfl) (fun _ hS_=>?_) ?_;rotate_left;(focus ((try dsimp only at hS_);go_simp;rfl));(simp only [Act.put,sA_,sB_,sC_])) | (refine wpT_R (v:=?_) trivial (by decide) (by first | exact wn_ rfl | rfl) ?_ ?_;rotate_left;(focus (go_simp;rfl));(simp only [Act.put,sA_,sB_,sC_])) | (refine wpT_A (v:=?_) (ob:=?_) trivial (by decide) (by first | exact wn_ rfl | rfl) ?_ ?_ ?_;rotate_left 2;(focus (go_simp;first | (constructor <;> rfl) | rfl));(focus (exact trivial));(simp only [Act.put,sA_,sB_,sC_])) | (refine wpT_no trivial rfl (by decide) ?_;(simp only [Act.put,sA_,sB_,sC_])))
         go_ret
         exact ⟨by rw [<-HB.out];rfl,M12.out.hb.drew⟩
        ·rw [if_neg hmn] at hm2
         have hmr:mm < SS.length/\j < row.length/\st'.length < 1000000000:=Classical.byContradiction fun hc=>by rw [if_neg hc] at hm2;cases hm2
         rw [if_pos hmr] at hm2
         obtain ⟨mm,rfl⟩:∃ q:Nat,mm=q:=⟨mm.toNat,by omega⟩
         obtain ⟨nm,hnm⟩:∃ nm,nm=(rd_T77 SS mm).f1:=⟨_,rfl⟩
         rw [<-hnm] at hm2
         have hmn':¬ ((mm:Int) < 0):=hmn
         have HMM:=ak_ (show mm < SS.length by omega)
         have hmm':(mm:Int) < SS.length:=hmr.1
         have HST:=ak_ hmr.2.2
         obtain ⟨ga,Ar,cr,rfl,j1,hcr,hr⟩:=C_row (Kd.C_below HG.out hM.out.hb) nd HNL.out
         rw [<-HROW.out] at j1 hcr hr
         obtain ⟨ad5,rfl,j2⟩:=C_num hr j hmr.2.1
         obtain ⟨yy,hyy⟩:∃ yy,yy=row.getD j 0:=⟨_,rfl⟩
         rw [<-hyy] at hm2 j2
         have hjr:(j:Int) < row.length:=by omega
         have hndl:(nd:Int) < g.length:=by have:=HNL.out;omega
         have HNM:=ak_ hnm
         have J:=ak_ (And.intro j1 (And.intro j2 g1))
         have N46:∀ w12,Drawn0 wr w12->∃ A5 c5,w12.cell? ⟨(ads.add (mm * 3)).block,(ads.add (mm * 3)).off+1,none⟩=some (.int .i64 nm)/\w12.cell? ⟨(ads.add (x * 3)).block,(ads.add (x * 3)).off+1,none⟩=some (.int .i64 nd)/\w12.cell? (ga.add nd)=some (.slice (some ad5) row.length cr)/\w12.cell? (ad5.add j)=some (.int .i64 yy)/\w12.cell? ⟨b3,0,none⟩=some (.slice (some ga) g.length cg)/\A5=0/\c5=0:=by
          intro w12 hd
          obtain ⟨ads',A2,c2,e2,_,h1,_⟩:=step_at (Kd.C_below HCSr.out hd.below) mm HMM.out
          obtain rfl:ads=ads':=by injection e2
          rw [<-HNM.out] at h1
          exact ⟨0,0,h1,pw_cell_below hd.below J.out.2.2,pw_cell_below hd.below J.out.1,pw_cell_below hd.below J.out.2.1,(hM.out.drawn hd).cell (k:=1) (j:=0) rfl rfl,rfl,rfl⟩
         have N46:=ak_ N46
         by_cases hne:nm≠yy
         ·rw [if_pos hne] at hm2
          have hrr:=(Option.some.inj hm2).symm
          subst hrr
          have HB:=ak_ (show false=b by simpa using HR2.out)
          have hne':(nm != yy)=true:=by simpa using hne
          clear hm1 hm2 ht htt hC2 hc2 hn' hT hjl hmn hmr hnm hyy hcr hr hne j1 j2 g1
          go_wp2_with (first
           | (go_at_call 46;refine (PShapeReducible.vellumref12_Next.calls _ (some ads) ns SS tt mm wr HCSr.out HNS.out HM1.out).mono ?_;rintro e w12 ⟨rfl,hd12⟩;have M12:=hM.out.drawn hd12;obtain ⟨_,_,t1,t2,t3,t4,t5,_⟩:=N46.out w12 hd12;obtain ⟨w13,z13,M13⟩:=M12.drew;have t1':=cell_of_drew z13 t1;have t2':=cell_of_drew z13 t2;have t3':=cell_of_drew z13 t3;have t4':=cell_of_drew z13 t4;have t5':=cell_of_drew z13 t5;have M13:=ak_ M13;clear hd12 M12)
           | (rw [z13]) | (refine wp_region_txt (fun _=>True) [] (by kernel_rfl) (by kernel_rfl) ?_) | (with_reducible refine wpT_nil ?_) | (refine wpT_W (v:=?_) trivial (by decide) (by first | exact wn_ rfl | rfl) (fun _ hS_=>?_) ?_;rotate_left;(focus ((try dsimp only at hS_);go_simp;rfl));(simp only [Act.put,sA_,sB_,sC_])) | (refine wpT_R (v:=?_) trivial (by decide) (by first | exact wn_ rfl | rfl) ?_ ?_;rotate_left;(focus (go_simp;rfl));(simp only [Act.put,sA_,sB_,sC_])) | (refine wpT_A (v:=?_) (ob:=?_) trivial (by decide) (by first | exact wn_ rfl | rfl) ?_ ?_ ?_;rotate_left 2;(focus (go_simp;first | (constructor <;> rfl) | rfl));(focus (exact trivial));(simp only [Act.put,sA_,sB_,sC_])) | (refine wpT_no trivial rfl (by decide) ?_;(simp only [Act.put,sA_,sB_,sC_])))
          go_ret
          exact ⟨by rw [<-HB.out];rfl,M13.out.hb⟩
         ·rw [if_neg hne] at hm2
          have hne':nm=yy:=by simpa using hne
          subst hne'
          have HM2':=ak_ hm2
          clear hm1 hm2 ht htt hC2 hc2 hn' hT hjl hmn hmr hyy hnm hcr hr hne j1 j2 g1
          go_wp2_with (first
           | (go_at_call 46;refine (PShapeReducible.vellumref12_Next.calls _ (some ads) ns SS tt mm wr HCSr.out HNS.out HM1.out).mono ?_;rintro e w12 ⟨rfl,hd12⟩;have M12:=hM.out.drawn hd12;obtain ⟨_,_,t1,t2,t3,t4,t5,_⟩:=N46.out w12 hd12;obtain ⟨w13,z13,M13⟩:=M12.drew;have t1':=cell_of_drew z13 t1;have t2':=cell_of_drew z13 t2;have t3':=cell_of_drew z13 t3;have t4':=cell_of_drew z13 t4;have t5':=cell_of_drew z13 t5;have M13:=ak_ M13;clear hd12 M12)
           | (rw [z13])
           | ((with_reducible refine gate_dst (N:=106) rfl ?_);refine mem_append 5 (.tmp 103) (.tmp 105) 23 3 (.int .i64 0) 1 8 rfl rfl Try.underlying23 PShapeReducible.info3 rfl (by decide) (by decide) _ st'.length (nums .i64 st'.reverse) [.int .i64 (mm:Int)] rfl rfl rfl (by simp [Value.oneCell']) M13.out rfl (by have:=HST.out;omega) ?_;intro A14 c14 w14 M14;have M14:=ak_ M14)
           | (refine wp_region_txt (fun _=>True) [] (by kernel_rfl) (by kernel_rfl) ?_) | (with_reducible refine wpT_nil ?_) | (refine wpT_W (v:=?_) trivial (by decide) (by first | exact wn_ rfl | rfl) (fun _ hS_=>?_) ?_;rotate_left;(focus ((try dsimp only at hS_);go_simp;rfl));(simp only [Act.put,sA_,sB_,sC_])) | (refine wpT_R (v:=?_) trivial (by decide) (by first | exact wn_ rfl | rfl) ?_ ?_;rotate_left;(focus (go_simp;rfl));(simp only [Act.put,sA_,sB_,sC_])) | (refine wpT_A (v:=?_) (ob:=?_) trivial (by decide) (by first | exact wn_ rfl | rfl) ?_ ?_ ?_;rotate_left 2;(focus (go_simp;first | (constructor <;> rfl) | rfl));(focus (exact trivial));(simp only [Act.put,sA_,sB_,sC_])) | (refine wpT_no trivial rfl (by decide) ?_;(simp only [Act.put,sA_,sB_,sC_])))
          go_roundw
          case rel =>
           refine ⟨j+1,(mm:Int) :: st',by go_num,by have:=HJL.out;omega,HM2',⟨?_⟩⟩
           rw [List.reverse_cons,nums_append]
           exact M14.out
          case measure=>have:=HJL.out;simp [intOf];omega
       ·obtain rfl:j=tos.length:=by omega
        rw [List.drop_length,rTos] at ht
        have hrr:=(Option.some.inj ht).symm
        subst hrr
        have HH:=ak_ (show rChk SS g gk' (seen.set x true) st'=some b from HR2.out)
        clear ht hT hC2 hc2 hn' g1
        go_wp2
        go_roundg gk'
        case measure=>have:=HK'.out;omega
        case rel=>exact ⟨seen.set x true,st',HH,⟨by rw [List.length_set];exact hSL.out⟩,hM⟩
theorem modI_eq (a:Int) (m:Nat) (h0:0 < m) (h1:m<=4611686018427387903):modI a m=a % (m:Int):=by
 unfold modI
 have h2:=Int.tmod_lt_of_pos a (show (0:Int) < m by omega)
 have h3:-(m:Int) < Int.tmod a m:=by
  have:=Int.tmod_lt_of_pos (-a) (show (0:Int) < m by omega)
  rw [Int.neg_tmod] at this
  omega
 have h4:wrap64 (Int.tmod a m+m)=Int.tmod a m+m:=by unfold wrap64;omega
 rw [h4,Int.tmod_eq_emod_of_nonneg (by omega),Int.add_emod_right]
 rw [Int.tmod_eq_emod]
 split
 ·simp
 ·simp
theorem modI_range (a:Int) (m:Nat) (h0:0 < m) (h1:m<=4611686018427387903):0<=modI a m/\modI a m < m:=by
 rw [modI_eq a m h0 h1]
 exact ⟨Int.emod_nonneg _ (by omega),Int.emod_lt_of_pos _ (by omega)⟩
set_option maxHeartbeats 8000000 in
set_option maxRecDepth 100000 in
theorem mod_any (a0 a1:Int) (w:World) (h:a1≠0):Calls Try.prog 33 #[.int .i64 a0,.int .i64 a1] w fun e w'=>e=.returned (.int .i64 (modI a0 a1))/\Drawn0 w w':=by
 have c3b0:(a1 == 0)=false:=beq_eq_false_iff_ne.mpr h
 have c3b1:(a1 != 0)=true:=bne_iff_ne.mpr h
 go_enter Try.func33,Try.ntmps33
 go_wp2
 go_ret
 exact ⟨rfl,by repeat (first | exact Drawn0.refl _ | apply Drawn0.step)⟩
end Go.Proofs.Ytfiiihpdekppiaa
end
section
namespace Go.Proofs.Ytfiiihpdekppiaa
open PShapeReducible (S31)
structure Ks where
 pts:List Stp
 opn:List Frm
 lab:List (Int × Bool)
def Ks.emit (c:Ks) (p:Stp):Ks:={ c with pts:=c.pts++[p] }
def addTos (ss:List Stp) (n:Nat) (x:Int):List Stp:=ss.modify n fun p=>{ p with tos:=p.tos++[x] }
def Ks.addTo (c:Ks) (n:Nat) (x:Int):Ks:={ c with pts:=addTos c.pts n x }
def Ks.setTo (c:Ks) (n:Nat) (xs:List Int):Ks:={ c with pts:=setTos c.pts n xs }
def Ks.land (c:Ks):List Int->Ks
 | []=>c
 | e :: es=>(c.setTo e.toNat [(c.pts.length:Int)]).land es
def Ks.begin (c:Ks) (label:Int) (loop:Bool):Ks:={ pts:=c.pts,lab:=mput c.lab label true,opn:=c.opn++[⟨label,c.pts.length,loop,[]⟩] }
def Ks.exits (c:Ks):List Int:=((c.opn[c.opn.length - 1]?).map Frm.brk).getD []
def Ks.close (c:Ks) (loop:Bool) (start:Int):Ks :=
 let d:Ks:={ c with opn:=c.opn.take (c.opn.length - 1) }
 (if loop then d.emit ⟨1,0,[start]⟩ else d).land c.exits
def firstF (t:Frm->Bool):List Frm->Nat->Int
 | [],_=>-1
 | f :: fs,k=>if t f then (k:Int) else firstF t fs (k+1)
def Ks.leave (c:Ks) (kind node label:Int) (kids:List S31):Bool × Ks :=
 let n:=firstF (fun f=>decide (f.label=label) && (f.loop || decide (kind=5))) c.opn 0
 if n < 0∨kids.length≠0∨node≠0 then (false,c)
 else
  let j:Int:=c.pts.length
  let d:=c.emit ⟨1,0,[]⟩
  (true,if kind=5 then { d with opn:=addBrk d.opn n.toNat j } else d.setTo j.toNat [((d.opn[n.toNat]?).map Frm.start).getD 0])
mutual
def convF (g:List (List Int)):S31->Ks->Bool × Ks
  | ⟨kind,node,label,kids⟩,c =>
    if kind=1 then (if node≠0∨label≠0 then (false,c) else convL g kids c)
    else if kind=2 then
      (if node < 0∨(g.length:Int)<=node∨kids.length≠(g.getD node.toNat []).length∨label≠0 then (false,c)
       else
        let r:=visK g c.pts.length kids (c.emit ⟨0,node,[]⟩) []
        if r.1 then (true,r.2.1.land r.2.2) else (false,r.2.1))
    else if kind=3∨kind=4 then
      (if kids.length≠1∨node≠0∨label < 0∨((mget c.lab label).getD false)=true then (false,c)
       else
        let r:=convL g kids (c.begin label (decide (kind=3)))
        if r.1 then (true,r.2.close (decide (kind=3)) c.pts.length) else (false,r.2))
    else if kind=5∨kind=6 then c.leave kind node label kids
    else (false,c)
def convL (g:List (List Int)):List S31->Ks->Bool × Ks
  | [],c=>(true,c)
  | k :: ks,c =>
    let r:=convF g k c
    if r.1 then convL g ks r.2 else (false,r.2)
def visK (g:List (List Int)) (n:Nat):List S31->Ks->List Int->Bool × Ks × List Int
  | [],c,es=>(true,c,es)
  | k :: ks,c,es =>
    let r:=convF g k (c.addTo n c.pts.length)
    if r.1 then visK g n ks (r.2.emit ⟨1,0,[]⟩) (es++[(r.2.pts.length:Int)]) else (false,r.2,es)
end
structure Ks.Ok (m:Nat) (c:Ks):Prop where
 st:c.pts.length+2 * m<=big
 tl:∀ p∈c.pts,p.tos.length+m<=big
 fr:c.opn.length+m<=big
 br:∀ f∈c.opn,f.brk.length+m<=big/\∀ b∈f.brk,0<=b/\b < c.pts.length
theorem addTos_length (ss:List Stp) (n:Nat) (x:Int):(addTos ss n x).length=ss.length:=by simp [addTos]
theorem mem_setTos {ss:List Stp} {n:Nat} {xs:List Int} {p:Stp} (h:p∈setTos ss n xs):p∈ss∨p.tos=xs:=by
 obtain ⟨i,hi⟩:=List.mem_iff_getElem?.1 h
 simp only [setTos,List.getElem?_modify] at hi
 cases h2:ss[i]? with
 | none=>simp [h2] at hi
 | some f0 =>
  by_cases hn:n=i
  ·simp [h2,hn] at hi;exact .inr (by rw [<-hi])
  ·simp [h2,hn] at hi;exact .inl (hi ▸ List.mem_of_getElem? h2)
theorem mem_addTos {ss:List Stp} {n:Nat} {x:Int} {p:Stp} (h:p∈addTos ss n x):p∈ss∨∃ q∈ss,p.tos=q.tos++[x]:=by
 obtain ⟨i,hi⟩:=List.mem_iff_getElem?.1 h
 simp only [addTos,List.getElem?_modify] at hi
 cases h2:ss[i]? with
 | none=>simp [h2] at hi
 | some f0 =>
  by_cases hn:n=i
  ·simp [h2,hn] at hi;exact .inr ⟨f0,List.mem_of_getElem? h2,by rw [<-hi]⟩
  ·simp [h2,hn] at hi;exact .inl (hi ▸ List.mem_of_getElem? h2)
section
variable {c : Ks} {m : Nat}
theorem Ks.Ok.mono {m':Nat} (h:c.Ok m) (hm:m'<=m):c.Ok m' :=
 ⟨by have:=h.st;omega,fun p hp=>by have:=h.tl p hp;omega,by have:=h.fr;omega,fun f hf=>⟨by have:=(h.br f hf).1;omega,(h.br f hf).2⟩⟩
theorem Ks.Ok.emit (h:c.Ok m) (h1:c.pts.length+1+2 * m<=big) (p:Stp) (h2:p.tos.length+m<=big):(c.emit p).Ok m :=
 ⟨by simp [Ks.emit];omega,fun q hq=>by
  simp only [Ks.emit,List.mem_append,List.mem_singleton] at hq
  rcases hq with hq | rfl
  ·exact h.tl q hq
  ·exact h2,h.fr,fun f hf=>⟨(h.br f hf).1,fun b hb=>by have:=(h.br f hf).2 b hb;simp [Ks.emit];omega⟩⟩
theorem Ks.Ok.setTo (h:c.Ok m) (n:Nat) (xs:List Int) (h2:xs.length+m<=big):(c.setTo n xs).Ok m :=
 ⟨by simpa [Ks.setTo,setTos_length] using h.st,fun q hq=>by
  rcases mem_setTos hq with hq | hq
  ·exact h.tl q hq
  ·rw [hq];exact h2,h.fr,fun f hf=>⟨(h.br f hf).1,fun b hb=>by simpa [Ks.setTo,setTos_length] using (h.br f hf).2 b hb⟩⟩
theorem Ks.Ok.addTo (h:c.Ok (m+1)) (n:Nat) (x:Int):(c.addTo n x).Ok m :=
 ⟨by have:=h.st;simp [Ks.addTo,addTos_length];omega,fun q hq=>by
  rcases mem_addTos hq with hq | ⟨p,hp,hq⟩
  ·have:=h.tl q hq;omega
  ·have:=h.tl p hp;rw [hq];simp;omega,by have:=h.fr;show c.opn.length+m<=big;omega,fun f hf=>⟨by have:=(h.br f hf).1;omega,fun b hb=>by simpa [Ks.addTo,addTos_length] using (h.br f hf).2 b hb⟩⟩
theorem Ks.land_opn:∀ (es:List Int) (c:Ks),(c.land es).opn=c.opn
 | [],_=>rfl
 | e :: es,c=>by rw [Ks.land,Ks.land_opn es];rfl
theorem Ks.land_length:∀ (es:List Int) (c:Ks),(c.land es).pts.length=c.pts.length
 | [],_=>rfl
 | e :: es,c=>by rw [Ks.land,Ks.land_length es];simp [Ks.setTo,setTos_length]
theorem Ks.Ok.land:∀ (es:List Int) {c:Ks},c.Ok m->1+m<=big->(c.land es).Ok m
 | [],_,h,_=>h
 | e :: es,c,h,h1=>by rw [Ks.land];exact Ks.Ok.land es (h.setTo _ _ (by simpa using h1)) h1
theorem Ks.Ok.begin (h:c.Ok (m+1)) (l:Int) (b:Bool):(c.begin l b).Ok m :=
 ⟨by have:=h.st;simp [Ks.begin];omega,fun p hp=>by have:=h.tl p hp;omega,by have:=h.fr;simp [Ks.begin];omega,fun f hf=>by
  simp only [Ks.begin,List.mem_append,List.mem_singleton] at hf
  rcases hf with hf | rfl
  ·exact ⟨by have:=(h.br f hf).1;omega,(h.br f hf).2⟩
  ·exact ⟨by have:=h.st;simp;omega,by simp⟩⟩
theorem Ks.Ok.close (h:c.Ok m) (h1:c.pts.length+1+2 * m<=big) (loop:Bool) (s:Int):(c.close loop s).Ok m/\(c.close loop s).opn.length=c.opn.length - 1/\c.pts.length<=(c.close loop s).pts.length/\(c.close loop s).pts.length<=c.pts.length+1:=by
 have h2:Ks.Ok m { c with opn:=c.opn.take (c.opn.length - 1) } :=
  ⟨h.st,h.tl,by have:=h.fr;simp;omega,fun f hf=>h.br f (List.mem_of_mem_take hf)⟩
 unfold Ks.close
 refine ⟨?_,?_,?_,?_⟩
 ·refine Ks.Ok.land _ ?_ (by omega)
  split
  ·exact h2.emit h1 _ (by simp;omega)
  ·exact h2
 ·rw [Ks.land_opn];split <;> simp [Ks.emit]
 ·rw [Ks.land_length];split <;> simp [Ks.emit]
 ·rw [Ks.land_length];split <;> simp [Ks.emit]
theorem Ks.Ok.leave (h:c.Ok (m+1)) (k n l:Int) (ks:List S31):(c.leave k n l ks).2.Ok m/\(c.leave k n l ks).2.pts.length+1+2 * m<=big/\(c.leave k n l ks).2.opn.length=c.opn.length/\c.pts.length<=(c.leave k n l ks).2.pts.length/\(c.leave k n l ks).2.pts.length<=c.pts.length+1:=by
 have hst:=h.st
 have h0:c.Ok m:=h.mono (by omega)
 unfold Ks.leave
 simp only []
 split
 ·exact ⟨h0,by simp only [];omega,rfl,Nat.le_refl _,by simp only [];omega⟩
 ·have h1:=h0.emit (by omega) ⟨1,0,[]⟩ (by simp;omega)
  split
  ·refine ⟨⟨h1.st,h1.tl,by simpa [addBrk_length] using h1.fr,fun f hf=>?_⟩,by simp [Ks.emit];omega,by simp [addBrk_length,Ks.emit],by simp [Ks.emit],by simp [Ks.emit]⟩
   rcases mem_addBrk hf with hf | ⟨f0,hf0,rfl⟩
   ·exact h1.br f hf
   ·have h2:=h.br f0 hf0
    refine ⟨by simp;omega,fun b hb=>?_⟩
    rcases List.mem_append.1 hb with hb | hb
    ·exact (h1.br f0 hf0).2 b hb
    ·rw [List.mem_singleton.1 hb]
     simp [Ks.emit];omega
  ·exact ⟨h1.setTo _ _ (by simp;omega),by simp [Ks.setTo,setTos_length,Ks.emit];omega,rfl,by simp [Ks.setTo,setTos_length,Ks.emit],by simp [Ks.setTo,setTos_length,Ks.emit]⟩
end
mutual
theorem convF_ok (g:List (List Int)) (m:Nat):∀ (s:S31) (c:Ks),c.Ok (3 * szF s - 1+m)->(convF g s c).2.Ok m/\(convF g s c).2.pts.length+2 * m+2<=big/\((convF g s c).1=true->(convF g s c).2.opn.length=c.opn.length)/\c.pts.length<=(convF g s c).2.pts.length/\(convF g s c).2.pts.length+1<=c.pts.length+2 * szF s
 | ⟨kind,node,label,kids⟩,c,h=>by
  simp only [szF] at h ⊢
  have hst:=h.st
  have h0:c.Ok m:=h.mono (by omega)
  rw [convF]
  split
  ·split
   ·exact ⟨h0,by simp only [];omega,fun h=>Bool.noConfusion h,Nat.le_refl _,by simp only [];omega⟩
   ·have h1:=convL_ok g (m+1) kids c (h.mono (by omega))
    refine ⟨h1.1.mono (by omega),?_,h1.2.1,h1.2.2.1,by have:=h1.2.2.2;omega⟩
    have:=h1.1.st
    omega
  split
  ·split
   ·exact ⟨h0,by simp only [];omega,fun h=>Bool.noConfusion h,Nat.le_refl _,by simp only [];omega⟩
   ·have h1:=(h.mono (m':=3 * szL kids+(m+1)) (by omega)).emit (by omega) ⟨0,node,[]⟩ (by simp;omega)
    have h2:=visK_ok g (m+1) c.pts.length kids _ [] h1
    have hl:(c.emit ⟨0,node,[]⟩).pts.length=c.pts.length+1:=by simp [Ks.emit]
    have ho:(c.emit ⟨0,node,[]⟩).opn=c.opn:=rfl
    rw [hl,ho] at h2
    have h3:=h2.1.st
    dsimp only
    split <;> dsimp only
    ·refine ⟨Ks.Ok.land _ (h2.1.mono (by omega)) (by omega),?_,fun _=>?_,?_,?_⟩
     ·rw [Ks.land_length];omega
     ·rw [Ks.land_opn];exact h2.2.1 (by assumption)
     ·rw [Ks.land_length];have:=h2.2.2.1;omega
     ·rw [Ks.land_length];have:=h2.2.2.2;omega
    ·exact ⟨h2.1.mono (by omega),by omega,fun h=>Bool.noConfusion h,by have:=h2.2.2.1;omega,by have:=h2.2.2.2;omega⟩
  split
  ·split
   ·exact ⟨h0,by simp only [];omega,fun h=>Bool.noConfusion h,Nat.le_refl _,by simp only [];omega⟩
   ·have h1:=(h.mono (m':=3 * szL kids+(m+1)+1) (by omega)).begin label (decide (kind=3))
    have h2:=convL_ok g (m+1) kids _ h1
    have hl:(c.begin label (decide (kind=3))).pts.length=c.pts.length:=rfl
    have ho:(c.begin label (decide (kind=3))).opn.length=c.opn.length+1:=by simp [Ks.begin]
    rw [hl,ho] at h2
    have h3:=h2.1.st
    dsimp only
    split <;> dsimp only
    ·have h4:=(h2.1.mono (m':=m) (by omega)).close (by omega) (decide (kind=3)) c.pts.length
     have h5:=h2.2.1 (by assumption)
     have h6:=h2.2.2
     have h7:=h4.2
     refine ⟨h4.1,?_,fun _=>?_,?_,?_⟩
     ·omega
     ·rw [h7.1,h5];omega
     ·omega
     ·omega
    ·exact ⟨h2.1.mono (by omega),by omega,fun h=>Bool.noConfusion h,by have:=h2.2.2.1;omega,by have:=h2.2.2.2;omega⟩
  split
  ·have h1:=Ks.Ok.leave (h.mono (m':=m+1) (by omega)) kind node label kids
   exact ⟨h1.1,by omega,fun _=>h1.2.2.1,h1.2.2.2.1,by omega⟩
  ·exact ⟨h0,by simp only [];omega,fun h=>Bool.noConfusion h,Nat.le_refl _,by simp only [];omega⟩
theorem convL_ok (g:List (List Int)) (m:Nat):∀ (ks:List S31) (c:Ks),c.Ok (3 * szL ks+m)->(convL g ks c).2.Ok m/\((convL g ks c).1=true->(convL g ks c).2.opn.length=c.opn.length)/\c.pts.length<=(convL g ks c).2.pts.length/\(convL g ks c).2.pts.length<=c.pts.length+2 * szL ks
 | [],c,h=>by rw [convL];exact ⟨h.mono (by omega),fun _=>rfl,Nat.le_refl _,by simp only [];omega⟩
 | k :: ks,c,h=>by
  rw [convL]
  simp only [szL] at h ⊢
  have h1:=convF_ok g (3 * szL ks+m) k c (h.mono (by omega))
  have hpos:1<=szF k:=by cases k;simp [szF]
  split
  ·have h2:=convL_ok g m ks _ h1.1
   refine ⟨h2.1,fun hh=>by rw [h2.2.1 hh,h1.2.2.1 (by assumption)],?_,?_⟩
   ·have:=h1.2.2.2.1;have:=h2.2.2.1;omega
   ·have:=h1.2.2.2.2;have:=h2.2.2.2;omega
  ·exact ⟨h1.1.mono (by omega),fun h=>Bool.noConfusion h,h1.2.2.2.1,by have:=h1.2.2.2.2;simp only [];omega⟩
theorem visK_ok (g:List (List Int)) (m:Nat) (n:Nat):∀ (ks:List S31) (c:Ks) (es:List Int),c.Ok (3 * szL ks+m)->(visK g n ks c es).2.1.Ok m/\((visK g n ks c es).1=true->(visK g n ks c es).2.1.opn.length=c.opn.length)/\c.pts.length<=(visK g n ks c es).2.1.pts.length/\(visK g n ks c es).2.1.pts.length<=c.pts.length+2 * szL ks
 | [],c,es,h=>by rw [visK];exact ⟨h.mono (by omega),fun _=>rfl,Nat.le_refl _,by simp only [];omega⟩
 | k :: ks,c,es,h=>by
  rw [visK]
  simp only [szL] at h ⊢
  have hpos:1<=szF k:=by cases k;simp [szF]
  have h0:=Ks.Ok.addTo (m:=3 * szF k - 1+(3 * szL ks+m)) (c:=c) (h.mono (by omega)) n c.pts.length
  have h1:=convF_ok g (3 * szL ks+m) k (c.addTo n c.pts.length) h0
  have hl:(c.addTo n c.pts.length).pts.length=c.pts.length:=by simp [Ks.addTo,addTos_length]
  have ho:(c.addTo n c.pts.length).opn=c.opn:=rfl
  rw [hl,ho] at h1
  split
  ·have h2:=visK_ok g m n ks ((convF g k (c.addTo n c.pts.length)).2.emit ⟨1,0,[]⟩) (es++[((convF g k (c.addTo n c.pts.length)).2.pts.length:Int)]) (h1.1.emit (by have:=h1.2.1;omega) _ (by have:=h1.2.1;simp;omega))
   have he:((convF g k (c.addTo n c.pts.length)).2.emit ⟨1,0,[]⟩).pts.length=(convF g k (c.addTo n c.pts.length)).2.pts.length+1:=by simp [Ks.emit]
   have he2:((convF g k (c.addTo n c.pts.length)).2.emit ⟨1,0,[]⟩).opn=(convF g k (c.addTo n c.pts.length)).2.opn:=rfl
   rw [he,he2] at h2
   refine ⟨h2.1,fun hh=>by rw [h2.2.1 hh,h1.2.2.1 (by assumption)],?_,?_⟩
   ·have:=h1.2.2.2.1;have:=h2.2.2.1;omega
   ·have:=h1.2.2.2.2;have:=h2.2.2.2;omega
  ·exact ⟨h1.1.mono (by omega),fun h=>Bool.noConfusion h,h1.2.2.2.1,by have:=h1.2.2.2.2;dsimp only;omega⟩
end
end Go.Proofs.Ytfiiihpdekppiaa
end
section
namespace Go.Proofs.Ytfiiihpdekppiaa
open Go.RowKit Go.Proofs Go.Proofs.YtfiiihpdekppiaaW.PrintWords
open Go.ChangeMaps (setBlock heap_setBlock_same heap_setBlock_other)
open PShapeReducible (S31 S77)
theorem info90:(Try.prog.info? 90).map (fun i=>(i.zero,i.size,i.bytes))=some (some (.agg #[.int .i64 0,.int .i64 0,.slice none 0 0]),3,40):=by kernel_rfl
theorem info144:(Try.prog.info? 144).map (fun i=>(i.zero,i.size,i.bytes))=some (some (.agg #[.int .i64 0,.int .i64 0,.bool false,.slice none 0 0]),4,48):=by kernel_rfl
structure Kp where
 vS:Value
 vF:Value
 ts:List Value
 bs:List Value
def Ks.own (c:Ks) (bc:Nat) (gv:Value) (bm:Nat) (p:Kp):List Pc :=
  [.blk bc (.cells #[gv,p.vS,p.vF,.map (some bm)] 86 (0,0)),.row p.vS 90 3 c.pts.length (recs (c.pts.map Stp.cells) p.ts),.rows p.ts (c.pts.map Stp.tos),
   .row p.vF 144 4 c.opn.length (recs (c.opn.map Frm.cells) p.bs),.rows p.bs (c.opn.map Frm.brk),.blk bm (mB c.lab)]
set_option maxRecDepth 100000 in
set_option maxHeartbeats 4000000 in
theorem add_any (w0 w:World) (F:List Pc) (bc:Nat) (gv:Value) (c:Ks) (bm:Nat) (p:Kp) (a b:Int) (vt:Value) (xs:List Int)
  (M:Mem w0 w F (c.own bc gv bm p++[.row vt 3 1 xs.length (nums .i64 xs)])) (hl:c.pts.length < 1000000000) :
  Calls Try.prog 51 #[.pointer (some ⟨bc,0,none⟩),.agg #[.int .i64 a,.int .i64 b,vt]] w fun e w'=>e=.returned (.int .i64 c.pts.length)/\∃ A cc,Mem w0 w' F ((c.emit ⟨a,b,xs⟩).own bc gv bm { p with vS:=.slice A (c.pts.length+1) cc,ts:=p.ts++[vt] }):=by
 obtain ⟨vS,vF,ts,bs⟩:=p
 obtain ⟨At,ct,rfl,hct⟩:=M.rowSlice' (k:=6) rfl
 obtain ⟨AS,cS,e,hcS⟩:=M.rowSlice' (k:=1) rfl
 dsimp only at e
 subst e
 have hts:ts.length=c.pts.length:=by have:=(M.rows (k:=2) rfl).len;simpa using this
 obtain ⟨b3,w1,z1,a1,M1⟩:=M.alloc (.cells #[.int .i64 a,.int .i64 b,.slice At xs.length ct] 90)
 obtain ⟨w2,z2,M2⟩:=M1.drew
 have e0:=M2.cell (k:=7) (j:=0) rfl rfl
 have e1:=M2.cell (k:=7) (j:=1) rfl rfl
 have e2:=M2.cell (k:=7) (j:=2) rfl rfl
 have k1:=M2.cell (k:=0) (j:=1) rfl rfl
 have MM:=ak_ M2
 have HW:IntKind.i64.wrap (((c.pts.length+1:Nat):Int) - 1)=(c.pts.length:Int):=by rw [IntWalk.i64_in _ (by omega)];omega
 have HTS:=ak_ hts
 clear M M1 M2 hct hts hcS
 go_enter Try.func51,Try.ntmps51
 go_wp2_with (first | (rw [z2]) | (refine wp_region_txt (fun _=>True) [] (by kernel_rfl) (by kernel_rfl) ?_))
 iterate 7 ((first | (with_reducible refine wpT_nil ?_) | (refine wpT_W (v:=?_) trivial (by decide) (wn_ rfl) (fun _ hS_=>?_) ?_;rotate_left;(focus ((try dsimp only at hS_);go_simp;rfl))) | (refine wpT_R (v:=?_) trivial (by decide) (wn_ rfl) ?_ ?_;rotate_left;(focus (go_simp;rfl))) | (refine wpT_A (v:=?_) (ob:=?_) trivial (by decide) (wn_ rfl) ?_ ?_ ?_;rotate_left 2;(focus (go_simp;first | (constructor <;> rfl) | rfl));(focus (exact trivial))));(try simp only [Act.put,sA_,sB_,sC_]))
 refine wpT_L trivial (by decide) (wn_ rfl) (fun K_ hK_=>?_)
 refine step_mem_app (ops:=#[]) 1 rfl (.tmp 9) (.tmp 11) 83 90 (.agg #[.int .i64 0,.int .i64 0,.slice none 0 0]) 3 40 rfl Try.underlying83 info90 rfl (by decide) (by decide) _ c.pts.length (recs (c.pts.map Stp.cells) ts) [.int .i64 a,.int .i64 b,.slice At xs.length ct] rfl rfl rfl (by simp [Value.oneCell']) MM.out rfl (by omega) ?_
 intro A4 c4 w4 M4
 refine hK_ _ _ trivial ?_
 clear hK_
 have d1:=M4.cell (k:=0) (j:=1) rfl rfl
 have d2:=M4.free (k:=0) (j:=1) rfl
 obtain ⟨w5,s5,M5⟩:=M4.set (k:=0) 1 rfl (.slice A4 (c.pts.length+1) c4)
 have d3:=M5.cell (k:=0) (j:=1) rfl rfl
 have M5:=ak_ M5
 clear M4
 iterate 2 ((first | (with_reducible refine wpT_nil ?_) | (refine wpT_W (v:=?_) trivial (by decide) (wn_ rfl) (fun _ hS_=>?_) ?_;rotate_left;(focus ((try dsimp only at hS_);go_simp;rfl))) | (refine wpT_R (v:=?_) trivial (by decide) (wn_ rfl) ?_ ?_;rotate_left;(focus (go_simp;rfl))) | (refine wpT_A (v:=?_) (ob:=?_) trivial (by decide) (wn_ rfl) ?_ ?_ ?_;rotate_left 2;(focus (go_simp;first | (constructor <;> rfl) | rfl));(focus (exact trivial))));(try simp only [Act.put,sA_,sB_,sC_]))
 refine wpT_L trivial (by decide) (wn_ rfl) (fun K_ hK_=>?_)
 go_simp
 refine hK_ _ _ trivial ?_
 clear hK_
 refine wpT_nil ?_
 clear d1 d2 s5 k1 z2
 go_wp2
 go_ret
 refine ⟨by simp,A4,c4,?_⟩
 have M6:=((M5.out.lose (k:=7) rfl).join (k:=2) (j:=5) rfl rfl).order [1,2,0] rfl
 unfold Ks.own Ks.emit
 simp only [List.map_append,List.map_cons,List.map_nil,List.length_append,List.length_singleton]
 rw [recs_snoc _ _ (by rw [List.length_map];exact HTS.out.symm)]
 exact M6
section
variable {w0 w w' : World} {F H L : List Pc}
theorem Mem.fill3 {w0 w:World} {F H:List Pc} {k b t:Nat} {z0 z1 z2:Value} (h:Mem w0 w F H) (hk:H[k]?=some (.blk b (.cells #[z0,z1,z2] t (0,0)))) (u0 u1 u2:Value) :
  ∃ a1 a2 a3:World,(w.setCell ⟨b,0,none⟩ u0=a1/\a1.setCell ⟨b,1,none⟩ u1=a2/\a2.setCell ⟨b,2,none⟩ u2=a3) /\
   (w.cell? ⟨b,0,none⟩=some z0/\a1.cell? ⟨b,1,none⟩=some z1/\a2.cell? ⟨b,2,none⟩=some z2) /\
   (w.frozen? ⟨b,0,none⟩=false/\a1.frozen? ⟨b,1,none⟩=false/\a2.frozen? ⟨b,2,none⟩=false) /\
   Mem w0 a3 F (H.set k (.blk b (.cells #[u0,u1,u2] t (0,0)))):=by
 have hlt:=(List.getElem?_eq_some_iff.1 hk).1
 have hk1:∀ (L:List Pc) (c:Pc),L.length=H.length->(L.set k c)[k]?=some c:=fun L c hL=>by simp [hL,hlt]
 obtain ⟨a1,e1,M1⟩:=h.set 0 hk u0
 have q1:=hk1 H (.blk b (.cells #[u0,z1,z2] t (0,0))) rfl
 obtain ⟨a2,e2,M2⟩:=M1.set 1 q1 u1
 have q2:=hk1 (H.set k (.blk b (.cells #[u0,z1,z2] t (0,0)))) (.blk b (.cells #[u0,u1,z2] t (0,0))) (by simp)
 obtain ⟨a3,e3,M3⟩:=M2.set 2 q2 u2
 refine ⟨a1,a2,a3,⟨e1,e2,e3⟩,⟨h.cell hk rfl,M1.cell q1 rfl,M2.cell q2 rfl⟩,⟨h.free hk,M1.free q1,M2.free q2⟩,?_⟩
 simp only [List.set_set] at M3
 exact M3
theorem Mem.recsC {e:Nat} {k j:Nat} {v:Value} {ts:List Value} {ss:List Stp} (h:Mem w0 w F H) (hk:H[k]?=some (.row v e 3 ss.length (recs (ss.map Stp.cells) ts))) (hj:H[j]?=some (.rows ts (ss.map Stp.tos))) :
  ∃ A n,v=.slice A (ss.map Stp.s77).length n/\(ss.map Stp.s77).length<=n/\PShapeReducible.k77.C w A (ss.map Stp.s77).length (ss.map Stp.s77):=by
 have h1:w.ownsRow 0 e 3 v ss.length (recs (ss.map Stp.cells) ts):=h.says hk
 have h2:=h.rows hj
 have hlen:ts.length=ss.length:=by simpa using h2.len
 have hr:OwnRow (PShapeReducible.k77.K w) e 3 w 0 v (ss.map Stp.s77):=by
  refine ⟨_,by rw [List.length_map];exact h1,by rw [List.length_map,recs_len (m:=2) (by simpa using hlen.symm) (by simp [Stp.cells])];simp,fun i p hp=>?_⟩
  rw [List.getElem?_map] at hp
  obtain ⟨s,hs,rfl⟩:=Option.map_eq_some_iff.1 hp
  have hi:=(List.getElem?_eq_some_iff.1 hs).1
  rw [recs_chunk (m:=2) (by simpa using hlen.symm) (by simp [Stp.cells]) (by simpa using hi)]
  obtain ⟨A,c,e1,e2,e3⟩:=own_C (h2.row i (by omega))
  have e4:(ss.map Stp.tos).getD i []=s.tos:=by simp [List.getD_eq_getElem?_getD,hs]
  have e5:(ss.map Stp.cells).getD i []=s.cells:=by simp [List.getD_eq_getElem?_getD,hs]
  rw [e4] at e1 e2 e3
  rw [e5,e1]
  exact PShapeReducible.k77_mk w s.s77 e2 e3
 exact OwnRow.reads hr
end
set_option maxRecDepth 100000 in
set_option maxHeartbeats 4000000 in
theorem next_any (w:World) (bc:Nat) (A:Option Addr) (n:Nat) (SS:List S77) (at0 r:Int) (k:Nat) (hk1:w.cell? ⟨bc,1,none⟩=some (.slice A SS.length n)) (hC:PShapeReducible.k77.C w A SS.length SS) (hl:SS.length<=1000000000)
  (h:PShapeReducible.vellumref12_Next.f k SS at0=some r):Calls Try.prog 52 #[.pointer (some ⟨bc,0,none⟩),.int .i64 at0] w fun e w'=>e=.returned (.int .i64 r)/\Below w.heap.size w w':=by
 have H0:=ak_ (show PShapeReducible.vellumref12_Next.l0 k SS at0 0=some r from h)
 have HC:=ak_ hC
 have M0:=ak_ (Mem.start w)
 have hw1:wrap64 ((SS.length:Int)+1)=(SS.length:Int)+1:=by unfold wrap64;omega
 have K1:=ak_ hk1
 clear h hC
 go_enter Try.func52,Try.ntmps52
 go_wp2
 clear hk1
 go_loopg [1,12] k (fun kq v1 v12 wr=>∃ (x:Int) (c:Nat),v1=.int .i64 x/\v12=.int .i64 c/\c<=SS.length+1/\Aside0 (PShapeReducible.vellumref12_Next.l0 kq SS x c=some r)/\Aside0 (Mem w wr [] []))
 case atStart=>exact ⟨at0,0,rfl,rfl,by omega,H0,M0⟩
 case round =>
  clear H0 M0
  obtain ⟨x,c,rfl,rfl,hc,hH,hM⟩:=hrel
  have h:=hH.out
  cases hk:gk with
  | zero=>rw [hk] at h;simp [PShapeReducible.vellumref12_Next.l0] at h
  | succ gk' =>
   rw [hk] at h
   have HK':=ak_ hk
   clear hH hk
   rw [PShapeReducible.vellumref12_Next.l0] at h
   rcases Decidable.em ((c:Int)<=SS.length) with hcl | hcl
   ·rw [if_pos hcl] at h
    have hx0:0<=x:=Classical.byContradiction fun hc=>by rw [if_neg hc] at h;cases h
    rw [if_pos hx0] at h
    have hxl:x < SS.length:=Classical.byContradiction fun hc=>by rw [if_neg hc] at h;cases h
    rw [if_pos hxl] at h
    obtain ⟨x,rfl⟩:∃ q:Nat,x=q:=⟨x.toNat,by omega⟩
    obtain ⟨ad,A2,c2,rfl,g0,g1,g2,hc2,hC2⟩:=step_at (Kd.C_below HC.out hM.out.hb) x (by omega)
    obtain ⟨P,hP⟩:∃ P,P=PShapeReducible.rd_T77 SS x:=⟨_,rfl⟩
    rw [<-hP] at h g0 g1 g2 hc2 hC2
    have k1:=pw_cell_below hM.out.hb K1.out
    obtain ⟨b5,w5,z5,a5,M5⟩:=(Mem.start wr).alloc (.cells #[.int .i64 0,.int .i64 0,.slice none 0 0] 90)
    obtain ⟨y1,y2,y3,ys,yc,yf,M6⟩:=M5.fill3 (k:=0) rfl (.int .i64 P.f0) (.int .i64 P.f1) (.slice A2 P.f2.length c2)
    have f0:y3.cell? ⟨b5,0,none⟩=some (.int .i64 P.f0):=M6.cell (k:=0) (j:=0) rfl rfl
    have f2:y3.cell? ⟨b5,2,none⟩=some (.slice A2 P.f2.length c2):=M6.cell (k:=0) (j:=2) rfl rfl
    have M7:=ak_ (hM.out.below M6.hb)
    have HC2:=ak_ hC2
    have hcl':(c:Int) < (SS.length:Int)+1:=by omega
    obtain ⟨ys1,ys2,ys3⟩:=ys
    obtain ⟨yc1,yc2,yc3⟩:=yc
    obtain ⟨yf1,yf2,yf3⟩:=yf
    have hxl':(x:Int) < SS.length:=hxl
    rcases Decidable.em (P.f0=0) with h0 | h0
    ·rw [if_pos h0] at h
     have HB:=ak_ (Option.some.inj h)
     have h0':(P.f0 == 0)=true:=by simp [h0]
     clear h hP h0 hC2 hc2 M5 M6 hM
     go_wp2
     go_ret
     exact ⟨by rw [<-HB.out];rfl,M7.out.hb⟩
    ·rw [if_neg h0] at h
     have h0':(P.f0 == 0)=false:=by simpa using h0
     rcases Decidable.em (P.f0=2) with h2 | h2
     ·rw [if_pos h2] at h
      have HB:=ak_ (Option.some.inj h)
      have h2':(P.f0 == 2)=true:=by simp [h2]
      clear h hP h0 h2 hC2 hc2 M5 M6 hM
      go_wp2
      go_ret
      exact ⟨by rw [<-HB.out];rfl,M7.out.hb⟩
     ·rw [if_neg h2] at h
      have h2':(P.f0 == 2)=false:=by simpa using h2
      have htz:0 < (P.f2.length:Int):=Classical.byContradiction fun hc=>by rw [if_neg hc] at h;cases h
      rw [if_pos htz] at h
      obtain ⟨adt,rfl,q0⟩:=C_num hC2 0 (by omega)
      obtain ⟨tv,htv⟩:∃ tv,tv=P.f2.getD 0 0:=⟨_,rfl⟩
      rw [<-htv] at q0
      have q0':y3.cell? (adt.add 0)=some (.int .i64 tv):=pw_cell_below M6.hb q0
      have htl:(0:Int) < (P.f2.length:Int):=htz
      have hw2:wrap64 ((c:Int)+1)=((c+1:Nat):Int):=by unfold wrap64;omega
      rw [hw2] at h
      have HH:=ak_ (show PShapeReducible.vellumref12_Next.l0 gk' SS tv ((c+1:Nat):Int)=some r by rw [htv];exact h)
      have HCL:=ak_ hcl
      clear h hP h0 h2 hC2 hc2 M5 M6 hM htz htv q0
      simp only [addz] at q0'
      go_wp2
      go_roundg gk'
      case measure=>have:=HK'.out;omega
      case rel=>exact ⟨tv,c+1,rfl,by go_num,by have:=HCL.out;omega,HH,M7⟩
   ·rw [if_neg hcl] at h
    have HB:=ak_ (Option.some.inj h)
    have hcl':¬ ((c:Int) < (SS.length:Int)+1):=by omega
    clear h
    go_wp2
    go_ret
    exact ⟨by rw [<-HB.out];rfl,hM.out.hb⟩
set_option maxRecDepth 100000 in
set_option maxHeartbeats 4000000 in
theorem test93_any (w:World) (b3:Nat) (kind label l s:Int) (lp:Bool) (v:Value) (e0:w.cell? ⟨b3,0,none⟩=some (.int .i64 kind)) (e2:w.cell? ⟨b3,2,none⟩=some (.int .i64 label)) :
  Calls Try.prog 93 #[.agg #[.int .i64 l,.int .i64 s,.bool lp,v],.pointer (some ⟨b3,0,none⟩)] w fun e w'=>e=.returned (.bool (decide (l=label) && (lp || decide (kind=5))))/\Below w.heap.size w w':=by
 obtain ⟨b4,w1,z1,a1,M1⟩:=(Mem.start w).alloc (.cells #[.int .i64 l,.int .i64 s,.bool lp,v] 144)
 have q0:w1.cell? ⟨b4,0,none⟩=some (.int .i64 l):=M1.cell (k:=0) (j:=0) rfl rfl
 have q2:w1.cell? ⟨b4,2,none⟩=some (.bool lp):=M1.cell (k:=0) (j:=2) rfl rfl
 have t0:=pw_cell_below M1.hb e0
 have t2:=pw_cell_below M1.hb e2
 have hb:=ak_ M1.hb
 clear M1 e0 e2
 by_cases hl:l=label
 ·have h1:(l == label)=true:=by simpa using hl
  have h1d:decide (l=label)=true:=by simpa using hl
  rw [h1d]
  clear hl h1d
  cases lp with
  | true =>
   go_enter Try.func93,Try.ntmps93
   go_wp2
   go_ret
   exact ⟨rfl,hb.out⟩
  | false =>
   have h2:(kind == 5)=decide (kind=5):=Bool.beq_eq_decide_eq _ _
   go_enter Try.func93,Try.ntmps93
   go_wp2
   go_ret
   exact ⟨by simp,hb.out⟩
 ·have h1:(l == label)=false:=by simpa using hl
  have h1d:decide (l=label)=false:=by simpa using hl
  rw [h1d]
  clear hl h1d
  go_enter Try.func93,Try.ntmps93
  go_wp2
  go_ret
  exact ⟨rfl,hb.out⟩
set_option maxRecDepth 100000 in
set_option maxHeartbeats 4000000 in
theorem first_any (w:World) (b3:Nat) (kind label:Int) (fs:List Frm) (bs:List Value) (vF:Value) (e0:w.cell? ⟨b3,0,none⟩=some (.int .i64 kind)) (e2:w.cell? ⟨b3,2,none⟩=some (.int .i64 label))
  (hl:fs.length < 1000000000) (hlen:fs.length=bs.length) (ho:w.ownsRow 0 144 4 vF fs.length (recs (fs.map Frm.cells) bs)) :
  Calls Try.prog 92 #[vF,.func (.func 93) #[] #[.pointer (some ⟨b3,0,none⟩)]] w fun e w'=>e=.returned (.int .i64 (firstF (fun f=>decide (f.label=label) && (f.loop || decide (kind=5))) fs 0))/\Below w.heap.size w w':=by
 obtain ⟨A,cF,rfl,hF⟩:∃ A c,vF=.slice A fs.length c/\∀ i j u,i < fs.length->(recs (fs.map Frm.cells) bs)[i * 4+j]?=some u->∃ b,A=some ⟨b,0,none⟩/\w.cell? ⟨b,i * 4+j,none⟩=some u:=by
  rcases ho.2 with ⟨rfl,h0⟩ | ⟨g,cap,cur,rfl,hb,hh,hn',r⟩
  ·exact ⟨none,0,by rw [h0],fun i j u hi _=>by omega⟩
  ·refine ⟨_,cap,rfl,fun i j u hi hu=>⟨g,rfl,(ho.cellAt _ ?_).trans hu⟩⟩
   have:=(List.getElem?_eq_some_iff.1 hu).1
   have h2:=ho.1
   omega
 have HF:=ak_ hF
 have HLEN:=ak_ hlen
 have E:=ak_ (And.intro e0 e2)
 have M0:=ak_ (Mem.start w)
 clear hF ho hlen e0 e2
 obtain ⟨T,hT⟩:∃ T:Frm->Bool,T=fun f=>decide (f.label=label) && (f.loop || decide (kind=5)):=⟨_,rfl⟩
 rw [<-hT]
 have HT:=ak_ hT
 clear hT
 go_enter Try.func92,Try.ntmps92
 go_wp2
 go_loopw [8] (fun t wr=>∃ i:Nat,t=.int .i64 i/\i<=fs.length/\Aside0 (firstF T (fs.drop i) i=firstF T fs 0)/\Aside0 (Mem w wr [] [])) (fun t _=>fs.length - (intOf t).toNat)
 case atStart=>exact ⟨0,rfl,Nat.zero_le _,⟨rfl⟩,M0⟩
 case round =>
  clear M0
  obtain ⟨i,rfl,hi,hE,hM⟩:=hrel
  by_cases hlt:i < fs.length
  ·obtain ⟨f,hf⟩:∃ f,fs[i]?=some f:=⟨fs[i],List.getElem?_eq_getElem hlt⟩
   have hrec:∀ j,j<=3->(recs (fs.map Frm.cells) bs)[i * 4+j]?=(f.cells++[bs.getD i nilS])[j]?:=fun j hj=>by
    rw [recs_get (m:=3) (by simpa using HLEN.out) (by simp [Frm.cells]) (by simp;omega) hj]
    simp [List.getD_eq_getElem?_getD,hf]
   obtain ⟨b,rfl,c0⟩:=HF.out i 0 _ (by omega) (by rw [hrec 0 (by omega)];rfl)
   obtain ⟨b',e1,c1⟩:=HF.out i 1 _ (by omega) (by rw [hrec 1 (by omega)];rfl)
   cases e1
   obtain ⟨b',e1,c2⟩:=HF.out i 2 _ (by omega) (by rw [hrec 2 (by omega)];rfl)
   cases e1
   obtain ⟨b',e1,c3⟩:=HF.out i 3 _ (by omega) (by rw [hrec 3 (by omega)];rfl)
   cases e1
   rw [Nat.add_zero] at c0
   have d0:=pw_cell_below hM.out.hb c0
   have d1:=pw_cell_below hM.out.hb c1
   have d2:=pw_cell_below hM.out.hb c2
   have d3:=pw_cell_below hM.out.hb c3
   have hE2:=hE.out
   rw [List.drop_eq_getElem_cons hlt,firstF,show fs[i]=f from (List.getElem?_eq_some_iff.1 hf).2] at hE2
   have HE:=ak_ hE2
   have hlt':(i:Int) < fs.length:=by omega
   have HLT:=ak_ hlt
   have TT:=ak_ (test93_any wr b3 kind label f.label f.start f.loop (bs.getD i nilS) (pw_cell_below hM.out.hb E.out.1) (pw_cell_below hM.out.hb E.out.2))
   have hTf:T f=(decide (f.label=label) && (f.loop || decide (kind=5))):=by rw [HT.out]
   rw [<-hTf] at TT
   clear hTf hE hE2 hrec hf c0 c1 c2 c3
   cases hb:T f with
   | true =>
    rw [hb] at TT
    have HB:=ak_ (show (i:Int)=firstF T fs 0 by have:=HE.out;rwa [if_pos hb] at this)
    clear hb
    go_wp2_with (first
     | (go_at_call 93;refine TT.out.mono ?_;rintro e w5 ⟨rfl,hb5⟩;have M5:=ak_ (hM.out.below hb5);clear hb5))
    go_ret
    exact ⟨by rw [<-HB.out];rfl,M5.out.hb⟩
   | false =>
    rw [hb] at TT
    have HB:=ak_ (show firstF T (fs.drop (i+1)) (i+1)=firstF T fs 0 by have:=HE.out;rwa [if_neg (by rw [hb];decide)] at this)
    clear hb
    go_wp2_with (first
     | (go_at_call 93;refine TT.out.mono ?_;rintro e w5 ⟨rfl,hb5⟩;have M5:=ak_ (hM.out.below hb5);clear hb5))
    go_roundw
    case rel=>exact ⟨i+1,by go_num,by have:=HLT.out;omega,HB,M5⟩
    case measure=>have:=HLT.out;simp [intOf];omega
  ·obtain rfl:i=fs.length:=by omega
   have HB:=ak_ (show (-1:Int)=firstF T fs 0 by have:=hE.out;rwa [List.drop_length,firstF] at this)
   go_wp2
   go_ret
   exact ⟨by rw [<-HB.out];rfl,hM.out.hb⟩
end Go.Proofs.Ytfiiihpdekppiaa
end
