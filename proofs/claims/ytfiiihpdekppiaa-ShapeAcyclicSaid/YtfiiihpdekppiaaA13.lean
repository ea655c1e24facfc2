/- A part of the proof that vellumlaw12.ShapeAcyclic is true for every input: walks of functions that the row reaches and plain laws that they need. Conditions: none. Joined by merge.py out of C20 T12 S8; a part that began as a print is named P or W there and is trimmed. -/
import Derived.Test.YtfiiihpdekppiaaA6
import Derived.Test.YtfiiihpdekppiaaA10
import Derived.Test.YtfiiihpdekppiaaA12
set_option linter.unusedVariables false
set_option linter.unusedSimpArgs false
section
namespace Go.Proofs.Ytfiiihpdekppiaa
open PShapeReducible (S31 k31)
open Go.RowKit Go.Shelf Go.Proofs Go.Proofs.YtfiiihpdekppiaaW.PrintWords
open Go.ChangeMaps (setBlock heap_setBlock_same heap_setBlock_other)
attribute [local go_sem] Oper.semAt_some
def BuildIs (succ:List (List Int)) (node:List Int) (x:Sh):Prop:=∃ r d l e k s9,OrderIs succ r/\DominatorsIs succ d/\r.length<=1000000/\edgesF succ (posF r 0 []) r ([],[])=some (l,e)/\(∀ y∈r,0<=y/\y < d.length) /\
 bF ⟨succ,node,posF r 0 [],(mergeF e d r.reverse ([],[])).2,(mergeF e d r.reverse ([],[])).1⟩ k (.tree 0) ⟨l,[],0⟩=some (x,s9)
theorem nd2_list (N:Nat) (ord:List Int) (h:∀ y∈ord,0<=y/\y < N):∃ xs:List (Nd2 N),xs.length=ord.length/\(∀ k (hk:k < xs.length),(xs[k]).1=(ord.length - 1 - k,ord.getD (ord.length - 1 - k) 0))/\xs.map (fun x=>x.1.2)=ord.reverse:=by
 refine ⟨List.ofFn fun k:Fin ord.length=>⟨(ord.length - 1 - k,ord.getD (ord.length - 1 - k) 0),h _ (by
  rw [List.getD_eq_getElem?_getD,List.getElem?_eq_getElem (by omega)]
  exact List.getElem_mem _)⟩,by simp,fun k hk=>by simp,?_⟩
 apply List.ext_getElem?
 intro i
 by_cases hi:i < ord.length
 ·have h2:ord.length - 1 - i < ord.length:=by omega
  simp [hi,List.getD_eq_getElem?_getD,h2]
 ·rw [List.getElem?_eq_none (by simpa using Nat.le_of_not_lt hi),List.getElem?_eq_none (by simpa using Nat.le_of_not_lt hi)]
def vals2 {N:Nat} (l:List (Nd2 N)):List Int:=l.map fun x=>x.1.2
theorem mergeF_snoc (edges:List (Int × Int)) (dom:List Int):∀ (l:List Int) (x:Int) (s:List (Int × Bool) × List (Int × List Int)),mergeF edges dom (l++[x]) s=(if mI0 edges x > 1 then (mput (mergeF edges dom l s).1 x true,mput (mergeF edges dom l s).2 (dom.getD x.toNat 0) (kidsOf (mergeF edges dom l s).2 (dom.getD x.toNat 0)++[x])) else mergeF edges dom l s)
 | [],_,_=>rfl
 | y :: l,x,s=>by
  simp only [List.cons_append,mergeF]
  exact mergeF_snoc edges dom l x _
theorem cell_setBlock {w:World} {b:Nat} {o o':Obj} {p:Addr} {v:Value} (hb:w.heap[b]?=some o') (ho:o.isCells=false) (h:(setBlock w b o).cell? p=some v):w.cell? p=some v:=by
 by_cases e:p.block=b
 ·have:(setBlock w b o).heap[p.block]?=some o:=by rw [e];simp [setBlock,blk_lt' hb]
  unfold World.cell? at h
  rw [this] at h
  cases o <;> simp [Obj.isCells] at ho h
 ·have:(setBlock w b o).heap[p.block]?=w.heap[p.block]?:=by simp [setBlock,Ne.symm e]
  rwa [World.cell?_of_block (w:=w) this] at h
theorem kidsOf_put (kids:List (Int × List Int)) (a:Int) (x:List Int) (k:Int):kidsOf (mput kids a x) k=if k=a then x else kidsOf kids k:=by
 unfold kidsOf
 rw [mget_put]
 split <;> rfl
theorem mergeF_kids (edges:List (Int × Int)) (dom:List Int):∀ (l:List Int) (s:List (Int × Bool) × List (Int × List Int)) (k:Int),(kidsOf (mergeF edges dom l s).2 k).length<=(kidsOf s.2 k).length+l.length
 | [],s,k=>Nat.le_refl _
 | x :: l,s,k=>by
  simp only [mergeF,List.length_cons]
  split
  ·refine Nat.le_trans (mergeF_kids edges dom l _ k) ?_
   simp only [kidsOf_put]
   split
   ·rename_i h;rw [h];simp;omega
   ·omega
  ·exact Nat.le_trans (mergeF_kids edges dom l s k) (by omega)
theorem KeepsFrom.chg {B:Nat} {S:Nat->Prop} {W W':World} (h:Chg S W W') (hS:∀ k o,S k->B<=k->W.heap[k]?=some o->o.isCells=true):KeepsFrom B W W' :=
 ⟨h.size,fun k o hB hk ho=>(h.block k (blk_lt' hk) (fun hs=>by have:=hS k o hs hB hk;rw [ho] at this;cases this)).trans hk⟩
set_option maxRecDepth 100000 in
set_option maxHeartbeats 4000000 in
theorem build_any (w:World) (As An:Option Addr) (cs cn:Nat) (succ:List (List Int)) (node:List Int) (x:Sh) (hG:kG.C w As succ.length succ) (hcs:succ.length<=cs) (hN:kI.C w An node.length node) (h:BuildIs succ node x) :
  Calls Try.prog 42 #[.agg #[.slice As succ.length cs],.slice An node.length cn] w fun e w'=>∃ A c ok,e=.returned (.agg (shc x A c).toArray)/\Kd.FK k31 w' ok x (shc x A c)/\(∀ b,ok b->w.heap.size<=b)/\Below w.heap.size w w':=by
 obtain ⟨r,d,l,e,k,s9,hord,hdom,hrl,hed,hrd,hbf⟩:=h
 obtain ⟨hs0,hs6,⟨kv,hvd⟩,⟨ko,hoo⟩,kr,hrv⟩:=hord
 have hmm:=@run_makeMap Try.prog
 obtain ⟨b2,w1,z1,a1,M1⟩:=(Mem.start w).alloc (.cells #[.slice As succ.length cs] 27)
 obtain ⟨b4,w2,z2,a2,M2⟩:=M1.alloc (.cells shz.toArray 31)
 obtain ⟨b5,w3,z3,a3,M3⟩:=M2.alloc (.cells #[.int .i64 0] 3)
 have k5:=M3.cell (k:=2) (j:=0) rfl rfl
 have k6:=M3.free (k:=2) (j:=0) rfl
 obtain ⟨w3',s3,M3'⟩:=M3.set (k:=2) 0 rfl (.int .i64 0)
 have k2:=M3'.cell (k:=0) (j:=0) rfl rfl
 obtain ⟨bat,w4,z4,a4,M4⟩:=M3'.alloc (.map #[] 0)
 obtain ⟨bk,w5,z5,a5,M5⟩:=M4.newkm
 obtain ⟨bmg,w6,z6,a6,M6⟩:=M5.alloc (.map #[] 0)
 obtain ⟨blo,w7,z7,a7,M7⟩:=M6.alloc (.map #[] 0)
 obtain ⟨bbl,w8,z8,a8,M8⟩:=M7.alloc (.map #[] 0)
 obtain ⟨bb,w9,z9,a9,M9⟩:=M8.alloc (.cells #[.slice As succ.length cs,.slice An node.length cn,.map (some bat),.map (some bk),.map (some bmg),.map (some blo),.map (some bbl),.func (.func 64) #[] #[.pointer (some ⟨b5,0,none⟩)]] 116)
 obtain ⟨b6,w10,z10,a10,M10⟩:=M9.alloc (.cells #[.pointer (some ⟨bb,0,none⟩)] 112)
 have k3:=M10.cell (k:=0) (j:=0) rfl rfl
 have MM:=ak_ M10
 have HG:=ak_ hG
 have HN:=ak_ hN
 have HVD:=ak_ hvd
 have HOO:=ak_ hoo
 have HRV:=ak_ hrv
 have HDM:=ak_ hdom
 have HED:=ak_ hed
 have HRD:=ak_ hrd
 have HBF:=ak_ hbf
 clear M1 M2 M3 M3' M4 M5 M6 M7 M8 M9 M10 hG hN hvd hoo hrv hdom hed hrd hbf
 refine callsIn_wide.1 (callsIn_of_wp_marks (n:=5) Try.func42 rfl trivial ?_ rfl)
 refine wpIn_wide.2 ?_
 obtain ⟨Q',hQ'⟩:∃ Q',Q'=bodyPostM Fence.wide 5 Try.prog Try.f42 (fun e w'=>∃ A c ok,e=.returned (.agg (shc x A c).toArray)/\Kd.FK k31 w' ok x (shc x A c)/\(∀ b,ok b->w.heap.size<=b)/\Below w.heap.size w w'):=⟨_,rfl⟩
 rw [<-hQ']
 have HQ:=ak_ hQ'
 clear hQ'
 simp only [Try.ntmps42,List.size_toArray,List.length_cons,List.length_nil,Nat.reduceAdd,Nat.reduceSub,Array.replicate_succ,Array.replicate_zero,List.push_toArray,List.append_toArray,List.nil_append,List.cons_append]
 go_wp2_with (first
  | (go_at_call 41;refine (order_any w10 As cs succ ko kv kr r (Kd.C_below HG.out MM.out.hb) hcs hs6 hs0 HVD.out HOO.out HRV.out).mono ?_;rintro e w11 ⟨v7,rfl,hr11,hb11⟩;have ho11:=own_R hr11;obtain ⟨A7,c7,rfl⟩:=own_slice ho11;have M11:=ak_ (MM.out.newrow hb11 ho11 (fun k hk=>own_base ho11 k hk));clear hr11 hb11 ho11))
 have LP:=ak_ (show Mem w w11 [] [.blk b2 (.cells #[.slice As succ.length cs] 27 (0,0)),.blk b4 (.cells shz.toArray 31 (0,0)),.blk b5 (.cells #[.int .i64 (0:Nat)] 3 (0,0)),.blk bat (mI []),.km bk [] [],.blk bmg (mB []),.blk blo (mI []),.blk bbl (mI []),.blk bb (.cells #[.slice As succ.length cs,.slice An node.length cn,.map (some bat),.map (some bk),.map (some bmg),.map (some blo),.map (some bbl),.func (.func 64) #[] #[.pointer (some ⟨b5,0,none⟩)]] 116 (0,0)),.blk b6 (.cells #[.pointer (some ⟨bb,0,none⟩)] 112 (0,0)),.row (.slice A7 r.length c7) 3 1 r.length (nums .i64 r)] from M11.out)
 clear k5 k6 k2 k3 s3 hmm z1 z2 z3 z4 z5 z6 z7 z8 z9 z10 a1 a2 a3 a4 a5 a6 a7 a8 a9 a10 M11 MM
 obtain ⟨att,hatt⟩:∃ att,att=posF r 0 []:=⟨_,rfl⟩
 rw [<-hatt] at HED HBF
 have HED:=ak_ HED
 have HBF:=ak_ HBF
 have HATT:=ak_ hatt.symm
 clear hatt
 go_loopw [32] (fun t wr=>∃ (i:Nat) (m:List (Int × Int)),t=.int .i64 i/\i<=r.length/\Aside0 (posF (r.drop i) i m=att)/\Aside0 (Mem w wr [] [.blk b2 (.cells #[.slice As succ.length cs] 27 (0,0)),.blk b4 (.cells shz.toArray 31 (0,0)),.blk b5 (.cells #[.int .i64 (0:Nat)] 3 (0,0)),.blk bat (mI m),.km bk [] [],.blk bmg (mB []),.blk blo (mI []),.blk bbl (mI []),.blk bb (.cells #[.slice As succ.length cs,.slice An node.length cn,.map (some bat),.map (some bk),.map (some bmg),.map (some blo),.map (some bbl),.func (.func 64) #[] #[.pointer (some ⟨b5,0,none⟩)]] 116 (0,0)),.blk b6 (.cells #[.pointer (some ⟨bb,0,none⟩)] 112 (0,0)),.row (.slice A7 r.length c7) 3 1 r.length (nums .i64 r)])) (fun t _=>r.length - (intOf t).toNat)
 case atStart=>exact ⟨0,[],rfl,Nat.zero_le _,⟨by simpa using HATT.out⟩,LP⟩
 case round =>
  obtain ⟨i,m,rfl,hi,hA,hM⟩:=hrel
  have h1:=hA.out
  by_cases hlt:i < r.length
  ·obtain ⟨y,hy⟩:∃ y,y=r.getD i 0:=⟨_,rfl⟩
   rw [List.drop_eq_getElem_cons hlt,show r[i]=y by simp [hy,List.getD_eq_getElem?_getD,hlt]] at h1
   obtain ⟨bo,co,e8,c8⟩:=hM.out.rowNum (k:=10) rfl rfl hlt
   simp only [Value.slice.injEq,true_and] at e8
   obtain ⟨rfl,rfl⟩:=e8
   rw [<-hy] at c8
   have k1:=hM.out.cell (k:=9) (j:=0) rfl rfl
   have k2:=hM.out.cell (k:=8) (j:=2) rfl rfl
   obtain ⟨w12,p12,M12⟩:=hM.out.putI (k:=3) rfl y i
   have H1:=ak_ h1
   have M12:=ak_ M12
   have hlt':(i:Int) < r.length:=by omega
   clear hy h1 hA
   go_wp2
   go_roundw
   case rel=>exact ⟨i+1,mput m y i,by go_num,by omega,H1,M12⟩
   case measure=>simp [intOf];omega
  ·obtain rfl:r.length=i:=by omega
   rw [List.drop_length] at h1
   simp only [posF] at h1
   subst h1
   have hmm:=@run_makeMap Try.prog
   obtain ⟨be,w12,z12,a12,M12⟩:=hM.out.alloc (.map #[] 0)
   obtain ⟨b10,w13,z13,a13,M13⟩:=M12.alloc (.cells #[.map (some be)] 97)
   have LP2:=ak_ (show Mem w w13 [] [.blk b2 (.cells #[.slice As succ.length cs] 27 (0,0)),.blk b4 (.cells shz.toArray 31 (0,0)),.blk b5 (.cells #[.int .i64 (0:Nat)] 3 (0,0)),.blk bat (mI m),.km bk [] [],.blk bmg (mB []),.blk blo (mI []),.blk bbl (mI []),.blk bb (.cells #[.slice As succ.length cs,.slice An node.length cn,.map (some bat),.map (some bk),.map (some bmg),.map (some blo),.map (some bbl),.func (.func 64) #[] #[.pointer (some ⟨b5,0,none⟩)]] 116 (0,0)),.blk b6 (.cells #[.pointer (some ⟨bb,0,none⟩)] 112 (0,0)),.row (.slice A7 r.length c7) 3 1 r.length (nums .i64 r),.blk be (mI []),.blk b10 (.cells #[.map (some be)] 97 (0,0))] from M13)
   clear M12 M13 hM LP
   go_wp2
   clear hmm z12 z13 a12 a13
   go_loopw [47] (fun t wr=>∃ (i:Nat) (s:List (Int × Int) × List (Int × Int)),t=.int .i64 i/\i<=r.length/\Aside0 (edgesF succ m (r.drop i) s=some (l,e))/\Aside0 (Mem w wr [] [.blk b2 (.cells #[.slice As succ.length cs] 27 (0,0)),.blk b4 (.cells shz.toArray 31 (0,0)),.blk b5 (.cells #[.int .i64 (0:Nat)] 3 (0,0)),.blk bat (mI m),.km bk [] [],.blk bmg (mB []),.blk blo (mI s.1),.blk bbl (mI []),.blk bb (.cells #[.slice As succ.length cs,.slice An node.length cn,.map (some bat),.map (some bk),.map (some bmg),.map (some blo),.map (some bbl),.func (.func 64) #[] #[.pointer (some ⟨b5,0,none⟩)]] 116 (0,0)),.blk b6 (.cells #[.pointer (some ⟨bb,0,none⟩)] 112 (0,0)),.row (.slice A7 r.length c7) 3 1 r.length (nums .i64 r),.blk be (mI s.2),.blk b10 (.cells #[.map (some be)] 97 (0,0))])) (fun t _=>r.length - (intOf t).toNat)
   case atStart=>exact ⟨0,([],[]),rfl,Nat.zero_le _,⟨by simpa using HED.out.out⟩,LP2⟩
   case round =>
    obtain ⟨i,s,rfl,hi,hA,hM⟩:=hrel
    have h1:=hA.out
    by_cases hlt:i < r.length
    ·obtain ⟨y,hy⟩:∃ y,y=r.getD i 0:=⟨_,rfl⟩
     rw [List.drop_eq_getElem_cons hlt,show r[i]=y by simp [hy,List.getD_eq_getElem?_getD,hlt]] at h1
     simp only [edgesF] at h1
     by_cases hg:(0<=y/\y < succ.length)/\(succ.getD y.toNat []).length<=1000000000
     ·rw [if_pos hg] at h1
      obtain ⟨⟨hy0,hy1⟩,hll⟩:=hg
      obtain ⟨y,rfl⟩:=Int.eq_ofNat_of_zero_le hy0
      rw [Int.toNat_natCast] at h1 hll
      obtain ⟨s1,hs1,h1⟩:=Option.bind_eq_some_iff.1 h1
      obtain ⟨ls,hls⟩:∃ ls,ls=succ.getD y []:=⟨_,rfl⟩
      obtain ⟨ads,A0,c0,hAs,g1,g2,g3⟩:=C_row HG.out y (by omega)
      rw [<-hls] at hs1 g1 g2 g3 hll
      obtain ⟨bo,co,e8,c8⟩:=hM.out.rowNum (k:=10) rfl rfl hlt
      simp only [Value.slice.injEq,true_and] at e8
      obtain ⟨rfl,rfl⟩:=e8
      rw [<-hy] at c8
      have k1:wr.cell? ⟨b2,0,none⟩=some (.slice (some ads) succ.length cs):=by rw [<-hAs];exact hM.out.cell (k:=0) (j:=0) rfl rfl
      have k2:=pw_cell_below hM.out.hb g1
      have HS1:=ak_ hs1
      have H1:=ak_ h1
      have G3:=ak_ g3
      have hlt':(i:Int) < r.length:=by omega
      have hy1':(y:Int) < succ.length:=hy1
      clear hy h1 hA hs1 hls g1 g3 hAs
      go_wp2
      clear k1 k2 c8
      obtain ⟨wo,hwo⟩:∃ wo:World,wo=wr:=⟨_,rfl⟩
      subst hwo
      go_loopw [57] (fun t wq=>∃ (j:Nat) (s':List (Int × Int) × List (Int × Int)),t=.int .i64 j/\j<=ls.length/\Aside0 (edgeF m y (ls.drop j) s'=some s1)/\Aside0 (Mem w wq [] [.blk b2 (.cells #[.slice As succ.length cs] 27 (0,0)),.blk b4 (.cells shz.toArray 31 (0,0)),.blk b5 (.cells #[.int .i64 (0:Nat)] 3 (0,0)),.blk bat (mI m),.km bk [] [],.blk bmg (mB []),.blk blo (mI s'.1),.blk bbl (mI []),.blk bb (.cells #[.slice As succ.length cs,.slice An node.length cn,.map (some bat),.map (some bk),.map (some bmg),.map (some blo),.map (some bbl),.func (.func 64) #[] #[.pointer (some ⟨b5,0,none⟩)]] 116 (0,0)),.blk b6 (.cells #[.pointer (some ⟨bb,0,none⟩)] 112 (0,0)),.row (.slice (some ⟨bo,0,none⟩) r.length c7) 3 1 r.length (nums .i64 r),.blk be (mI s'.2),.blk b10 (.cells #[.map (some be)] 97 (0,0))])) (fun t _=>ls.length - (intOf t).toNat)
      case atStart=>exact ⟨0,s,rfl,Nat.zero_le _,⟨by simpa using HS1.out⟩,hM⟩
      case round =>
       obtain ⟨j,s',rfl,hj,hE,hM2⟩:=hrel
       have h2:=hE.out
       by_cases hjl:j < ls.length
       ·obtain ⟨z,hz⟩:∃ z,z=ls.getD j 0:=⟨_,rfl⟩
        rw [List.drop_eq_getElem_cons hjl,show ls[j]=z by simp [hz,List.getD_eq_getElem?_getD,hjl]] at h2
        simp only [edgeF] at h2
        obtain ⟨adl,rfl,e1⟩:=C_num (Kd.C_below G3.out hM2.out.hb) j hjl
        rw [<-hz] at e1
        have hjl':(j:Int) < ls.length:=by omega
        obtain ⟨wd,zd,MD⟩:=hM2.out.drew
        have k1:=MD.cell (k:=9) (j:=0) rfl rfl
        have k2:=MD.cell (k:=8) (j:=2) rfl rfl
        have L1:=look_I (MD.blk (k:=3) rfl) z
        have L2:=look_I (MD.blk (k:=3) rfl) y
        clear hz hE
        by_cases hle:mI0 m z<=mI0 m y
        ·rw [if_pos hle] at h2
         have k3:=MD.cell (k:=8) (j:=5) rfl rfl
         obtain ⟨w15,p15,M15⟩:=MD.putI (k:=6) rfl z (-1)
         have H2:=ak_ h2
         have M15:=ak_ M15
         clear h2 MD
         go_wp2_with (first | (rw [zd]) | (refine wp_region_txt (fun _=>True) [] (by kernel_rfl) (by kernel_rfl) ?_) | (with_reducible refine wpT_nil ?_) | (refine wpT_W (v:=?_) trivial (by decide) (wn_ rfl) (fun _ hS_=>?_) ?_;rotate_left;(focus ((try dsimp only at hS_);go_simp;rfl));(simp only [Act.put,sA_,sB_,sC_])) | (refine wpT_R (v:=?_) trivial (by decide) (wn_ rfl) ?_ ?_;rotate_left;(focus (go_simp;rfl));(simp only [Act.put,sA_,sB_,sC_])) | (refine wpT_A (v:=?_) (ob:=?_) trivial (by decide) (wn_ rfl) ?_ ?_ ?_;rotate_left 2;(focus (go_simp;first | (constructor <;> rfl) | rfl));(focus (exact trivial));(simp only [Act.put,sA_,sB_,sC_])))
         go_roundw
         case rel=>exact ⟨j+1,(mput s'.1 z (-1),s'.2),by go_num,by omega,H2,M15⟩
         case measure=>simp [intOf];omega
        ·rw [if_neg hle] at h2
         by_cases hg2:0<=mI0 s'.2 z/\mI0 s'.2 z<=1000000000
         ·rw [if_pos hg2] at h2
          obtain ⟨hg3,hg4⟩:=hg2
          have k3:=MD.cell (k:=12) (j:=0) rfl rfl
          have L3:=look_I (MD.blk (k:=11) rfl) z
          obtain ⟨c,hc⟩:∃ c,c=mI0 s'.2 z:=⟨_,rfl⟩
          rw [<-hc] at L3 h2 hg3 hg4
          obtain ⟨w15,p15,M15⟩:=MD.putI (k:=11) rfl z (c+1)
          have H2:=ak_ h2
          have M15:=ak_ M15
          clear h2 MD hc
          go_wp2_with (first | (rw [zd]) | (refine wp_region_txt (fun _=>True) [] (by kernel_rfl) (by kernel_rfl) ?_) | (with_reducible refine wpT_nil ?_) | (refine wpT_W (v:=?_) trivial (by decide) (wn_ rfl) (fun _ hS_=>?_) ?_;rotate_left;(focus ((try dsimp only at hS_);go_simp;rfl));(simp only [Act.put,sA_,sB_,sC_])) | (refine wpT_R (v:=?_) trivial (by decide) (wn_ rfl) ?_ ?_;rotate_left;(focus (go_simp;rfl));(simp only [Act.put,sA_,sB_,sC_])) | (refine wpT_A (v:=?_) (ob:=?_) trivial (by decide) (wn_ rfl) ?_ ?_ ?_;rotate_left 2;(focus (go_simp;first | (constructor <;> rfl) | rfl));(focus (exact trivial));(simp only [Act.put,sA_,sB_,sC_])))
          go_roundw
          case rel=>exact ⟨j+1,(s'.1,mput s'.2 z (c+1)),by go_num,by omega,H2,M15⟩
          case measure=>simp [intOf];omega
         ·rw [if_neg hg2] at h2;cases h2
       ·obtain rfl:ls.length=j:=by omega
        rw [List.drop_length] at h2
        simp only [edgeF,Option.some.injEq] at h2
        subst h2
        go_wp2
        go_roundw
        case rel=>exact ⟨i+1,s',by go_num,by omega,H1,hM2⟩
        case measure=>simp [intOf];omega
     ·rw [if_neg hg] at h1;cases h1
    ·obtain rfl:r.length=i:=by omega
     rw [List.drop_length] at h1
     simp only [edgesF,Option.some.injEq] at h1
     subst h1
     have k1:=hM.out.cell (k:=0) (j:=0) rfl rfl
     clear hA LP2
     go_wp2_with (first
      | (go_at_call 65;refine (dominators_is wr As cs succ d (Kd.C_below HG.out hM.out.hb) hcs HDM.out).mono ?_;rintro e w15 ⟨vd,rfl,hr15,hb15⟩;have ho15:=own_R hr15;obtain ⟨Ad,cd,rfl⟩:=own_slice ho15;have M15:=hM.out.newrow hb15 ho15 (fun k hk=>own_base ho15 k hk);obtain ⟨b15,w16,z16,a16,M16⟩:=M15.alloc (.cells #[.slice Ad d.length cd] 23);have M16:=ak_ M16;clear hr15 hb15 ho15 M15)
      | (go_at_call 66;refine (backward_any w16 A7 r.length c7).mono ?_;rintro e w17 ⟨rfl,hw17⟩;obtain ⟨b17,w18,z18,a18,M18⟩:=M16.out.alloc (.cells #[.slice A7 r.length c7] 23);rw [a18] at hw17;subst hw17;rw [z18];have M18:=ak_ M18))
     obtain ⟨W0,hW0⟩:∃ W0,W0=w17:=⟨_,rfl⟩
     rw [<-hW0] at M18 ⊢
     have hz18:b17 < W0.heap.size:=blk_lt' (M18.out.blk (k:=15) rfl)
     have q2:=blk_lt' (M18.out.blk (k:=0) rfl)
     have q4:=blk_lt' (M18.out.blk (k:=1) rfl)
     have q5:=blk_lt' (M18.out.blk (k:=2) rfl)
     have qat:=blk_lt' (M18.out.blk (k:=3) rfl)
     have qk:=blk_lt' (M18.out.km (k:=4) rfl).1
     have qmg:=blk_lt' (M18.out.blk (k:=5) rfl)
     have qlo:=blk_lt' (M18.out.blk (k:=6) rfl)
     have qbl:=blk_lt' (M18.out.blk (k:=7) rfl)
     have qbb:=blk_lt' (M18.out.blk (k:=8) rfl)
     have q6:=blk_lt' (M18.out.blk (k:=9) rfl)
     have qe:=blk_lt' (M18.out.blk (k:=11) rfl)
     have q10:=blk_lt' (M18.out.blk (k:=12) rfl)
     have q15:=blk_lt' (M18.out.blk (k:=14) rfl)
     have hsolid:∀ (vs:List Value) (st:List (Int × Bool) × List (Int × List Int)),∀ c∈([.blk b2 (.cells #[.slice As succ.length cs] 27 (0,0)),.blk b4 (.cells shz.toArray 31 (0,0)),.blk b5 (.cells #[.int .i64 (0:Nat)] 3 (0,0)),.blk bat (mI m),.km bk vs st.2,.blk bmg (mB st.1),.blk blo (mI l),.blk bbl (mI []),.blk bb (.cells #[.slice As succ.length cs,.slice An node.length cn,.map (some bat),.map (some bk),.map (some bmg),.map (some blo),.map (some bbl),.func (.func 64) #[] #[.pointer (some ⟨b5,0,none⟩)]] 116 (0,0)),.blk b6 (.cells #[.pointer (some ⟨bb,0,none⟩)] 112 (0,0)),.row (.slice A7 r.length c7) 3 1 r.length (nums .i64 r),.blk be (mI e),.blk b10 (.cells #[.map (some be)] 97 (0,0)),.row (.slice Ad d.length cd) 3 1 d.length (nums .i64 d),.blk b15 (.cells #[.slice Ad d.length cd] 23 (0,0)),.blk b17 (.cells #[.slice A7 r.length c7] 23 (0,0))]:List Pc)++[],Solid W0.heap.size c:=by
      intro vs st c hc
      simp only [List.append_nil,List.mem_cons,List.not_mem_nil,or_false] at hc
      rcases hc with rfl | rfl | rfl | rfl | rfl | rfl | rfl | rfl | rfl | rfl | rfl | rfl | rfl | rfl | rfl | rfl
      all_goals first
       | exact Solid.row
       | exact Solid.km qk
       | exact Solid.blk (by assumption)
     have HSO:=ak_ hsolid
     obtain ⟨xs,hxl,hxs,hxr⟩:=nd2_list d.length r HRD.out
     have hcap:∀ W',Bel W0.heap.size (fun k=>k=bmg∨k=bk) W0 W'->W'.cell? ⟨b17,0,none⟩=some (.slice A7 r.length c7):=fun W' hb=>by
      refine hb.cell hz18 ?_ (M18.out.cell (k:=15) (j:=0) rfl rfl)
      rintro (e | e)
      ·exact blk_ne_map (M18.out.blk (k:=15) rfl) (M18.out.blk (k:=5) rfl) e
      ·exact blk_ne_map (M18.out.blk (k:=15) rfl) (M18.out.km (k:=4) rfl).1 e
     have hrow:∀ W',Bel W0.heap.size (fun k=>k=bmg∨k=bk) W0 W'->kI.C W' A7 r.length r:=fun W' hb=>by
      have ho:=M18.out.row (k:=10) rfl
      have ho':=own_move (w1:=W') ho (fun k hk=>hb.block k (own_lt ho k hk) (by
       obtain ⟨cs,hc⟩:=own_typed ho k hk
       rintro (e | e)
       ·exact blk_ne_map hc (M18.out.blk (k:=5) rfl) e
       ·exact blk_ne_map hc (M18.out.km (k:=4) rfl).1 e))
      obtain ⟨A',c',e',_,hC'⟩:=own_C ho'
      simp only [Value.slice.injEq,true_and] at e'
      obtain ⟨rfl,rfl⟩:=e'
      exact hC'
     have hSEQ:=backward_stops 3 b17 W0.heap.size (fun k=>k=bmg∨k=bk) d.length A7 c7 r xs hxl hxs W0 (Nat.le_refl _) hcap hrow
     have SEQ:=ak_ hSEQ
     have HXR:=ak_ hxr
     have hw0:=M18.out.size
     have hI0:W0.heap.size<=W0.heap.size/\∃ vs,(∀ v∈vs,∀ k,v.ownBlock=some k->W0.heap.size<=k)/\Mem w W0 [] [.blk b2 (.cells #[.slice As succ.length cs] 27 (0,0)),.blk b4 (.cells shz.toArray 31 (0,0)),.blk b5 (.cells #[.int .i64 (0:Nat)] 3 (0,0)),.blk bat (mI m),.km bk vs ((mergeF e d (vals2 ([]:List (Nd2 d.length))) ([],[]))).2,.blk bmg (mB ((mergeF e d (vals2 ([]:List (Nd2 d.length))) ([],[]))).1),.blk blo (mI l),.blk bbl (mI []),.blk bb (.cells #[.slice As succ.length cs,.slice An node.length cn,.map (some bat),.map (some bk),.map (some bmg),.map (some blo),.map (some bbl),.func (.func 64) #[] #[.pointer (some ⟨b5,0,none⟩)]] 116 (0,0)),.blk b6 (.cells #[.pointer (some ⟨bb,0,none⟩)] 112 (0,0)),.row (.slice A7 r.length c7) 3 1 r.length (nums .i64 r),.blk be (mI e),.blk b10 (.cells #[.map (some be)] 97 (0,0)),.row (.slice Ad d.length cd) 3 1 d.length (nums .i64 d),.blk b15 (.cells #[.slice Ad d.length cd] 23 (0,0)),.blk b17 (.cells #[.slice A7 r.length c7] 23 (0,0))]:=⟨Nat.le_refl _,[],by simp,M18.out⟩
     have HI0:=ak_ hI0
     clear hSEQ hxs hxr hxl hcap hrow hI0 hsolid k1 hW0
     refine (wpIn_wide (n:=5)).1 ?_
     refine wpIn_rangeFunc_ownG (F:=Fence.wide) (n:=5) rfl (by decide) (gf:=85) (lb:=#[.pointer (some ⟨b17,0,none⟩)]) rfl trivial (enters_of Try.func85 (by kernel_rfl) rfl)
      SEQ.out
      (fun h k=>h.trans k) (fun W l o o' hl _ _ _=>(Bel.refl _ _ _).putObj hl o') (Below.refl _ _) (fun _=>rfl)
      (fun pre W=>W0.heap.size<=W.heap.size/\∃ vs,(∀ v∈vs,∀ k,v.ownBlock=some k->W0.heap.size<=k)/\Mem w W [] [.blk b2 (.cells #[.slice As succ.length cs] 27 (0,0)),.blk b4 (.cells shz.toArray 31 (0,0)),.blk b5 (.cells #[.int .i64 (0:Nat)] 3 (0,0)),.blk bat (mI m),.km bk vs (mergeF e d (vals2 pre) ([],[])).2,.blk bmg (mB (mergeF e d (vals2 pre) ([],[])).1),.blk blo (mI l),.blk bbl (mI []),.blk bb (.cells #[.slice As succ.length cs,.slice An node.length cn,.map (some bat),.map (some bk),.map (some bmg),.map (some blo),.map (some bbl),.func (.func 64) #[] #[.pointer (some ⟨b5,0,none⟩)]] 116 (0,0)),.blk b6 (.cells #[.pointer (some ⟨bb,0,none⟩)] 112 (0,0)),.row (.slice A7 r.length c7) 3 1 r.length (nums .i64 r),.blk be (mI e),.blk b10 (.cells #[.map (some be)] 97 (0,0)),.row (.slice Ad d.length cd) 3 1 d.length (nums .i64 d),.blk b15 (.cells #[.slice Ad d.length cd] 23 (0,0)),.blk b17 (.cells #[.slice A7 r.length c7] 23 (0,0))]) (fun _ _ _=>False)
      (fun pre W W' row hs hg hr=>by obtain ⟨hz,vs,hv,hM⟩:=hs;exact ⟨Nat.le_trans hz hg.size,vs,hv,hM.otherRow (HSO.out vs _) hw0 hg hr⟩) (fun _ _ _ _ _ h _ _=>h) HI0.out ?a1 ?assign ?body ?done ?stop
     case assign =>
      intro l x W K hK
      have he:∀ (t:Array Value),(#[89,90].zip (enc2 x)).foldl (fun t (p,v)=>t.setIfInBounds p v) t=(t.setIfInBounds 89 (.int .i64 x.1.1)).setIfInBounds 90 (.int .i64 x.1.2):=fun t=>by simp [enc2]
      rw [he]
      simp only [List.setIfInBounds_toArray,List.set_cons_zero,List.set_cons_succ]
      gi_wp2
      exact hK
     case stop=>exact fun _ _ _ _ _ _ h=>h.elim
     case done =>
      rintro D ys W hDge rfl hI hK
      obtain ⟨hz,vs,hvs,hM⟩:=hI
      have hvals:vals2 ys=r.reverse:=HXR.out
      rw [hvals] at hM
      have M1:=hM.mark (HSO.out vs _) hw0 hDge hK rfl
      have k1:=M1.cell (k:=9) (j:=0) rfl rfl
      have M1:=ak_ M1
      clear hM hvals hvs hK hz
      go_wp2_with (go_at_call 67;refine ((builder_any w ⟨bb,bat,bk,bmg,blo,bbl,b5,As,An,cs,cn,vs⟩ ⟨succ,node,m,(mergeF e d r.reverse ([],[])).2,(mergeF e d r.reverse ([],[])).1⟩ HG.out HN.out k).1 0 ⟨l,[],0⟩ (x,s9) W _ (M1.out.focus [8,3,4,5,6,7,2] rfl) HBF.out.out).mono ?_;rintro e' w20 ⟨A2,c2,ok2,rfl,M2⟩;obtain ⟨y1,y2,y3,y4,ys',yc,yf,M3⟩:=(M2.wide).fill4 (k:=9) rfl (.int .i64 x.f0) (.int .i64 x.f1) (.int .i64 x.f2) (.slice A2 x.f3.length c2);have M3:=ak_ M3;clear M2)
      rw [HQ.out]
      refine ⟨by simp,.inl ⟨D,_,rfl,run_takeDeferred (M3.out.blk (k:=17) rfl),?_⟩⟩
      have M4:=M3.out.putO (k:=17) rfl (.deferred none)
      exact ⟨_,results_cell_row rfl _ _ b4 31 (shc x A2 c2).toArray (0,0) _ rfl (M4.blk (k:=9) rfl) Try.underlying31 rfl (by kernel_rfl),A2,c2,ok2,rfl,M4.fk (k:=7) rfl,M4.base (k:=7) rfl,M4.hb⟩
     case body =>
      rintro l' pre ⟨⟨ix,y⟩,hy0,hyN⟩ W ⟨hbelow,vs,hvs,hM⟩ hlen
      have hy0:0<=y:=hy0
      have hyN:y < d.length:=hyN
      obtain ⟨y,rfl⟩:=Int.eq_ofNat_of_zero_le hy0
      have hsn:vals2 (pre++[(⟨(ix,(y:Int)),hy0,hyN⟩:Nd2 d.length)])=vals2 pre++[(y:Int)]:=by simp [vals2]
      have hpl:(vals2 pre).length<=r.length:=by
       have:xs.length=r.length:=by have:=congrArg List.length HXR.out;simpa using this
       simp [vals2];omega
      have hfold:=mergeF_snoc e d (vals2 pre) (y:Int) ([],[])
      rw [<-hsn] at hfold
      obtain ⟨st,hst⟩:∃ st,st=mergeF e d (vals2 pre) ([],[]):=⟨_,rfl⟩
      have hkl:∀ k,(kidsOf st.2 k).length<=1000000:=fun k=>by rw [hst];exact Nat.le_trans (mergeF_kids e d _ _ k) (by simp [kidsOf,mget];omega)
      rw [<-hst] at hM hfold
      have k1:=hM.cell (k:=12) (j:=0) rfl rfl
      have L1:=look_I (hM.blk (k:=11) rfl) y
      have MB:=ak_ hM
      have HVS:=ak_ hvs
      have HKL:=ak_ hkl
      clear hM hvs hsn hpl hst hlen hkl
      by_cases hgt:mI0 e y > 1
      ·rw [if_pos hgt] at hfold
       obtain ⟨c,hc⟩:∃ c,c=mI0 e y:=⟨_,rfl⟩
       rw [<-hc] at L1 hgt
       obtain ⟨dv,hdv⟩:∃ dv,dv=d.getD y 0:=⟨_,rfl⟩
       rw [Int.toNat_natCast,<-hdv] at hfold
       have HFO:=ak_ hfold
       clear hfold
       obtain ⟨bd,cdd,e8,c8⟩:=MB.out.rowNum (k:=13) (i:=y) rfl rfl (by omega)
       simp only [Value.slice.injEq,true_and] at e8
       obtain ⟨rfl,rfl⟩:=e8
       have k2:=MB.out.cell (k:=9) (j:=0) rfl rfl
       have k3:=MB.out.cell (k:=8) (j:=4) rfl rfl
       have p1:=put_B (MB.out.blk (k:=5) rfl) y true
       obtain ⟨W1,hW1⟩:∃ W1,W1=setBlock W bmg (mB (mput st.1 y true)):=⟨_,rfl⟩
       have M1:=MB.out.put (k:=5) rfl (mB (mput st.1 y true))
       rw [<-hW1] at p1 M1
       obtain ⟨W2,hW2⟩:∃ W2,W1.drew=W2:=⟨_,rfl⟩
       have M2:Mem w W2 [] [.blk b2 (.cells #[.slice As succ.length cs] 27 (0,0)),.blk b4 (.cells shz.toArray 31 (0,0)),.blk b5 (.cells #[.int .i64 (0:Nat)] 3 (0,0)),.blk bat (mI m),.km bk vs (mput st.1 y true,st.2).2,.blk bmg (mB (mput st.1 y true,st.2).1),.blk blo (mI l),.blk bbl (mI []),.blk bb (.cells #[.slice As succ.length cs,.slice An node.length cn,.map (some bat),.map (some bk),.map (some bmg),.map (some blo),.map (some bbl),.func (.func 64) #[] #[.pointer (some ⟨b5,0,none⟩)]] 116 (0,0)),.blk b6 (.cells #[.pointer (some ⟨bb,0,none⟩)] 112 (0,0)),.row (.slice A7 r.length c7) 3 1 r.length (nums .i64 r),.blk be (mI e),.blk b10 (.cells #[.map (some be)] 97 (0,0)),.row (.slice (some ⟨bd,0,none⟩) d.length cd) 3 1 d.length (nums .i64 d),.blk b15 (.cells #[.slice (some ⟨bd,0,none⟩) d.length cd] 23 (0,0)),.blk b17 (.cells #[.slice A7 r.length c7] 23 (0,0))]:=by rw [<-hW2];exact M1.below (Below.refl _ _).drew
       obtain ⟨Ak,ck,hkv,hkc⟩:=kids_slice (M2.km (k:=4) rfl).2 dv
       have hS:∀ (W3:World) (vs3:List Value) (st3:List (Int × Bool) × List (Int × List Int)),Mem w W3 [] [.blk b2 (.cells #[.slice As succ.length cs] 27 (0,0)),.blk b4 (.cells shz.toArray 31 (0,0)),.blk b5 (.cells #[.int .i64 (0:Nat)] 3 (0,0)),.blk bat (mI m),.km bk vs3 st3.2,.blk bmg (mB st3.1),.blk blo (mI l),.blk bbl (mI []),.blk bb (.cells #[.slice As succ.length cs,.slice An node.length cn,.map (some bat),.map (some bk),.map (some bmg),.map (some blo),.map (some bbl),.func (.func 64) #[] #[.pointer (some ⟨b5,0,none⟩)]] 116 (0,0)),.blk b6 (.cells #[.pointer (some ⟨bb,0,none⟩)] 112 (0,0)),.row (.slice A7 r.length c7) 3 1 r.length (nums .i64 r),.blk be (mI e),.blk b10 (.cells #[.map (some be)] 97 (0,0)),.row (.slice (some ⟨bd,0,none⟩) d.length cd) 3 1 d.length (nums .i64 d),.blk b15 (.cells #[.slice (some ⟨bd,0,none⟩) d.length cd] 23 (0,0)),.blk b17 (.cells #[.slice A7 r.length c7] 23 (0,0))]->(W3.cell? ⟨b6,0,none⟩=some (.pointer (some ⟨bb,0,none⟩))/\W3.cell? ⟨bb,3,none⟩=some (.map (some bk))/\W3.cell? ⟨b15,0,none⟩=some (.slice (some ⟨bd,0,none⟩) d.length cd)/\W3.cell? ⟨bd,y,none⟩=some (.int .i64 dv)):=fun W3 vs3 st3 M3=>by
        refine ⟨M3.cell (k:=9) rfl rfl,M3.cell (k:=8) rfl rfl,M3.cell (k:=14) rfl rfl,?_⟩
        obtain ⟨bd',cd',e9,c9⟩:=M3.rowNum (k:=13) (i:=y) rfl rfl (by omega)
        simp only [Value.slice.injEq,Option.some.injEq,Addr.mk.injEq,and_true,true_and] at e9
        rw [e9.1,c9,hdv]
       have j0:=hS W2 vs (mput st.1 y true,st.2) M2
       have HS:=ak_ hS
       have M2:=ak_ M2
       have HW:=ak_ (And.intro hW1 hW2)
       have HKV:=ak_ hkv
       have hyd:(y:Int) < d.length:=hyN
       have hgt':(1:Int) < c:=hgt
       clear hW1 M1 hS hkv hdv c8 hc
       gi_wp2_with (first | (rw [hW2]) | (refine wpIn_region_txt (fun W3=>W3.cell? ⟨b6,0,none⟩=some (.pointer (some ⟨bb,0,none⟩))/\W3.cell? ⟨bb,3,none⟩=some (.map (some bk))/\W3.cell? ⟨b15,0,none⟩=some (.slice (some ⟨bd,0,none⟩) d.length cd)/\W3.cell? ⟨bd,y,none⟩=some (.int .i64 dv)) [0,3,4,7,2016] (by kernel_rfl) (by kernel_rfl) (by kernel_rfl) ?_))
       iterate 16 ((first | (with_reducible refine wpT_nil ?_) | (refine wpT_W (v:=?_) (by assumption) (by decide) (wn_ rfl) (fun _ hS_=>?_) ?_;rotate_left;(focus ((try dsimp only at hS_);go_simp;rfl))) | (refine wpT_R (v:=?_) (by assumption) (by decide) (wn_ rfl) ?_ ?_;rotate_left;(focus (go_simp;rfl))) | (refine wpT_A (v:=?_) (ob:=?_) (by assumption) (by decide) (wn_ rfl) ?_ ?_ ?_;rotate_left 2;(focus (go_simp;first | (constructor <;> rfl) | rfl));(focus (apply cell_alloc;assumption))));(try simp only [Act.put,sA_,sB_,sC_]))
       have hlk:∀ W',Ext W2 W'->(Instr.lookup 113 (.map (some bk)) (.int .i64 dv) false).run Try.prog W'=.ok (.slice Ak (kidsOf st.2 dv).length ck) W':=fun W' hx=>by
        rw [run_look Try.underlying113 Try.underlying3 ((hx.2 bk (blk_lt' (M2.out.km (k:=4) rfl).1)).trans (M2.out.km (k:=4) rfl).1) zero23]
        rw [<-HKV.out]
        rfl
       refine wpT_E (v:=.slice Ak (kidsOf st.2 dv).length ck) j0 (by decide) (wn_ rfl) (fun W' hx=>?_) ?_
       ·have hlk':=hlk W' hx
        clear hlk
        go_simp
       simp only [Act.put,List.setIfInBounds_toArray,List.set_cons_zero,List.set_cons_succ]
       clear hlk
       ((first | (with_reducible refine wpT_nil ?_) | (refine wpT_W (v:=?_) (by assumption) (by decide) (wn_ rfl) (fun _ hS_=>?_) ?_;rotate_left;(focus ((try dsimp only at hS_);go_simp;rfl))) | (refine wpT_R (v:=?_) (by assumption) (by decide) (wn_ rfl) ?_ ?_;rotate_left;(focus (go_simp;rfl))) | (refine wpT_A (v:=?_) (ob:=?_) (by assumption) (by decide) (wn_ rfl) ?_ ?_ ?_;rotate_left 2;(focus (go_simp;first | (constructor <;> rfl) | rfl));(focus (apply cell_alloc;assumption))));(try simp only [Act.put,sA_,sB_,sC_]))
       have jA:(W2.alloc (.cells #[.int .i64 (y:Int)] 3)).cell? ⟨b6,0,none⟩=some (.pointer (some ⟨bb,0,none⟩))/\(W2.alloc (.cells #[.int .i64 (y:Int)] 3)).cell? ⟨bb,3,none⟩=some (.map (some bk))/\(W2.alloc (.cells #[.int .i64 (y:Int)] 3)).cell? ⟨b15,0,none⟩=some (.slice (some ⟨bd,0,none⟩) d.length cd)/\(W2.alloc (.cells #[.int .i64 (y:Int)] 3)).cell? ⟨bd,y,none⟩=some (.int .i64 dv):=⟨cell_alloc _ j0.1,cell_alloc _ j0.2.1,cell_alloc _ j0.2.2.1,cell_alloc _ j0.2.2.2⟩
       refine wpT_A (v:=.slice (some ⟨W2.heap.size,0,none⟩) 1 1) (ob:=.cells #[.int .i64 (y:Int)] 3) j0 (by decide) (wn_ rfl) (by go_simp;first | done | rfl | (constructor <;> rfl)) jA ?_
       simp only [Act.put,List.setIfInBounds_toArray,List.set_cons_zero,List.set_cons_succ]
       refine wpT_L jA (by decide) (wn_ rfl) (fun K_ hK_=>?_)
       have HO:=kmRow (M2.out.km (k:=4) rfl).2 dv
       rw [HKV.out] at HO
       have HKb:=HKL.out dv
       refine step_app (ops:=#[]) 0 rfl (.tmp 116) (.tmp 118) 23 3 (.int .i64 0) 1 8 rfl Try.underlying23 PShapeReducible.info3 rfl (by decide) (by decide) _ (kidsOf st.2 dv).length (nums .i64 (kidsOf st.2 dv)) [.int .i64 (y:Int)] rfl rfl rfl (by simp [Value.oneCell']) HO (Nat.zero_le _) (by omega) ?_
       intro A9 c9 w9 ho9 hg9 hat9
       have hadd:=M2.out.kmAdd (k:=4) rfl dv y (w':=w9) (v':=.slice A9 ((kidsOf st.2 dv).length+1) c9) (b':=0) (by rw [HKV.out];exact hg9) (by rw [List.length_append,nums_append];exact ho9) (by rw [HKV.out];exact hat9)
       obtain ⟨hbk9,w10',vs',p10,hw10,hvs',M10⟩:=hadd
       obtain ⟨st3,hst3⟩:∃ st3,st3=(mput st.1 (y:Int) true,mput st.2 dv (kidsOf st.2 dv++[(y:Int)])):=⟨_,rfl⟩
       have M10:Mem w w10' [] [.blk b2 (.cells #[.slice As succ.length cs] 27 (0,0)),.blk b4 (.cells shz.toArray 31 (0,0)),.blk b5 (.cells #[.int .i64 (0:Nat)] 3 (0,0)),.blk bat (mI m),.km bk vs' st3.2,.blk bmg (mB st3.1),.blk blo (mI l),.blk bbl (mI []),.blk bb (.cells #[.slice As succ.length cs,.slice An node.length cn,.map (some bat),.map (some bk),.map (some bmg),.map (some blo),.map (some bbl),.func (.func 64) #[] #[.pointer (some ⟨b5,0,none⟩)]] 116 (0,0)),.blk b6 (.cells #[.pointer (some ⟨bb,0,none⟩)] 112 (0,0)),.row (.slice A7 r.length c7) 3 1 r.length (nums .i64 r),.blk be (mI e),.blk b10 (.cells #[.map (some be)] 97 (0,0)),.row (.slice (some ⟨bd,0,none⟩) d.length cd) 3 1 d.length (nums .i64 d),.blk b15 (.cells #[.slice (some ⟨bd,0,none⟩) d.length cd] 23 (0,0)),.blk b17 (.cells #[.slice A7 r.length c7] 23 (0,0))]:=by rw [hst3];exact M10
       have j10:=HS.out w10' vs' st3 M10
       have j9:w9.cell? ⟨b6,0,none⟩=some (.pointer (some ⟨bb,0,none⟩))/\w9.cell? ⟨bb,3,none⟩=some (.map (some bk))/\w9.cell? ⟨b15,0,none⟩=some (.slice (some ⟨bd,0,none⟩) d.length cd)/\w9.cell? ⟨bd,y,none⟩=some (.int .i64 dv):=by
        rw [hw10] at j10
        exact ⟨cell_setBlock hbk9 rfl j10.1,cell_setBlock hbk9 rfl j10.2.1,cell_setBlock hbk9 rfl j10.2.2.1,cell_setBlock hbk9 rfl j10.2.2.2⟩
       have hrowB:∀ q,(Value.slice Ak (kidsOf st.2 dv).length ck).ownBlock=some q->W0.heap.size<=q:=fun q hq=>by
        have e7:kmV st.2 vs dv=.slice Ak (kidsOf st.2 dv).length ck:=HKV.out
        rcases kmV_mem st.2 vs dv (by have:=(M2.out.km (k:=4) rfl).2.len;simpa using this) with h10 | h10
        ·have e9:(Value.slice Ak (kidsOf st.2 dv).length ck).ownBlock=none:=by rw [<-e7,h10];rfl
         rw [e9] at hq;cases hq
        ·exact HVS.out _ h10 q (by rw [e7];exact hq)
       have hnew:∀ u∈vs',∀ q,u.ownBlock=some q->W0.heap.size<=q:=by
        intro u hu q hq
        rcases hvs' u hu with h7 | rfl
        ·exact HVS.out u h7 q hq
        ·rcases hat9 with h8 | ⟨b8,h8,h9⟩
         ·rw [h8] at hq
          exact hrowB q hq
         ·rw [h8] at hq
          injection hq with hq
          have:=M2.out.size
          have hsz:W0.heap.size<=W.heap.size:=hbelow
          have:W.heap.size<=W2.heap.size:=by rw [<-HW.out.2,HW.out.1];simp [setBlock]
          omega
       have hchg:Chg (fun q=>q=bmg∨q=bk∨(Value.slice Ak (kidsOf st.2 dv).length ck).ownBlock=some q) W w10':=by
        have c1:Chg (fun q=>q=bmg∨q=bk∨(Value.slice Ak (kidsOf st.2 dv).length ck).ownBlock=some q) W W2:=by
         rw [<-HW.out.2,HW.out.1]
         exact Chg.drew ⟨rfl,rfl,rfl,by simp [setBlock],fun q _ hn=>by
          have hne:bmg≠q:=fun e=>hn (.inl e.symm)
          simp [setBlock,hne]⟩
        have c2:=c1.grown hg9 (fun q _ h=>.inr (.inr h))
        rw [hw10]
        exact c2.trans' (S':=fun q=>q=bk) ⟨rfl,rfl,rfl,by simp [setBlock],fun q _ hn=>by
         have hne:bk≠q:=fun e=>hn e.symm
         simp [setBlock,hne]⟩ (fun q _ e=>.inr (.inl e))
       have hkeep:KeepsFrom W0.heap.size W w10':=KeepsFrom.chg hchg (fun q o h hB hq=>by
        rcases h with rfl | rfl | h
        ·omega
        ·omega
        ·obtain ⟨cs',hc'⟩:=own_typed HO q h
         have hqm:q≠bmg:=blk_ne_map hc' (M2.out.blk (k:=5) rfl)
         have:W2.heap[q]?=W.heap[q]?:=by
          rw [<-HW.out.2,HW.out.1]
          show (setBlock W bmg _).heap[q]?=_
          simp [setBlock,Ne.symm hqm]
         rw [this,hq] at hc'
         cases hc'
         rfl)
       have hbel:Bel W0.heap.size (fun k=>k=bmg∨k=bk) W w10':=⟨hchg.os,hchg.tape,hchg.output,hchg.size,fun q hq hn=>hchg.block q (by omega) (by
        rintro (h | h | h)
        ·exact hn (.inl h)
        ·exact hn (.inr h)
        ·have:=hrowB q h;omega)⟩
       have HFIN:=ak_ (And.intro hkeep (And.intro hbel (And.intro hnew M10)))
       have HST3:=ak_ hst3
       clear hkeep hbel hnew hchg hvs' hw10 M10 hst3 hat9 hg9 ho9 HO hbk9
       refine hK_ _ _ j9 ?_
       clear hK_ jA j0
       simp only [Act.put,List.setIfInBounds_toArray,List.set_cons_zero,List.set_cons_succ]
       refine wpT_L j9 (by decide) (wn_ rfl) (fun K_ hK_=>?_)
       go_simp
       refine hK_ _ _ j10 ?_
       clear hK_
       refine wpT_nil ?_
       gi_wp2
       refine ⟨HFIN.out.1,HFIN.out.2.1,Nat.le_trans hbelow HFIN.out.2.1.size,vs',HFIN.out.2.2.1,?_⟩
       rw [HFO.out,<-HST3.out]
       exact HFIN.out.2.2.2
      ·rw [if_neg hgt] at hfold
       have HFO:=ak_ hfold
       clear hfold
       have hgt':mI0 e y<=1:=by omega
       gi_wp2
       refine ⟨(KeepsOthers.refl _).from _,Bel.refl _ _ _,hbelow,vs,HVS.out,?_⟩
       rw [HFO.out]
       exact MB.out
end Go.Proofs.Ytfiiihpdekppiaa
end
section
namespace Go.Proofs.Ytfiiihpdekppiaa
open Go.RowKit Go.Proofs Go.Proofs.YtfiiihpdekppiaaW.PrintWords
open PShapeReducible (S31)
theorem posF_get:∀ (r:List Int) (k:Nat) (m:List (Int × Int)) (x:Int),r.Nodup->mget (posF r k m) x=if x∈r then some ((k+r.idxOf x:Nat):Int) else mget m x
 | [],k,m,x,_=>by simp [posF]
 | a :: r,k,m,x,h=>by
  obtain ⟨h1,h2⟩:=List.nodup_cons.1 h
  unfold posF
  rw [posF_get r (k+1) _ x h2,mget_put]
  by_cases e:x=a
  ·subst e;simp [h1]
  ·have:(a :: r).idxOf x=r.idxOf x+1:=by rw [List.idxOf_cons,show (a == x)=false by simpa using fun h=>e h.symm];rfl
   simp only [List.mem_cons,e,false_or,this,if_false]
   split
   ·congr 2;omega
   ·rfl
theorem ViewOk.pos_pw {g:List (List Int)} {r:List Int} {m:List (Int × Int)} {p:List (List Int)} (h:ViewOk g r m p):r.Pairwise fun a b=>mI0 m a < mI0 m b:=by
 rw [List.pairwise_iff_getElem]
 intro i j hi hj hij
 rw [h.pos (List.getElem_mem hi),h.pos (List.getElem_mem hj),h.ord.nd.idxOf_getElem i hi,h.ord.nd.idxOf_getElem j hj]
 omega
def fwdc (succ:List (List Int)) (att:List (Int × Int)) (r:List Int) (y:Int):Nat:=(r.map fun x=>if mI0 att y<=mI0 att x then 0 else (succs succ x).count y).sum
theorem mI0_put {l:List (Int × Int)} {k j v:Int}:mI0 (mput l k v) j=if j=k then v else mI0 l j:=by
 unfold mI0;rw [mget_put];split <;> rfl
theorem edgeF_ok (att:List (Int × Int)) (x:Int):∀ (l:List Int) (s:List (Int × Int) × List (Int × Int)),(∀ y,0<=mI0 s.2 y/\mI0 s.2 y+l.length<=1000000000) ->
  ∃ s',edgeF att x l s=some s'/\(∀ y,mI0 s'.2 y=mI0 s.2 y+((if mI0 att y<=mI0 att x then 0 else l.count y:Nat):Int))/\∀ y,mget s'.1 y≠none↔(mget s.1 y≠none∨(y∈l/\mI0 att y<=mI0 att x))
 | [],s,_=>⟨s,rfl,fun y=>by simp,fun y=>by simp⟩
 | a :: l,s,h=>by
  unfold edgeF
  by_cases ha:mI0 att a<=mI0 att x
  ·rw [if_pos ha]
   obtain ⟨s',e,h1,h2⟩:=edgeF_ok att x l (mput s.1 a (-1),s.2) (fun y=>by have:=h y;simp only [List.length_cons] at this;show 0<=mI0 s.2 y/\mI0 s.2 y+_<=_;omega)
   refine ⟨s',e,fun y=>?_,fun y=>?_⟩
   ·rw [h1 y]
    by_cases hy:mI0 att y<=mI0 att x
    ·simp [hy]
    ·have:¬ a=y:=fun e=>hy (e ▸ ha)
     simp [hy,List.count_cons,this]
   ·rw [h2 y,mget_put,List.mem_cons]
    by_cases e:y=a
    ·subst e;simp [ha]
    ·simp [e]
  ·rw [if_neg ha]
   have hb:=h a
   simp only [List.length_cons] at hb
   rw [if_pos ⟨by omega,by omega⟩]
   obtain ⟨s',e,h1,h2⟩:=edgeF_ok att x l (s.1,mput s.2 a (mI0 s.2 a+1)) (fun y=>by
    have:=h y
    simp only [List.length_cons] at this
    show 0<=mI0 (mput s.2 a _) y/\_
    rw [mI0_put];split <;> omega)
   refine ⟨s',e,fun y=>?_,fun y=>?_⟩
   ·rw [h1 y]
    show mI0 (mput s.2 a _) y+_=_
    rw [mI0_put]
    by_cases e:y=a
    ·subst e;simp only [if_true,ha,if_false,List.count_cons_self];omega
    ·have:¬ a=y:=fun h=>e h.symm
     simp [e,List.count_cons,this]
   ·rw [h2 y,List.mem_cons]
    by_cases e:y=a
    ·subst e;simp [ha]
    ·simp [e]
theorem edgesF_ok {succ:List (List Int)} (att:List (Int × Int)) (hrow:∀ l∈succ,l.length<=1000):∀ (r:List Int) (s:List (Int × Int) × List (Int × Int)),(∀ x∈r,0<=x/\x < succ.length)->(∀ y,0<=mI0 s.2 y/\mI0 s.2 y+1000 * r.length<=1000000000) ->
  ∃ s',edgesF succ att r s=some s'/\(∀ y,mI0 s'.2 y=mI0 s.2 y+fwdc succ att r y)/\∀ y,mget s'.1 y≠none↔(mget s.1 y≠none∨∃ x∈r,y∈succs succ x/\mI0 att y<=mI0 att x)
 | [],s,_,_=>⟨s,rfl,fun y=>by simp [fwdc],fun y=>by simp⟩
 | a :: r,s,hx,h=>by
  have hl:=row_at hrow a.toNat
  unfold edgesF
  rw [if_pos ⟨hx a (by simp),by omega⟩]
  obtain ⟨s1,e1,h1,h2⟩:=edgeF_ok att a (succ.getD a.toNat []) s (fun y=>by have:=h y;simp only [List.length_cons] at this;omega)
  rw [e1]
  simp only [Option.bind_some]
  obtain ⟨s2,e2,h3,h4⟩:=edgesF_ok att hrow r s1 (fun x hx'=>hx x (by simp [hx'])) (fun y=>by
   have:=h y
   have hy:=h1 y
   have hc:(succ.getD a.toNat []).count y<=(succ.getD a.toNat []).length:=List.count_le_length
   simp only [List.length_cons] at this
   split at hy <;> omega)
  refine ⟨s2,e2,fun y=>?_,fun y=>?_⟩
  ·rw [h3 y,h1 y]
   simp only [fwdc,List.map_cons,List.sum_cons,succs]
   omega
  ·rw [h4 y,h2 y]
   simp only [List.mem_cons,exists_eq_or_imp,succs]
   rw [or_assoc]
theorem kidsOf_putT {m:List (Int × List Int)} {k n:Int} {v:List Int}:kidsOf (mput m k v) n=if n=k then v else kidsOf m n:=by
 unfold kidsOf;rw [mget_put];split <;> rfl
theorem mergeF_ok (edges:List (Int × Int)) (dom:List Int):∀ (l:List Int) (s:List (Int × Bool) × List (Int × List Int)),l.Nodup->(∀ n,∀ x∈kidsOf s.2 n,x ∉ l)->(∀ n,(kidsOf s.2 n).Nodup) ->
  (∀ x,mB0 (mergeF edges dom l s).1 x=true↔(mB0 s.1 x=true∨(x∈l/\mI0 edges x > 1)))/\(∀ n x,x∈kidsOf (mergeF edges dom l s).2 n↔(x∈kidsOf s.2 n∨(x∈l/\mI0 edges x > 1/\dom.getD x.toNat 0=n)))/\∀ n,(kidsOf (mergeF edges dom l s).2 n).Nodup
 | [],s,_,_,h=>⟨fun x=>by simp [mergeF],fun n x=>by simp [mergeF],h⟩
 | a :: l,s,hnd,h1,h2=>by
  obtain ⟨ha,hl⟩:=List.nodup_cons.1 hnd
  unfold mergeF
  by_cases hc:mI0 edges a > 1
  ·rw [if_pos hc]
   obtain ⟨p1,p2,p3⟩:=mergeF_ok edges dom l (mput s.1 a true,mput s.2 (dom.getD a.toNat 0) (kidsOf s.2 (dom.getD a.toNat 0)++[a])) hl (fun n x hx hxl=>by
    have hx':x∈kidsOf (mput s.2 (dom.getD a.toNat 0) (kidsOf s.2 (dom.getD a.toNat 0)++[a])) n:=hx
    rw [kidsOf_putT] at hx'
    split at hx'
    ·rcases List.mem_append.1 hx' with h | h
     ·exact h1 _ x h (by simp [hxl])
     ·rw [List.mem_singleton.1 h] at hxl;exact ha hxl
    ·exact h1 n x hx' (by simp [hxl])) (fun n=>by
    show (kidsOf (mput s.2 (dom.getD a.toNat 0) (kidsOf s.2 (dom.getD a.toNat 0)++[a])) n).Nodup
    rw [kidsOf_putT]
    split
    ·refine List.nodup_append.2 ⟨h2 _,by simp,fun x hx y hy e=>?_⟩
     rw [List.mem_singleton.1 hy] at e
     exact h1 _ x hx (by simp [e])
    ·exact h2 n)
   refine ⟨fun x=>?_,fun n x=>?_,p3⟩
   ·rw [p1 x]
    show (mB0 (mput s.1 a true) x=true∨_)↔_
    rw [mB0_put,List.mem_cons]
    by_cases e:x=a
    ·subst e;simp [hc]
    ·simp [e]
   ·rw [p2 n x]
    show (x∈kidsOf (mput s.2 (dom.getD a.toNat 0) (kidsOf s.2 (dom.getD a.toNat 0)++[a])) n∨_)↔_
    rw [kidsOf_putT,List.mem_cons]
    by_cases e:n=dom.getD a.toNat 0
    ·rw [if_pos e,List.mem_append,List.mem_singleton,<-e]
     constructor
     ·rintro ((h | rfl) | ⟨h3,h4,h5⟩)
      ·exact .inl h
      ·exact .inr ⟨.inl rfl,hc,e.symm⟩
      ·exact .inr ⟨.inr h3,h4,h5⟩
     ·rintro (h | ⟨rfl | h3,h4,h5⟩)
      ·exact .inl (.inl h)
      ·exact .inl (.inr rfl)
      ·exact .inr ⟨h3,h4,h5⟩
    ·rw [if_neg e]
     constructor
     ·rintro (h | ⟨h3,h4,h5⟩)
      ·exact .inl h
      ·exact .inr ⟨.inr h3,h4,h5⟩
     ·rintro (h | ⟨rfl | h3,h4,h5⟩)
      ·exact .inl h
      ·exact absurd h5.symm e
      ·exact .inr ⟨h3,h4,h5⟩
  ·rw [if_neg hc]
   obtain ⟨p1,p2,p3⟩:=mergeF_ok edges dom l s hl (fun n x hx hxl=>h1 n x hx (by simp [hxl])) h2
   refine ⟨fun x=>?_,fun n x=>?_,p3⟩
   ·rw [p1 x,List.mem_cons]
    constructor
    ·rintro (h | ⟨h3,h4⟩)
     ·exact .inl h
     ·exact .inr ⟨.inr h3,h4⟩
    ·rintro (h | ⟨rfl | h3,h4⟩)
     ·exact .inl h
     ·exact absurd h4 hc
     ·exact .inr ⟨h3,h4⟩
   ·rw [p2 n x,List.mem_cons]
    constructor
    ·rintro (h | ⟨h3,h4⟩)
     ·exact .inl h
     ·exact .inr ⟨.inr h3,h4⟩
    ·rintro (h | ⟨rfl | h3,h4,h5⟩)
     ·exact .inl h
     ·exact absurd h4 hc
     ·exact .inr ⟨h3,h4,h5⟩
theorem mergeF_srt (edges:List (Int × Int)) (dom:List Int) (att:Int->Int):∀ (l:List Int) (s:List (Int × Bool) × List (Int × List Int)),l.Pairwise (fun a b=>att b < att a)->(∀ n,∀ x∈kidsOf s.2 n,∀ y∈l,att y < att x)->(∀ n,(kidsOf s.2 n).Pairwise fun a b=>att b < att a) ->
  ∀ n,(kidsOf (mergeF edges dom l s).2 n).Pairwise fun a b=>att b < att a
 | [],s,_,_,h=>h
 | a :: l,s,hp,h1,h2=>by
  obtain ⟨hp1,hp2⟩:=List.pairwise_cons.1 hp
  unfold mergeF
  split
  ·refine mergeF_srt edges dom att l _ hp2 (fun n x hx y hy=>?_) (fun n=>?_)
   ·have hx':x∈kidsOf (mput s.2 (dom.getD a.toNat 0) (kidsOf s.2 (dom.getD a.toNat 0)++[a])) n:=hx
    rw [kidsOf_putT] at hx'
    split at hx'
    ·rcases List.mem_append.1 hx' with h | h
     ·exact h1 _ x h y (by simp [hy])
     ·rw [List.mem_singleton.1 h];exact hp1 y hy
    ·exact h1 n x hx' y (by simp [hy])
   ·show (kidsOf (mput s.2 (dom.getD a.toNat 0) (kidsOf s.2 (dom.getD a.toNat 0)++[a])) n).Pairwise _
    rw [kidsOf_putT]
    split
    ·refine List.pairwise_append.2 ⟨h2 _,by simp,fun x hx y hy=>?_⟩
     rw [List.mem_singleton.1 hy]
     exact h1 _ x hx a (by simp)
    ·exact h2 n
  ·exact mergeF_srt edges dom att l s hp2 (fun n x hx y hy=>h1 n x hx y (by simp [hy])) h2
inductive Desc (ch:Int->List Int) (a:Int):Int->Prop
 | refl:Desc ch a a
 | step {b c:Int}:Desc ch a b->c∈ch b->Desc ch a c
section
variable {r : List Int} {ch : Int → List Int} {att : Int → Int}
structure Forest (r:List Int) (ch:Int->List Int) (att:Int->Int):Prop where
 nd:r.Nodup
 mem:∀ n∈r,∀ c∈ch n,c∈r/\att n < att c
 knd:∀ n∈r,(ch n).Nodup
 uniq:∀ n∈r,∀ n'∈r,∀ c,c∈ch n->c∈ch n'->n=n'
theorem Forest.desc (h:Forest r ch att) {a z:Int} (ha:a∈r) (hd:Desc ch a z):z∈r/\att a<=att z:=by
 induction hd with
 | refl=>exact ⟨ha,Int.le_refl _⟩
 | step _ hc ih =>
  have:=h.mem _ ih.1 _ hc
  exact ⟨this.1,by omega⟩
theorem Forest.lin (h:Forest r ch att) {a b z:Int} (ha:a∈r) (hb:b∈r) (h1:Desc ch a z):Desc ch b z->Desc ch a b∨Desc ch b a:=by
 induction h1 with
 | refl=>exact fun h2=>.inr h2
 | @step p c h1 hc ih =>
  intro h2
  cases h2 with
  | refl=>exact .inl (.step h1 hc)
  | @step p' _ h2 hc' =>
   have:=h.uniq _ (h.desc ha h1).1 _ (h.desc hb h2).1 _ hc hc'
   subst this
   exact ih h2
theorem Forest.apart (h:Forest r ch att) {n c c' z:Int} (hn:n∈r) (hc:c∈ch n) (hc':c'∈ch n) (h1:Desc ch c z) (h2:Desc ch c' z):c=c':=by
 have key:∀ c c',c∈ch n->c'∈ch n->Desc ch c c'->c=c':=fun c c' hc hc' hd=>by
  have hcr:=h.mem n hn c hc
  cases hd with
  | refl=>rfl
  | @step q _ hd hq =>
   have:=h.uniq _ (h.desc hcr.1 hd).1 _ hn _ hq hc'
   subst this
   have:=(h.desc hcr.1 hd).2
   omega
 rcases h.lin (h.mem n hn c hc).1 (h.mem n hn c' hc').1 h1 h2 with h3 | h3
 ·exact key c c' hc hc' h3
 ·exact (key c' c hc' hc h3).symm
theorem Desc.front {ch:Int->List Int} {n c z:Int} (hc:c∈ch n) (h:Desc ch c z):Desc ch n z:=by
 induction h with
 | refl=>exact .step .refl hc
 | step _ h ih=>exact .step ih h
theorem Forest.cnt (h:Forest r ch att):∃ cnt:Int->Nat,(∀ n∈r,1+((ch n).map cnt).sum<=cnt n)/\∀ n,cnt n<=r.length:=by
 classical
 refine ⟨fun n=>(r.filter fun z=>decide (Desc ch n z)).length,fun n hn=>?_,fun n=>List.length_filter_le _ _⟩
 have e:1+((ch n).map fun n=>(r.filter fun z=>decide (Desc ch n z)).length).sum=(n :: (ch n).flatMap fun c=>r.filter fun z=>decide (Desc ch c z)).length:=by
  rw [List.length_cons,List.length_flatMap]
  omega
 rw [e]
 refine nodup_sub_len (List.nodup_cons.2 ⟨fun hm=>?_,?_⟩) fun x hx=>?_
 ·obtain ⟨c,hc,hz⟩:=List.mem_flatMap.1 hm
  have hz':Desc ch c n:=by simpa using (List.mem_filter.1 hz).2
  have h1:=h.mem n hn c hc
  have:=(h.desc h1.1 hz').2
  omega
 ·refine List.pairwise_flatMap.2 ⟨fun c _=>h.nd.sublist List.filter_sublist,?_⟩
  refine List.Pairwise.imp_of_mem ?_ (h.knd n hn)
  intro c c' hc hc' hne x hx y hy e
  subst e
  exact hne (h.apart hn hc hc' (by simpa using (List.mem_filter.1 hx).2) (by simpa using (List.mem_filter.1 hy).2))
 ·rcases List.mem_cons.1 hx with rfl | hx
  ·exact List.mem_filter.2 ⟨hn,by simpa using Desc.refl⟩
  ·obtain ⟨c,hc,hz⟩:=List.mem_flatMap.1 hx
   obtain ⟨h1,h2⟩:=List.mem_filter.1 hz
   exact List.mem_filter.2 ⟨h1,by simpa using Desc.front hc (by simpa using h2)⟩
end
def chF (B:Bd) (n:Int):List Int:=kidsOf B.kids n++(succs B.succ n).filter fun m=>decide (¬ mI0 B.att m<=mI0 B.att n) && !mB0 B.merged m
def wsum (cnt:Int->Nat) (xs:List Int):Nat:=(xs.map fun x=>2 * cnt x).sum
theorem wsum_eq (cnt:Int->Nat):∀ xs:List Int,wsum cnt xs=2 * (xs.map cnt).sum
 | []=>rfl
 | x :: xs=>by
  have:=wsum_eq cnt xs
  simp only [wsum,List.map_cons,List.sum_cons] at this ⊢
  omega
structure BdOk (B:Bd) (r:List Int) (cnt:Int->Nat) (N:Nat):Prop where
 rng:∀ n∈r,(0<=n/\n < B.succ.length)/\n < B.node.length/\(B.succ.getD n.toNat []).length<=1000000
 mem:∀ n∈r,∀ c∈chF B n,c∈r/\mI0 B.att n < mI0 B.att c
 att:∀ n∈r,0<=mI0 B.att n/\mI0 B.att n < N
 kids:∀ n,(kidsOf B.kids n).length<=N
 small:N<=1000000
 cnt:∀ n∈r,1+((chF B n).map cnt).sum<=cnt n
theorem brs_ok {f:Int->Bs->Option (S31 × Bs)} {cost:Int->Nat}:∀ (l:List Int) (s:Bs),(∀ m∈l,∀ s:Bs,s.n+cost m<=1000000000->∃ x s',f m s=some (x,s')/\s.n<=s'.n/\s'.n<=s.n+cost m)->s.n+(l.map cost).sum<=1000000000 ->
  ∃ xs s',brs f l s=some (xs,s')/\s.n<=s'.n/\s'.n<=s.n+(l.map cost).sum
 | [],s,_,_=>⟨[],s,rfl,Nat.le_refl _,by simp⟩
 | m :: l,s,h,hb=>by
  simp only [List.map_cons,List.sum_cons] at hb
  obtain ⟨x,s1,e1,h1,h1'⟩:=h m (by simp) s (by omega)
  obtain ⟨xs,s2,e2,h2,h2'⟩:=brs_ok l s1 (fun m hm=>h m (by simp [hm])) (by omega)
  refine ⟨x :: xs,s2,?_,by omega,?_⟩
  ·unfold brs;rw [e1];simp only [Option.bind_some];rw [e2];rfl
  ·simp only [List.map_cons,List.sum_cons];omega
theorem bF_within {B:Bd} {r:List Int} {cnt:Int->Nat} {N K:Nat} (h:BdOk B r cnt N) {n:Int} (hn:n∈r)
  (ht:∀ c∈chF B n,∀ (k:Nat) (s:Bs),K<=k->s.n+2 * cnt c<=1000000001->∃ x s',bF B k (.tree c) s=some (x,s')/\s.n<=s'.n/\s'.n+1<=s.n+2 * cnt c) (hcnt:∀ c∈chF B n,1<=cnt c) :
  ∀ (xs:List Int) (k:Nat) (s:Bs),(∀ x∈xs,x∈kidsOf B.kids n)->xs.length<=N->K+2+xs.length<=k->s.n+wsum cnt xs+wsum cnt ((succs B.succ n).filter fun m=>decide (¬ mI0 B.att m<=mI0 B.att n) && !mB0 B.merged m)<=1000000000 ->
   ∃ x s',bF B k (.within n xs) s=some (x,s')/\s.n<=s'.n/\s'.n<=s.n+wsum cnt xs+wsum cnt ((succs B.succ n).filter fun m=>decide (¬ mI0 B.att m<=mI0 B.att n) && !mB0 B.merged m)
 | [],0,s,_,_,hk,_=>by omega
 | [],k+1,s,_,_,hk,hb=>by
  have hr:=h.rng n hn
  unfold bF
  rw [if_pos hr]
  have e:wsum cnt ((succs B.succ n).filter fun m=>decide (¬ mI0 B.att m<=mI0 B.att n) && !mB0 B.merged m)=((succs B.succ n).map fun m=>if (decide (¬ mI0 B.att m<=mI0 B.att n) && !mB0 B.merged m)=true then 2 * cnt m else 0).sum:=by
   generalize succs B.succ n=l
   induction l with
   | nil=>rfl
   | cons a l ih =>
    simp only [wsum,List.map_cons,List.sum_cons] at ih ⊢
    rw [List.filter_cons]
    split
    ·simp only [List.map_cons,List.sum_cons];omega
    ·omega
  rw [e] at hb ⊢
  simp only [wsum,List.map_nil,List.sum_nil] at hb ⊢
  obtain ⟨ys,s',e',h1,h2⟩:=brs_ok (f:=fun m s=>bF B k (.branch n m) s) (cost:=fun m=>if (decide (¬ mI0 B.att m<=mI0 B.att n) && !mB0 B.merged m)=true then 2 * cnt m else 0) (succs B.succ n) s (fun m hm s hs=>by
   match k,hk with
   | k+1,hk =>
    unfold bF
    by_cases c1:mI0 B.att m<=mI0 B.att n
    ·rw [if_pos c1];exact ⟨_,s,rfl,Nat.le_refl _,by omega⟩
    rw [if_neg c1]
    by_cases c2:mB0 B.merged m=true
    ·rw [if_pos c2];exact ⟨_,s,rfl,Nat.le_refl _,by omega⟩
    rw [if_neg c2]
    have hc:(decide (¬ mI0 B.att m<=mI0 B.att n) && !mB0 B.merged m)=true:=by simp [c1,c2]
    rw [if_pos hc] at hs ⊢
    have hm':m∈chF B n:=List.mem_append.2 (.inr (List.mem_filter.2 ⟨hm,hc⟩))
    obtain ⟨x,s',e,h1,h2⟩:=ht m hm' k s (by omega) (by omega)
    exact ⟨x,s',e,h1,by omega⟩) (by omega)
  refine ⟨_,s',by rw [show B.succ.getD n.toNat []=succs B.succ n from rfl,e'];rfl,h1,by omega⟩
 | x :: xs,0,s,_,_,hk,_=>by omega
 | x :: xs,k+1,s,hx,hl,hk,hb=>by
  have hN:=h.small
  simp only [List.length_cons] at hl hk
  have hw:wsum cnt (x :: xs)=2 * cnt x+wsum cnt xs:=by simp [wsum]
  rw [hw] at hb ⊢
  have hxc:x∈chF B n:=List.mem_append.2 (.inl (hx x (by simp)))
  have h1c:=hcnt x hxc
  unfold bF
  rw [if_pos ⟨by omega,by omega⟩]
  obtain ⟨q,s1,e1,h1,h1'⟩:=bF_within h hn ht hcnt xs k { s with blocks:=mput s.blocks x s.n,n:=s.n+1 } (fun y hy=>hx y (by simp [hy])) (by omega) (by omega) (by show s.n+1+_+_<=_;omega)
  have h1:s.n+1<=s1.n:=h1
  have h1':s1.n<=s.n+1+wsum cnt xs+_:=h1'
  rw [e1]
  simp only [Option.bind_some]
  obtain ⟨p,s2,e2,h2,h2'⟩:=ht x hxc k s1 (by omega) (by omega)
  rw [e2]
  exact ⟨_,s2,rfl,by omega,by omega⟩
theorem bF_tree {B:Bd} {r:List Int} {cnt:Int->Nat} {N:Nat} (h:BdOk B r cnt N) :
  ∀ (j:Nat) (n:Int),n∈r->(N:Int)<=mI0 B.att n+j->∀ (k:Nat) (s:Bs),j * (N+4)<=k->s.n+2 * cnt n<=1000000001->∃ x s',bF B k (.tree n) s=some (x,s')/\s.n<=s'.n/\s'.n+1<=s.n+2 * cnt n
 | 0,n,hn,hj,k,s,hk,hb=>by have:=h.att n hn;omega
 | j+1,n,hn,hj,0,s,hk,hb=>by rw [Nat.add_mul] at hk;omega
 | j+1,n,hn,hj,k+1,s,hk,hb=>by
  rw [Nat.add_mul] at hk
  have hcn:=h.cnt n hn
  have hws:=wsum_eq cnt (chF B n)
  have hwa:wsum cnt (chF B n)=wsum cnt (kidsOf B.kids n)+wsum cnt ((succs B.succ n).filter fun m=>decide (¬ mI0 B.att m<=mI0 B.att n) && !mB0 B.merged m):=by simp [wsum,chF]
  have hkl:=h.kids n
  have hW:=bF_within (K:=j * (N+4)) h hn (fun c hc k s a b=>by
   have:=h.mem n hn c hc
   exact bF_tree h j c this.1 (by omega) k s a b) (fun c hc=>by have:=h.cnt c (h.mem n hn c hc).1;omega) (kidsOf B.kids n) k
  unfold bF
  cases e:mget s.loops n with
  | none =>
   simp only
   obtain ⟨x,s',e',h1,h2⟩:=hW s (fun _ h=>h) hkl (by omega) (by omega)
   exact ⟨x,s',e',h1,by omega⟩
  | some v =>
   simp only
   rw [if_pos (by omega)]
   obtain ⟨x,s',e',h1,h2⟩:=hW { s with loops:=mput s.loops n s.n,n:=s.n+1 } (fun _ h=>h) hkl (by omega) (by show s.n+1+_+_<=_;omega)
   have h1:s.n+1<=s'.n:=h1
   have h2:s'.n<=s.n+1+wsum cnt (kidsOf B.kids n)+_:=h2
   rw [e']
   exact ⟨_,s',rfl,by omega,by omega⟩
theorem count_le_sum {succ:List (List Int)} {att:List (Int × Int)} {y:Int}:∀ (r:List Int) (n:Int),n∈r->¬ mI0 att y<=mI0 att n->(succs succ n).count y<=fwdc succ att r y
 | [],_,h,_=>by simp at h
 | a :: r,n,h,hc=>by
  simp only [fwdc,List.map_cons,List.sum_cons]
  rcases List.mem_cons.1 h with rfl | h
  ·rw [if_neg hc];omega
  ·have:=count_le_sum (succ:=succ) r n h hc
   simp only [fwdc] at this
   omega
theorem two_le_sum {succ:List (List Int)} {att:List (Int × Int)} {y:Int}:∀ (r:List Int) (n n':Int),r.Nodup->n∈r->n'∈r->n≠n'->¬ mI0 att y<=mI0 att n->¬ mI0 att y<=mI0 att n'->(succs succ n).count y+(succs succ n').count y<=fwdc succ att r y
 | [],_,_,_,h,_,_,_,_=>by simp at h
 | a :: r,n,n',hnd,h,h',hne,hc,hc'=>by
  obtain ⟨h1,h2⟩:=List.nodup_cons.1 hnd
  have key:fwdc succ att (a :: r) y=(if mI0 att y<=mI0 att a then 0 else (succs succ a).count y)+fwdc succ att r y:=by simp [fwdc]
  rw [key]
  rcases List.mem_cons.1 h with rfl | hm
  ·rw [if_neg hc]
   have:=count_le_sum (succ:=succ) r n' ((List.mem_cons.1 h').resolve_left fun e=>hne e.symm) hc'
   omega
  ·rcases List.mem_cons.1 h' with rfl | hm'
   ·rw [if_neg hc']
    have:=count_le_sum (succ:=succ) r n hm hc
    omega
   ·have:=two_le_sum (succ:=succ) r n n' h2 hm hm' hne hc hc'
    omega
structure BdIs (g:List (List Int)) (node:List Int) (B:Bd) (l:List (Int × Int)) (r:List Int) (m:List (Int × Int)) (p:List (List Int)) (d:List Int):Prop where
 dom:DomOk g r m p d
 succ:B.succ=g
 node:B.node=node
 att:∀ x,mI0 B.att x=mI0 m x
 merged:∀ x,mB0 B.merged x=true↔(x∈r/\fwdc g m r x > 1)
 kids:∀ n x,x∈kidsOf B.kids n↔(x∈r/\fwdc g m r x > 1/\par d x=n)
 knd:∀ n,(kidsOf B.kids n).Nodup
 loops:∀ y,mget l y≠none↔∃ x∈r,y∈succs g x/\mI0 m y<=mI0 m x
 srt:∀ n,(kidsOf B.kids n).Pairwise fun a b=>mI0 m b < mI0 m a
theorem BdIs.forest {g:List (List Int)} {node:List Int} {B:Bd} {l:List (Int × Int)} {r:List Int} {m:List (Int × Int)} {p:List (List Int)} {d:List Int} (h:BdIs g node B l r m p d):Forest r (chF B) (mI0 m):=by
 have hV:=h.dom.view
 have hz:fwdc g m r 0=0:=by
  have:∀ xs:List Int,(∀ x∈xs,x∈r)->fwdc g m xs 0=0:=fun xs=>by
   induction xs with
   | nil=>simp [fwdc]
   | cons a xs ih =>
    intro hx
    have hi:=ih fun x hx'=>hx x (by simp [hx'])
    have:=hV.pos_nn a
    simp only [fwdc,List.map_cons,List.sum_cons] at hi ⊢
    rw [if_pos (by rw [hV.pos_zero];omega),hi]
  exact this r fun _ h=>h
 have split:∀ n c,c∈chF B n->(c∈r/\fwdc g m r c > 1/\par d c=n)∨(c∈succs g n/\¬ mI0 m c<=mI0 m n/\¬ (c∈r/\fwdc g m r c > 1)):=fun n c hc=>by
  rcases List.mem_append.1 hc with h1 | h1
  ·exact .inl ((h.kids n c).1 h1)
  ·obtain ⟨h2,h3⟩:=List.mem_filter.1 h1
   rw [h.succ] at h2
   simp only [Bool.and_eq_true,decide_eq_true_eq,Bool.not_eq_true',h.att] at h3
   exact .inr ⟨h2,h3.1,fun hc=>by have:=(h.merged c).2 hc;rw [this] at h3;simp at h3⟩
 refine ⟨hV.ord.nd,fun n hn c hc=>?_,fun n hn=>?_,fun n hn n' hn' c hc hc'=>?_⟩
 ·rcases split n c hc with ⟨h1,h2,h3⟩ | ⟨h1,h2,_⟩
  ·have hc0:c≠0:=fun e=>by rw [e,hz] at h2;omega
   have:=h.dom.tree.up c (h.dom.full c h1) hc0
   rw [h3] at this
   exact ⟨h1,this.2⟩
  ·exact ⟨hV.ord.closed n hn c h1,by omega⟩
 ·refine List.nodup_append.2 ⟨h.knd n,?_,fun a ha b hb e=>?_⟩
  ·rw [List.nodup_iff_count]
   intro a
   by_cases hm:a∈(succs B.succ n).filter fun m=>decide (¬ mI0 B.att m<=mI0 B.att n) && !mB0 B.merged m
   ·obtain ⟨h2,h3⟩:=List.mem_filter.1 hm
    rw [h.succ] at h2
    simp only [Bool.and_eq_true,decide_eq_true_eq,Bool.not_eq_true',h.att] at h3
    have h5:¬ fwdc g m r a > 1:=fun hc=>by have:=(h.merged a).2 ⟨hV.ord.closed n hn a h2,hc⟩;rw [this] at h3;simp at h3
    have h6:=count_le_sum (succ:=g) (att:=m) r n hn h3.1
    have h7:((succs B.succ n).filter fun m=>decide (¬ mI0 B.att m<=mI0 B.att n) && !mB0 B.merged m).count a<=(succs B.succ n).count a:=List.filter_sublist.count_le a
    rw [h.succ] at h7
    rw [h.succ]
    omega
   ·rw [List.count_eq_zero_of_not_mem hm];omega
  ·subst e
   have h1:=(h.kids n a).1 ha
   obtain ⟨_,h3⟩:=List.mem_filter.1 hb
   have:=(h.merged a).2 ⟨h1.1,h1.2.1⟩
   rw [this] at h3
   simp at h3
 ·rcases split n c hc with ⟨h1,h2,h3⟩ | ⟨h1,h2,h4⟩
  ·rcases split n' c hc' with ⟨_,_,h3'⟩ | ⟨_,_,h4'⟩
   ·rw [<-h3,h3']
   ·exact absurd ⟨h1,h2⟩ h4'
  ·rcases split n' c hc' with ⟨h1',h2',_⟩ | ⟨h1',h2',_⟩
   ·exact absurd ⟨h1',h2'⟩ h4
   ·refine Classical.byContradiction fun hne=>?_
    have h5:=two_le_sum (succ:=g) (att:=m) r n n' hV.ord.nd hn hn' hne h2 h2'
    have h6:=List.count_pos_iff.2 h1
    have h7:=List.count_pos_iff.2 h1'
    exact h4 ⟨hV.ord.closed n hn c h1,by omega⟩
theorem build_ok {g:List (List Int)} {node:List Int} (hv:ValidG g) (h0:0 < g.length) (hl:g.length<=10000) (hrow:∀ l∈g,l.length<=1000) (hnode:node.length=g.length) :
  ∃ x,BuildIs g node x/\∃ B l r m p d k s9,BdIs g node B l r m p d/\ViewIs g r m p/\bF B k (.tree 0) ⟨l,[],0⟩=some (x,s9):=by
 obtain ⟨r,m,p,hVI,hV⟩:=viewOk_is hv h0 (by omega) hrow
 obtain ⟨kd,d,hd,hD⟩:=doms_ok hV h0
 have hdl:d.length=g.length:=hD.tree.len
 have hrl:r.length<=g.length:=nodup_len hV.ord.nd hV.ord.rng
 have hr0:0 < r.length:=by obtain ⟨t,e⟩:=hV.ord.root;rw [e];simp
 have hpos:∀ x,mI0 (posF r 0 []) x=mI0 m x:=fun x=>by
  unfold mI0
  rw [posF_get r 0 [] x hV.ord.nd,hV.att]
  split
  ·rw [Nat.zero_add]
  ·rfl
 have hfw:∀ y,fwdc g (posF r 0 []) r y=fwdc g m r y:=fun y=>by simp only [fwdc,hpos]
 obtain ⟨⟨l,e⟩,hed,he,hlo⟩:=edgesF_ok (succ:=g) (posF r 0 []) hrow r ([],[]) hV.ord.rng (fun y=>by
  show 0<=mI0 [] y/\mI0 [] y+_<=_
  simp only [mI0,mget,List.find?_nil,Option.map_none,Option.getD_none]
  omega)
 have he':∀ y,mI0 e y=fwdc g m r y:=fun y=>by
  have:=he y
  simp only [mI0,mget,List.find?_nil,Option.map_none,Option.getD_none,Int.zero_add] at this
  rw [<-hfw];exact this
 obtain ⟨m1,m2,m3⟩:=mergeF_ok e (d.set 0 (-1)) r.reverse ([],[]) ((List.reverse_perm r).nodup_iff.2 hV.ord.nd) (fun n x hx=>by simp [kidsOf,mget] at hx) (fun n=>by simp [kidsOf,mget])
 have hz:fwdc g m r 0=0:=by
  have:∀ xs:List Int,fwdc g m xs 0=0:=fun xs=>by
   induction xs with
   | nil=>simp [fwdc]
   | cons a xs ih =>
    have:=hV.pos_nn a
    simp only [fwdc,List.map_cons,List.sum_cons] at ih ⊢
    rw [if_pos (by rw [hV.pos_zero];omega),ih]
  exact this r
 have hdp:∀ x∈r,x≠0->(d.set 0 (-1)).getD x.toNat 0=par d x:=fun x hx hx0=>by
  have:=hV.ord.rng x hx
  unfold par
  rw [List.getD_eq_getElem?_getD,List.getElem?_set_ne (by omega),<-List.getD_eq_getElem?_getD]
 let B:Bd:=⟨g,node,posF r 0 [],(mergeF e (d.set 0 (-1)) r.reverse ([],[])).2,(mergeF e (d.set 0 (-1)) r.reverse ([],[])).1⟩
 have hB:BdIs g node B l r m p d:=by
  refine ⟨hD,rfl,rfl,hpos,fun x=>?_,fun n x=>?_,m3,fun y=>?_,mergeF_srt e (d.set 0 (-1)) (mI0 m) r.reverse ([],[]) (List.pairwise_reverse.2 (hV.pos_pw)) (fun n x hx=>by simp [kidsOf,mget] at hx) (fun n=>by simp [kidsOf,mget])⟩
  ·rw [m1 x,he' x,List.mem_reverse]
   simp only [mB0,mget,List.find?_nil,Option.map_none,Option.getD_none,Bool.false_eq_true,false_or]
   exact and_congr_right fun _=>by omega
  ·rw [m2 n x,he' x,List.mem_reverse]
   simp only [kidsOf,mget,List.find?_nil,Option.map_none,Option.getD_none,List.not_mem_nil,false_or]
   constructor
   ·rintro ⟨h1,h2,h3⟩
    have hx0:x≠0:=fun e=>by rw [e,hz] at h2;omega
    exact ⟨h1,by omega,by rw [<-hdp x h1 hx0];exact h3⟩
   ·rintro ⟨h1,h2,h3⟩
    have hx0:x≠0:=fun e=>by rw [e,hz] at h2;omega
    exact ⟨h1,by omega,by rw [hdp x h1 hx0];exact h3⟩
  ·rw [hlo y]
   simp only [hpos]
   simp [mget]
 obtain ⟨cnt,c1,c2⟩:=hB.forest.cnt
 have hOk:BdOk B r cnt r.length:=by
  refine ⟨fun n hn=>?_,fun n hn c hc=>?_,fun n hn=>?_,fun n=>?_,by omega,c1⟩
  ·have h1:=hV.ord.rng n hn
   have h2:=row_at hrow n.toNat
   exact ⟨h1,by show n < node.length;omega,by show (g.getD n.toNat []).length<=_;omega⟩
  ·have:=hB.forest.mem n hn c hc
   rw [hB.att,hB.att]
   exact this
  ·rw [hB.att];exact hV.pos_lt hn
  ·exact nodup_sub_len (hB.knd n) fun x hx=>((hB.kids n x).1 hx).1
 have hc0:=c2 0
 obtain ⟨x,s9,ex,_⟩:=bF_tree hOk r.length 0 hV.zero_mem (by rw [hB.att,hV.pos_zero];omega) (r.length * (r.length+4)) ⟨l,[],0⟩ (Nat.le_refl _) (by show 0+_<=_;omega)
 refine ⟨x,⟨r,d.set 0 (-1),l,e,_,s9,hVI.1,⟨r,m,p,d,⟨hVI,hr0,hdl,kd,hd⟩,rfl⟩,by omega,hed,fun y hy=>?_,ex⟩,B,l,r,m,p,d,_,s9,hB,hVI,ex⟩
 rw [List.length_set,hdl]
 exact hV.ord.rng y hy
structure Stp where
 kind:Int
 node:Int
 tos:List Int
structure Frm where
 label:Int
 start:Int
 loop:Bool
 brk:List Int
structure Cs where
 steps:List Stp
 frames:List Frm
 used:List Int
 bad:Bool
def enclF (t:Frm->Bool) (fs:List Frm):Nat->Int
 | 0=>-1
 | k+1=>if (fs[k]?.map t).getD false then (k:Int) else enclF t fs k
def Cs.emit (c:Cs) (p:Stp):Cs:={ c with steps:=c.steps++[p] }
def setTos (ss:List Stp) (n:Nat) (xs:List Int):List Stp:=ss.modify n fun p=>{ p with tos:=xs }
def Cs.setTo (c:Cs) (n:Nat) (xs:List Int):Cs:={ c with steps:=setTos c.steps n xs }
def Cs.fail (c:Cs):Cs:={ c with bad:=true }
def Cs.land (c:Cs):List Int->Cs
 | []=>c
 | e :: es=>(c.setTo e.toNat [(c.steps.length:Int)]).land es
def Cs.open (c:Cs) (label:Int) (loop:Bool):Cs:={ c with used:=c.used++[label],frames:=c.frames++[⟨label,c.steps.length,loop,[]⟩] }
def Cs.breaks (c:Cs):List Int:=((c.frames[c.frames.length - 1]?).map Frm.brk).getD []
def Cs.close (c:Cs) (loop:Bool) (start:Int):Cs :=
 let d:Cs:={ c with frames:=c.frames.take (c.frames.length - 1) }
 (if loop then d.emit ⟨1,0,[start]⟩ else d).land c.breaks
def addBrk (fs:List Frm) (n:Nat) (j:Int):List Frm:=fs.modify n fun f=>{ f with brk:=f.brk++[j] }
def Cs.leave (c:Cs) (kind node label:Int) (kids:List S31):Cs :=
 let n:=enclF (fun f=>decide (f.label=label) && (!decide (kind=6) || f.loop)) c.frames c.frames.length
 if n < 0∨kids.length≠0∨node≠0 then c.fail
 else
  let j:Int:=c.steps.length
  let d:=c.emit ⟨1,0,[]⟩
  if kind=5 then { d with frames:=addBrk d.frames n.toNat j } else d.setTo j.toNat [((d.frames[n.toNat]?).map Frm.start).getD 0]
mutual
def shapeF (g:List (List Int)):S31->Cs->Cs
  | ⟨kind,node,label,kids⟩,c =>
    if c.bad=true then c
    else if kind=1 then (if node≠0∨label≠0 then c.fail else seqF g kids c)
    else if kind=2 then
      (if node < 0∨(g.length:Int)<=node∨kids.length≠(g.getD node.toNat []).length∨label≠0 then c.fail
       else
        let r:=kidsF g kids (c.emit ⟨0,node,[]⟩) [] []
        (r.1.setTo c.steps.length r.2.1).land r.2.2)
    else if kind=3∨kind=4 then
      (if kids.length≠1∨node≠0∨label < 0∨c.used.contains label=true then c.fail
       else (seqF g kids (c.open label (decide (kind=3)))).close (decide (kind=3)) c.steps.length)
    else if kind=5∨kind=6 then c.leave kind node label kids
    else c.fail
def seqF (g:List (List Int)):List S31->Cs->Cs
  | [],c=>c
  | k :: ks,c=>seqF g ks (shapeF g k c)
def kidsF (g:List (List Int)):List S31->Cs->List Int->List Int->Cs × List Int × List Int
  | [],c,a,b=>(c,a,b)
  | k :: ks,c,a,b =>
    let d:=shapeF g k c
    kidsF g ks (d.emit ⟨1,0,[]⟩) (a++[(c.steps.length:Int)]) (b++[(d.steps.length:Int)])
end
def clampT (ss:List Stp):List Stp:=ss.map fun p=>{ p with tos:=p.tos.map fun x=>min x ((ss.length:Int) - 1) }
def compileF (g:List (List Int)) (s:S31):List Stp :=
 let c:=shapeF g s ⟨[],[],[],false⟩
 if c.bad=true then [] else clampT (c.emit ⟨2,0,[]⟩).steps
end Go.Proofs.Ytfiiihpdekppiaa
end
