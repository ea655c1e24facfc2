/- A part of the proof that vellumlaw12.ShapeAcyclic is true for every input: walks of functions that the row reaches and plain laws that they need. Conditions: none. Joined by merge.py out of C16 C17 C18 C19 B10; a part that began as a print is named P or W there and is trimmed. -/
import Derived.Test.YtfiiihpdekppiaaA10
import Derived.Test.YtfiiihpdekppiaaA11
import Derived.OrdersIn
import Derived.RangeFuncCalls
import Derived.RangeFuncWrites
set_option linter.unusedVariables false
set_option linter.unusedSimpArgs false
section
namespace Go.Proofs.Ytfiiihpdekppiaa
open Go.RowKit Go.Proofs Go.Proofs.YtfiiihpdekppiaaW.PrintWords
open Go.ChangeMaps (setBlock heap_setBlock_same heap_setBlock_other)
def SplitPost (w0:World) (F:List Pc) (bs:Nat):Option Sp->Ending->World->Prop
 | none,e,w'=>e=.returned (.bool false)/\Mem w0 w' F []
 | some s,e,w'=>∃ As cs vs nv,e=.returned (.bool true)/\Mem w0 w' F [.blk bs (.cells #[.slice As s.succ.length cs,nv,.int .i64 s.copies,.int .i64 s.budget] 65 (0,0)),.mat (.slice As s.succ.length cs) vs s.succ,.row nv 3 1 s.node.length (nums .i64 s.node)]
theorem Mem.set40 {w0 w:World} {F H:List Pc} {A:Option Addr} {c:Nat} {xs:List Int} (wo:Int) (h:Mem w0 w F H) (hC:kI.C w A xs.length xs):Calls Try.prog 40 #[.slice A xs.length c,.int .i64 wo] w fun e w'=>∃ b,e=.returned (.map (some b))/\Mem w0 w' F (H++[.blk b (mB (setF wo xs []))])/\Below w.heap.size w w':=by
 refine (set_any w A c xs wo hC).mono ?_
 rintro e w' ⟨b,rfl,hb,hle,hbl⟩
 exact ⟨b,rfl,h.new (.blk b (mB (setF wo xs []))) hbl hb (fun q hq=>by simp only [Pc.blk] at hq;omega),hbl⟩
theorem C_tail {w:World} {eb c:Nat} {x:Int} {xs:List Int} (h:kI.C w (some ⟨eb,0,none⟩) (x :: xs).length (x :: xs)) (hc:(x :: xs).length<=c) (hx:0 < xs.length):kI.C w (some ⟨eb,1,none⟩) xs.length xs:=by
 have:=Kd.C_drop (c:=c) h (m:=1) (by simp) hc
 simp only [List.length_cons] at hc
 rw [if_neg (by omega)] at this
 have e:(⟨eb,0,none⟩:Addr).add (1 * kI.sz)=⟨eb,1,none⟩:=rfl
 change kI.C w (some ((⟨eb,0,none⟩:Addr).add (1 * kI.sz))) _ _ at this
 rw [e] at this
 simpa using this
theorem own_form3 {w:World} {B n:Nat} {v:Value} {xs:List Value} (h:w.ownsRow B 3 1 v n xs) (hn:0 < n):∃ b c,v=.slice (some ⟨b,0,none⟩) n c/\B<=b/\n<=c:=by
 rcases h.2 with ⟨_,h0⟩ | ⟨g,cap,cur,rfl,hb,_,hn',_⟩
 ·omega
 ·exact ⟨g,cap,rfl,hb,hn'⟩
theorem copy_len {s:Sp} {a b:List (Int × Bool)} {es:List Int} {r:Option (Sp × List (Int × Bool))} (h:copyF s a b es=some r):es.length<=1000000:=by
 unfold copyF at h
 split at h
 ·rename_i hg;exact hg.2.2.2
 ·cases h
theorem run_tail (eb ec m:Nat) (hm:m+1<=ec) (h1:1<=m) (W:World):(Instr.slice 23 (.slice (some ⟨eb,0,none⟩) (m+1) ec) (some (.int .i64 1)) none none).run Try.prog W=.ok (.slice (some ⟨eb,1,none⟩) m (ec - 1)) W:=by
 obtain ⟨i,hi,hz⟩:=Option.map_eq_some_iff.1 PShapeReducible.info3
 simp only [Prod.mk.injEq] at hz
 obtain ⟨hz0,hz1,hz2⟩:=hz
 have hel:Try.prog.elem 23=3:=by simp [Program.elem,Try.underlying23]
 have hu:Try.prog.underlying 23=some (.slice (Try.prog.elem 23)):=by rw [hel];exact Try.underlying23
 rw [run_slice_l W 23 _ (m+1) ec hu .i64 1 (by omega) (by omega),hel]
 have hc1:¬ ec=1:=by omega
 simp [sizeOf,typeInfo,hi,hz1,sliced,Result.andThen,hc1,Addr.add]
theorem own_tail {W:World} {eb c:Nat} {x:Int} {xs:List Int} (h:W.ownsRow 0 3 1 (.slice (some ⟨eb,0,none⟩) (x :: xs).length c) (x :: xs).length (nums .i64 (x :: xs))) (hx:0 < xs.length):kI.C W (some ⟨eb,1,none⟩) xs.length xs:=by
 obtain ⟨A,c',e,hc,hC⟩:=own_C h
 simp only [Value.slice.injEq,true_and] at e
 obtain ⟨rfl,rfl⟩:=e
 exact C_tail hC hc hx
set_option maxRecDepth 100000 in
set_option maxHeartbeats 4000000 in
theorem split_any (w0:World) (bs:Nat):∀ (k:Nat) (F:List Pc) (s:Sp) (nodes:List (Int × Bool)) (r:Option Sp) (w:World) (As:Option Addr) (cs bn:Nat) (vs:List Value) (nv:Value),
  Mem w0 w F [.blk bs (.cells #[.slice As s.succ.length cs,nv,.int .i64 s.copies,.int .i64 s.budget] 65 (0,0)),.mat (.slice As s.succ.length cs) vs s.succ,.row nv 3 1 s.node.length (nums .i64 s.node),.blk bn (mB nodes)]->splitF k s nodes=some r ->
  Calls Try.prog 39 #[.pointer (some ⟨bs,0,none⟩),.map (some bn)] w (SplitPost w0 F bs r):=by
 intro k
 induction k with
 | zero=>intro F s nodes r w As cs bn vs nv _ h;simp [splitF] at h
 | succ k ih =>
 intro F s nodes r w As cs bn vs nv M h
 simp only [splitF] at h
 by_cases hg:nodes.length<=1000000/\s.succ.length<=1000000/\∀ l∈s.succ,l.length<=1000000000
 ·rw [if_pos hg] at h
  obtain ⟨hn6,hs6,hrows⟩:=hg
  obtain ⟨ps,hps,h'⟩:=Option.bind_eq_some_iff.1 h
  clear h
  have h:=h'
  clear h'
  by_cases hpl:ps.length<=1000000
  ·rw [if_pos hpl] at h
   have IH:=ak_ ih
   have H:=ak_ h
   have hp:=parts_any w bs bn As cs k s.succ nodes ps (M.cell (k:=0) (j:=0) rfl rfl) (by
    obtain ⟨A,c,e,_,hC⟩:=M.matC (k:=1) rfl
    simp only [Value.slice.injEq,true_and] at e
    obtain ⟨rfl,rfl⟩:=e
    exact hC) (M.blk (k:=3) rfl) hrows hn6 hps
   have HP:=ak_ hp
   have MM:=ak_ M
   clear ih h hp M hps hrows
   go_enter Try.func39,Try.ntmps39
   go_wp2_with (go_at_call 58;refine HP.out.mono ?_;rintro e w1 ⟨pv,pvals,rfl,ho1,hr1,hb1⟩;have hlen:=hr1.len;obtain ⟨pA,pc,rfl⟩:=own_slice ho1;have M1:=ak_ ((MM.out.lose (k:=3) rfl).newmat (b:=0) hb1 ho1 hr1);rw [hlen] at M1 ⊢;clear ho1 hr1 hb1 hlen)
   go_loopw [17] (fun t wr=>∃ (i:Nat) (s:Sp) (As:Option Addr) (cs:Nat) (vs:List Value) (nv:Value),t=.int .i64 i/\i<=ps.length/\Aside0 (splitParts (splitF k) k (ps.drop i) s=some r) /\
    Aside0 (Mem w0 wr F [.blk bs (.cells #[.slice As s.succ.length cs,nv,.int .i64 s.copies,.int .i64 s.budget] 65 (0,0)),.mat (.slice As s.succ.length cs) vs s.succ,.row nv 3 1 s.node.length (nums .i64 s.node),.mat (.slice pA ps.length pc) pvals ps])) (fun t _=>ps.length - (intOf t).toNat)
   case atStart=>exact ⟨0,s,As,cs,vs,nv,rfl,Nat.zero_le _,by simpa using H,M1⟩
   case round =>
    clear hn6 hs6 MM M1 H HP
    obtain ⟨i,s,As,cs,vs,nv,rfl,hi,hA,hM⟩:=hrel
    have h1:=hA.out
    by_cases hlt:i < ps.length
    ·obtain ⟨part,hpart⟩:∃ part,part=ps.getD i []:=⟨_,rfl⟩
     rw [List.drop_eq_getElem_cons hlt,show ps[i]=part by simp [hpart,List.getD_eq_getElem?_getD,hlt]] at h1
     rw [splitParts] at h1
     by_cases hg:part.length<=1000000/\s.succ.length<=1000000/\∀ l∈s.succ,l.length<=1000000000
     ·rw [if_pos hg] at h1
      obtain ⟨hp6,hs6,hrows⟩:=hg
      obtain ⟨es,hes,h1⟩:=Option.bind_eq_some_iff.1 h1
      obtain ⟨pb,pc',pA',pn,e1,c1,e2,e3,hC⟩:=hM.out.matRow (k:=3) rfl hlt
      simp only [Value.slice.injEq,true_and] at e1
      obtain ⟨rfl,rfl⟩:=e1
      rw [<-hpart] at c1 e3 hC
      have HC:=ak_ hC
      have HES:=ak_ hes
      have HR:=ak_ hrows
      have hlt':(i:Int) < ps.length:=by omega
      have c9:=hM.out.cell (k:=0) (j:=0) rfl rfl
      have C9:=ak_ c9
      have hG:kG.C wr As s.succ.length s.succ:=by
       obtain ⟨A,c,e,_,hC⟩:=hM.out.matC (k:=1) rfl
       simp only [Value.slice.injEq,true_and] at e
       obtain ⟨rfl,rfl⟩:=e
       exact hC
      have HG:=ak_ hG
      have hcs:s.succ.length<=cs:=by
       obtain ⟨A,c,e,h9,_⟩:=hM.out.matC (k:=1) rfl
       simp only [Value.slice.injEq,true_and] at e
       obtain ⟨rfl,rfl⟩:=e
       exact h9
      obtain ⟨inside,hins⟩:∃ inside,inside=setF (-1) part []:=⟨_,rfl⟩
      have HIN:=ak_ hins
      rw [<-hins] at hes h1
      have HES:=ak_ hes
      clear hpart e2 hC hes hrows c9 hG hA hins
      rcases es with _ | ⟨head,others⟩
      ·have H2:=ak_ h1
       clear h1
       go_wp2_with (first
        | (go_at_call 40;((with_reducible refine (hM.out.set40 (c:=pn) (-1) HC.out).mono ?_));rintro e w2 ⟨bin,rfl,M2,hb2⟩;rw [<-HIN.out] at M2;have M2:=ak_ M2;have B2:=ak_ hb2;clear hb2)
        | (go_at_call 59;refine (entries_any w2 bs bin As pA' cs pn s.succ inside part [] k (M2.out.cell (k:=0) (j:=0) rfl rfl) (Kd.C_below HG.out B2.out) hcs (M2.out.blk (k:=4) rfl) (Kd.C_below HC.out B2.out) hp6 hs6 HR.out HES.out).mono ?_;rintro e w3 ⟨ev,rfl,hr3,hb3⟩;have ho3:=own_R hr3;obtain ⟨eA,ec,rfl⟩:=own_slice ho3;have M3:=ak_ (M2.out.newrow hb3 ho3 (fun k hk=>own_base ho3 k hk));have B3:=ak_ (B2.out.trans (hb3.mono B2.out.size));clear hr3 ho3 hb3))
       go_roundw
       case rel =>
        exact ⟨i+1,s,_,_,_,_,by go_num,by omega,H2,⟨(M3.out.focus [0,1,2,3] rfl).sub⟩⟩
       case measure=>simp [intOf];omega
      ·obtain ⟨rst,hrst⟩:∃ rst,rst=setF head part []:=⟨_,rfl⟩
       have HRE:=ak_ hrst
       dsimp only at h1
       rw [<-hrst] at h1
       clear hrst
       rcases others with _ | ⟨o,os⟩
       ·simp only [Option.bind_some] at h1
        obtain ⟨r2,hs2,h1'⟩:=Option.bind_eq_some_iff.1 h1
        have HS:=ak_ hs2
        cases r2 with
        | none =>
         obtain rfl:none=r:=Option.some.inj h1'
         clear h1 h1' hs2
         go_wp2_with (first
          | (go_at_call 40;((with_reducible refine (hM.out.set40 (c:=pn) (-1) HC.out).mono ?_));rintro e w2 ⟨bin,rfl,M2,hb2⟩;rw [<-HIN.out] at M2;have M2:=ak_ M2;have B2:=ak_ hb2;clear hb2)
          | (go_at_call 59;refine (entries_any w2 bs bin As pA' cs pn s.succ inside part [head] k (M2.out.cell (k:=0) (j:=0) rfl rfl) (Kd.C_below HG.out B2.out) hcs (M2.out.blk (k:=4) rfl) (Kd.C_below HC.out B2.out) hp6 hs6 HR.out HES.out).mono ?_;rintro e w3 ⟨ev,rfl,hr3,hb3⟩;have ho3:=own_R hr3;obtain ⟨eb,ec,rfl,_,hec⟩:=own_form3 ho3 (by simp);have c5:w3.cell? ⟨eb,0,none⟩=some (.int .i64 head):=own_cell ho3 0 (by simp) (by simp [nums]);have M3:=ak_ (M2.out.newrow hb3 ho3 (fun k hk=>own_base ho3 k hk));have B3:=ak_ (B2.out.trans (hb3.mono B2.out.size));clear hr3 ho3 hb3)
          | (go_at_call 40;((with_reducible refine (M3.out.set40 (c:=pn) head (Kd.C_below HC.out B3.out)).mono ?_));rintro e w4 ⟨br,rfl,M4,hb4⟩;rw [<-HRE.out] at M4;have M4:=ak_ M4;have B4:=ak_ (B3.out.trans (hb4.mono B3.out.size));clear hb4)
          | (go_at_call 39;((with_reducible refine (IH.out _ s _ none w4 _ _ _ _ _ (M4.out.focus [0,1,2,6] rfl) HS.out).mono ?_));rintro e w5 ⟨rfl,hb5⟩;have B5:=ak_ hb5;clear hb5))
         go_ret
         exact ⟨rfl,B5.out.sub⟩
        | some s2 =>
         have H2:=ak_ h1'
         clear h1 h1' hs2
         go_wp2_with (first
          | (go_at_call 40;((with_reducible refine (hM.out.set40 (c:=pn) (-1) HC.out).mono ?_));rintro e w2 ⟨bin,rfl,M2,hb2⟩;rw [<-HIN.out] at M2;have M2:=ak_ M2;have B2:=ak_ hb2;clear hb2)
          | (go_at_call 59;refine (entries_any w2 bs bin As pA' cs pn s.succ inside part [head] k (M2.out.cell (k:=0) (j:=0) rfl rfl) (Kd.C_below HG.out B2.out) hcs (M2.out.blk (k:=4) rfl) (Kd.C_below HC.out B2.out) hp6 hs6 HR.out HES.out).mono ?_;rintro e w3 ⟨ev,rfl,hr3,hb3⟩;have ho3:=own_R hr3;obtain ⟨eb,ec,rfl,_,hec⟩:=own_form3 ho3 (by simp);have c5:w3.cell? ⟨eb,0,none⟩=some (.int .i64 head):=own_cell ho3 0 (by simp) (by simp [nums]);have M3:=ak_ (M2.out.newrow hb3 ho3 (fun k hk=>own_base ho3 k hk));have B3:=ak_ (B2.out.trans (hb3.mono B2.out.size));clear hr3 ho3 hb3)
          | (go_at_call 40;((with_reducible refine (M3.out.set40 (c:=pn) head (Kd.C_below HC.out B3.out)).mono ?_));rintro e w4 ⟨br,rfl,M4,hb4⟩;rw [<-HRE.out] at M4;have M4:=ak_ M4;have B4:=ak_ (B3.out.trans (hb4.mono B3.out.size));clear hb4)
          | (go_at_call 39;((with_reducible refine (IH.out _ s _ (some s2) w4 _ _ _ _ _ (M4.out.focus [0,1,2,6] rfl) HS.out).mono ?_));rintro e w5 ⟨As5,cs5,vs5,nv5,rfl,M5⟩;have M5:=ak_ M5))
         go_roundw
         case rel =>
          exact ⟨i+1,s2,_,_,_,_,by go_num,by omega,H2,⟨((M5.out.wide).focus [0,1,2,3] rfl).sub⟩⟩
         case measure=>simp [intOf];omega
       ·obtain ⟨ot,hot⟩:∃ ot,ot=o :: os:=⟨_,rfl⟩
        have hot0:1<=ot.length:=by rw [hot];simp
        simp only [<-hot] at h1
        simp only [<-hot] at HES
        obtain ⟨rc,hrc,h1'⟩:=Option.bind_eq_some_iff.1 h1
        obtain ⟨reach,hreach,hrc⟩:=Option.bind_eq_some_iff.1 hrc
        obtain ⟨c,hc,hrc⟩:=Option.bind_eq_some_iff.1 hrc
        have HRC:=ak_ hreach
        have HCP:=ak_ hc
        have HRR:=ak_ hrc
        have HLL:=ak_ h1'
        have hot6:ot.length<=1000000:=copy_len hc
        cases c with
        | none =>
         obtain rfl:none=rc:=Option.some.inj hrc
         obtain rfl:none=r:=Option.some.inj h1'
         clear hot h1 h1' hreach hc hrc
         go_wp2_with (first
          | (go_at_call 40;((with_reducible refine (hM.out.set40 (c:=pn) (-1) HC.out).mono ?_));rintro e w2 ⟨bin,rfl,M2,hb2⟩;rw [<-HIN.out] at M2;have M2:=ak_ M2;have B2:=ak_ hb2;clear hb2)
          | (go_at_call 59;refine (entries_any w2 bs bin As pA' cs pn s.succ inside part (head :: ot) k (M2.out.cell (k:=0) (j:=0) rfl rfl) (Kd.C_below HG.out B2.out) hcs (M2.out.blk (k:=4) rfl) (Kd.C_below HC.out B2.out) hp6 hs6 HR.out HES.out).mono ?_;rintro e w3 ⟨ev,rfl,hr3,hb3⟩;have ho3:=own_R hr3;obtain ⟨eb,ec,rfl,_,hec⟩:=own_form3 ho3 (by simp);simp only [List.length_cons] at hec;have hsl:=run_tail eb ec ot.length hec hot0;have c5:w3.cell? ⟨eb,0,none⟩=some (.int .i64 head):=own_cell ho3 0 (by simp) (by simp [nums]);have M3:=ak_ (M2.out.newrow hb3 ho3 (fun k hk=>own_base ho3 k hk));have B3:=ak_ (B2.out.trans (hb3.mono B2.out.size));clear hr3 ho3 hb3)
          | (go_at_call 40;((with_reducible refine (M3.out.set40 (c:=pn) head (Kd.C_below HC.out B3.out)).mono ?_));rintro e w4 ⟨br,rfl,M4,hb4⟩;rw [<-HRE.out] at M4;obtain ⟨w4d,z4d,M4⟩:=M4.drew;have M4:=ak_ M4;have B4:=ak_ (show Below wr.heap.size wr w4d from z4d ▸ (B3.out.trans (hb4.mono B3.out.size)).drew);clear hb4) | (rw [z4d]) | (refine wp_region_txt (fun _=>True) [] (by kernel_rfl) (by kernel_rfl) ?_) | (with_reducible refine wpT_nil ?_) | (refine wpT_W (v:=?_) trivial (by decide) (wn_ rfl) (fun _ hS_=>?_) ?_;rotate_left;(focus ((try dsimp only at hS_);go_simp;rfl));(simp only [Act.put,sA_,sB_,sC_])) | (refine wpT_R (v:=?_) trivial (by decide) (wn_ rfl) ?_ ?_;rotate_left;(focus (go_simp;rfl));(simp only [Act.put,sA_,sB_,sC_])) | (refine wpT_A (v:=?_) (ob:=?_) trivial (by decide) (wn_ rfl) ?_ ?_ ?_;rotate_left 2;(focus (go_simp;first | (constructor <;> rfl) | rfl));(focus (exact trivial));(simp only [Act.put,sA_,sB_,sC_])))
         refine wpT_L trivial (by decide) (wn_ rfl) (fun K_ hK_=>?_)
         go_wp2_with (go_at_call 61;refine (reachable_any w4d bs br As (some ⟨eb,1,none⟩) cs (ec - 1) s.succ rst ot reach k (M4.out.cell (k:=0) (j:=0) rfl rfl) (Kd.C_below HG.out B4.out) (M4.out.blk (k:=6) rfl) (own_tail (M4.out.says (k:=5) rfl) hot0) (by omega) HRC.out).mono ?_;rintro e w5 ⟨brc,rfl,hb5,hle5,hbl5⟩;have M5:=ak_ (M4.out.new (.blk brc (mB reach)) hbl5 hb5 (fun q hq=>by simp only [Pc.blk] at hq;omega));clear hb5 hle5 hbl5)
         refine hK_ _ _ trivial ?_
         clear hK_
         iterate 3 ((first | (with_reducible refine wpT_nil ?_) | (refine wpT_W (v:=?_) trivial (by decide) (wn_ rfl) (fun _ hS_=>?_) ?_;rotate_left;(focus ((try dsimp only at hS_);go_simp;rfl))) | (refine wpT_R (v:=?_) trivial (by decide) (wn_ rfl) ?_ ?_;rotate_left;(focus (go_simp;rfl))) | (refine wpT_A (v:=?_) (ob:=?_) trivial (by decide) (wn_ rfl) ?_ ?_ ?_;rotate_left 2;(focus (go_simp;first | (constructor <;> rfl) | rfl));(focus (exact trivial))));(try simp only [Act.put,sA_,sB_,sC_]))
         refine wpT_L trivial (by decide) (wn_ rfl) (fun K_ hK_=>?_)
         go_wp2_with (go_at_call 60;refine (copy_any w0 _ bs brc bin eb (ec - 1) _ nv _ vs s reach inside ot (head :: ot) none w5 (by omega) (fun W hW=>own_tail hW hot0) (M5.out.focus [0,1,2,7,4,5] rfl) HCP.out).mono ?_;rintro e w6 ⟨rfl,B6h⟩;have B6:=ak_ B6h;clear B6h)
         refine hK_ _ _ trivial ?_
         clear hK_
         iterate 5 ((first | (with_reducible refine wpT_nil ?_) | (refine wpT_W (v:=?_) trivial (by decide) (wn_ rfl) (fun _ hS_=>?_) ?_;rotate_left;(focus ((try dsimp only at hS_);go_simp;rfl))) | (refine wpT_R (v:=?_) trivial (by decide) (wn_ rfl) ?_ ?_;rotate_left;(focus (go_simp;rfl))) | (refine wpT_A (v:=?_) (ob:=?_) trivial (by decide) (wn_ rfl) ?_ ?_ ?_;rotate_left 2;(focus (go_simp;first | (constructor <;> rfl) | rfl));(focus (exact trivial))));(try simp only [Act.put,sA_,sB_,sC_]))
         refine wpT_nil ?_
         go_wp2
         go_ret
         exact ⟨rfl,B6.out.sub⟩
        | some sc =>
         obtain ⟨s1,copied⟩:=sc
         dsimp only at hrc
         have HS1:=ak_ hrc
         cases rc with
         | none =>
          obtain rfl:none=r:=Option.some.inj h1'
          clear hot h1 h1' hreach hc hrc
          go_wp2_with (first
           | (go_at_call 40;((with_reducible refine (hM.out.set40 (c:=pn) (-1) HC.out).mono ?_));rintro e w2 ⟨bin,rfl,M2,hb2⟩;rw [<-HIN.out] at M2;have M2:=ak_ M2;have B2:=ak_ hb2;clear hb2)
           | (go_at_call 59;refine (entries_any w2 bs bin As pA' cs pn s.succ inside part (head :: ot) k (M2.out.cell (k:=0) (j:=0) rfl rfl) (Kd.C_below HG.out B2.out) hcs (M2.out.blk (k:=4) rfl) (Kd.C_below HC.out B2.out) hp6 hs6 HR.out HES.out).mono ?_;rintro e w3 ⟨ev,rfl,hr3,hb3⟩;have ho3:=own_R hr3;obtain ⟨eb,ec,rfl,_,hec⟩:=own_form3 ho3 (by simp);simp only [List.length_cons] at hec;have hsl:=run_tail eb ec ot.length hec hot0;have c5:w3.cell? ⟨eb,0,none⟩=some (.int .i64 head):=own_cell ho3 0 (by simp) (by simp [nums]);have M3:=ak_ (M2.out.newrow hb3 ho3 (fun k hk=>own_base ho3 k hk));have B3:=ak_ (B2.out.trans (hb3.mono B2.out.size));clear hr3 ho3 hb3)
           | (go_at_call 40;((with_reducible refine (M3.out.set40 (c:=pn) head (Kd.C_below HC.out B3.out)).mono ?_));rintro e w4 ⟨br,rfl,M4,hb4⟩;rw [<-HRE.out] at M4;obtain ⟨w4d,z4d,M4⟩:=M4.drew;have M4:=ak_ M4;have B4:=ak_ (show Below wr.heap.size wr w4d from z4d ▸ (B3.out.trans (hb4.mono B3.out.size)).drew);clear hb4) | (rw [z4d]) | (refine wp_region_txt (fun _=>True) [] (by kernel_rfl) (by kernel_rfl) ?_) | (with_reducible refine wpT_nil ?_) | (refine wpT_W (v:=?_) trivial (by decide) (wn_ rfl) (fun _ hS_=>?_) ?_;rotate_left;(focus ((try dsimp only at hS_);go_simp;rfl));(simp only [Act.put,sA_,sB_,sC_])) | (refine wpT_R (v:=?_) trivial (by decide) (wn_ rfl) ?_ ?_;rotate_left;(focus (go_simp;rfl));(simp only [Act.put,sA_,sB_,sC_])) | (refine wpT_A (v:=?_) (ob:=?_) trivial (by decide) (wn_ rfl) ?_ ?_ ?_;rotate_left 2;(focus (go_simp;first | (constructor <;> rfl) | rfl));(focus (exact trivial));(simp only [Act.put,sA_,sB_,sC_])))
          refine wpT_L trivial (by decide) (wn_ rfl) (fun K_ hK_=>?_)
          go_wp2_with (go_at_call 61;refine (reachable_any w4d bs br As (some ⟨eb,1,none⟩) cs (ec - 1) s.succ rst ot reach k (M4.out.cell (k:=0) (j:=0) rfl rfl) (Kd.C_below HG.out B4.out) (M4.out.blk (k:=6) rfl) (own_tail (M4.out.says (k:=5) rfl) hot0) (by omega) HRC.out).mono ?_;rintro e w5 ⟨brc,rfl,hb5,hle5,hbl5⟩;have M5:=ak_ (M4.out.new (.blk brc (mB reach)) hbl5 hb5 (fun q hq=>by simp only [Pc.blk] at hq;omega));clear hb5 hle5 hbl5)
          refine hK_ _ _ trivial ?_
          clear hK_
          iterate 3 ((first | (with_reducible refine wpT_nil ?_) | (refine wpT_W (v:=?_) trivial (by decide) (wn_ rfl) (fun _ hS_=>?_) ?_;rotate_left;(focus ((try dsimp only at hS_);go_simp;rfl))) | (refine wpT_R (v:=?_) trivial (by decide) (wn_ rfl) ?_ ?_;rotate_left;(focus (go_simp;rfl))) | (refine wpT_A (v:=?_) (ob:=?_) trivial (by decide) (wn_ rfl) ?_ ?_ ?_;rotate_left 2;(focus (go_simp;first | (constructor <;> rfl) | rfl));(focus (exact trivial))));(try simp only [Act.put,sA_,sB_,sC_]))
          refine wpT_L trivial (by decide) (wn_ rfl) (fun K_ hK_=>?_)
          go_wp2_with (go_at_call 60;refine (copy_any w0 _ bs brc bin eb (ec - 1) _ nv _ vs s reach inside ot (head :: ot) (some (s1,copied)) w5 (by omega) (fun W hW=>own_tail hW hot0) (M5.out.focus [0,1,2,7,4,5] rfl) HCP.out).mono ?_;rintro e w6 ⟨sv6,vs6,nv6,bo6,rfl,M6⟩;have hs6:∃ As6 cs6,sv6=.slice As6 s1.succ.length cs6:=(by obtain ⟨A,c,e,_⟩:=M6.matC (k:=1) rfl;exact ⟨A,c,e⟩);obtain ⟨As6,cs6,rfl⟩:=hs6;have M6:=ak_ (show Mem w0 w6 F [.blk bs (.cells #[.slice As6 s1.succ.length cs6,nv6,.int .i64 s1.copies,.int .i64 s1.budget] 65 (0,0)),.mat (.slice As6 s1.succ.length cs6) vs6 s1.succ,.row nv6 3 1 s1.node.length (nums .i64 s1.node),.blk brc (mB reach),.blk bin (mB inside),.row (.slice (some ⟨eb,0,none⟩) (head :: ot).length ec) 3 1 (head :: ot).length (nums .i64 (head :: ot)),.blk bo6 (mB copied),.mat (.slice (some ⟨pb,0,none⟩) ps.length pc) pvals ps,.blk br (mB rst)] from M6.wide))
          refine hK_ _ _ trivial ?_
          clear hK_
          iterate 5 ((first | (with_reducible refine wpT_nil ?_) | (refine wpT_W (v:=?_) trivial (by decide) (wn_ rfl) (fun _ hS_=>?_) ?_;rotate_left;(focus ((try dsimp only at hS_);go_simp;rfl))) | (refine wpT_R (v:=?_) trivial (by decide) (wn_ rfl) ?_ ?_;rotate_left;(focus (go_simp;rfl))) | (refine wpT_A (v:=?_) (ob:=?_) trivial (by decide) (wn_ rfl) ?_ ?_ ?_;rotate_left 2;(focus (go_simp;first | (constructor <;> rfl) | rfl));(focus (exact trivial))));(try simp only [Act.put,sA_,sB_,sC_]))
          refine wpT_nil ?_
          go_wp2_with (go_at_call 39;((with_reducible refine (IH.out _ s1 _ none w6 _ _ _ _ _ (M6.out.focus [0,1,2,6] rfl) HS1.out).mono ?_));rintro e w7 ⟨rfl,B7h⟩;have B7:=ak_ B7h;clear B7h)
          go_ret
          exact ⟨rfl,B7.out.sub⟩
         | some s5 =>
          dsimp only at h1'
          obtain ⟨r2,hs2,h1''⟩:=Option.bind_eq_some_iff.1 h1'
          have HS2:=ak_ hs2
          cases r2 with
          | none =>
           obtain rfl:none=r:=Option.some.inj h1''
           clear hot h1 h1' h1'' hreach hc hrc hs2
           go_wp2_with (first
            | (go_at_call 40;((with_reducible refine (hM.out.set40 (c:=pn) (-1) HC.out).mono ?_));rintro e w2 ⟨bin,rfl,M2,hb2⟩;rw [<-HIN.out] at M2;have M2:=ak_ M2;have B2:=ak_ hb2;clear hb2)
            | (go_at_call 59;refine (entries_any w2 bs bin As pA' cs pn s.succ inside part (head :: ot) k (M2.out.cell (k:=0) (j:=0) rfl rfl) (Kd.C_below HG.out B2.out) hcs (M2.out.blk (k:=4) rfl) (Kd.C_below HC.out B2.out) hp6 hs6 HR.out HES.out).mono ?_;rintro e w3 ⟨ev,rfl,hr3,hb3⟩;have ho3:=own_R hr3;obtain ⟨eb,ec,rfl,_,hec⟩:=own_form3 ho3 (by simp);simp only [List.length_cons] at hec;have hsl:=run_tail eb ec ot.length hec hot0;have c5:w3.cell? ⟨eb,0,none⟩=some (.int .i64 head):=own_cell ho3 0 (by simp) (by simp [nums]);have M3:=ak_ (M2.out.newrow hb3 ho3 (fun k hk=>own_base ho3 k hk));have B3:=ak_ (B2.out.trans (hb3.mono B2.out.size));clear hr3 ho3 hb3)
            | (go_at_call 40;((with_reducible refine (M3.out.set40 (c:=pn) head (Kd.C_below HC.out B3.out)).mono ?_));rintro e w4 ⟨br,rfl,M4,hb4⟩;rw [<-HRE.out] at M4;obtain ⟨w4d,z4d,M4⟩:=M4.drew;have M4:=ak_ M4;have B4:=ak_ (show Below wr.heap.size wr w4d from z4d ▸ (B3.out.trans (hb4.mono B3.out.size)).drew);clear hb4) | (rw [z4d]) | (refine wp_region_txt (fun _=>True) [] (by kernel_rfl) (by kernel_rfl) ?_) | (with_reducible refine wpT_nil ?_) | (refine wpT_W (v:=?_) trivial (by decide) (wn_ rfl) (fun _ hS_=>?_) ?_;rotate_left;(focus ((try dsimp only at hS_);go_simp;rfl));(simp only [Act.put,sA_,sB_,sC_])) | (refine wpT_R (v:=?_) trivial (by decide) (wn_ rfl) ?_ ?_;rotate_left;(focus (go_simp;rfl));(simp only [Act.put,sA_,sB_,sC_])) | (refine wpT_A (v:=?_) (ob:=?_) trivial (by decide) (wn_ rfl) ?_ ?_ ?_;rotate_left 2;(focus (go_simp;first | (constructor <;> rfl) | rfl));(focus (exact trivial));(simp only [Act.put,sA_,sB_,sC_])))
           refine wpT_L trivial (by decide) (wn_ rfl) (fun K_ hK_=>?_)
           go_wp2_with (go_at_call 61;refine (reachable_any w4d bs br As (some ⟨eb,1,none⟩) cs (ec - 1) s.succ rst ot reach k (M4.out.cell (k:=0) (j:=0) rfl rfl) (Kd.C_below HG.out B4.out) (M4.out.blk (k:=6) rfl) (own_tail (M4.out.says (k:=5) rfl) hot0) (by omega) HRC.out).mono ?_;rintro e w5 ⟨brc,rfl,hb5,hle5,hbl5⟩;have M5:=ak_ (M4.out.new (.blk brc (mB reach)) hbl5 hb5 (fun q hq=>by simp only [Pc.blk] at hq;omega));clear hb5 hle5 hbl5)
           refine hK_ _ _ trivial ?_
           clear hK_
           iterate 3 ((first | (with_reducible refine wpT_nil ?_) | (refine wpT_W (v:=?_) trivial (by decide) (wn_ rfl) (fun _ hS_=>?_) ?_;rotate_left;(focus ((try dsimp only at hS_);go_simp;rfl))) | (refine wpT_R (v:=?_) trivial (by decide) (wn_ rfl) ?_ ?_;rotate_left;(focus (go_simp;rfl))) | (refine wpT_A (v:=?_) (ob:=?_) trivial (by decide) (wn_ rfl) ?_ ?_ ?_;rotate_left 2;(focus (go_simp;first | (constructor <;> rfl) | rfl));(focus (exact trivial))));(try simp only [Act.put,sA_,sB_,sC_]))
           refine wpT_L trivial (by decide) (wn_ rfl) (fun K_ hK_=>?_)
           go_wp2_with (go_at_call 60;refine (copy_any w0 _ bs brc bin eb (ec - 1) _ nv _ vs s reach inside ot (head :: ot) (some (s1,copied)) w5 (by omega) (fun W hW=>own_tail hW hot0) (M5.out.focus [0,1,2,7,4,5] rfl) HCP.out).mono ?_;rintro e w6 ⟨sv6,vs6,nv6,bo6,rfl,M6⟩;have hs6:∃ As6 cs6,sv6=.slice As6 s1.succ.length cs6:=(by obtain ⟨A,c,e,_⟩:=M6.matC (k:=1) rfl;exact ⟨A,c,e⟩);obtain ⟨As6,cs6,rfl⟩:=hs6;have M6:=ak_ (show Mem w0 w6 F [.blk bs (.cells #[.slice As6 s1.succ.length cs6,nv6,.int .i64 s1.copies,.int .i64 s1.budget] 65 (0,0)),.mat (.slice As6 s1.succ.length cs6) vs6 s1.succ,.row nv6 3 1 s1.node.length (nums .i64 s1.node),.blk brc (mB reach),.blk bin (mB inside),.row (.slice (some ⟨eb,0,none⟩) (head :: ot).length ec) 3 1 (head :: ot).length (nums .i64 (head :: ot)),.blk bo6 (mB copied),.mat (.slice (some ⟨pb,0,none⟩) ps.length pc) pvals ps,.blk br (mB rst)] from M6.wide))
           refine hK_ _ _ trivial ?_
           clear hK_
           iterate 5 ((first | (with_reducible refine wpT_nil ?_) | (refine wpT_W (v:=?_) trivial (by decide) (wn_ rfl) (fun _ hS_=>?_) ?_;rotate_left;(focus ((try dsimp only at hS_);go_simp;rfl))) | (refine wpT_R (v:=?_) trivial (by decide) (wn_ rfl) ?_ ?_;rotate_left;(focus (go_simp;rfl))) | (refine wpT_A (v:=?_) (ob:=?_) trivial (by decide) (wn_ rfl) ?_ ?_ ?_;rotate_left 2;(focus (go_simp;first | (constructor <;> rfl) | rfl));(focus (exact trivial))));(try simp only [Act.put,sA_,sB_,sC_]))
           refine wpT_nil ?_
           go_wp2_with (first | (go_at_call 39;((with_reducible refine (IH.out _ s1 _ (some s5) w6 _ _ _ _ _ (M6.out.focus [0,1,2,6] rfl) HS1.out).mono ?_));rintro e w7 ⟨As7,cs7,vs7,nv7,rfl,M7⟩;have M7:=ak_ (show Mem w0 w7 F [.blk bs (.cells #[.slice As7 s5.succ.length cs7,nv7,.int .i64 s5.copies,.int .i64 s5.budget] 65 (0,0)),.mat (.slice As7 s5.succ.length cs7) vs7 s5.succ,.row nv7 3 1 s5.node.length (nums .i64 s5.node),.blk brc (mB reach),.blk bin (mB inside),.row (.slice (some ⟨eb,0,none⟩) (head :: ot).length ec) 3 1 (head :: ot).length (nums .i64 (head :: ot)),.mat (.slice (some ⟨pb,0,none⟩) ps.length pc) pvals ps,.blk br (mB rst)] from M7.wide)) | (go_at_call 39;((with_reducible refine (IH.out _ s5 _ none w7 _ _ _ _ _ (M7.out.focus [0,1,2,7] rfl) HS2.out).mono ?_));rintro e w8 ⟨rfl,B8h⟩;have B8:=ak_ B8h;clear B8h))
           go_ret
           exact ⟨rfl,B8.out.sub⟩
          | some s2 =>
           have H2:=ak_ h1''
           clear hot h1 h1' h1'' hreach hc hrc hs2
           go_wp2_with (first
            | (go_at_call 40;((with_reducible refine (hM.out.set40 (c:=pn) (-1) HC.out).mono ?_));rintro e w2 ⟨bin,rfl,M2,hb2⟩;rw [<-HIN.out] at M2;have M2:=ak_ M2;have B2:=ak_ hb2;clear hb2)
            | (go_at_call 59;refine (entries_any w2 bs bin As pA' cs pn s.succ inside part (head :: ot) k (M2.out.cell (k:=0) (j:=0) rfl rfl) (Kd.C_below HG.out B2.out) hcs (M2.out.blk (k:=4) rfl) (Kd.C_below HC.out B2.out) hp6 hs6 HR.out HES.out).mono ?_;rintro e w3 ⟨ev,rfl,hr3,hb3⟩;have ho3:=own_R hr3;obtain ⟨eb,ec,rfl,_,hec⟩:=own_form3 ho3 (by simp);simp only [List.length_cons] at hec;have hsl:=run_tail eb ec ot.length hec hot0;have c5:w3.cell? ⟨eb,0,none⟩=some (.int .i64 head):=own_cell ho3 0 (by simp) (by simp [nums]);have M3:=ak_ (M2.out.newrow hb3 ho3 (fun k hk=>own_base ho3 k hk));have B3:=ak_ (B2.out.trans (hb3.mono B2.out.size));clear hr3 ho3 hb3)
            | (go_at_call 40;((with_reducible refine (M3.out.set40 (c:=pn) head (Kd.C_below HC.out B3.out)).mono ?_));rintro e w4 ⟨br,rfl,M4,hb4⟩;rw [<-HRE.out] at M4;obtain ⟨w4d,z4d,M4⟩:=M4.drew;have M4:=ak_ M4;have B4:=ak_ (show Below wr.heap.size wr w4d from z4d ▸ (B3.out.trans (hb4.mono B3.out.size)).drew);clear hb4) | (rw [z4d]) | (refine wp_region_txt (fun _=>True) [] (by kernel_rfl) (by kernel_rfl) ?_) | (with_reducible refine wpT_nil ?_) | (refine wpT_W (v:=?_) trivial (by decide) (wn_ rfl) (fun _ hS_=>?_) ?_;rotate_left;(focus ((try dsimp only at hS_);go_simp;rfl));(simp only [Act.put,sA_,sB_,sC_])) | (refine wpT_R (v:=?_) trivial (by decide) (wn_ rfl) ?_ ?_;rotate_left;(focus (go_simp;rfl));(simp only [Act.put,sA_,sB_,sC_])) | (refine wpT_A (v:=?_) (ob:=?_) trivial (by decide) (wn_ rfl) ?_ ?_ ?_;rotate_left 2;(focus (go_simp;first | (constructor <;> rfl) | rfl));(focus (exact trivial));(simp only [Act.put,sA_,sB_,sC_])))
           refine wpT_L trivial (by decide) (wn_ rfl) (fun K_ hK_=>?_)
           go_wp2_with (go_at_call 61;refine (reachable_any w4d bs br As (some ⟨eb,1,none⟩) cs (ec - 1) s.succ rst ot reach k (M4.out.cell (k:=0) (j:=0) rfl rfl) (Kd.C_below HG.out B4.out) (M4.out.blk (k:=6) rfl) (own_tail (M4.out.says (k:=5) rfl) hot0) (by omega) HRC.out).mono ?_;rintro e w5 ⟨brc,rfl,hb5,hle5,hbl5⟩;have M5:=ak_ (M4.out.new (.blk brc (mB reach)) hbl5 hb5 (fun q hq=>by simp only [Pc.blk] at hq;omega));clear hb5 hle5 hbl5)
           refine hK_ _ _ trivial ?_
           clear hK_
           iterate 3 ((first | (with_reducible refine wpT_nil ?_) | (refine wpT_W (v:=?_) trivial (by decide) (wn_ rfl) (fun _ hS_=>?_) ?_;rotate_left;(focus ((try dsimp only at hS_);go_simp;rfl))) | (refine wpT_R (v:=?_) trivial (by decide) (wn_ rfl) ?_ ?_;rotate_left;(focus (go_simp;rfl))) | (refine wpT_A (v:=?_) (ob:=?_) trivial (by decide) (wn_ rfl) ?_ ?_ ?_;rotate_left 2;(focus (go_simp;first | (constructor <;> rfl) | rfl));(focus (exact trivial))));(try simp only [Act.put,sA_,sB_,sC_]))
           refine wpT_L trivial (by decide) (wn_ rfl) (fun K_ hK_=>?_)
           go_wp2_with (go_at_call 60;refine (copy_any w0 _ bs brc bin eb (ec - 1) _ nv _ vs s reach inside ot (head :: ot) (some (s1,copied)) w5 (by omega) (fun W hW=>own_tail hW hot0) (M5.out.focus [0,1,2,7,4,5] rfl) HCP.out).mono ?_;rintro e w6 ⟨sv6,vs6,nv6,bo6,rfl,M6⟩;have hs6:∃ As6 cs6,sv6=.slice As6 s1.succ.length cs6:=(by obtain ⟨A,c,e,_⟩:=M6.matC (k:=1) rfl;exact ⟨A,c,e⟩);obtain ⟨As6,cs6,rfl⟩:=hs6;have M6:=ak_ (show Mem w0 w6 F [.blk bs (.cells #[.slice As6 s1.succ.length cs6,nv6,.int .i64 s1.copies,.int .i64 s1.budget] 65 (0,0)),.mat (.slice As6 s1.succ.length cs6) vs6 s1.succ,.row nv6 3 1 s1.node.length (nums .i64 s1.node),.blk brc (mB reach),.blk bin (mB inside),.row (.slice (some ⟨eb,0,none⟩) (head :: ot).length ec) 3 1 (head :: ot).length (nums .i64 (head :: ot)),.blk bo6 (mB copied),.mat (.slice (some ⟨pb,0,none⟩) ps.length pc) pvals ps,.blk br (mB rst)] from M6.wide))
           refine hK_ _ _ trivial ?_
           clear hK_
           iterate 5 ((first | (with_reducible refine wpT_nil ?_) | (refine wpT_W (v:=?_) trivial (by decide) (wn_ rfl) (fun _ hS_=>?_) ?_;rotate_left;(focus ((try dsimp only at hS_);go_simp;rfl))) | (refine wpT_R (v:=?_) trivial (by decide) (wn_ rfl) ?_ ?_;rotate_left;(focus (go_simp;rfl))) | (refine wpT_A (v:=?_) (ob:=?_) trivial (by decide) (wn_ rfl) ?_ ?_ ?_;rotate_left 2;(focus (go_simp;first | (constructor <;> rfl) | rfl));(focus (exact trivial))));(try simp only [Act.put,sA_,sB_,sC_]))
           refine wpT_nil ?_
           go_wp2_with (first | (go_at_call 39;((with_reducible refine (IH.out _ s1 _ (some s5) w6 _ _ _ _ _ (M6.out.focus [0,1,2,6] rfl) HS1.out).mono ?_));rintro e w7 ⟨As7,cs7,vs7,nv7,rfl,M7⟩;have M7:=ak_ (show Mem w0 w7 F [.blk bs (.cells #[.slice As7 s5.succ.length cs7,nv7,.int .i64 s5.copies,.int .i64 s5.budget] 65 (0,0)),.mat (.slice As7 s5.succ.length cs7) vs7 s5.succ,.row nv7 3 1 s5.node.length (nums .i64 s5.node),.blk brc (mB reach),.blk bin (mB inside),.row (.slice (some ⟨eb,0,none⟩) (head :: ot).length ec) 3 1 (head :: ot).length (nums .i64 (head :: ot)),.mat (.slice (some ⟨pb,0,none⟩) ps.length pc) pvals ps,.blk br (mB rst)] from M7.wide)) | (go_at_call 39;((with_reducible refine (IH.out _ s5 _ (some s2) w7 _ _ _ _ _ (M7.out.focus [0,1,2,7] rfl) HS2.out).mono ?_));rintro e w8 ⟨As8,cs8,vs8,nv8,rfl,M8⟩;have M8:=ak_ (show Mem w0 w8 F [.blk bs (.cells #[.slice As8 s2.succ.length cs8,nv8,.int .i64 s2.copies,.int .i64 s2.budget] 65 (0,0)),.mat (.slice As8 s2.succ.length cs8) vs8 s2.succ,.row nv8 3 1 s2.node.length (nums .i64 s2.node),.blk brc (mB reach),.blk bin (mB inside),.row (.slice (some ⟨eb,0,none⟩) (head :: ot).length ec) 3 1 (head :: ot).length (nums .i64 (head :: ot)),.mat (.slice (some ⟨pb,0,none⟩) ps.length pc) pvals ps] from M8.wide)))
           go_roundw
           case rel =>
            exact ⟨i+1,s2,_,_,_,_,by go_num,by omega,H2,⟨(M8.out.focus [0,1,2,6] rfl).sub⟩⟩
           case measure=>simp [intOf];omega
     ·rw [if_neg hg] at h1;cases h1
    ·obtain rfl:ps.length=i:=by omega
     rw [List.drop_length] at h1
     simp only [splitParts,Option.some.injEq] at h1
     subst h1
     go_wp2
     go_ret
     exact ⟨As,cs,vs,nv,rfl,(hM.out.focus [0,1,2] rfl).sub⟩
  ·rw [if_neg hpl] at h;cases h
 ·rw [if_neg hg] at h;cases h
end Go.Proofs.Ytfiiihpdekppiaa
end
section
namespace Go.Proofs.Ytfiiihpdekppiaa
open Go.RowKit Go.Shelf Go.Proofs Go.Proofs.YtfiiihpdekppiaaW.PrintWords
attribute [local go_sem] Oper.semAt_some
theorem backward_any (w:World) (A:Option Addr) (n c:Nat):Calls Try.prog 66 #[.slice A n c] w fun e w' =>
  e=.returned (.func (.func 85) #[] #[.pointer (some ⟨w.heap.size,0,none⟩)])/\w'=(w.alloc (.cells #[.slice A n c] 23)):=by
 go_enter Try.func66,Try.ntmps66
 go_wp2
 go_ret
 exact ⟨rfl,rfl⟩
abbrev Nd2 (N:Nat):={ p:Nat × Int // 0<=p.2/\p.2 < N }
def enc2 {N:Nat} (x:Nd2 N):Array Value:=#[.int .i64 x.1.1,.int .i64 x.1.2]
set_option maxRecDepth 100000 in
set_option maxHeartbeats 4000000 in
theorem yields85 (n l bb B:Nat) (S:Nat->Prop) (N:Nat) (A:Option Addr) (c:Nat) (ord:List Int) (xs:List (Nd2 N)) (J Jx:List (Nd2 N)->World->Prop) (hxl:xs.length=ord.length) (hxs:∀ k (h:k < xs.length),(xs[k]).1=(ord.length - 1 - k,ord.getD (ord.length - 1 - k) 0))
  (hY:∀ pre x W1,J pre W1->pre.length < xs.length->YieldAt Fence.wide n Try.prog l (enc2 x) W1 fun e W' =>
   (e=.returned (.bool true)/\J (pre++[x]) W'/\Bel B S W1 W')∨(e=.returned (.bool false)/\Jx (pre++[x]) W'))
  (W:World) (h1:∀ W',Bel B S W W'->W'.cell? ⟨bb,0,none⟩=some (.slice A ord.length c))
  (h4:∀ W',Bel B S W W'->kI.C W' A ord.length ord) (h0:J [] W) :
  CallsIn Fence.wide (n+1) Try.prog 85 #[.func (.yield l) #[] #[],.pointer (some ⟨bb,0,none⟩)] W fun e W'=>(∃ v,e=.returned v)/\((∃ ys,ys=xs/\J ys W')∨(∃ pre,pre <+: xs/\Jx pre W')):=by
 have H1:=ak_ h1
 have H4:=ak_ h4
 have H0:=ak_ h0
 have HXS:=ak_ hxs
 have HXL:=ak_ hxl
 have BB:=ak_ (Bel.refl B S W)
 have d1:=h1 W (Bel.refl B S W)
 have hl9:ord.length<=9223372036854775807:=(h4 W (Bel.refl B S W)).2.1
 have hw1:IntKind.i64.wrap ((ord.length:Int) - 1)=(ord.length:Int) - 1:=IntWalk.i64_in _ (by omega)
 clear h1 h4 h0 hxs hxl
 refine callsIn_of_wp Try.func85 rfl trivial ?_ rfl
 simp only [Try.ntmps85,List.size_toArray,List.length_cons,List.length_nil,Nat.reduceAdd,Nat.reduceSub,Array.replicate_succ,Array.replicate_zero,List.push_toArray,List.append_toArray,List.nil_append,List.cons_append]
 gi_wp2
 clear d1
 gi_loopw [3] (fun t wr=>∃ k:Nat,t=.int .i64 ((ord.length:Int) - 1 - k)/\k<=ord.length/\Aside0 (J (xs.take k) wr)/\Aside0 (Bel B S W wr)) (fun t _=>(intOf t+1).toNat)
 case atStart=>exact ⟨0,by simp,Nat.zero_le _,⟨by simpa using H0.out⟩,BB⟩
 case round =>
  obtain ⟨k,rfl,hk,hJ,hB⟩:=hrel
  by_cases hlt:k < ord.length
  ·have hkx:k < xs.length:=by rw [HXL.out];exact hlt
   obtain ⟨i,hi⟩:∃ i:Nat,i=ord.length - 1 - k:=⟨_,rfl⟩
   have hii:(ord.length:Int) - 1 - k=i:=by omega
   obtain ⟨x,hx⟩:∃ x,x=xs[k]:=⟨_,rfl⟩
   have hx1:x.1=(i,ord.getD i 0):=by rw [hx,HXS.out k hkx,hi]
   obtain ⟨ad,rfl,e0⟩:=C_num (H4.out _ hB.out) i (by omega)
   have e1:=H1.out _ hB.out
   obtain ⟨m,hm⟩:∃ m,m=ord.getD i 0:=⟨_,rfl⟩
   rw [<-hm] at e0 hx1
   obtain ⟨fn,tmps,assign,body,hy,hR⟩:=hY _ x wr hJ.out (by simp;omega)
   have hx2:enc2 x=#[.int .i64 i,.int .i64 m]:=by unfold enc2;rw [hx1]
   rw [hx2] at hy
   have HX:=ak_ hx
   have HR:=ak_ hR
   have hi2:(i:Int) < ord.length:=by omega
   have HI:=ak_ hi
   rw [hii]
   have HII:=ak_ hii
   clear hR hx hx1 hx2 hm hi hii
   gi_wp2
   refine HR.out.mono ?_
   rintro e W3 (⟨rfl,hJ3,hk3⟩ | ⟨rfl,hJx3⟩)
   ·have J3:=ak_ (show J (xs.take (k+1)) W3 by rw [List.take_succ_eq_append_getElem hkx,<-HX.out];exact hJ3)
    have B3:=ak_ (hB.out.trans hk3)
    clear hJ3 hk3 HR
    gi_wp2
    go_roundw
    case rel=>exact ⟨k+1,by have:=HII.out;congr 1 <;> omega,by omega,J3,B3⟩
    case measure=>have:=HII.out;simp [intOf] <;> omega
   ·have J3:=ak_ (show Jx (xs.take (k+1)) W3 by rw [List.take_succ_eq_append_getElem hkx,<-HX.out];exact hJx3)
    clear hJx3 HR
    gi_wp2
    refine bodyPost_ret (results_none rfl _ _ _) rfl ?_
    exact ⟨⟨_,rfl⟩,.inr ⟨_,List.take_prefix _ _,J3.out⟩⟩
  ·obtain rfl:k=ord.length:=by omega
   have hneg:(ord.length:Int) - 1 - ord.length=-1:=by omega
   rw [hneg]
   gi_wp2
   go_end0
   exact ⟨⟨_,rfl⟩,.inl ⟨_,rfl,by have:=hJ.out;rw [<-HXL.out,List.take_length] at this;exact this⟩⟩
theorem backward_stops (n bb B:Nat) (S:Nat->Prop) (N:Nat) (A:Option Addr) (c:Nat) (ord:List Int) (xs:List (Nd2 N)) (hxl:xs.length=ord.length) (hxs:∀ k (h:k < xs.length),(xs[k]).1=(ord.length - 1 - k,ord.getD (ord.length - 1 - k) 0)) (w:World) (hB:B<=w.heap.size)
  (h1:∀ W',Bel B S w W'->W'.cell? ⟨bb,0,none⟩=some (.slice A ord.length c)) (h4:∀ W',Bel B S w W'->kI.C W' A ord.length ord) :
  SeqStopsK Fence.wide (n+1) Try.prog 85 #[.pointer (some ⟨bb,0,none⟩)] (fun x:Nd2 N=>enc2 x) (Bel B S) (fun ys=>ys=xs) (fun pre=>pre <+: xs) xs.length w:=by
 intro l J Jx W hW hJ _ hY h0
 exact yields85 n l bb B S N A c ord xs J Jx hxl hxs hY W (fun W' h=>h1 W' ((Bel.below hW hB).trans h)) (fun W' h=>h4 W' ((Bel.below hW hB).trans h)) h0
end Go.Proofs.Ytfiiihpdekppiaa
end
section
namespace Go.Proofs.Ytfiiihpdekppiaa
open Go.RowKit Go.Proofs Go.Proofs.YtfiiihpdekppiaaW.PrintWords
open Go.ChangeMaps (setBlock heap_setBlock_same heap_setBlock_other)
theorem leave_any (w:World) (a b:Int):Calls Try.prog 114 #[.int .i64 a,.int .i64 b] w fun e w'=>e=.returned (.agg #[.int .i64 a,.int .i64 0,.int .i64 b,.slice none 0 0])/\Below w.heap.size w w':=by
 go_enter Try.func114,Try.ntmps114
 go_wp2
 refine bodyPost_ret (v:=.agg #[.int .i64 a,.int .i64 0,.int .i64 b,.slice none 0 0]) (by simp [results,Try.results114,go_sem]) rfl ⟨rfl,?_⟩
 exact (Below.refl _ _).alloc (Nat.le_refl _) _
theorem visit4_any (w:World) (a:Int) (A:Option Addr) (n c:Nat):Calls Try.prog 100 #[.int .i64 a,.slice A n c] w fun e w'=>e=.returned (.agg #[.int .i64 2,.int .i64 a,.int .i64 0,.slice A n c])/\Below w.heap.size w w':=by
 go_enter Try.func100,Try.ntmps100
 go_wp2
 refine bodyPost_ret (v:=.agg #[.int .i64 2,.int .i64 a,.int .i64 0,.slice A n c]) (by simp [results,Try.results100,go_sem]) rfl ⟨rfl,?_⟩
 exact (Below.refl _ _).alloc (Nat.le_refl _) _
theorem Mem.fill4 {w0 w:World} {F H:List Pc} {k b t:Nat} {z0 z1 z2 z3:Value} (h:Mem w0 w F H) (hk:H[k]?=some (.blk b (.cells #[z0,z1,z2,z3] t (0,0)))) (u0 u1 u2 u3:Value) :
  ∃ a1 a2 a3 a4:World,(w.setCell ⟨b,0,none⟩ u0=a1/\a1.setCell ⟨b,1,none⟩ u1=a2/\a2.setCell ⟨b,2,none⟩ u2=a3/\a3.setCell ⟨b,3,none⟩ u3=a4) /\
   (w.cell? ⟨b,0,none⟩=some z0/\a1.cell? ⟨b,1,none⟩=some z1/\a2.cell? ⟨b,2,none⟩=some z2/\a3.cell? ⟨b,3,none⟩=some z3) /\
   (w.frozen? ⟨b,0,none⟩=false/\a1.frozen? ⟨b,1,none⟩=false/\a2.frozen? ⟨b,2,none⟩=false/\a3.frozen? ⟨b,3,none⟩=false) /\
   Mem w0 a4 F (H.set k (.blk b (.cells #[u0,u1,u2,u3] t (0,0)))):=by
 have hlt:=(List.getElem?_eq_some_iff.1 hk).1
 have hk1:∀ (L:List Pc) (c:Pc),L.length=H.length->(L.set k c)[k]?=some c:=fun L c hL=>by simp [hL,hlt]
 obtain ⟨a1,e1,M1⟩:=h.set 0 hk u0
 have q1:=hk1 H (.blk b (.cells #[u0,z1,z2,z3] t (0,0))) rfl
 obtain ⟨a2,e2,M2⟩:=M1.set 1 q1 u1
 have q2:=hk1 (H.set k (.blk b (.cells #[u0,z1,z2,z3] t (0,0)))) (.blk b (.cells #[u0,u1,z2,z3] t (0,0))) (by simp)
 obtain ⟨a3,e3,M3⟩:=M2.set 2 q2 u2
 have q3:=hk1 ((H.set k (.blk b (.cells #[u0,z1,z2,z3] t (0,0)))).set k (.blk b (.cells #[u0,u1,z2,z3] t (0,0)))) (.blk b (.cells #[u0,u1,u2,z3] t (0,0))) (by simp)
 obtain ⟨a4,e4,M4⟩:=M3.set 3 q3 u3
 refine ⟨a1,a2,a3,a4,⟨e1,e2,e3,e4⟩,⟨h.cell hk rfl,M1.cell q1 rfl,M2.cell q2 rfl,M3.cell q3 rfl⟩,⟨h.free hk,M1.free q1,M2.free q2,M3.free q3⟩,?_⟩
 simp only [List.set_set] at M4
 exact M4
theorem seq1_any (w:World) (b:Nat) (x0 x1 x2:Int) (A:Option Addr) (n c:Nat) (hb:w.heap[b]?=some (.cells #[.int .i64 x0,.int .i64 x1,.int .i64 x2,.slice A n c] 31 (0,0))):Calls Try.prog 98 #[.slice (some ⟨b,0,none⟩) 1 1] w fun e w'=>e=.returned (.agg #[.int .i64 x0,.int .i64 x1,.int .i64 x2,.slice A n c])/\Below w.heap.size w w':=by
 have c0:(w.alloc (.cells #[.int .i64 0,.int .i64 0,.int .i64 0,.slice none 0 0] 31)).cell? ⟨b,0,none⟩=some (.int .i64 x0):=cell_alloc _ (cell_blk hb rfl)
 have c1:(w.alloc (.cells #[.int .i64 0,.int .i64 0,.int .i64 0,.slice none 0 0] 31)).cell? ⟨b,1,none⟩=some (.int .i64 x1):=cell_alloc _ (cell_blk hb rfl)
 have c2:(w.alloc (.cells #[.int .i64 0,.int .i64 0,.int .i64 0,.slice none 0 0] 31)).cell? ⟨b,2,none⟩=some (.int .i64 x2):=cell_alloc _ (cell_blk hb rfl)
 have c3:(w.alloc (.cells #[.int .i64 0,.int .i64 0,.int .i64 0,.slice none 0 0] 31)).cell? ⟨b,3,none⟩=some (.slice A n c):=cell_alloc _ (cell_blk hb rfl)
 clear hb
 go_enter Try.func98,Try.ntmps98
 go_wp2
 refine bodyPost_ret (v:=.agg #[.int .i64 x0,.int .i64 x1,.int .i64 x2,.slice A n c]) (by simp [results,Try.results98,go_sem]) rfl ⟨rfl,?_⟩
 exact (Below.refl _ _).alloc (Nat.le_refl _) _
theorem seq2_any (w:World) (A:Option Addr) (n c:Nat) (hn:n≠1):Calls Try.prog 98 #[.slice A n c] w fun e w'=>e=.returned (.agg #[.int .i64 1,.int .i64 0,.int .i64 0,.slice A n c])/\Below w.heap.size w w':=by
 have hn1:((n:Int) == 1)=false:=by simp;omega
 clear hn
 go_enter Try.func98,Try.ntmps98
 go_wp2
 refine bodyPost_ret (v:=.agg #[.int .i64 1,.int .i64 0,.int .i64 0,.slice A n c]) (by simp [results,Try.results98,go_sem]) rfl ⟨rfl,?_⟩
 exact (Below.refl _ _).alloc (Nat.le_refl _) _
theorem body_any (w:World) (k l:Int) (b:Nat) (x0 x1 x2:Int) (A:Option Addr) (n c:Nat) (hb:w.heap[b]?=some (.cells #[.int .i64 x0,.int .i64 x1,.int .i64 x2,.slice A n c] 31 (0,0))):Calls Try.prog 87 #[.int .i64 k,.int .i64 l,.slice (some ⟨b,0,none⟩) 1 1] w fun e w'=>∃ b',e=.returned (.agg #[.int .i64 k,.int .i64 0,.int .i64 l,.slice (some ⟨b',0,none⟩) 1 1])/\w'.heap[b']?=some (.cells #[.int .i64 x0,.int .i64 x1,.int .i64 x2,.slice A n c] 31 (0,0))/\w.heap.size<=b'/\Below w.heap.size w w':=by
 obtain ⟨b6,w1,z1,a1,M1⟩:=(Mem.start w).alloc (.cells #[.int .i64 0,.int .i64 0,.int .i64 0,.slice none 0 0] 31)
 have HB:=ak_ (show w1.heap[b]?=some (.cells #[.int .i64 x0,.int .i64 x1,.int .i64 x2,.slice A n c] 31 (0,0)) from (M1.hb.block _ (blk_lt' hb)).trans hb)
 have M1:=ak_ M1
 have HS:=ak_ (Nat.le_of_eq z1)
 clear hb
 go_enter Try.func87,Try.ntmps87
 go_wp2_with (go_at_call 98;refine (seq1_any w1 b x0 x1 x2 A n c HB.out).mono ?_;rintro e w2 ⟨rfl,hb2⟩;obtain ⟨b3,w3,z3,a3,M3⟩:=(M1.out.below hb2).alloc (.cells #[.int .i64 x0,.int .i64 x1,.int .i64 x2,.slice A n c] 31);obtain ⟨y1,y2,y3,y4,ys,yc,yf,M4⟩:=M3.fill4 (k:=0) rfl (.int .i64 k) (.int .i64 0) (.int .i64 l) (.slice (some ⟨b3,0,none⟩) 1 1);have M4:=ak_ M4;have Z3:=ak_ (show w.heap.size<=b3 from Nat.le_trans M1.out.size (Nat.le_trans hb2.size (Nat.le_of_eq z3)));clear hb2)
 refine bodyPost_ret (results_cell_row rfl _ _ b6 31 #[.int .i64 k,.int .i64 0,.int .i64 l,.slice (some ⟨b3,0,none⟩) 1 1] (0,0) _ rfl (M4.out.blk (k:=0) rfl) Try.underlying31 rfl (by kernel_rfl)) rfl ?_
 exact ⟨b3,rfl,M4.out.blk (k:=1) rfl,Z3.out,M4.out.hb⟩
theorem label_any (w0 w:World) (F H:List Pc) (k bn n:Nat) (M:Mem w0 w F H) (hk:H[k]?=some (.blk bn (.cells #[.int .i64 n] 3 (0,0)))) (hn:n<=1000000000):Calls Try.prog 64 #[.pointer (some ⟨bn,0,none⟩)] w fun e w'=>e=.returned (.int .i64 n)/\Mem w0 w' F (H.set k (.blk bn (.cells #[.int .i64 (n+1:Nat)] 3 (0,0)))):=by
 have k1:=M.cell (j:=0) hk rfl
 have k2:=M.free (j:=0) hk
 obtain ⟨w1,s1,M1⟩:=M.set 0 hk (.int .i64 ((n:Int)+1))
 have k3:=M1.cell (k:=k) (j:=0) (by simp [(List.getElem?_eq_some_iff.1 hk).1];rfl) rfl
 have M1:=ak_ M1
 clear M
 go_enter Try.func64,Try.ntmps64
 go_wp2
 go_ret
 exact ⟨by first | rfl | (congr 2;omega),M1.out⟩
structure Bp where
 bb:Nat
 bat:Nat
 bk:Nat
 bmg:Nat
 blo:Nat
 bbl:Nat
 bn:Nat
 As:Option Addr
 An:Option Addr
 cs:Nat
 cn:Nat
 vs:List Value
def Bp.own (p:Bp) (B:Bd) (s:Bs):List Pc :=
  [.blk p.bb (.cells #[.slice p.As B.succ.length p.cs,.slice p.An B.node.length p.cn,.map (some p.bat),.map (some p.bk),.map (some p.bmg),.map (some p.blo),.map (some p.bbl),.func (.func 64) #[] #[.pointer (some ⟨p.bn,0,none⟩)]] 116 (0,0)),
   .blk p.bat (mI B.att),.km p.bk p.vs B.kids,.blk p.bmg (mB B.merged),.blk p.blo (mI s.loops),.blk p.bbl (mI s.blocks),.blk p.bn (.cells #[.int .i64 s.n] 3 (0,0))]
abbrev shc (x:Sh) (A:Option Addr) (c:Nat):List Value:=[.int .i64 x.f0,.int .i64 x.f1,.int .i64 x.f2,.slice A x.f3.length c]
abbrev shz:List Value:=[.int .i64 0,.int .i64 0,.int .i64 0,.slice none 0 0]
def BPost (w0:World) (F:List Pc) (p:Bp) (B:Bd) (q:Sh × Bs) (e:Ending) (w':World):Prop :=
 ∃ A c ok,e=.returned (.agg (shc q.1 A c).toArray)/\Mem w0 w' F (p.own B q.2++[.fk ok q.1 (shc q.1 A c)])
def TreeOk (w0:World) (p:Bp) (B:Bd) (k:Nat):Prop:=∀ (n:Int) (s:Bs) (q:Sh × Bs) (w:World) (F:List Pc),Mem w0 w F (p.own B s)->bF B k (.tree n) s=some q ->
 Calls Try.prog 67 #[.pointer (some ⟨p.bb,0,none⟩),.int .i64 n] w (BPost w0 F p B q)
def BranchOk (w0:World) (p:Bp) (B:Bd) (k:Nat):Prop:=∀ (n m:Int) (s:Bs) (q:Sh × Bs) (w:World) (F:List Pc),Mem w0 w F (p.own B s)->bF B k (.branch n m) s=some q ->
 Calls Try.prog 99 #[.pointer (some ⟨p.bb,0,none⟩),.int .i64 n,.int .i64 m] w (BPost w0 F p B q)
def WithinOk (w0:World) (p:Bp) (B:Bd) (k:Nat):Prop:=∀ (n:Int) (bh:List Int) (A:Option Addr) (c:Nat) (s:Bs) (q:Sh × Bs) (w:World) (F:List Pc),Mem w0 w F (p.own B s)->bh.length<=c->(∀ W,Rows3 W 0 p.vs (B.kids.map Prod.snd)->kI.C W A bh.length bh)->bF B k (.within n bh) s=some q ->
 Calls Try.prog 86 #[.pointer (some ⟨p.bb,0,none⟩),.int .i64 n,.slice A bh.length c] w (BPost w0 F p B q)
theorem kids_slice {W:World} {vs:List Value} {kids:List (Int × List Int)} (h:Rows3 W 0 vs (kids.map Prod.snd)) (n:Int):∃ A c,kmV kids vs n=.slice A (kidsOf kids n).length c/\(kidsOf kids n).length<=c:=by
 obtain ⟨A,c,e,hc,_⟩:=own_C (kmRow h n)
 exact ⟨A,c,e,hc⟩
set_option maxRecDepth 100000 in
set_option maxHeartbeats 4000000 in
theorem tree_step (w0:World) (p:Bp) (B:Bd) (k:Nat) (ih:WithinOk w0 p B k):TreeOk w0 p B (k+1):=by
 intro n s q w F M h
 have IH:=ak_ ih
 obtain ⟨Ak,ck,hkv,hkc⟩:=kids_slice (M.km (k:=2) rfl).2 n
 have HKC:=ak_ (fun (W:World) (h:Rows3 W 0 p.vs (B.kids.map Prod.snd))=>(kmC h hkv).1)
 obtain ⟨b4,w1,z4,a4,M1⟩:=M.alloc (.cells shz.toArray 31)
 have k1:=M1.cell (k:=0) (j:=5) rfl rfl
 have L1:=look_I2 (M1.blk (k:=4) rfl) n
 have k3:=M1.cell (k:=0) (j:=3) rfl rfl
 have L3:=M1.kmLook (k:=2) rfl n
 rw [hkv] at L3
 have HKV:=ak_ hkv
 unfold bF at h
 cases hl:mget s.loops n with
 | none =>
  rw [hl] at h L1
  dsimp only at h
  have H:=ak_ h
  have M1:=ak_ M1
  clear ih M h hl hkv
  go_enter Try.func67,Try.ntmps67
  go_wp2_with (go_at_call 86;refine (IH.out n (kidsOf B.kids n) Ak ck s q w1 _ (M1.out.focus [0,1,2,3,4,5,6] rfl) hkc HKC.out H.out).mono ?_;rintro e w2 ⟨A2,c2,ok2,rfl,M2⟩;obtain ⟨y1,y2,y3,y4,ys,yc,yf,M3⟩:=(M2.wide).fill4 (k:=8) rfl (.int .i64 q.1.f0) (.int .i64 q.1.f1) (.int .i64 q.1.f2) (.slice A2 q.1.f3.length c2);have M3:=ak_ M3;clear M2)
  refine bodyPost_ret (results_cell_row rfl _ _ b4 31 (shc q.1 A2 c2).toArray (0,0) _ rfl (M3.out.blk (k:=8) rfl) Try.underlying31 rfl (by kernel_rfl)) rfl ?_
  exact ⟨A2,c2,ok2,rfl,M3.out.lose (k:=8) rfl⟩
 | some i =>
  rw [hl] at h L1
  dsimp only at h
  by_cases hn:s.n<=1000000000
  ·rw [if_pos hn] at h
   obtain ⟨q2,hq,hq2⟩:=Option.bind_eq_some_iff.1 h
   have hq2:=Option.some.inj hq2
   subst hq2
   have k7:=M1.cell (k:=0) (j:=7) rfl rfl
   have HQ:=ak_ hq
   have M1:=ak_ M1
   clear ih M h hl hkv k3 L3 hq
   go_enter Try.func67,Try.ntmps67
   go_wp2_with (first
    | (go_at_call 64;refine (label_any w0 w1 F _ 6 p.bn s.n M1.out rfl hn).mono ?_;rintro e w2 ⟨rfl,M2⟩;have l5:=M2.cell (k:=0) (j:=5) rfl rfl;obtain ⟨w3,p3,M3⟩:=M2.putI (k:=4) rfl n s.n;have l3:=M3.cell (k:=0) (j:=3) rfl rfl;have L3:=M3.kmLook (k:=2) rfl n;rw [HKV.out] at L3;have M3:=ak_ (show Mem w0 w3 F (p.own B { s with loops:=mput s.loops n s.n,n:=s.n+1 }++[.blk b4 (.cells shz.toArray 31 (0,0))]) from M3);clear M2)
    | (go_at_call 86;refine (IH.out n (kidsOf B.kids n) Ak ck _ q2 w3 _ (M3.out.focus [0,1,2,3,4,5,6] rfl) hkc HKC.out HQ.out).mono ?_;rintro e w4 ⟨A2,c2,ok2,rfl,M4⟩;obtain ⟨b8,w5,z5,a5,M5⟩:=(M4.wide).alloc (.cells (shc q2.1 A2 c2).toArray 31);have e0:=M5.cell (k:=9) (j:=0) rfl rfl;have e1:=M5.cell (k:=9) (j:=1) rfl rfl;have e2:=M5.cell (k:=9) (j:=2) rfl rfl;have e3:=M5.cell (k:=9) (j:=3) rfl rfl;obtain ⟨b9,w6,z6,a6,M6⟩:=M5.alloc (.cells (shc q2.1 A2 c2).toArray 31);have M6:=ak_ M6;clear M4 M5)
    | (go_at_call 87;refine (body_any w6 3 s.n b9 q2.1.f0 q2.1.f1 q2.1.f2 A2 q2.1.f3.length c2 (M6.out.blk (k:=10) rfl)).mono ?_;rintro e w7 ⟨b',rfl,hb',hle,hbl⟩;obtain ⟨y1,y2,y3,y4,ys,yc,yf,M8⟩:=(M6.out.wrap (k:=7) rfl hbl hb' hle 3 0 s.n).fill4 (k:=8) rfl (.int .i64 3) (.int .i64 0) (.int .i64 s.n) (.slice (some ⟨b',0,none⟩) 1 1);have M8:=ak_ M8;clear hb' hle hbl))
   refine bodyPost_ret (results_cell_row rfl _ _ b4 31 #[.int .i64 3,.int .i64 0,.int .i64 s.n,.slice (some ⟨b',0,none⟩) 1 1] (0,0) _ rfl (M8.out.blk (k:=8) rfl) Try.underlying31 rfl (by kernel_rfl)) rfl ?_
   exact ⟨_,_,_,rfl,(M8.out.focus [0,1,2,3,4,5,6,7] rfl).sub⟩
  ·rw [if_neg hn] at h;cases h
set_option maxRecDepth 100000 in
set_option maxHeartbeats 4000000 in
theorem branch_step (w0:World) (p:Bp) (B:Bd) (k:Nat) (ih:TreeOk w0 p B k):BranchOk w0 p B (k+1):=by
 intro n m s q w F M h
 have IH:=ak_ ih
 obtain ⟨b6,w1,z6,a6,M1⟩:=M.alloc (.cells shz.toArray 31)
 obtain ⟨w2,z2,M2⟩:=M1.drew
 have k1:=M2.cell (k:=0) (j:=2) rfl rfl
 have L1:=look_I (M2.blk (k:=1) rfl) m
 have L2:=look_I (M2.blk (k:=1) rfl) n
 unfold bF at h
 by_cases hle:mI0 B.att m<=mI0 B.att n
 ·rw [if_pos hle] at h
  obtain rfl:=Option.some.inj h
  have k2:=M2.cell (k:=0) (j:=5) rfl rfl
  have L3:=look_I (M2.blk (k:=4) rfl) m
  have M2:=ak_ M2
  clear ih M M1 h
  go_enter Try.func99,Try.ntmps99
  go_wp2_with (first | (go_at_call 114;refine (leave_any w2 6 (mI0 s.loops m)).mono ?_;rintro e w3 ⟨rfl,hb3⟩;obtain ⟨y1,y2,y3,y4,ys,yc,yf,M3⟩:=(M2.out.leaf hb3 6 0 (mI0 s.loops m)).fill4 (k:=7) rfl (.int .i64 6) (.int .i64 0) (.int .i64 (mI0 s.loops m)) (.slice none 0 0);have M3:=ak_ M3;clear hb3) | (rw [z2]) | (refine wp_region_txt (fun _=>True) [] (by kernel_rfl) (by kernel_rfl) ?_) | (with_reducible refine wpT_nil ?_) | (refine wpT_W (v:=?_) trivial (by decide) (wn_ rfl) (fun _ hS_=>?_) ?_;rotate_left;(focus ((try dsimp only at hS_);go_simp;rfl));(simp only [Act.put,sA_,sB_,sC_])) | (refine wpT_R (v:=?_) trivial (by decide) (wn_ rfl) ?_ ?_;rotate_left;(focus (go_simp;rfl));(simp only [Act.put,sA_,sB_,sC_])) | (refine wpT_A (v:=?_) (ob:=?_) trivial (by decide) (wn_ rfl) ?_ ?_ ?_;rotate_left 2;(focus (go_simp;first | (constructor <;> rfl) | rfl));(focus (exact trivial));(simp only [Act.put,sA_,sB_,sC_])))
  refine bodyPost_ret (results_cell_row rfl _ _ b6 31 #[.int .i64 6,.int .i64 0,.int .i64 (mI0 s.loops m),.slice none 0 0] (0,0) _ rfl (M3.out.blk (k:=7) rfl) Try.underlying31 rfl (by kernel_rfl)) rfl ?_
  exact ⟨_,_,_,rfl,M3.out.lose (k:=7) rfl⟩
 ·rw [if_neg hle] at h
  have k2:=M2.cell (k:=0) (j:=4) rfl rfl
  have L3:=look_B (M2.blk (k:=3) rfl) m
  cases hmg:mB0 B.merged m with
  | true =>
   rw [if_pos hmg] at h
   obtain rfl:=Option.some.inj h
   rw [hmg] at L3
   have k4:=M2.cell (k:=0) (j:=6) rfl rfl
   have L4:=look_I (M2.blk (k:=5) rfl) m
   have M2:=ak_ M2
   clear ih M M1 h hmg
   go_enter Try.func99,Try.ntmps99
   go_wp2_with (first | (go_at_call 114;refine (leave_any w2 5 (mI0 s.blocks m)).mono ?_;rintro e w3 ⟨rfl,hb3⟩;obtain ⟨y1,y2,y3,y4,ys,yc,yf,M3⟩:=(M2.out.leaf hb3 5 0 (mI0 s.blocks m)).fill4 (k:=7) rfl (.int .i64 5) (.int .i64 0) (.int .i64 (mI0 s.blocks m)) (.slice none 0 0);have M3:=ak_ M3;clear hb3) | (rw [z2]) | (refine wp_region_txt (fun _=>True) [] (by kernel_rfl) (by kernel_rfl) ?_) | (with_reducible refine wpT_nil ?_) | (refine wpT_W (v:=?_) trivial (by decide) (wn_ rfl) (fun _ hS_=>?_) ?_;rotate_left;(focus ((try dsimp only at hS_);go_simp;rfl));(simp only [Act.put,sA_,sB_,sC_])) | (refine wpT_R (v:=?_) trivial (by decide) (wn_ rfl) ?_ ?_;rotate_left;(focus (go_simp;rfl));(simp only [Act.put,sA_,sB_,sC_])) | (refine wpT_A (v:=?_) (ob:=?_) trivial (by decide) (wn_ rfl) ?_ ?_ ?_;rotate_left 2;(focus (go_simp;first | (constructor <;> rfl) | rfl));(focus (exact trivial));(simp only [Act.put,sA_,sB_,sC_])))
   refine bodyPost_ret (results_cell_row rfl _ _ b6 31 #[.int .i64 5,.int .i64 0,.int .i64 (mI0 s.blocks m),.slice none 0 0] (0,0) _ rfl (M3.out.blk (k:=7) rfl) Try.underlying31 rfl (by kernel_rfl)) rfl ?_
   exact ⟨_,_,_,rfl,M3.out.lose (k:=7) rfl⟩
  | false =>
   rw [if_neg (by rw [hmg];decide)] at h
   rw [hmg] at L3
   have H:=ak_ h
   have M2:=ak_ M2
   clear ih M M1 h hmg
   go_enter Try.func99,Try.ntmps99
   go_wp2_with (first | (go_at_call 67;refine (IH.out m s q w2 _ (M2.out.focus [0,1,2,3,4,5,6] rfl) H.out).mono ?_;rintro e w3 ⟨A2,c2,ok2,rfl,M3⟩;obtain ⟨y1,y2,y3,y4,ys,yc,yf,M4⟩:=(M3.wide).fill4 (k:=8) rfl (.int .i64 q.1.f0) (.int .i64 q.1.f1) (.int .i64 q.1.f2) (.slice A2 q.1.f3.length c2);have M4:=ak_ M4;clear M3) | (rw [z2]) | (refine wp_region_txt (fun _=>True) [] (by kernel_rfl) (by kernel_rfl) ?_) | (with_reducible refine wpT_nil ?_) | (refine wpT_W (v:=?_) trivial (by decide) (wn_ rfl) (fun _ hS_=>?_) ?_;rotate_left;(focus ((try dsimp only at hS_);go_simp;rfl));(simp only [Act.put,sA_,sB_,sC_])) | (refine wpT_R (v:=?_) trivial (by decide) (wn_ rfl) ?_ ?_;rotate_left;(focus (go_simp;rfl));(simp only [Act.put,sA_,sB_,sC_])) | (refine wpT_A (v:=?_) (ob:=?_) trivial (by decide) (wn_ rfl) ?_ ?_ ?_;rotate_left 2;(focus (go_simp;first | (constructor <;> rfl) | rfl));(focus (exact trivial));(simp only [Act.put,sA_,sB_,sC_])))
   refine bodyPost_ret (results_cell_row rfl _ _ b6 31 (shc q.1 A2 c2).toArray (0,0) _ rfl (M4.out.blk (k:=8) rfl) Try.underlying31 rfl (by kernel_rfl)) rfl ?_
   exact ⟨A2,c2,ok2,rfl,M4.out.lose (k:=8) rfl⟩
theorem tail_cut (A:Option Addr) (c m:Nat) (hc:m+1<=c):∃ A1:Option Addr,(∀ W:World,(Instr.slice 23 (.slice A (m+1) c) (some (.int .i64 1)) none none).run Try.prog W=.ok (.slice A1 m (c - 1)) W)/\∀ (W:World) (x:Int) (r:List Int),r.length=m->kI.C W A (x :: r).length (x :: r)->kI.C W A1 r.length r:=by
 obtain ⟨i,hi,hz⟩:=Option.map_eq_some_iff.1 PShapeReducible.info3
 simp only [Prod.mk.injEq] at hz
 obtain ⟨hz0,hz1,hz2⟩:=hz
 have hel:Try.prog.elem 23=3:=by simp [Program.elem,Try.underlying23]
 have hu:Try.prog.underlying 23=some (.slice (Try.prog.elem 23)):=by rw [hel];exact Try.underlying23
 refine ⟨if c=1 then A else A.map (·.add 1),fun W=>?_,fun W x r hr hC=>?_⟩
 ·rw [run_slice_l W 23 A (m+1) c hu .i64 1 (by omega) (by omega),hel]
  simp [sizeOf,typeInfo,hi,hz1,sliced,Result.andThen]
 ·have:=Kd.C_drop (c:=c) hC (m:=1) (by simp) (by simp;omega)
  have e:kI.sz=1:=rfl
  rw [e] at this
  simpa using this
set_option maxRecDepth 100000 in
set_option maxHeartbeats 4000000 in
theorem within_cons (w0:World) (p:Bp) (B:Bd) (k:Nat) (ihw:WithinOk w0 p B k) (iht:TreeOk w0 p B k) (n x:Int) (r:List Int) (A:Option Addr) (c:Nat) (s:Bs) (q:Sh × Bs) (w:World) (F:List Pc) (M:Mem w0 w F (p.own B s)) (hc:(x :: r).length<=c)
  (hbh:∀ W,Rows3 W 0 p.vs (B.kids.map Prod.snd)->kI.C W A (x :: r).length (x :: r)) (h:bF B (k+1) (.within n (x :: r)) s=some q) :
  Calls Try.prog 86 #[.pointer (some ⟨p.bb,0,none⟩),.int .i64 n,.slice A (x :: r).length c] w (BPost w0 F p B q):=by
 unfold bF at h
 by_cases hg:s.n<=1000000000/\r.length<=1000000
 ·rw [if_pos hg] at h
  obtain ⟨hsn,hrl⟩:=hg
  obtain ⟨q1,hq1,h⟩:=Option.bind_eq_some_iff.1 h
  obtain ⟨q2,hq2,h⟩:=Option.bind_eq_some_iff.1 h
  obtain rfl:=Option.some.inj h
  have IHW:=ak_ ihw
  have IHT:=ak_ iht
  obtain ⟨ad,rfl,e0⟩:=C_num (hbh w (M.km (k:=2) rfl).2) 0 (by simp)
  have e0:w.cell? ad=some (.int .i64 x):=by rw [Addr.add_zero'] at e0;exact e0
  have hc':r.length+1<=c:=hc
  obtain ⟨A1,hcut,hA1⟩:=tail_cut (some ad) c r.length hc'
  have HBH:=ak_ (fun (W:World) (h:Rows3 W 0 p.vs (B.kids.map Prod.snd))=>hA1 W x r rfl (hbh W h))
  obtain ⟨b6,w1,z6,a6,M1⟩:=M.alloc (.cells shz.toArray 31)
  have e0':w1.cell? ad=some (.int .i64 x):=by rw [<-a6];exact cell_alloc _ e0
  have k7:=M1.cell (k:=0) (j:=7) rfl rfl
  have HQ1:=ak_ hq1
  have HQ2:=ak_ hq2
  have M1:=ak_ M1
  have hpos:(0:Int) < ((r.length:Int)+1):=by omega
  clear ihw iht hbh M h hq1 hq2 hA1 e0 hc
  simp only [List.length_cons]
  go_enter Try.func86,Try.ntmps86
  go_wp2_with (first
   | (go_at_call 64;refine (label_any w0 w1 F _ 6 p.bn s.n M1.out rfl hsn).mono ?_;rintro e w2 ⟨rfl,M2⟩;have l5:=M2.cell (k:=0) (j:=6) rfl rfl;obtain ⟨w3,p3,M3⟩:=M2.putI (k:=5) rfl x s.n;have M3:=ak_ (show Mem w0 w3 F (p.own B { s with blocks:=mput s.blocks x s.n,n:=s.n+1 }++[.blk b6 (.cells shz.toArray 31 (0,0))]) from M3);clear M2)
   | (go_at_call 86;refine (IHW.out n r A1 (c - 1) _ q1 w3 _ (M3.out.focus [0,1,2,3,4,5,6] rfl) (by omega) HBH.out HQ1.out).mono ?_;rintro e w4 ⟨A2,c2,ok2,rfl,M4⟩;obtain ⟨b9,w5,z5,a5,M5⟩:=(M4.wide).alloc (.cells (shc q1.1 A2 c2).toArray 31);have e0:=M5.cell (k:=9) (j:=0) rfl rfl;have e1:=M5.cell (k:=9) (j:=1) rfl rfl;have e2:=M5.cell (k:=9) (j:=2) rfl rfl;have e3:=M5.cell (k:=9) (j:=3) rfl rfl;obtain ⟨b10,w6,z6,a6,M6⟩:=M5.alloc (.cells (shc q1.1 A2 c2).toArray 31);have M6:=ak_ M6;clear M4 M5)
   | (go_at_call 87;refine (body_any w6 4 s.n b10 q1.1.f0 q1.1.f1 q1.1.f2 A2 q1.1.f3.length c2 (M6.out.blk (k:=10) rfl)).mono ?_;rintro e w7 ⟨b',rfl,hb',hle,hbl⟩;have M7:=ak_ (show Mem w0 w7 F (p.own B q1.2++[.fk (fun q=>q=b'∨ok2 q) ⟨4,0,s.n,[q1.1]⟩ [.int .i64 4,.int .i64 0,.int .i64 s.n,.slice (some ⟨b',0,none⟩) 1 1],.blk b6 (.cells shz.toArray 31 (0,0))]) from ((M6.out.wrap (k:=7) rfl hbl hb' hle 4 0 s.n).focus [0,1,2,3,4,5,6,7,8] rfl).sub);clear hb' hle hbl)
   | (go_at_call 67;refine (IHT.out x _ q2 w7 _ (M7.out.focus [0,1,2,3,4,5,6] rfl) HQ2.out).mono ?_;rintro e w8 ⟨A8,c8,ok8,rfl,M8⟩;have M8:=ak_ (show Mem w0 w8 F (p.own B q2.2++[.fk ok8 q2.1 (shc q2.1 A8 c8),.fk (fun q=>q=b'∨ok2 q) ⟨4,0,s.n,[q1.1]⟩ [.int .i64 4,.int .i64 0,.int .i64 s.n,.slice (some ⟨b',0,none⟩) 1 1],.blk b6 (.cells shz.toArray 31 (0,0))]) from M8.wide))
   | (go_at_call 98;refine (seq2_any _ (some ⟨w8.heap.size,0,none⟩) 2 2 (by decide)).mono ?_;rintro e w9 ⟨rfl,hb9⟩;have hbw:Below w8.heap.size w8 w9:=((Below.refl _ _).alloc (Nat.le_refl _) _).trans (hb9.mono (by simp));obtain ⟨y1,y2,y3,y4,ys,yc,yf,M10⟩:=(M8.out.wrap2 (k:=8) (j:=7) rfl rfl hbw ((hb9.block _ (by simp)).trans (heap_alloc_new _ _)) (Nat.le_refl _) 1 0 0).fill4 (k:=8) rfl (.int .i64 1) (.int .i64 0) (.int .i64 0) (.slice (some ⟨w8.heap.size,0,none⟩) 2 2);have M10:=ak_ M10;clear hb9 hbw))
  refine bodyPost_ret (results_cell_row rfl _ _ b6 31 #[.int .i64 1,.int .i64 0,.int .i64 0,.slice (some ⟨w8.heap.size,0,none⟩) 2 2] (0,0) _ rfl (M10.out.blk (k:=8) rfl) Try.underlying31 rfl (by kernel_rfl)) rfl ?_
  exact ⟨_,_,_,rfl,(M10.out.focus [1,2,3,4,5,6,7,0] rfl).sub⟩
 ·rw [if_neg hg] at h;cases h
theorem info31':(Try.prog.info? 31).map (fun i=>(i.zero,i.size,i.bytes))=some (some (.agg #[.int .i64 0,.int .i64 0,.int .i64 0,.slice none 0 0]),4,48):=by kernel_rfl
theorem brs_snoc {f:Int->Bs->Option (Sh × Bs)} {m:Int} {l:List Int} {s s9:Bs} {r:List Sh} (h:brs f (m :: l) s=some (r,s9)):∃ q p,f m s=some q/\brs f l q.2=some (p,s9)/\r=q.1 :: p:=by
 unfold brs at h
 obtain ⟨q,hq,h⟩:=Option.bind_eq_some_iff.1 h
 obtain ⟨p,hp,h⟩:=Option.bind_eq_some_iff.1 h
 have h:=Option.some.inj h
 obtain ⟨p1,p2⟩:=p
 simp only [Prod.mk.injEq] at h
 obtain ⟨rfl,rfl⟩:=h
 exact ⟨q,p1,hq,hp,rfl⟩
set_option maxRecDepth 100000 in
set_option maxHeartbeats 4000000 in
theorem within_nil (w0:World) (p:Bp) (B:Bd) (k:Nat) (hG:kG.C w0 p.As B.succ.length B.succ) (hN:kI.C w0 p.An B.node.length B.node) (ihb:BranchOk w0 p B k) (n:Int) (A:Option Addr) (c:Nat) (s:Bs) (q:Sh × Bs) (w:World) (F:List Pc) (M:Mem w0 w F (p.own B s)) (h:bF B (k+1) (.within n []) s=some q) :
  Calls Try.prog 86 #[.pointer (some ⟨p.bb,0,none⟩),.int .i64 n,.slice A 0 c] w (BPost w0 F p B q):=by
 unfold bF at h
 by_cases hg:(0<=n/\n < B.succ.length)/\n < B.node.length/\(B.succ.getD n.toNat []).length<=1000000
 ·rw [if_pos hg] at h
  obtain ⟨⟨hn0,hn1⟩,hn2,hl6⟩:=hg
  obtain ⟨n,rfl⟩:=Int.eq_ofNat_of_zero_le hn0
  rw [Int.toNat_natCast] at h hl6
  obtain ⟨⟨ks,s9⟩,hbr,h⟩:=Option.bind_eq_some_iff.1 h
  obtain rfl:=Option.some.inj h
  obtain ⟨l,hl⟩:∃ l,l=B.succ.getD n []:=⟨_,rfl⟩
  rw [<-hl] at hbr hl6
  obtain ⟨ads,A0,c0,hAs,g1,g2,g3⟩:=C_row hG n (by omega)
  rw [<-hl] at g1 g2 g3
  obtain ⟨adn,hAn,g4⟩:=C_num hN n (by omega)
  obtain ⟨v,hv⟩:∃ v,v=B.node.getD n 0:=⟨_,rfl⟩
  rw [<-hv] at g4
  have IHB:=ak_ ihb
  obtain ⟨b6,w1,z6,a6,M1⟩:=M.alloc (.cells shz.toArray 31)
  have M2:=M1.nokids
  have k0:w1.cell? ⟨p.bb,0,none⟩=some (.slice (some ads) B.succ.length p.cs):=by rw [<-hAs];exact M2.cell (k:=0) (j:=0) rfl rfl
  have k1:=pw_cell_below M2.hb g1
  have HBR:=ak_ hbr
  have M2:=ak_ M2
  have G1:=ak_ g1
  have G3:=ak_ g3
  have G4:=ak_ g4
  have HV:=ak_ hv
  have HAN:=ak_ hAn
  have hn1':(n:Int) < B.succ.length:=hn1
  clear ihb M M1 h hbr hl g1 g2 g3 g4 hv hAs hAn hG hN
  go_enter Try.func86,Try.ntmps86
  go_wp2_with fail
  clear k0 k1
  go_loopw [10,53] (fun v10 t wr=>∃ (i:Nat) (s':Bs) (xs rs:List Sh) (css:List (List Value)) (ok:Nat->Prop),t=.int .i64 i/\i<=l.length/\Aside0 (xs.length=i)/\Aside0 (brs (fun m s=>bF B k (.branch n m) s) (l.drop i) s'=some (rs,s9)/\ks=xs++rs)/\Aside0 (Mem w0 wr F (p.own B s'++[.blk b6 (.cells shz.toArray 31 (0,0)),.kidrow ok v10 xs css]))) (fun _ t _=>l.length - (intOf t).toNat)
  case atStart=>exact ⟨0,s,[],ks,[],_,rfl,Nat.zero_le _,⟨rfl⟩,⟨by simpa using HBR.out,rfl⟩,M2⟩
  case round =>
   obtain ⟨i,s',xs,rs,css,ok,rfl,hi,hxl,hB,hM⟩:=hrel
   obtain ⟨hb1,hb2⟩:=hB.out
   obtain ⟨A10,c10,hv10,_⟩:=kidrow_F (hM.out.says (k:=8) rfl)
   rw [hxl.out] at hv10
   subst hv10
   by_cases hlt:i < l.length
   ·obtain ⟨m,hm⟩:∃ m,m=l.getD i 0:=⟨_,rfl⟩
    rw [List.drop_eq_getElem_cons hlt,show l[i]=m by simp [hm,List.getD_eq_getElem?_getD,hlt]] at hb1
    obtain ⟨q,rs',hq,hrs,hr⟩:=brs_snoc hb1
    obtain ⟨ad0,rfl,e1⟩:=C_num (Kd.C_below G3.out hM.out.hb) i hlt
    rw [<-hm] at e1
    have hlt':(i:Int) < l.length:=by omega
    have HQ:=ak_ hq
    have HRS:=ak_ hrs
    have HR2:=ak_ (show ks=(xs++[q.1])++rs' by rw [hb2,hr];simp)
    clear hm hq hrs hr hb1 hb2 hB
    go_wp2_with (first
     | (go_at_call 99;refine (IHB.out n m s' q wr _ (hM.out.focus [0,1,2,3,4,5,6] rfl) HQ.out).mono ?_;rintro e w3 ⟨A3,c3,ok3,rfl,M3⟩;have M3:=ak_ (show Mem w0 w3 F (p.own B q.2++[.fk ok3 q.1 (shc q.1 A3 c3),.blk b6 (.cells shz.toArray 31 (0,0)),.kidrow ok (.slice A10 i c10) xs css]) from M3.wide))
     | ((with_reducible refine gate_dst (N:=63) rfl ?_);refine mem_append_kid 9 7 (.tmp 57) (.tmp 62) rfl rfl Try.underlying29 _ rfl info31' _ xs css ok ok3 q.1 (shc q.1 A3 c3) rfl rfl M3.out rfl rfl (by have:=hxl.out;omega) ?_;intro A4 c4 w4 M4;rw [hxl.out] at M4 ⊢;have M4:=ak_ (show Mem w0 w4 F (p.own B q.2++[.blk b6 (.cells shz.toArray 31 (0,0)),.kidrow (fun q=>ok q∨ok3 q) (.slice A4 (i+1) c4) (xs++[q.1]) (css++[shc q.1 A3 c3])]) from M4.order [1,2,3,4,5,6,7,8,0] rfl)))
    go_roundw
    case rel=>exact ⟨i+1,q.2,xs++[q.1],rs',_,_,by go_num,by omega,⟨by rw [List.length_append,hxl.out];rfl⟩,⟨HRS.out,HR2.out⟩,M4⟩
    case measure=>simp [intOf];omega
   ·obtain rfl:l.length=i:=by omega
    rw [List.drop_length] at hb1
    simp only [brs,Option.some.injEq,Prod.mk.injEq] at hb1
    obtain ⟨rfl,rfl⟩:=hb1
    rw [List.append_nil] at hb2
    have k1:wr.cell? ⟨p.bb,1,none⟩=some (.slice (some adn) B.node.length p.cn):=by rw [<-HAN.out];exact hM.out.cell (k:=0) (j:=1) rfl rfl
    have k2:=pw_cell_below hM.out.hb G4.out
    have hnl:(n:Int) < B.node.length:=hn2
    have HB2:=ak_ hb2
    clear hb2 hB
    go_wp2_with (go_at_call 100;refine (visit4_any wr v A10 l.length c10).mono ?_;rintro e w3 ⟨rfl,hb3⟩;obtain ⟨A4,c4,e4,M4⟩:=(hM.out.below hb3).kidsFk (k:=8) rfl 2 v 0;rw [hxl.out] at e4;injection e4 with e5 _ e6;subst e5 e6;obtain ⟨y1,y2,y3,y4,ys,yc,yf,M5⟩:=M4.fill4 (k:=7) rfl (.int .i64 2) (.int .i64 v) (.int .i64 0) (.slice A10 l.length c10);have M5:=ak_ M5;clear hb3 M4)
    refine bodyPost_ret (results_cell_row rfl _ _ b6 31 #[.int .i64 2,.int .i64 v,.int .i64 0,.slice A10 l.length c10] (0,0) _ rfl (M5.out.blk (k:=7) rfl) Try.underlying31 rfl (by kernel_rfl)) rfl ?_
    have hfin:=(M5.out.focus [0,1,2,3,4,5,6,8] rfl).sub
    have e1:=HB2.out
    subst e1
    rw [<-HV.out]
    exact ⟨A10,c10,_,by rw [<-hxl.out],hfin⟩
 ·rw [if_neg hg] at h;cases h
theorem builder_any (w0:World) (p:Bp) (B:Bd) (hG:kG.C w0 p.As B.succ.length B.succ) (hN:kI.C w0 p.An B.node.length B.node):∀ k,TreeOk w0 p B k/\BranchOk w0 p B k/\WithinOk w0 p B k
 | 0=>⟨fun _ _ _ _ _ _ h=>by simp [bF] at h,fun _ _ _ _ _ _ _ h=>by simp [bF] at h,fun _ _ _ _ _ _ _ _ _ _ _ h=>by simp [bF] at h⟩
 | k+1=>by
  obtain ⟨h1,h2,h3⟩:=builder_any w0 p B hG hN k
  refine ⟨tree_step w0 p B k h3,branch_step w0 p B k h1,?_⟩
  intro n bh A c s q w F M hc hbh h
  cases bh with
  | nil=>exact within_nil w0 p B k hG hN h2 n A c s q w F M h
  | cons x r=>exact within_cons w0 p B k h3 h1 n x r A c s q w F M hc hbh h
end Go.Proofs.Ytfiiihpdekppiaa
end
section
namespace Go.Proofs.Ytfiiihpdekppiaa
open Go Go.Proofs.YtfiiihpdekppiaaW.PrintWords
theorem rows_in {r n:Nat} {P:Program} {row:String} {args:Array Value} {w:World} {R:Value->World->Prop} (h:Rows P row args w R):RowsIn (Fence.wide.inRound r) n P row args w R:=fun c cs _=>by
 obtain ⟨v,w',h1,h2⟩:=h c cs
 exact ⟨v,w',h1,stepsIn_wide.2 h2⟩
theorem wpOp_in {r n:Nat} {P:Program} {ops:Array Oper} {Q:Exit->Act->World->Prop} (hQ:¬ LetsOut Q) {i:Nat} (hnd:∀ o,ops[i]?=some o->∀ c,o.op≠.defer c) {K:Act->World->Prop} {a:Act} {w:World} (h:wpOp P ops Q i K a w):wpOpIn (Fence.wide.inRound r) n P ops Q i K a w:=by
 unfold wpOp at h
 unfold wpOpIn
 cases ho:ops[i]? with
 | none=>rw [ho] at h;exact h
 | some o =>
  simp only [ho] at h ⊢
  split
  ·rename_i hw
   rw [if_pos hw] at h
   have h:=h.resolve_right (fun h=>hQ h.2)
   refine ⟨fun _ _=>trivial,?_⟩
   rw [show (Fence.wide.inRound r).round=some r from rfl,Oper.semAt_some _ _ _ (hnd o ho)]
   unfold Oper.wp at h
   generalize (execOp a.eval o).run P w=x at *
   cases x with
   | ok nx w' =>
    cases nx with
    | value v=>exact h
    | skip=>exact h
    | defer d=>exact h
    | enter f args =>
     refine ⟨fun hd=>by simp [Fence.wide] at hd,CallsIn.inRound r (callsIn_wide.2 (Calls.mono h fun e w'' he=>?_))⟩
     cases e with
     | returned v=>exact he
     | panicked c=>exact he
     | outgrown=>exact he
    | row row args=>exact ⟨fun hd=>by simp [Fence.wide] at hd,rows_in h⟩
    | _=>simp only [Oper.upon] at h
   | halt x w'=>cases x <;> exact h
  ·rename_i hw
   rw [if_neg hw] at h
   exact ⟨fun _ _=>trivial,h⟩
theorem wpAny_in {r n:Nat} {P:Program} {md:Region.Mode} {ops:Array Oper} {Q:Exit->Act->World->Prop} (hQ:¬ LetsOut Q) (hnd:∀ (i:Nat) (o:Oper),ops[i]?=some o->∀ c,o.op≠.defer c):∀ (fuel:Nat) (listed:Array Bool) (a:Act) (w:World),wpAny P md ops Q fuel listed a w->wpAnyIn (Fence.wide.inRound r) n P md ops Q fuel listed a w
 | 0,_,_,_,h=>h
 | fuel+1,listed,a,w,h=>⟨h.1,fun i hi=>wpOpIn_mono (fun a' w' h'=>wpAny_in hQ hnd fuel _ a' w' h') (wpOp_in hQ (hnd i) (h.2 i hi))⟩
def noDefer (ops:Array Oper):Bool:=ops.toList.all fun o=>match o.op with | .defer _=>false | _=>true
theorem noDefer_spec {ops:Array Oper} (h:noDefer ops=true):∀ (i:Nat) (o:Oper),ops[i]?=some o->∀ c,o.op≠.defer c:=by
 intro i o ho c he
 have:=List.all_eq_true.1 h o (by rw [Array.mem_toList_iff];exact Array.mem_of_getElem? ho)
 rw [he] at this
 simp at this
theorem wpIn_region_txt {r n:Nat} {P:Program} {id:Nat} {l:List Oper} {Q:Exit->Act->World->Prop} {a:Act} {w:World} (S:World->Prop) (fl:List Nat) (hm:P.follows .mixedOrders=true) (hok:txtOk l.toArray fl=true) (hnd:noDefer l.toArray=true)
  (h:wpT P l.toArray S fl (Q .normal) 0 l a w.drew):(Code.region id l.toArray true).wpIn (Fence.wide.inRound r) n P Q a w:=by
 have hunl:unl l.toArray.size (Array.replicate l.toArray.size false)=List.range' 0 l.length:=by
  rw [<-List.range_eq_range']
  unfold unl
  simp only [List.size_toArray]
  refine List.filter_eq_self.2 fun i hi=>?_
  rw [List.mem_range] at hi
  simp [Array.getD_eq_getD_getElem?,hi]
 have h1:=wpAny_of_wpI (P:=P) (ops:=l.toArray) (S:=S) (fl:=fl) (Q:=Q .normal) hok l.toArray.size (Array.replicate l.toArray.size false) a w.drew (by simp) (fun j oj hj hlj=>by
   have hlt:j < l.toArray.size:=(Array.getElem?_eq_some_iff.1 hj).1
   have hlt':j < l.length:=by simpa using hlt
   simp [Array.getD_eq_getD_getElem?,hlt'] at hlj) (by rw [hunl];simp) (by rw [hunl];exact wpI_of_wpT l 0 a _ (by simp) h)
 have h2:=wpIn_region_any (F:=Fence.wide.inRound r) (n:=n) (id:=id) (ops:=l.toArray) hm (wpAny_in (r:=r) (n:=n) (fun ⟨_,_,h⟩=>h) (noDefer_spec hnd) _ _ _ _ h1)
 exact Code.wpIn_mono (fun e a w h=>by cases e <;> first | exact h | exact h.elim) h2
section
variable {w0 w w' : World} {F H : List Pc}
def Solid (B:Nat) (c:Pc):Prop:=∀ W,c.says W->∀ b,c.foot b->b < B∨∃ cs t fr,W.heap[b]?=some (Obj.cells cs t fr)
theorem Solid.blk {B b:Nat} {o:Obj} (h:b < B):Solid B (.blk b o):=fun _ _ k hk=>by simp only [Pc.blk] at hk;exact .inl (by omega)
theorem Solid.row {B:Nat} {v:Value} {e size n:Nat} {xs:List Value}:Solid B (.row v e size n xs):=fun _ hW k hk=>by obtain ⟨cs,hc⟩:=own_typed hW k hk;exact .inr ⟨_,_,_,hc⟩
theorem Solid.km {B bk:Nat} {vs:List Value} {kids:List (Int × List Int)} (h:bk < B):Solid B (.km bk vs kids):=fun _ hW k hk=>by
 rcases hk with rfl | ⟨i,hi,hk⟩
 ·exact .inl h
 ·obtain ⟨cs,hc⟩:=own_typed (hW.2.row i hi) k hk
  exact .inr ⟨_,_,_,hc⟩
theorem Mem.otherRow {B:Nat} {row:Option Nat} (M:Mem w0 w F H) (hs:∀ c∈H++F,Solid B c) (hB:w0.heap.size<=B) (hg:w.grownBy w' row) (hr:∀ k,row=some k->B<=k/\∃ o:Obj,w.heap[k]?=some o/\o.isCells=false):Mem w0 w' F H:=by
 refine ⟨M.hb.trans ⟨hg.os,hg.tape,hg.output,hg.size,fun k hk=>hg.block k (by have:=M.size;omega) (fun e=>by have:=(hr k e.symm).1;omega)⟩,?_,MemL.base M,MemL.apart M⟩
 intro c hc
 have hcs:=MemL.says M c hc
 refine c.loc hcs (fun b hb=>hg.block b (c.lt hcs hb) (fun e=>?_))
 obtain ⟨h1,o,h2,h3⟩:=hr b e.symm
 rcases hs c hc w hcs b hb with h4 | ⟨cs,t,fr,h4⟩
 ·omega
 ·rw [h4] at h2
  cases h2
  simp [Obj.isCells] at h3
theorem Mem.mark {B D:Nat} {o:Obj} (M:Mem w0 w F H) (hs:∀ c∈H++F,Solid B c) (hB:w0.heap.size<=B) (hD:B<=D) (ho:w.heap[D]?=some o) (hc:o.isCells=false):Mem w0 w F (H++[.blk D o]):=by
 have h:MemL w0 w (.blk D o :: (H++F)):=by
  refine ⟨M.hb,?_,?_,List.pairwise_cons.2 ⟨fun c hc' b hb hcb=>?_,MemL.apart M⟩⟩
  ·intro c hc'
   rcases List.mem_cons.1 hc' with rfl | hc'
   ·exact ho
   ·exact MemL.says M c hc'
  ·intro c hc' b hb
   rcases List.mem_cons.1 hc' with rfl | hc'
   ·simp only [Pc.blk] at hb;omega
   ·exact MemL.base M c hc' b hb
  ·simp only [Pc.blk] at hb
   subst hb
   rcases hs c hc' w (MemL.says M c hc') b hcb with h4 | ⟨cs,t,fr,h4⟩
   ·omega
   ·rw [ho] at h4
    cases h4
    simp [Obj.isCells] at hc
 refine MemL.perm h ?_
 rw [List.append_assoc]
 exact List.perm_middle
theorem Mem.putO {k b:Nat} {o:Obj} (h:Mem w0 w F H) (hk:H[k]?=some (.blk b o)) (o':Obj):Mem w0 (w.putObj b o') F (H.set k (.blk b o')):=by
 have hlt:=blk_lt' (h.blk hk)
 refine h.step hk _ ⟨rfl,rfl,rfl,by simp,fun i _ hn=>World.putObj_heap_other (fun e=>hn (by simp only [Pc.blk];omega))⟩ ?_ (fun _ hb=>.inl hb)
 simp only [Pc.blk]
 simp [World.putObj,hlt]
end
end Go.Proofs.Ytfiiihpdekppiaa
end
