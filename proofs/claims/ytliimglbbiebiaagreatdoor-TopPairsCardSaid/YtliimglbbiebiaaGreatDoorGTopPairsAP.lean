/- A part of the proof: Numbers, Seqs, Visit. -/
import Derived.Test.YtliimglbbiebiaaGreatDoorGTopPairsAO
import Derived.Test.YtliimglbbiebiaaGreatDoorGTopPairsAG
import Derived.Test.YtliimglbbiebiaaGreatDoorGTopPairsAL
set_option maxRecDepth 100000
set_option maxHeartbeats 6400000
section
namespace Go.Proofs.YtliimglbbiebiaaGreatDoor
open Go.RowKit Go.Shelf Go.Proofs
attribute [local go_sem] Oper.semAt_some
theorem merged_any (top:Int) (A:Option Addr) (n c:Nat) (w:World):Calls Tryz.prog 310 #[.int .u32 top,.slice A n c] w fun e w'=>e=.returned (.func (.func 346) #[] #[.pointer (some ⟨w.heap.size + 1,0,none⟩),.pointer (some ⟨w.heap.size,0,none⟩)]) ∧
 w'=(w.alloc (.cells #[.int .u32 top] 28)).alloc (.cells #[.slice A n c] 44):=by
 have hmf:∀ (fn:Fn) (first cap:Array Value) (w:World),(Instr.makeFunc fn first cap).run Tryz.prog w=.ok (.func fn first cap) w:=fun _ _ _ _=>rfl
 go_enter Tryz.func310,Tryz.ntmps310
 go_wp2
 go_ret
 exact ⟨rfl,rfl⟩
def NumsOk (top:Int) (l:List Rg) (N:List Int):Prop:=Asc N∧(∀ y ∈ N,1≤y∧y≤top)∧(okSet top l=false→N=[])
structure NuI (w W:World) (OB:Nat) (v:Value) (N:List Int):Prop where
 b:Blk W OB 58 #[v]
 o:Own (intE .u32) 28 w.heap.size W v N
 n:New w W
theorem NuI.turn {w W W':World} {OB B:Nat} {v:Value} {N:List Int} (h:NuI w W OB v N) (t:Turn B W W') (hB:w.heap.size≤B):NuI w W' OB v N:=⟨t.blk h.b,t.own h.o,t.of_fr h.n hB⟩
theorem NuI.new {w W W':World} {OB:Nat} {v:Value} {N:List Int} (h:NuI w W OB v N) (n:New W W'):NuI w W' OB v N:=⟨n.blk h.b,h.o.new n,h.n.trans n⟩
theorem numsOf_len {top:Int} (h1:top≤100000) (pre:List (RgV top)):(numsOf (pre.map (·.1))).length≤pre.length * 100000:=by
 induction pre with
 | nil=>simp [numsOf]
 | cons x l ih =>
   have e:numsOf ((x :: l).map (·.1))=rangeL x.1.lo x.1.hi ++ numsOf (l.map (·.1)):=by simp [numsOf]
   have:=x.2
   rw [e,List.length_append,rangeL_len,List.length_cons]
   omega
theorem Own.ne_blk {α:Type} {E:Elem α} {e t:TypeId} {base:Nat} {w:World} {v:Value} {l:List α} {g:Nat} {cs:Array Value} (h:Own E e base w v l) (hb:Blk w g t cs) (hne:e≠t):v.ownBlock≠some g:=fun hg=>by
 rcases h.2 with ⟨h2,_⟩ | ⟨g',cap,cur,h2,_,h3,_⟩
 · rw [h2] at hg; cases hg
 · rw [h2] at hg
   cases hg
   unfold Blk at hb
   rw [h3] at hb
   cases hb
   exact hne rfl
theorem KR.of_new {W W':World} (n:New W W'):KR W W':=⟨n.size,fun _ _ h=>n.blk h⟩
def numsP {top:Int} (pre:List (RgV top)):List Int:=numsOf (pre.map (·.1))
theorem numsP_snoc {top:Int} (pre:List (RgV top)) (x:RgV top):numsP (pre ++ [x])=numsP pre ++ rangeL x.1.lo x.1.hi:=by
 unfold numsP
 rw [List.map_append,List.map_singleton,numsOf_snoc]
theorem KR.put {w:World} (W:World) (l:Nat) (o o':Obj) (_:w.heap.size≤l) (h:W.heap[l]? = some o) (hc:o.isCells=false) (_:o.isWalk=false):KR W (W.putObj l o') :=
 have hg:=grownBy_putObj' W l o'
 ⟨hg.size,fun k cs hb=>hg.block k (Blk.lt hb) (fun e=>by
   cases e
   unfold Blk at hb
   rw [hb] at h
   cases h
   cases hc) |>.trans hb⟩
theorem numbers_any (top:Int) (h0:0≤top) (h1:top≤100000) (A:Option Addr) (c:Nat) (l:List Rg) (w:World) (hv:Rd rgE w (.slice A l.length c) l) (hwf:∀ r ∈ l,r.wf) (hl:l.length≤100000) :
 Calls Tryz.prog 261 #[.int .u32 top,.slice A l.length c] w fun e w'=>∃ v N,e=.returned v∧Own (intE .u32) 28 w.heap.size w' v N∧NumsOk top l N∧New w w':=by
 have hV:=Lib.hid (rvalid_any top (.slice A l.length c) l w hv (by omega))
 cases hk:okSet top l
 · rw [hk] at hV
   have HK:=Lib.hid hk
   clear hk
   go_enter Tryz.func261,Tryz.ntmps261
   go_wp2_with fail
   refine hV.out.mono ?_
   rintro e w1 ⟨rfl,n1⟩
   go_wp2
   go_ret
   exact ⟨_,[],rfl,Own.nil _ _ _ _,⟨List.Pairwise.nil,by simp,fun _=>rfl⟩,n1⟩
 · rw [hk] at hV
   have hk':=hk
   unfold okSet at hk'
   simp only [Bool.and_eq_true,decide_eq_true_eq,Bool.not_eq_true'] at hk'
   obtain ⟨⟨ht,hln⟩,hov⟩:=hk'
   have hok:∀ r ∈ l,overB top r=false:=fun r hr=>by
    cases h:overB top r
    · rfl
    · have:=List.any_eq_true.2 ⟨r,hr,h⟩
      rw [hov] at this
      cases this
   have hl0:l≠[]:=by rintro rfl; simp at hln
   have HK:=Lib.hid hk
   have HOK:=Lib.hid hok
   have HL0:=Lib.hid hl0
   have HW:=Lib.hid hwf
   have HR:=Lib.hid hv
   have HT:Hid (0 < top):=Lib.hid (by omega)
   clear hk hok hl0 hov hln hwf hv
   obtain ⟨i0,hi,hz0,hz1,hz2⟩:=info_parts u32_info
   refine (callsIn_wide (n:=6)).1 ?_
   refine callsIn_of_wp_marks Tryz.func261 rfl trivial ?_ rfl
   simp only [Tryz.ntmps261,List.size_toArray,List.length_cons,List.length_nil,Nat.reduceAdd,Nat.reduceSub,Array.replicate_succ,Array.replicate_zero,List.push_toArray,List.append_toArray,List.nil_append,List.cons_append]
   gi_wp2_with (first
    | (refine ⟨trivial,?_⟩; gi_at_call 259
       refine (callsIn_wide.2 hV.out).mono ?_
       rintro e w1 ⟨rfl,n1⟩)
    | (refine ⟨trivial,?_⟩; gi_at_call 310
       refine (callsIn_wide.2 (merged_any top A l.length c _)).mono ?_
       rintro e w2 ⟨rfl,hw2⟩)
    | fail)
   have hS:SeqStopsK Fence.wide (6 - 1) Tryz.prog 346 #[.pointer (some ⟨w1.heap.size + 1 + 1,0,none⟩),.pointer (some ⟨w1.heap.size + 1,0,none⟩)] (fun x:RgV top=>#[x.1.val]) KR (fun xs=>okChain top 1 (xs.map (·.1))) (fun _=>True) l.length
    (((w1.alloc (.cells #[.slice none 0 0] 58)).alloc (.cells #[.int .u32 top] 28)).alloc (.cells #[.slice A l.length c] 44)):=by
    intro lid J Jx W hb hJ _ hY hJ0
    have hn:=New.of_below hb
    have b1:Blk (((w1.alloc (.cells #[.slice none 0 0] 58)).alloc (.cells #[.int .u32 top] 28)).alloc (.cells #[.slice A l.length c] 44)) (w1.heap.size + 1 + 1) 44 #[.slice A l.length c]:=by
     have:=Blk.new ((w1.alloc (.cells #[.slice none 0 0] 58)).alloc (.cells #[.int .u32 top] 28)) 44 #[.slice A l.length c]
     rwa [World.size_alloc,World.size_alloc] at this
    have b2:Blk (((w1.alloc (.cells #[.slice none 0 0] 58)).alloc (.cells #[.int .u32 top] 28)).alloc (.cells #[.slice A l.length c] 44)) (w1.heap.size + 1) 28 #[.int .u32 top]:=by
     have:=Blk.new (w1.alloc (.cells #[.slice none 0 0] 58)) 28 #[.int .u32 top]
     rw [World.size_alloc] at this
     exact this.alloc _
    refine (merged1_in (6 - 1) (by omega) lid (w1.heap.size + 1 + 1) (w1.heap.size + 1) top HT.out h1 A c l HW.out HOK.out hl HL0.out J Jx W hJ hY ((hn.blk b1).cell 0) ((hn.blk b2).cell 0) ((((HR.out.new n1).alloc _).alloc _).alloc _ |>.new hn) hJ0).mono ?_
    rintro e w' ⟨he,h⟩
    exact ⟨he,h.imp id fun ⟨pre,hp⟩=>⟨pre,trivial,hp⟩⟩
   refine wpIn_rangeFunc_ownH rfl (by omega) (gf:=346) (lb:=#[.pointer (some ⟨w1.heap.size + 1 + 1,0,none⟩),.pointer (some ⟨w1.heap.size + 1,0,none⟩)]) rfl trivial (enters_of Tryz.func346 (by kernel_rfl) rfl)
    hS KR.trans KR.put (Below.refl _ _) (fun _=>rfl)
    (fun pre W=>∃ v,NuI w W w1.heap.size v (numsP pre))
    (fun _ _ _=>False)
    (ownFrom_of fun s W W' hs t=>?_)
    (fun _ _ _ _ _ hs _ _=>hs)
    ⟨_,⟨?_,Own.nil _ _ _ _,?_⟩⟩
    (fun x a' W=>∃ Bx,Blk W Bx 191 #[.int .u32 x.1.lo,.int .u32 x.1.hi]∧a'={ tmps:=#[.int .u32 top,.slice A l.length c,undef,undef,.slice none 0 0,.pointer (some ⟨w1.heap.size,0,none⟩),.pointer (some ⟨Bx,0,none⟩),undef,.int .u32 top,.slice A l.length c,.bool true,.bool false,.int .u32 top,.slice A l.length c,.func (.func 346) #[] #[.pointer (some ⟨w1.heap.size + 1 + 1,0,none⟩),.pointer (some ⟨w1.heap.size + 1,0,none⟩)],x.1.val,undef,undef,undef,undef,undef,undef,undef,undef,undef,undef,undef,undef,undef],defers:=[] })
    (fun x a'=>ownFrom_of fun s W W' hs t=>?_) ?assign ?body ?done ?stop
   · obtain ⟨v,hv⟩:=hs
     exact ⟨v,hv.turn t (by have:=n1.size; simp; omega)⟩
   · exact ((Blk.new _ _ _).alloc _).alloc _
   · exact ((n1.alloc _).alloc _).alloc _
   · obtain ⟨Bx,hB,he⟩:=hs
     exact ⟨Bx,t.blk hB,he⟩
   case assign =>
    rintro lid pre ⟨⟨xl,xh⟩,hx⟩ W K ⟨v,hv⟩ hK
    dsimp only [Rg.val]
    gi_wp2
    have n:=(New.refl W).alloc (.cells #[.int .u32 xl,.int .u32 xh] 191)
    exact hK _ _ (keeps_fr n fun _ _ h=>h.elim) (KR.of_new n) ⟨v,hv.new n⟩ ⟨W.heap.size,Blk.new _ _ _,rfl⟩
   case body =>
    rintro lid pre ⟨⟨xl,xh⟩,hx⟩ a' W hlid hlr ⟨v,hv⟩ ⟨Bx,hBx,rfl⟩ hlt
    have q0:W.cell? ⟨Bx,0,none⟩=some (.int .u32 xl):=hBx.cell 0
    have HX:Hid (1≤xl∧xl≤xh∧xh≤top):=hx
    dsimp only [Rg.val]
    have HS0:Hid (NuI w W w1.heap.size v (numsP pre ++ rangeL xl (xl - 1))∧Blk W Bx 191 #[.int .u32 xl,.int .u32 xh]∧KR W W∧KeepsFrom (((w1.alloc (.cells #[.slice none 0 0] 58)).alloc (.cells #[.int .u32 top] 28)).alloc (.cells #[.slice A l.length c] 44)).heap.size W W):=Lib.hid ⟨by rw [rangeL_none (by omega),List.append_nil]; exact hv,hBx,KR.refl _,KeepsFrom.refl _ _⟩
    gi_wp2
    gi_loopw [7] (fun iv wr=>∃ (y:Int) (v:Value),xl≤y∧y≤xh + 1∧iv=.int .u32 y∧Hid (NuI w wr w1.heap.size v (numsP pre ++ rangeL xl (y - 1))∧Blk wr Bx 191 #[.int .u32 xl,.int .u32 xh]∧KR W wr∧KeepsFrom (((w1.alloc (.cells #[.slice none 0 0] 58)).alloc (.cells #[.int .u32 top] 28)).alloc (.cells #[.slice A l.length c] 44)).heap.size W wr)) (fun iv _=>(xh + 1 - intOf iv).toNat)
    case atStart=>exact ⟨xl,v,by omega,by have:=HX.out; omega,rfl,HS0⟩
    case round =>
     obtain ⟨y,v2,hy1,hy2,rfl,HS2⟩:=hrel
     have q1:wr.cell? ⟨Bx,1,none⟩=some (.int .u32 xh):=HS2.out.2.1.cell 1
     have q2:wr.cell? ⟨w1.heap.size,0,none⟩=some v2:=HS2.out.1.b.cell 0
     have hx:=HX.out
     by_cases hyx:y≤xh
     · have d1:decide (y≤xh)=true:=decide_eq_true hyx
       have d4:IntKind.u32.wrap (y + 1)=y + 1:=by unfold IntKind.wrap; simp [IntKind.bits,IntKind.signed]; omega
       have hlen:(numsP pre ++ rangeL xl (y - 1)).length + 1≤20000000000:=by
        have h1':(numsP pre).length≤pre.length * 100000:=numsOf_len h1 pre
        rw [List.length_append,rangeL_len]
        omega
       have hr2:Rd (intE .u32) (wr.alloc (.cells #[.int .u32 y] 28)) (.slice (some ⟨wr.heap.size,0,none⟩) 1 1) [y]:=rd_oneR (Blk.new _ _ _)
       have HR2:=Lib.hid hr2
       have HOO:=HS2.out.1.o
       obtain ⟨L,hL⟩:∃ L,numsP pre ++ rangeL xl (y - 1)=L:=⟨_,rfl⟩
       rw [hL] at hlen HOO
       have HL:=Lib.hid hL
       have HO2:=Lib.hid (HOO.alloc (.cells #[.int .u32 y] 28))
       clear hr2 HOO hL
       gi_wp2_with (gi_at_builtin; refine wpListIn_append (E:=intE .u32) rfl _ _ _ rfl Tryz.underlying58 hi hz0 hz1 hz2 rfl HO2.out rfl HR2.out rfl (Nat.le_trans hlen (by decide)) (Nat.le_trans (Nat.mul_le_mul_right 4 hlen) (by decide)) (by rw [World.size_alloc]; have:=HS2.out.1.n.size; omega) ?_; intro v3 w3 hv3 hf3 hl3; have hob:v2.ownBlock≠some w1.heap.size:=(HO2.out.ne_blk (HS2.out.1.b.alloc _) (by decide)); have q3:w3.cell? ⟨w1.heap.size,0,none⟩=some v2:=Fr.cell hf3 ((HS2.out.1.b.alloc _).cell 0) hob; have q4:=(Fr.blk hf3 (HS2.out.1.b.alloc (.cells #[.int .u32 y] 28)) hob).froz; obtain ⟨A3,C3,hve,_⟩:=hv3.form; have HV3:=Lib.hid (And.intro hv3 (And.intro hf3 hl3)); clear hv3 hf3 hl3; generalize (L ++ [y]).length=m at hve; subst hve)
       have hob:v2.ownBlock≠some w1.heap.size:=(HO2.out.ne_blk (HS2.out.1.b.alloc _) (by decide))
       have hf0:Fr (fun k=>k=w1.heap.size∨v2.ownBlock=some k) wr w3:=Fr.trans' ((Fr.refl _ wr).alloc (.cells #[.int .u32 y] 28)) HV3.out.2.1 fun _ _ h=>.inr h
       have hs:=Fr.setCell hf0 (p:=⟨w1.heap.size,0,none⟩) (fun _=>.inl rfl) (.slice A3 m C3)
       have hcells:∀ k,(k=w1.heap.size∨v2.ownBlock=some k)→∀ o:Obj,wr.heap[k]? = some o→o.isCells=true:=by
        rintro k (rfl | hk)
        · exact HS2.out.1.b.isCells
        · exact HS2.out.1.o.isCells hk
       have hrng:∀ k cs,Blk wr k 191 cs→¬ (k=w1.heap.size∨v2.ownBlock=some k):=by
        rintro k cs hb (rfl | hk)
        · have h1:=HS2.out.1.b
          unfold Blk at hb h1
          rw [hb] at h1
          cases h1
        · exact HS2.out.1.o.ne_blk hb (by decide) hk
       have hb3:=Fr.blk HV3.out.2.1 (HS2.out.1.b.alloc (.cells #[.int .u32 y] 28)) hob
       go_roundw
       · refine ⟨y + 1,_,by omega,by omega,rfl,Lib.hid ⟨⟨hb3.set_ 0 _,?_,?_⟩,hs.blk HS2.out.2.1 (hrng _ _ HS2.out.2.1),HS2.out.2.2.1.trans ⟨hs.size,fun k cs hb=>hs.blk hb (hrng _ _ hb)⟩,HS2.out.2.2.2.trans (keeps_fr hs fun k _=>hcells k)⟩⟩
         · rw [show y + 1 - 1=y - 1 + 1 by omega,rangeL_snoc (by omega),← List.append_assoc,HL.out,show y - 1 + 1=y by omega]
           exact HV3.out.1.fr ((One.refl w1.heap.size w3).set 0 _) fun b hb e=>HV3.out.1.ne_blk hb3 (by decide) (by rw [hb,e])
         · exact Fr.trans' HS2.out.1.n hs fun i hi h=>by
            rcases h with h | h
            · have:=n1.size
              omega
            · have:=(HS2.out.1.o.block h).1
              omega
       · simp [intOf]; omega
     · have d1:decide (y≤xh)=false:=decide_eq_false hyx
       obtain rfl:y=xh + 1:=by omega
       have hP:=HS2.out
       rw [show xh + 1 - 1=xh by omega] at hP
       have HP:=Lib.hid hP
       clear hP HS2 HS0
       gi_wp2
       refine ⟨?_,HP.out.2.2.1,v2,?_⟩
       · have:=HP.out.2.2.2
         simpa only [World.size_alloc] using this
       · rw [numsP_snoc]
         exact HP.out.1
   case done =>
    rintro D ys W hD hS ⟨v,hv⟩ hK
    have q0:W.cell? ⟨w1.heap.size,0,none⟩=some v:=hv.b.cell 0
    gi_wp2
    have t:Turn w.heap.size W (W.putObj D (.deferred none)):=⟨some D,grownBy_putObj' W D _,fun r e=>by cases e; exact ⟨by have:=n1.size; simp at hD; omega,_,hK,rfl⟩⟩
    have h2:=hv.turn t (Nat.le_refl _)
    refine ⟨by simp,.inl ⟨_,_,rfl,run_takeDeferred hK,?_⟩⟩
    exact ⟨_,results_tmp rfl _ _ _,v,_,rfl,h2.o,⟨okChain_asc hS,okChain_low hS,fun e=>by have:=HK.out; rw [e] at this; cases this⟩,h2.n⟩
   case stop =>
    rintro D c pre W _ _ h _
    exact h.elim
end Go.Proofs.YtliimglbbiebiaaGreatDoor
end

section
namespace Go.Proofs.YtliimglbbiebiaaGreatDoor
open Go.RowKit Go.Shelf Go.Proofs
attribute [local go_sem] Oper.semAt_some
theorem int_infoS:(Tryz.prog.info? 3).map (fun i=>(i.zero,i.size,i.bytes))=some (some (.int .i64 0),1,8):=by kernel_rfl
theorem seqs1_any (y:Int) (h0:0≤y) (h1:y≤4294967295) (w:World):Calls Tryz.prog 262 #[.int .u32 y] w fun e w'=>e=.returned (.int .i64 y)∧w'=w:=by
 have d:IntKind.i64.wrap y=y:=IntWalk.i64_in _ (by omega)
 go_enter Tryz.func262,Tryz.ntmps262
 go_wp2
 go_ret
 exact ⟨rfl,rfl⟩
theorem each_any (A:Option Addr) (c:Nat) (l:List Int) (w:World) (hv:Rd (intE .u32) w (.slice A l.length c) l) (hl:l.length≤100000) (hb:∀ y ∈ l,0≤y∧y≤4294967295) :
 Calls Tryz.prog 260 #[.slice A l.length c,.func (.func 262) #[] #[]] w fun e w'=>∃ v,e=.returned v∧Own (intE .i64) 3 w.heap.size w' v l∧New w w':=by
 obtain ⟨i0,hi,hz0,hz1,hz2⟩:=info_parts int_infoS
 have hmx:l.length≤9223372036854775806:=by omega
 have HV:=Lib.hid hv
 have HB:=Lib.hid hb
 clear hv hb
 go_enter Tryz.func260,Tryz.ntmps260
 go_wp2
 go_loopw [5,10] (fun pv iv wr=>∃ k:Nat,k≤l.length∧iv=.int .i64 k∧Hid (Own (intE .i64) 3 w.heap.size wr pv (l.take k)∧New w wr)) (fun _ iv _=>l.length - (intOf iv).toNat)
 case atStart=>exact ⟨0,Nat.zero_le _,rfl,Own.nil _ _ _ _,New.refl _⟩
 case round =>
  obtain ⟨k,hk,rfl,HR⟩:=hrel
  have hn1:=HR.out.2
  obtain ⟨pA,pC,rfl,_⟩:=HR.out.1.form
  have hpl:(l.take k).length=k:=by rw [List.length_take]; omega
  rw [hpl] at HR ⊢
  have HPL:=Lib.hid hpl
  clear hpl
  by_cases hkl:k < l.length
  · obtain ⟨x,hx⟩:∃ x,l[k]? = some x:=⟨_,List.getElem?_eq_getElem hkl⟩
    obtain ⟨_,_,he,_,hcells⟩:=HV.out
    cases he
    obtain ⟨b,off,rfl,hcell⟩:=hcells (by rintro rfl; simp at hkl)
    have c0:wr.cell? ⟨b,off + k,none⟩=some (.int .u32 x):=by
     have:=hcell k _ hx 0 _ rfl
     simp only [intE,Nat.mul_one,Nat.add_zero] at this
     exact Fr.cell hn1 this id
    have hbx:=HB.out x (List.mem_of_getElem? hx)
    have HS:=Lib.hid (seqs1_any x hbx.1 hbx.2 wr)
    have htk:l.take (k + 1)=l.take k ++ [x]:=take_snoc hx
    have hsz:=hn1.size
    have hr2:Rd (intE .i64) (wr.alloc (.cells #[.int .i64 x] 3)) (.slice (some ⟨wr.heap.size,0,none⟩) 1 1) [x]:=rd_oneR (Blk.new _ _ _)
    have HR2:=Lib.hid hr2
    have HO2:=Lib.hid (HR.out.1.alloc (.cells #[.int .i64 x] 3))
    have HTK:=Lib.hid htk
    have HN1:=Lib.hid hn1
    clear hr2 htk hcell hcells hx hn1 hbx
    go_wp2_with fail
    refine HS.out.mono ?_
    rintro e w2 ⟨rfl,rfl⟩
    go_wp2_with (at_builtin; refine wpList_append (E:=intE .i64) rfl _ _ _ rfl Tryz.underlying31 hi hz0 hz1 hz2 rfl HO2.out rfl HR2.out rfl (by rw [HPL.out]; unfold maxLen; simp; omega) (by rw [HPL.out]; simp; omega) (by rw [World.size_alloc]; omega) ?_; intro v3 w3 hv3 hf3 hl3)
    go_roundw
    case rel=>exact ⟨k + 1,by omega,by go_num,Lib.hid ⟨by rw [HTK.out]; exact hv3,New.append (HN1.out.alloc _) HO2.out hf3⟩⟩
    case measure=>simp [intOf]; omega
  · obtain rfl:k=l.length:=by omega
    go_wp2
    go_ret
    have h:=HR.out
    rw [List.take_length] at h
    exact ⟨_,rfl,h.1,h.2⟩
theorem seqs_any {w:World} {v x base:Nat} {g:Bool} {u:Value} {l:List Int} (hvw:VW w v x g) (hix:IdxU base w x u l) (hl:l.length≤50000) (A:Option Addr) (c:Nat) (s:List Rg) (hv:Rd rgE w (.slice A s.length c) s) (hwf:∀ r ∈ s,r.wf) (hs:s.length≤100000) :
 Calls Tryz.prog 199 #[.pointer (some ⟨v,0,none⟩),.slice A s.length c] w fun e w'=>∃ o N,e=.returned (.tuple #[o,.bool (okSet l.length s)])∧Own (intE .i64) 3 w.heap.size w' o N∧Asc N∧(∀ y ∈ N,1≤y∧y≤(l.length:Int))∧New w w':=by
 have d:IntKind.u32.wrap (l.length:Int)=l.length:=by unfold IntKind.wrap; simp [IntKind.bits,IntKind.signed]; omega
 have HL:=Lib.hid (vlen_any hvw hix)
 have HV:=Lib.hid (rvalid_any l.length (.slice A s.length c) s w hv (by omega))
 have HR:=Lib.hid hv
 have HW:=Lib.hid hwf
 clear hvw hix hv hwf
 go_enter Tryz.func199,Tryz.ntmps199
 go_wp2_with fail
 refine HL.out.mono ?_
 rintro e w1 ⟨rfl,rfl⟩
 go_wp2_with fail
 refine HV.out.mono ?_
 rintro e w2 ⟨rfl,n2⟩
 rcases hk:okSet l.length s with _ | _
 all_goals have HK:=Lib.hid hk
 · go_wp2
   go_ret2
   exact ⟨_,[],by rw [HK.out]; rfl,Own.nil _ _ _ _,List.Pairwise.nil,by simp,n2⟩
 · go_wp2_with fail
   refine (numbers_any l.length (by omega) (by omega) A c s w2 (HR.out.new n2) HW.out hs).mono ?_
   rintro e w3 ⟨vn,N,rfl,hown,hN,n3⟩
   obtain ⟨nA,nC,rfl,_⟩:=hown.form
   have hlen:=asc_len hN.1 hN.2.1 (by omega)
   have HE:=Lib.hid (each_any nA nC N w3 hown.rd (by omega) fun y hy=>by have:=hN.2.1 y hy; omega)
   have HN:=Lib.hid hN
   clear hown hN
   go_wp2_with fail
   refine HE.out.mono ?_
   rintro e w4 ⟨o,rfl,ho,n4⟩
   go_wp2
   go_ret2
   exact ⟨o,N,by rw [HK.out]; rfl,ho.mono (by have:=n2.size; have:=n3.size; omega),HN.out.1,HN.out.2.1,(n2.trans n3).trans n4⟩
end Go.Proofs.YtliimglbbiebiaaGreatDoor
end

section
namespace Go.Proofs.YtliimglbbiebiaaGreatDoor
open Go.RowKit Go.Shelf Go.Proofs
attribute [local go_sem] Oper.semAt_some
theorem vat_any {w:World} {v x base:Nat} {g:Bool} {u:Value} {l:List Int} (hv:VW w v x g) (hi:IdxU base w x u l) (hl:l.length≤100000) (p:Int) :
 Calls Tryz.prog 19 #[.pointer (some ⟨v,0,none⟩),.int .i64 p] w fun e w'=>e=.returned (.tuple #[.int .u32 (atOf l p).1,.bool (atOf l p).2])∧w'=w:=by
 have c0:w.cell? ⟨v,0,none⟩=some (.pointer (some ⟨x,0,none⟩)):=hv.cell 0
 have HA:=Lib.hid (iat_any hi.at_ hl p)
 clear hv hi
 go_enter Tryz.func19,Tryz.ntmps19
 go_wp2_with fail
 refine HA.out.mono ?_
 rintro e w1 ⟨rfl,rfl⟩
 go_wp2
 go_ret2
 exact ⟨rfl,rfl⟩
def KX (R:Nat→Prop) (W W':World):Prop:=W.heap.size≤W'.heap.size∧∀ k,R k→k < W.heap.size→W'.heap[k]? = W.heap[k]?
theorem KX.refl (R:Nat→Prop) (W:World):KX R W W:=⟨Nat.le_refl _,fun _ _ _=>rfl⟩
theorem KX.trans {R:Nat→Prop} {A B C:World} (h:KX R A B) (k:KX R B C):KX R A C:=⟨Nat.le_trans h.1 k.1,fun i hi hl=>(k.2 i hi (Nat.lt_of_lt_of_le hl h.1)).trans (h.2 i hi hl)⟩
theorem KX.of_fr {R S:Nat→Prop} {W W':World} (h:Fr S W W') (hS:∀ k,k < W.heap.size→R k→¬ S k):KX R W W':=⟨h.size,fun k hk hl=>h.block k hl (hS k hl hk)⟩
theorem KX.put {R:Nat→Prop} {w:World} (hR:∀ k,R k→k < w.heap.size) (W:World) (l:Nat) (o o':Obj) (hl:w.heap.size≤l) (_h:W.heap[l]? = some o) (_:o.isCells=false) (_:o.isWalk=false):KX R W (W.putObj l o') :=
 have hg:=grownBy_putObj' W l o'
 ⟨hg.size,fun k hk hlt=>hg.block k hlt fun e=>by
   cases e
   have:=hR l hk
   omega⟩
theorem KX.blk {R:Nat→Prop} {W W':World} (h:KX R W W') {k:Nat} {t:TypeId} {cs:Array Value} (hb:Blk W k t cs) (hk:R k):Blk W' k t cs:=(h.2 k hk hb.lt).trans hb
structure VX (v x base bs Bs Bv:Nat) (g:Bool) (u sv:Value) (l N:List Int) (W:World):Prop where
 vw:VW W v x g
 ix:IdxU base W x u l
 s:Own (intE .i64) 3 bs W sv N
 b:Blk W Bs 31 #[sv]
 p:Blk W Bv 55 #[.pointer (some ⟨v,0,none⟩)]
def vxR (v x Bs Bv:Nat) (u sv:Value) (k:Nat):Prop:=k=v∨k=x∨k=Bs∨k=Bv∨u.ownBlock=some k∨sv.ownBlock=some k
theorem VX.keep {v x base bs Bs Bv:Nat} {g:Bool} {u sv:Value} {l N:List Int} {W W':World} (h:VX v x base bs Bs Bv g u sv l N W) (k:KX (vxR v x Bs Bv u sv) W W'):VX v x base bs Bs Bv g u sv l N W' where
 vw:=k.blk h.vw (.inl rfl)
 ix:=⟨k.blk h.ix.1 (.inr (.inl rfl)),h.ix.2.1.keep k.1 fun b hb=>k.2 b (.inr (.inr (.inr (.inr (.inl hb))))) (h.ix.2.1.block hb).2,h.ix.2.2⟩
 s:=h.s.keep fun b hb=>k.2 b (.inr (.inr (.inr (.inr (.inr hb))))) (h.s.block hb).2
 b:=k.blk h.b (.inr (.inr (.inl rfl)))
 p:=k.blk h.p (.inr (.inr (.inr (.inl rfl))))
theorem VX.lt {v x base bs Bs Bv:Nat} {g:Bool} {u sv:Value} {l N:List Int} {W:World} (h:VX v x base bs Bs Bv g u sv l N W):∀ k,vxR v x Bs Bv u sv k→k < W.heap.size:=by
 rintro k (rfl | rfl | rfl | rfl | hk | hk)
 · exact h.vw.lt
 · exact h.ix.1.lt
 · exact h.b.lt
 · exact h.p.lt
 · exact (h.ix.2.1.block hk).2
 · exact (h.s.block hk).2
abbrev AtV (l:List Int):Type:={ p:Int × Int // atOf l p.1=(p.2,true) }
theorem visit1_in (n:Nat) (hn:1≤n) (lid:Nat) {v x base bs Bs Bv:Nat} {g:Bool} {u sv:Value} {l N:List Int} (hN:∀ y ∈ N,1≤y∧y≤(l.length:Int)) (hl:l.length≤50000) (hNl:N.length≤50000)
 (J Jx:List (AtV l)→World→Prop) (W:World)
 (hY:∀ pre x' W1,J pre W1→pre.length < N.length→YieldAt Fence.wide (n - 1) Tryz.prog lid #[.int .i64 x'.1.1,.int .u32 x'.1.2] W1 fun e W' =>
   (e=.returned (.bool true)∧J (pre ++ [x']) W'∧KX (vxR v x Bs Bv u sv) W1 W')∨(e=.returned (.bool false)∧Jx (pre ++ [x']) W'))
 (hV:VX v x base bs Bs Bv g u sv l N W) (hJ0:J [] W) :
 CallsIn Fence.wide n Tryz.prog 263 #[.func (.yield lid) #[] #[],.pointer (some ⟨Bs,0,none⟩),.pointer (some ⟨Bv,0,none⟩)] W fun e W'=>(∃ v,e=.returned v)∧((∃ xs:List (AtV l),xs.map (fun p=>p.1.1)=N∧J xs W')∨∃ pre,Jx pre W'):=by
 have cb:W.cell? ⟨Bs,0,none⟩=some sv:=hV.b.cell 0
 obtain ⟨A,c,rfl,_⟩:=hV.s.form
 have HY:=Lib.hid hY
 have HJ0:Hid (J [] W):=hJ0
 have HN:=Lib.hid hN
 have HV:=Lib.hid hV
 clear hY hJ0 hN hV
 refine callsIn_of_wp Tryz.func263 rfl trivial ?_ rfl
 simp only [Tryz.ntmps263,List.size_toArray,List.length_cons,List.length_nil,Nat.reduceAdd,Nat.reduceSub,Array.replicate_succ,Array.replicate_zero,List.push_toArray,List.append_toArray,List.nil_append,List.cons_append]
 gi_wp2_with fail
 gi_loopw [10] (fun iv wr=>∃ pre:List (AtV l),pre.length≤N.length∧iv=.int .i64 pre.length∧Hid (pre.map (fun p=>p.1.1)=N.take pre.length∧J pre wr∧KX (vxR v x Bs Bv u (.slice A N.length c)) W wr)) (fun iv _=>N.length - (intOf iv).toNat)
 case atStart=>exact ⟨[],Nat.zero_le _,rfl,Lib.hid ⟨rfl,HJ0.out,KX.refl _ _⟩⟩
 case round =>
  obtain ⟨pre,hk,rfl,HR⟩:=hrel
  by_cases hkl:pre.length < N.length
  · obtain ⟨y,hy⟩:∃ y,N[pre.length]? = some y:=⟨_,List.getElem?_eq_getElem hkl⟩
    have hVr:=HV.out.keep HR.out.2.2
    obtain ⟨_,_,he,_,hcells⟩:=hVr.s.rd
    cases he
    obtain ⟨b,off,rfl,hcell⟩:=hcells (by rintro rfl; simp at hkl)
    have c0:wr.cell? ⟨b,off + pre.length,none⟩=some (.int .i64 y):=by
     have:=hcell pre.length _ hy 0 _ rfl
     simpa only [intE,Nat.mul_one,Nat.add_zero] using this
    have c1:wr.cell? ⟨Bv,0,none⟩=some (.pointer (some ⟨v,0,none⟩)):=hVr.p.cell 0
    have hby:=HN.out y (List.mem_of_getElem? hy)
    have hAt:=vat_any hVr.vw hVr.ix (by omega) y
    obtain ⟨z,hz⟩:∃ z,atOf l y=(z,true):=by
     unfold atOf
     rw [if_pos hby]
     exact ⟨_,rfl⟩
    rw [hz] at hAt
    obtain ⟨q,hq⟩:∃ q:AtV l,q.1=(y,z):=⟨⟨(y,z),hz⟩,rfl⟩
    obtain ⟨fn,tmps,assign,body,hyy,hR⟩:=HY.out pre q wr HR.out.2.1 hkl
    rw [hq] at hyy
    have HAT:=Lib.hid hAt
    have HYK:=Lib.hid hy
    have HQ:=Lib.hid hq
    clear hAt hcell hcells hy hVr hby hz hq
    gi_wp2_with fail
    refine ⟨trivial,?_⟩
    refine (callsIn_wide.2 HAT.out).mono ?_
    rintro e w2 ⟨rfl,rfl⟩
    gi_wp2
    refine hR.mono ?_
    rintro e W3 (⟨rfl,hJ3,hk3⟩ | ⟨rfl,hJx3⟩)
    · have HK3:=Lib.hid (And.intro hk3 hJ3)
      clear hk3 hJ3
      gi_wp2
      go_roundw
      · refine ⟨pre ++ [q],by simp; omega,by simp,Lib.hid ⟨?_,HK3.out.2,HR.out.2.2.trans HK3.out.1⟩⟩
        rw [List.map_append,List.map_singleton,HR.out.1,HQ.out,List.length_append,List.length_singleton,take_snoc HYK.out]
      · simp [intOf]; omega
    · gi_wp2
      refine bodyPost_ret (results_none rfl _ _ _) rfl ?_
      exact ⟨⟨_,rfl⟩,.inr ⟨_,hJx3⟩⟩
  · have hlen:pre.length=N.length:=by omega
    rw [hlen] at HR ⊢
    gi_wp2
    go_end0
    have h:=HR.out
    rw [List.take_length] at h
    exact ⟨⟨_,rfl⟩,.inl ⟨pre,h.1,h.2.1⟩⟩
end Go.Proofs.YtliimglbbiebiaaGreatDoor
end

