/- A part of the proof: Tbl, Mu, Do, TblNew, StepPut, Flag, Clos. -/
import Derived.Test.YtliimglbbiebiaaGreatDoorGTopPairsAA
import Derived.Test.YtliimglbbiebiaaGreatDoorRows
import Derived.Conc.MuLone
import Derived.WalkKit
import Derived.Defers
import Derived.WalkSpells
import Derived.WalkLawsBesides
import Derived.Deep.QuietTactic
import Derived.BigQuiet
import Derived.Lib.Hide
import Derived.Deep.RegionHeld3
set_option maxRecDepth 100000
set_option maxHeartbeats 6400000
section
namespace Go.Proofs.YtliimglbbiebiaaGreatDoor
open Go.RowKit Go.Maps
abbrev uKeys:KeyEnc Tryz.prog 28 Int:=intKeys Tryz.underlying28
section
variable {P:Program} {K:TypeId} {α:Type} [DecidableEq α] {E:KeyEnc P K α} {w:World} {b:Nat} {l l':List (α × Value)}
theorem get_perm (hp:l.Perm l') (hnd:(l.map Prod.fst).Nodup) (a:α):get l a=get l' a:=by
 cases h:get l a with
 | none =>
   symm
   rw [get_none_iff] at h ⊢
   exact fun hm=>h ((hp.map _).mem_iff.2 hm)
 | some v =>
   symm
   exact get_of_mem ((hp.map _).nodup_iff.1 hnd) (hp.mem_iff.1 (mem_of_get h))
theorem HasMap.perm (h:HasMap E w b l) (hp:l.Perm l'):HasMap E w b l':=by
 obtain ⟨D,h1,h2,h3⟩:=h.own
 refine ⟨(hp.map _).nodup_iff.1 h.nd,fun p hp'=>h.oks p (hp.mem_iff.2 hp'),D,by rw [← hp.length_eq]; exact h1,by rw [← hp.length_eq]; exact h2,fun a ha z=>?_⟩
 rw [← get_perm hp h.nd a]
 exact h3 a ha z
theorem del_none {k:α} (h:get l k=none):del l k=l:=by
 unfold del
 rw [List.filter_eq_self]
 intro p hp
 have:=get_none_iff.1 h
 simp
 rintro rfl
 exact this (List.mem_map.2 ⟨p,hp,rfl⟩)
theorem put_new_perm {k:α} {v:Value} (h:get l k=none):(put l k v).Perm (l ++ [(k,v)]):=by
 unfold put
 rw [del_none h]
 exact (List.perm_append_singleton _ _).symm
theorem put_set_perm {k:α} {v v0:Value} (hnd:(l.map Prod.fst).Nodup) (h:get l k=some v0):(put l k v).Perm (l.map fun p=>if p.1=k then (k,v) else p):=by
 induction l with
 | nil=>cases h
 | cons p l ih =>
   rw [List.map_cons,List.nodup_cons] at hnd
   rw [get_cons] at h
   unfold put del at ih ⊢
   by_cases hp:p.1=k
   · have hn:get l k=none:=get_none_iff.2 (by rw [← hp]; exact hnd.1)
     have hd:l.filter (fun p=>decide (p.1≠k))=l:=del_none hn
     rw [List.filter_cons_of_neg (by simpa using hp),hd,List.map_cons,if_pos hp]
     refine List.Perm.cons _ ?_
     have:l.map (fun p=>if p.1=k then (k,v) else p)=l:=by
      conv=>rhs; rw [← List.map_id l]
      refine List.map_congr_left fun q hq=>?_
      rw [if_neg]
      · rfl
      · rintro rfl
        exact get_none_iff.1 hn (List.mem_map.2 ⟨q,hq,rfl⟩)
     rw [this]
   · rw [if_neg hp] at h
     rw [List.filter_cons_of_pos (by simpa using hp),List.map_cons,if_neg hp]
     exact (List.Perm.swap _ _ _).trans ((ih hnd.2 h).cons _)
end
def ent (n i:Nat) (X:List MB):List (Int × Value):=(X.filter fun x:MB=>decide (x.m.uid % (n:Int)=(i:Int))).map fun x:MB=>(x.m.uid,x.val)
def findX (X:List MB) (k:Int):Option MB:=X.find? fun x:MB=>decide (x.m.uid=k)
def remX (X:List MB) (k:Int):List MB:=X.filter fun x:MB=>decide (x.m.uid≠k)
def MB.setf (x:MB) (f:Int):MB:={ x with m:={ x.m with fl:=f } }
def setX (X:List MB) (k f:Int):List MB:=X.map fun x:MB=>if x.m.uid=k then x.setf f else x
theorem findX_map (X:List MB) (k:Int):findM (X.map MB.m) k=(findX X k).map MB.m:=by
 unfold findM findX
 rw [List.find?_map]
 rfl
theorem remX_map (X:List MB) (k:Int):(remX X k).map MB.m=remM (X.map MB.m) k:=by
 unfold remX remM
 rw [List.filter_map]
 rfl
theorem setX_map (X:List MB) (k f:Int):(setX X k f).map MB.m=setF (X.map MB.m) k f:=by
 unfold setX setF
 rw [List.map_map,List.map_map]
 refine List.map_congr_left fun x _=>?_
 simp only [Function.comp]
 split <;> rfl
theorem findX_mem {X:List MB} {k:Int} {x:MB} (h:findX X k=some x):x ∈ X∧x.m.uid=k:=by
 unfold findX at h
 refine ⟨List.mem_of_find?_eq_some h,?_⟩
 simpa using List.find?_some h
theorem get_ent (n:Nat) {i:Nat} {k:Int} (hk:k % n=i) (X:List MB):get (ent n i X) k=(findX X k).map MB.val:=by
 induction X with
 | nil=>rfl
 | cons x X ih =>
   unfold ent findX at ih ⊢
   rw [List.find?_cons]
   by_cases hx:x.m.uid % n=i
   · rw [List.filter_cons_of_pos (by simpa using hx),List.map_cons,get_cons]
     by_cases he:x.m.uid=k
     · rw [if_pos he,decide_eq_true he]; rfl
     · rw [if_neg he,decide_eq_false he,ih]
   · rw [List.filter_cons_of_neg (by simpa using hx),decide_eq_false (by rintro rfl; exact hx hk),ih]
theorem ent_app (n i:Nat) (X:List MB) (x:MB):ent n i (X ++ [x])=if x.m.uid % n=i then ent n i X ++ [(x.m.uid,x.val)] else ent n i X:=by
 unfold ent
 rw [List.filter_append]
 by_cases h:x.m.uid % n=i
 · rw [if_pos h,List.filter_cons_of_pos (by simpa using h)]
   simp
 · rw [if_neg h,List.filter_cons_of_neg (by simpa using h)]
   simp
theorem ent_rem (n i:Nat) (X:List MB) (k:Int):ent n i (remX X k)=del (ent n i X) k:=by
 unfold ent remX del
 rw [List.filter_map,List.filter_filter,List.filter_filter]
 congr 1
 refine List.filter_congr fun x _=>?_
 simp only [Function.comp]
 rw [Bool.and_comm]
theorem setf_uid (x:MB) (f:Int):(x.setf f).m.uid=x.m.uid:=rfl
theorem ent_set {n i:Nat} {k f:Int} {x:MB} (X:List MB) (H:∀ y ∈ X,y.m.uid=k→y=x):ent n i (setX X k f)=(ent n i X).map fun p=>if p.1=k then (k,(x.setf f).val) else p:=by
 induction X with
 | nil=>rfl
 | cons y X ih =>
   have ih:=ih fun z hz=>H z (List.mem_cons_of_mem _ hz)
   have hy:=H y List.mem_cons_self
   unfold ent setX at ih ⊢
   rw [List.map_cons]
   by_cases he:y.m.uid=k
   · obtain rfl:=hy he
     rw [if_pos he]
     by_cases hx:y.m.uid % (n:Int)=(i:Int)
     · rw [List.filter_cons_of_pos (by rw [setf_uid]; simpa using hx),List.filter_cons_of_pos (by simpa using hx),List.map_cons,List.map_cons,List.map_cons,ih,setf_uid,if_pos he,he]
     · rw [List.filter_cons_of_neg (by rw [setf_uid]; simpa using hx),List.filter_cons_of_neg (by simpa using hx),ih]
   · rw [if_neg he]
     by_cases hx:y.m.uid % (n:Int)=(i:Int)
     · rw [List.filter_cons_of_pos (by simpa using hx),List.filter_cons_of_pos (by simpa using hx),List.map_cons,List.map_cons,List.map_cons,ih,if_neg he]
     · rw [List.filter_cons_of_neg (by simpa using hx),List.filter_cons_of_neg (by simpa using hx),ih]
theorem ent_set_other {n i:Nat} {k:Int} (hk:k % (n:Int)≠i) (f:Int) (X:List MB):ent n i (setX X k f)=ent n i X:=by
 induction X with
 | nil=>rfl
 | cons y X ih =>
   unfold ent setX at ih ⊢
   rw [List.map_cons]
   by_cases he:y.m.uid=k
   · have hx:¬ y.m.uid % (n:Int)=(i:Int):=by rw [he]; exact hk
     rw [if_pos he,List.filter_cons_of_neg (by rw [setf_uid]; simpa using hx),List.filter_cons_of_neg (by simpa using hx),ih]
   · rw [if_neg he]
     by_cases hx:y.m.uid % (n:Int)=(i:Int)
     · rw [List.filter_cons_of_pos (by simpa using hx),List.filter_cons_of_pos (by simpa using hx),List.map_cons,List.map_cons,ih]
     · rw [List.filter_cons_of_neg (by simpa using hx),List.filter_cons_of_neg (by simpa using hx),ih]
theorem ent_other (n:Nat) {i:Nat} {X:List MB} {k:Int} (hk:k % n≠i):∀ p ∈ ent n i X,p.1≠k:=by
 intro p hp
 unfold ent at hp
 obtain ⟨x,hx,rfl⟩:=List.mem_map.1 hp
 have:=(List.mem_filter.1 hx).2
 simp at this
 rintro rfl
 exact hk this
structure Tb where
 tb:Nat
 pb:Nat
 c:Nat
 n:Nat
 q:Nat→Nat
 mb:Nat→Nat
 lo:Nat
 hi:Nat
def Tb.foot (T:Tb) (k:Nat):Prop:=T.lo≤k∧k < T.hi
structure TBX (base:Nat) (w:World) (T:Tb) (X:List MB):Prop where
 hd:Blk w T.tb 134 #[.slice (some ⟨T.pb,0,none⟩) T.n T.c]
 n0:0 < T.n
 n1:T.n≤16
 nc:T.n≤T.c
 pt:∃ cs,Blk w T.pb 135 cs∧∀ i,i < T.n→cs[i]? = some (.pointer (some ⟨T.q i,0,none⟩))
 part:∀ i,i < T.n→Blk w (T.q i) 143 #[.int .i32 0,.int .u32 0,.map (some (T.mb i))]
 map:∀ i,i < T.n→HasMap uKeys w (T.mb i) (ent T.n i X)
 body:∀ x ∈ X,Own (intE .u8) 5 base w x.bv x.m.body
 nd:(X.map fun x=>x.m.uid).Nodup
 ok:∀ x ∈ X,x.m.ok∧x.m.body.length≤65536
 qinj:∀ i j,i < T.n→j < T.n→T.q i=T.q j→i=j
 minj:∀ i j,i < T.n→j < T.n→T.mb i=T.mb j→i=j
 rtb:T.foot T.tb
 rpb:T.foot T.pb
 rq:∀ i,i < T.n→T.foot (T.q i)
 rm:∀ i,i < T.n→T.foot (T.mb i)
 top:T.hi≤w.heap.size
section
variable {base:Nat} {w w':World} {T:Tb} {X:List MB}
theorem TBX.fr {S:Nat→Prop} (h:TBX base w T X) (hf:Fr S w w') (hS:∀ k,S k→¬ T.foot k) (hB:∀ v l,Own (intE .u8) 5 base w v l→∀ b,v.ownBlock=some b→¬ S b):TBX base w' T X:=by
 obtain ⟨cs,hp,hpi⟩:=h.pt
 exact ⟨hf.blk h.hd fun hs=>hS _ hs h.rtb,h.n0,h.n1,h.nc,⟨cs,hf.blk hp fun hs=>hS _ hs h.rpb,hpi⟩,fun i hi=>hf.blk (h.part i hi) fun hs=>hS _ hs (h.rq i hi),fun i hi=>(h.map i hi).fr hf fun hs=>hS _ hs (h.rm i hi),
  fun x hx=>(h.body x hx).fr hf (hB _ _ (h.body x hx)),h.nd,h.ok,h.qinj,h.minj,h.rtb,h.rpb,h.rq,h.rm,Nat.le_trans h.top hf.size⟩
theorem TBX.new (h:TBX base w T X) (hf:New w w'):TBX base w' T X:=h.fr hf (fun _ h=>h.elim) fun _ _ _ _ _ h=>h
theorem TBX.drew (h:TBX base w T X):TBX base w.drew T X:=h.new ((New.refl w).drew)
end
end Go.Proofs.YtliimglbbiebiaaGreatDoor
end

section
namespace Go.Proofs.YtliimglbbiebiaaGreatDoor
open Go.RowKit Go.MuLone
abbrev mu:Go.Conc.Locks.MuLink:={ lock:=243,unlock:=244,ilock:=300,iunlock:=301,lockSlow:=338,unlockSlow:=341,disable:=334,enable:=336,acquire:=337,relMerge:=339,cas32:=335,add32:=340,tMutex:=141,tIMutex:=139,tPMutex:=408,tPIMutex:=443,tPI32:=445,tUP:=447,tNoCopy:=137,tU32:=28 }
theorem muLib:Go.Conc.Locks.MuLib Tryz.prog mu :=
 ⟨Tryz.func243,Tryz.func244,Tryz.func300,Tryz.func301,Tryz.func334,Tryz.func336,Tryz.func337,Tryz.func339,Tryz.func335,Tryz.func340,Tryz.underlying139,Tryz.runUnderlying139,Tryz.sizeOf139,Tryz.isAgg139,Tryz.zeroValue139,Tryz.underlying141,Tryz.runUnderlying141,Tryz.sizeOf141,Tryz.isAgg141,Tryz.zeroValue141,Tryz.underlying408,Tryz.runUnderlying408,Tryz.sizeOf408,Tryz.isAgg408,Tryz.zeroValue408,Tryz.underlying443,Tryz.runUnderlying443,Tryz.sizeOf443,Tryz.isAgg443,Tryz.zeroValue443,Tryz.underlying445,Tryz.runUnderlying445,Tryz.sizeOf445,Tryz.isAgg445,Tryz.zeroValue445,Tryz.underlying447,Tryz.runUnderlying447,Tryz.sizeOf447,Tryz.isAgg447,Tryz.zeroValue447,Tryz.underlying137,Tryz.runUnderlying137,Tryz.sizeOf137,Tryz.isAgg137,Tryz.zeroValue137,Tryz.underlying21,Tryz.runUnderlying21,Tryz.sizeOf21,Tryz.isAgg21,Tryz.zeroValue21,(by kernel_rfl)⟩
end Go.Proofs.YtliimglbbiebiaaGreatDoor
end

section
namespace Go.Proofs.YtliimglbbiebiaaGreatDoor
open Go.RowKit Go.MuLone
theorem do_any (q m fn:Nat) (cap:Array Value) (R:World→Prop) (w:World) (hp:Blk w q 143 #[.int .i32 0,.int .u32 0,.map (some m)])
 (hE:∀ args w,(callFunc fn args).run Tryz.prog w=.ok (.enter fn args) w)
 (hf:Calls Tryz.prog fn (#[.map (some m)] ++ cap) (w.setCell ⟨q,0,none⟩ (.int .i32 1)) fun e w2=>e=.returned (.tuple #[])∧R w2)
 (hR:∀ w2,R w2→Blk w2 q 143 #[.int .i32 1,.int .u32 0,.map (some m)]) :
 Calls Tryz.prog 191 #[.pointer (some ⟨q,0,none⟩),.func (.func fn) #[] cap] w fun e w'=>e=.returned (.tuple #[])∧∃ w2,R w2∧w'=w2.setCell ⟨q,0,none⟩ (.int .i32 0):=by
 have c0:=hp.cell 0
 have f0:=hp.frozen 0
 have h1:Blk (w.setCell ⟨q,0,none⟩ (.int .i32 1)) q 143 #[.int .i32 1,.int .u32 0,.map (some m)]:=hp.set_ 0 _
 have d2:(w.setCell ⟨q,0,none⟩ (.int .i32 1)).cell? ⟨q,2,none⟩=some (.map (some m)):=h1.cell 2
 go_enter_defers Tryz.func191,Tryz.ntmps191
 go_wp2_with (first | (go_at_call 243; refine (lock_free muLib ⟨q,0,none⟩ _ c0 f0).mono ?_; rintro e w' ⟨rfl,rfl⟩) | fail)
 refine hf.mono ?_
 rintro e w2 ⟨rfl,hr⟩
 have h2:=hR _ hr
 have HR:=Lib.hid hr
 clear hr hR hf
 go_wp2
 refine leaves_cons (f:=244) (args:=#[.pointer (some ⟨q,0,none⟩)]) (by simp) (by simp [go_sem]) ?_
 refine (unlock_deferred muLib ⟨q,0,none⟩ .returning _ (h2.cell 0) (h2.frozen 0)).mono ?_
 rintro e u' w'' ⟨rfl,rfl,rfl⟩
 exact ⟨_,results_none rfl _ _ _,rfl,_,HR.out,rfl⟩
end Go.Proofs.YtliimglbbiebiaaGreatDoor
end

section
namespace Go.Proofs.YtliimglbbiebiaaGreatDoor
open Go.RowKit Go.Maps
def ptrE:Elem Nat where
 enc q:=[.pointer (some ⟨q,0,none⟩)]
 sz:=1
 len _:=rfl
 one x u hu:=by simp at hu; subst hu; rfl
 pos:=Nat.one_pos
theorem ptr_info:(Tryz.prog.info? 135).map (fun i=>(i.zero,i.size,i.bytes))=some (some (.pointer none),1,8):=by kernel_rfl
theorem HasMap.ne_blk {P:Program} {K:TypeId} {α:Type} [DecidableEq α] {E:KeyEnc P K α} {w:World} {b:Nat} {l:List (α × Value)} (h:HasMap E w b l) {g:Nat} {t:TypeId} {cs:Array Value} (hb:Blk w g t cs):b≠g:=by
 rintro rfl
 obtain ⟨D,⟨es,clock,h1,_⟩,_⟩:=h.own
 unfold Blk at hb
 rw [h1] at hb
 cases hb
structure Parts (w0 w:World) (tb:Nat) (v:Value) (qs ms:List Nat):Prop where
 hd:Blk w tb 134 #[v]
 own:Own ptrE 135 w0.heap.size w v qs
 len:ms.length=qs.length
 part:∀ (i q m:Nat),qs[i]? = some q→ms[i]? = some m→Blk w q 143 #[.int .i32 0,.int .u32 0,.map (some m)]
 map:∀ m ∈ ms,HasMap uKeys w m []
 qge:∀ q ∈ qs,w0.heap.size≤q
 mge:∀ m ∈ ms,w0.heap.size≤m
 nq:qs.Nodup
 nm:ms.Nodup
 tbge:w0.heap.size≤tb
 new:New w0 w
theorem Parts.lt {w0 w:World} {tb:Nat} {v:Value} {qs ms:List Nat} (h:Parts w0 w tb v qs ms):(∀ q ∈ qs,q < w.heap.size)∧∀ m ∈ ms,m < w.heap.size:=by
 refine ⟨fun q hq=>?_,fun m hm=>(h.map m hm).lt⟩
 obtain ⟨i,hi⟩:=List.mem_iff_getElem?.1 hq
 have hl:=(List.getElem?_eq_some_iff.1 hi).1
 exact (h.part i q _ hi (List.getElem?_eq_getElem (by rw [h.len]; exact hl))).lt
theorem nodup_snoc {l:List Nat} {n:Nat} (h:l.Nodup) (hn:∀ x ∈ l,x < n):(l ++ [n]).Nodup:=by
 rw [List.nodup_append]
 refine ⟨h,by simp,fun a ha b hb=>?_⟩
 have:=hn a ha
 simp at hb
 omega
theorem Parts.step {w0 w w2:World} {tb:Nat} {v v2:Value} {qs ms:List Nat} (h:Parts w0 w tb v qs ms) {cs:Array Value}
 (ho:Own ptrE 135 w0.heap.size w2 v2 (qs ++ [w.heap.size + 1]))
 (hf:Fr (fun k=>v.ownBlock=some k) (((w.alloc (.map #[] 0)).alloc (.cells #[.int .i32 0,.int .u32 0,.map (some w.heap.size)] 143)).alloc (.cells cs 135)) w2) :
 Parts w0 (w2.setCell ⟨tb,0,none⟩ v2) tb v2 (qs ++ [w.heap.size + 1]) (ms ++ [w.heap.size]):=by
 obtain ⟨hql,hml⟩:=h.lt
 have hn3:New w (((w.alloc (.map #[] 0)).alloc (.cells #[.int .i32 0,.int .u32 0,.map (some w.heap.size)] 143)).alloc (.cells cs 135)):=(((New.refl w).alloc _).alloc _).alloc _
 have hf2:Fr (fun k=>v.ownBlock=some k) w w2:=Fr.trans' (New.to hn3) hf fun _ _ h=>h
 have hf3:Fr (fun k=>v.ownBlock=some k∨k=tb) w (w2.setCell ⟨tb,0,none⟩ v2):=(fr_or hf2 fun _ h=>.inl h).setCell (fun _=>.inr rfl) _
 have hne:∀ b,v.ownBlock=some b→∀ g t cs',Blk w g t cs'→t≠135→g≠b:=fun b hb g t cs' hg ht=>by
  obtain ⟨cs2,h2⟩:=h.own.heap hb
  exact hg.ne_ h2 ht
 have hlo:=fun b hb=>(h.own.block (b:=b) hb)
 have b2:Blk w2 tb 134 #[v]:=hf2.blk h.hd fun hs=>hne _ hs _ _ _ h.hd (by decide) rfl
 have hsz:=hn3.size
 have hsz':(((w.alloc (.map #[] 0)).alloc (.cells #[.int .i32 0,.int .u32 0,.map (some w.heap.size)] 143)).alloc (.cells cs 135)).heap.size=w.heap.size + 3:=by simp
 have hns:∀ k,w.heap.size≤k→¬ v.ownBlock=some k:=fun k hk hs=>by have:=(hlo k hs).2; omega
 have htl:=h.hd.lt
 have p2:Blk (w2.setCell ⟨tb,0,none⟩ v2) (w.heap.size + 1) 143 #[.int .i32 0,.int .u32 0,.map (some w.heap.size)] :=
  (hf.blk ((Blk.new1 w _ _ _).alloc _) (hns _ (by omega))).far (by simp; omega) _
 have m2:HasMap uKeys (w2.setCell ⟨tb,0,none⟩ v2) w.heap.size [] :=
  ((((HasMap.made uKeys w).alloc _).alloc _).fr hf (hns _ (Nat.le_refl _))).setCell (by simp; omega) _
 refine ⟨b2.set_ 0 _,?_,by simp [h.len],?_,?_,?_,?_,nodup_snoc h.nq (fun x hx=>by have:=hql x hx; omega),nodup_snoc h.nm hml,h.tbge,?_⟩
 · refine ho.fr (S:=fun k=>k=tb) ((Fr.refl (fun k=>k=tb) _).setCell (p:=⟨tb,0,none⟩) (fun _=>rfl) _) fun b hb hs=>?_
   subst hs
   obtain ⟨cs2,h2⟩:=ho.heap hb
   exact b2.ne_ h2 (by decide) rfl
 · intro i q m hq hm
   rcases Nat.lt_or_ge i qs.length with hi | hi
   · rw [List.getElem?_append_left hi] at hq
     rw [List.getElem?_append_left (by rw [h.len]; exact hi)] at hm
     have hb:=h.part i q m hq hm
     refine hf3.blk hb fun hs=>?_
     rcases hs with hs | rfl
     · exact hne _ hs _ _ _ hb (by decide) rfl
     · exact hb.ne_ h.hd (by decide) rfl
   · rw [List.getElem?_append_right hi] at hq
     rw [List.getElem?_append_right (by rw [h.len]; exact hi),h.len] at hm
     have hi0:i - qs.length=0:=by
      have:=(List.getElem?_eq_some_iff.1 hq).1
      simp at this; omega
     rw [hi0] at hq hm
     simp at hq hm
     subst hq hm
     exact p2
 · intro m hm
   rcases List.mem_append.1 hm with hm | hm
   · have hb:=h.map m hm
     refine hb.fr hf3 fun hs=>?_
     rcases hs with hs | rfl
     · obtain ⟨cs2,h2⟩:=h.own.heap hs
       exact hb.ne_blk h2 rfl
     · exact hb.ne_blk h.hd rfl
   · simp at hm
     subst hm
     exact m2
 · intro q hq
   rcases List.mem_append.1 hq with hq | hq
   · exact h.qge q hq
   · have:=h.new.size
     simp at hq
     omega
 · intro m hm
   rcases List.mem_append.1 hm with hm | hm
   · exact h.mge m hm
   · have:=h.new.size
     simp at hm
     omega
 · exact New.two h.new hf3 fun i hi=>by
    rcases hi with hi | rfl
    · exact (hlo i hi).1
    · exact h.tbge
theorem ent_nil (n i:Nat):ent n i []=[]:=rfl
theorem Parts.table {w0 w:World} {tb:Nat} {v:Value} {qs ms:List Nat} (h:Parts w0 w tb v qs ms) (h0:0 < qs.length) (h1:qs.length≤16) :
 ∃ T:Tb,T.tb=tb∧T.n=qs.length∧T.lo=w0.heap.size∧T.hi=w.heap.size∧TBX w.heap.size w T []:=by
 obtain ⟨hql,hml⟩:=h.lt
 obtain ⟨A,c,hv,hc⟩:=h.own.form
 obtain ⟨g,rfl⟩:∃ g,A=some ⟨g,0,none⟩:=by
  have h2:=h.own
  rw [hv] at h2
  exact h2.some_ h0
 have hgb:v.ownBlock=some g:=by rw [hv]; rfl
 obtain ⟨cs,hcs⟩:=h.own.heap hgb
 have hgl:=h.own.block hgb
 have hq:∀ i,i < qs.length→∃ q m,qs[i]? = some q∧ms[i]? = some m∧qs.getD i 0=q∧ms.getD i 0=m:=fun i hi=>by
  refine ⟨qs[i],ms[i]'(by rw [h.len]; exact hi),List.getElem?_eq_getElem hi,List.getElem?_eq_getElem _,?_,?_⟩
  · simp [List.getD,List.getElem?_eq_getElem hi]
  · simp [List.getD,List.getElem?_eq_getElem (show i < ms.length by rw [h.len]; exact hi)]
 refine ⟨⟨tb,g,c,qs.length,fun i=>qs.getD i 0,fun i=>ms.getD i 0,w0.heap.size,w.heap.size⟩,rfl,rfl,rfl,rfl,⟨hv ▸ h.hd,h0,h1,hc,⟨cs,hcs,fun i hi=>?_⟩,fun i hi=>?_,fun i hi=>?_,by simp,by simp,by simp,fun i j hi hj=>?_,fun i j hi hj=>?_,⟨h.tbge,h.hd.lt⟩,hgl,fun i hi=>?_,fun i hi=>?_,Nat.le_refl _⟩⟩
 · obtain ⟨q,m,e1,e2,e3,e4⟩:=hq i hi
   have h2:=h.own
   rw [hv] at h2
   have h3:=h2.cell_at e1 (j:=0) (u:=.pointer (some ⟨q,0,none⟩)) rfl
   rw [hcs.cell] at h3
   show cs[i]? = some (.pointer (some ⟨qs.getD i 0,0,none⟩))
   rw [e3,← h3]
   simp [ptrE]
 · obtain ⟨q,m,e1,e2,e3,e4⟩:=hq i hi
   simp only [e3,e4]
   exact h.part i q m e1 e2
 · obtain ⟨q,m,e1,e2,e3,e4⟩:=hq i hi
   simp only [e4,ent_nil]
   exact h.map m (List.mem_iff_getElem?.2 ⟨i,e2⟩)
 · obtain ⟨q,m,e1,e2,e3,e4⟩:=hq i hi
   obtain ⟨q',m',e1',e2',e3',e4'⟩:=hq j hj
   simp only [e3,e3']
   rintro rfl
   exact (List.getElem?_inj hi h.nq).1 (e1.trans e1'.symm)
 · obtain ⟨q,m,e1,e2,e3,e4⟩:=hq i hi
   obtain ⟨q',m',e1',e2',e3',e4'⟩:=hq j hj
   simp only [e4,e4']
   rintro rfl
   exact (List.getElem?_inj (by rw [h.len]; exact hi) h.nm).1 (e2.trans e2'.symm)
 · obtain ⟨q,m,e1,e2,e3,e4⟩:=hq i hi
   have h5:q ∈ qs:=List.mem_iff_getElem?.2 ⟨i,e1⟩
   show w0.heap.size≤qs.getD i 0∧qs.getD i 0 < w.heap.size
   rw [e3]
   exact ⟨h.qge q h5,hql q h5⟩
 · obtain ⟨q,m,e1,e2,e3,e4⟩:=hq i hi
   have h5:m ∈ ms:=List.mem_iff_getElem?.2 ⟨i,e2⟩
   show w0.heap.size≤ms.getD i 0∧ms.getD i 0 < w.heap.size
   rw [e4]
   exact ⟨h.mge m h5,hml m h5⟩
theorem tnew_any (n:Nat) (h0:0 < n) (h1:n≤16) (w:World) :
 Calls Tryz.prog 35 #[.int .i64 n] w fun e w'=>∃ T:Tb,e=.returned (.pointer (some ⟨T.tb,0,none⟩))∧T.n=n∧T.lo=w.heap.size∧T.hi=w'.heap.size∧TBX w'.heap.size w' T []∧New w w':=by
 have hd:decide ((n:Int) < 1)=false:=decide_eq_false (by omega)
 have hd2:decide ((16:Int) < n)=false:=decide_eq_false (by omega)
 obtain ⟨i0,hi,hz0,hz1,hz2⟩:=info_parts ptr_info
 have hmm:=@run_makeMap Tryz.prog
 go_enter Tryz.func35,Tryz.ntmps35
 go_wp2
 go_loopw [13] (fun vi wr=>∃ (k:Nat) (v:Value) (qs ms:List Nat),vi=.int .i64 k∧k≤n∧qs.length=k∧Parts w wr w.heap.size v qs ms) (fun vi _=>n - (intOf vi).toNat)
 case atStart=>exact ⟨0,.slice none 0 0,[],[],rfl,Nat.zero_le _,rfl,⟨Blk.new _ _ _,Own.nil _ _ _ _,rfl,by simp,by simp,by simp,by simp,by simp,by simp,Nat.le_refl _,(New.refl w).alloc _⟩⟩
 case round =>
  obtain ⟨k,v,qs,ms,rfl,hk,hql,HP⟩:=hrel
  by_cases hlt:k < n
  · have hd3:decide ((k:Int) < n)=true:=decide_eq_true (by omega)
    have hkw:IntKind.i64.wrap ((k:Int) + 1)=(k:Int) + 1:=IntWalk.i64_in _ (by omega)
    have c0:=HP.hd.cell 0
    have f0:=HP.hd.frozen 0
    have hsz:=HP.new.size
    have htl:=HP.hd.lt
    have hO:=((HP.own.alloc (.map #[] 0)).alloc (.cells #[.int .i32 0,.int .u32 0,.map (some wr.heap.size)] 143)).alloc (.cells #[.pointer (some ⟨wr.heap.size + 1,0,none⟩)] 135)
    have hn3:New wr (((wr.alloc (.map #[] 0)).alloc (.cells #[.int .i32 0,.int .u32 0,.map (some wr.heap.size)] 143)).alloc (.cells #[.pointer (some ⟨wr.heap.size + 1,0,none⟩)] 135)):=(((New.refl wr).alloc _).alloc _).alloc _
    have hb3:=Blk.new2 wr (.map #[] 0) (.cells #[.int .i32 0,.int .u32 0,.map (some wr.heap.size)] 143) 135 #[.pointer (some ⟨wr.heap.size + 1,0,none⟩)]
    have hs3:(((wr.alloc (.map #[] 0)).alloc (.cells #[.int .i32 0,.int .u32 0,.map (some wr.heap.size)] 143)).alloc (.cells #[.pointer (some ⟨wr.heap.size + 1,0,none⟩)] 135)).heap.size=wr.heap.size + 3:=by simp
    obtain ⟨A,N,C,rfl⟩:=own_shape HP.own
    have hvb:=fun b hb=>HP.own.heap (g:=b) hb
    go_wp2_with (first
     | (at_builtin; refine wpList_push (E:=ptrE) rfl _ _ _ rfl Tryz.underlying132 hi hz0 hz1 hz2 rfl hO rfl (wr.heap.size + 1) (wr.heap.size + 2) hb3 1 rfl (by unfold maxLen; omega) (by omega) (by omega) ?_; intro v2 w2 hv2 hf2 hl2
        obtain ⟨A2,N2,C2,rfl⟩:=own_shape hv2
        have hb2:Blk w2 w.heap.size 134 #[.slice A N C]:=(fr_or hf2 fun _ h=>h).blk (hn3.blk HP.hd) (fun hs=>by obtain ⟨cs2,h2⟩:=hvb _ hs; exact HP.hd.ne_ h2 (by decide) rfl)
        have d0:=hb2.cell 0
        have g0:=hb2.frozen 0)
     | fail)
    go_roundw
    case rel=>exact ⟨k + 1,_,_,_,by go_num,by omega,by simp; omega,HP.step hv2 hf2⟩
    case measure=>simp [intOf]; omega
  · have hd3:decide ((k:Int) < n)=false:=decide_eq_false (by omega)
    obtain ⟨T,e1,e2,e3,e4,e5⟩:=HP.table (by omega) (by omega)
    go_wp2
    go_ret
    exact ⟨T,by first | (rw [e1]; done) | (simp only [e1]; done) | simp [e1],by omega,e3,e4,e5,HP.new⟩
theorem tof_any {base:Nat} {w:World} {T:Tb} {X:List MB} (h:TBX base w T X) (k:Int) (h0:0≤k) (_h1:k≤4294967295):Calls Tryz.prog 238 #[.pointer (some ⟨T.tb,0,none⟩),.int .u32 k] w fun e w'=>e=.returned (.int .i64 (k % T.n))∧w'=w:=by
 have c0:=h.hd.cell 0
 have e1:=h.n0
 have e2:=h.n1
 have hw:IntKind.u32.wrap (T.n:Int)=T.n:=by simp [IntKind.wrap_u32]; omega
 have hmod:Int.tmod k (T.n:Int)=k % T.n:=Int.tmod_eq_emod_of_nonneg h0
 have hm0:0≤k % (T.n:Int):=Int.emod_nonneg _ (by omega)
 have hm1:k % (T.n:Int) < T.n:=Int.emod_lt_of_pos _ (by omega)
 have hw2:IntKind.i64.wrap (k % (T.n:Int))=k % T.n:=IntWalk.i64_in _ (by omega)
 have hw3:IntKind.u32.wrap (k % (T.n:Int))=k % T.n:=by simp [IntKind.wrap_u32]; omega
 have hz:((T.n:Int) == 0)=false:=by simp; omega
 have hz':(T.n:Int)≠0:=by omega
 go_enter Tryz.func238,Tryz.ntmps238
 go_wp2
 go_ret
 exact ⟨rfl,rfl⟩
end Go.Proofs.YtliimglbbiebiaaGreatDoor
end

section
namespace Go.Proofs.YtliimglbbiebiaaGreatDoor
open Go.RowKit Go.Maps
end Go.Proofs.YtliimglbbiebiaaGreatDoor
end

section
namespace Go.Proofs.YtliimglbbiebiaaGreatDoor
open Go.RowKit Go.Maps
section
variable {P:Program} {K:TypeId} {α:Type} [DecidableEq α] {E:KeyEnc P K α} {w:World} {b:Nat} {l:List (α × Value)}
variable {ops:Array Oper} {rest:List Oper} {o:Oper} {a:Act} {Q:Exit→Act→World→Prop}
theorem wpList_ins (hg:o.guard=none) (m x v:Operand) (t e:TypeId) (hop:o.op=Op.insert t m x v) (ht:P.underlying t=some (.map K e))
 (h:HasMap E w b l) (hn:l.length < maxLen) (k:α) (hk:E.ok k) (u:Value) (hm:a.eval m=.map (some b)) (hx:a.eval x=E.kv k) (hv:a.eval v=u)
 (hK:∀ w',HasMap E w' b (put l k u)→One b w w'→wpList P ops Q rest (a.put o.dst undef) w'):wpList P ops Q (o :: rest) a w:=by
 refine wpList_plain hg fun K' hK'=>?_
 obtain ⟨w',hr,h1,h2⟩:=h.run_put ht hn hk u
 unfold Oper.wp
 simp [execOp,hop,hm,hx,hv,hr,Result.andThen]
 exact hK' _ _ (hK w' h1 h2)
end
abbrev iKeys:KeyEnc Tryz.prog 3 Int:=intKeys Tryz.underlying3
theorem put_len {α:Type} [DecidableEq α] (l:List (α × Value)) (k:α) (v:Value):(put l k v).length≤l.length + 1:=by
 unfold put del
 rw [List.length_cons]
 have:=List.length_filter_le (fun p:α × Value=>decide (p.1≠k)) l
 omega
theorem ins_len {α:Type} [DecidableEq α] {l:List (α × Value)} {n:Nat} {k:α} {v:Value} (h:l.length≤n):(put l k v).length≤n + 1:=by
 have:=put_len l k v
 omega
theorem put_small {α:Type} [DecidableEq α] {l:List (α × Value)} {k:α} {v:Value} (h:l.length≤1000000):(put l k v).length < maxLen:=by
 have:=put_len l k v
 unfold maxLen
 omega
theorem okI0:iKeys.ok 0:=by show (Lit.int .i64 0).wf=true; decide
theorem okI1:iKeys.ok 1:=by show (Lit.int .i64 1).wf=true; decide
theorem okI2:iKeys.ok 2:=by show (Lit.int .i64 2).wf=true; decide
theorem zeroFn (w:World):(zeroValue 409).run Tryz.prog w=.ok .nilFunc w:=by kernel_rfl
theorem set_replace (a b:Int) (w:World):Calls Tryz.prog 302 #[.int .u8 a,.int .u8 b] w fun e w'=>e=.returned (.int .u8 b)∧w=w':=by
 go_enter Tryz.func302,Tryz.ntmps302
 go_wp2
 go_ret
 exact ⟨rfl,rfl⟩
theorem set_add (a b:Int) (w:World):Calls Tryz.prog 303 #[.int .u8 a,.int .u8 b] w fun e w'=>e=.returned (.int .u8 (bits .or .u8 a b))∧w=w':=by
 go_enter Tryz.func303,Tryz.ntmps303
 go_wp2
 go_ret
 exact ⟨rfl,rfl⟩
theorem set_remove (a b:Int) (w:World):Calls Tryz.prog 304 #[.int .u8 a,.int .u8 b] w fun e w'=>e=.returned (.int .u8 (bits .andNot .u8 a b))∧w=w':=by
 go_enter Tryz.func304,Tryz.ntmps304
 go_wp2
 go_ret
 exact ⟨rfl,rfl⟩
def fnL:List (Int × Value):=put (put (put [] 0 (.func (.func 302) #[] #[])) 1 (.func (.func 303) #[] #[])) 2 (.func (.func 304) #[] #[])
theorem fnL_get (mode:Int):get fnL mode=if mode=0 then some (.func (.func 302) #[] #[]) else if mode=1 then some (.func (.func 303) #[] #[]) else if mode=2 then some (.func (.func 304) #[] #[]) else none:=by
 unfold fnL
 by_cases h2:mode=2
 · subst h2; rw [get_put_same]; rfl
 · rw [get_put_other _ _ h2]
   by_cases h1:mode=1
   · subst h1; rw [get_put_same]; rfl
   · rw [get_put_other _ _ h1]
     by_cases h0:mode=0
     · subst h0; rw [get_put_same]; rfl
     · rw [get_put_other _ _ h0,if_neg h0,if_neg h1,if_neg h2]; rfl
theorem change_at (g:Nat) (x old mode f:Int) (h1:old≤31) (h2:f≤31) (hm:(Lit.int .i64 mode).wf=true) (hE:∀ args w,(callFunc g args).run Tryz.prog w=.ok (.enter g args) w)
 (hfn:∀ w,Calls Tryz.prog g #[.int .u8 old,.int .u8 f] w fun e w'=>e=.returned (.int .u8 x)∧w=w') (hg:get fnL mode=some (.func (.func g) #[] #[])) (w:World) :
 Calls Tryz.prog 248 #[.int .u8 old,.int .i64 mode,.int .u8 f] w fun e w'=>e=.returned (.tuple #[.int .u8 x,.bool true])∧New w w':=by
 have HM:=Lib.hid hm
 have HG:=Lib.hid hg
 have h00:=HasMap.made iKeys w
 have hmm:=@run_makeMap Tryz.prog
 have d1:decide (31 < old)=false:=decide_eq_false (by omega)
 have d2:decide (31 < f)=false:=decide_eq_false (by omega)
 clear hm hg
 go_enter Tryz.func248,Tryz.ntmps248
 go_wp2_with (first
  | (refine wpList_ins (E:=iKeys) rfl _ _ _ 413 409 rfl Tryz.underlying413 h00 (by unfold maxLen; simp) 0 okI0 _ rfl rfl rfl ?_; intro w1 hm1 ho1)
  | (refine wpList_ins (E:=iKeys) rfl _ _ _ 413 409 rfl Tryz.underlying413 hm1 (put_small (by simp)) 1 okI1 _ rfl rfl rfl ?_; intro w2 hm2 ho2)
  | (refine wpList_ins (E:=iKeys) rfl _ _ _ 413 409 rfl Tryz.underlying413 hm2 (put_small (Nat.le_trans (put_len _ _ _) (by simp))) 2 okI2 _ rfl rfl rfl ?_; intro w3 hm3 ho3
     have hlk:(Instr.lookup 413 (.map (some w.heap.size)) (.int .i64 mode) true).run Tryz.prog w3=.ok (.tuple #[.func (.func g) #[] #[],.bool true]) w3:=by
      have hm3':HasMap iKeys w3 w.heap.size fnL:=hm3
      have h:=hm3'.run_look_ok (t:=413) (e:=409) Tryz.underlying413 (zeroFn w3) HM.out
      rw [HG.out] at h
      exact h))
 refine (hfn _).mono ?_
 rintro e w4 ⟨rfl,rfl⟩
 go_wp2
 go_ret2
 have hn0:New w (w.alloc (.map #[] 0)):=(New.refl w).alloc _
 exact ⟨rfl,New.one (New.one (New.one hn0 ho1 (Nat.le_refl _)) ho2 (Nat.le_refl _)) ho3 (Nat.le_refl _)⟩
theorem change_other (old mode f:Int) (h1:old≤31) (h2:f≤31) (hm:(Lit.int .i64 mode).wf=true) (hg:get fnL mode=none) (w:World) :
 Calls Tryz.prog 248 #[.int .u8 old,.int .i64 mode,.int .u8 f] w fun e w'=>e=.returned (.tuple #[.int .u8 0,.bool false])∧New w w':=by
 have HM:=Lib.hid hm
 have HG:=Lib.hid hg
 have h00:=HasMap.made iKeys w
 have hmm:=@run_makeMap Tryz.prog
 have d1:decide (31 < old)=false:=decide_eq_false (by omega)
 have d2:decide (31 < f)=false:=decide_eq_false (by omega)
 clear hm hg
 go_enter Tryz.func248,Tryz.ntmps248
 go_wp2_with (first
  | (refine wpList_ins (E:=iKeys) rfl _ _ _ 413 409 rfl Tryz.underlying413 h00 (by unfold maxLen; simp) 0 okI0 _ rfl rfl rfl ?_; intro w1 hm1 ho1)
  | (refine wpList_ins (E:=iKeys) rfl _ _ _ 413 409 rfl Tryz.underlying413 hm1 (put_small (by simp)) 1 okI1 _ rfl rfl rfl ?_; intro w2 hm2 ho2)
  | (refine wpList_ins (E:=iKeys) rfl _ _ _ 413 409 rfl Tryz.underlying413 hm2 (put_small (Nat.le_trans (put_len _ _ _) (by simp))) 2 okI2 _ rfl rfl rfl ?_; intro w3 hm3 ho3
     have hlk:(Instr.lookup 413 (.map (some w.heap.size)) (.int .i64 mode) true).run Tryz.prog w3=.ok (.tuple #[.nilFunc,.bool false]) w3:=by
      have hm3':HasMap iKeys w3 w.heap.size fnL:=hm3
      have h:=hm3'.run_look_ok (t:=413) (e:=409) Tryz.underlying413 (zeroFn w3) HM.out
      rw [HG.out] at h
      exact h))
 go_ret2
 have hn0:New w (w.alloc (.map #[] 0)):=(New.refl w).alloc _
 exact ⟨rfl,New.one (New.one (New.one hn0 ho1 (Nat.le_refl _)) ho2 (Nat.le_refl _)) ho3 (Nat.le_refl _)⟩
theorem change_big (old mode f:Int) (h:31 < old∨31 < f) (w:World) :
 Calls Tryz.prog 248 #[.int .u8 old,.int .i64 mode,.int .u8 f] w fun e w'=>e=.returned (.tuple #[.int .u8 0,.bool false])∧New w w':=by
 by_cases h1:31 < old
 · clear h
   go_enter Tryz.func248,Tryz.ntmps248
   go_wp2
   go_ret2
   exact ⟨rfl,New.refl _⟩
 · have h2:31 < f:=h.resolve_left h1
   clear h
   go_enter Tryz.func248,Tryz.ntmps248
   go_wp2
   go_ret2
   exact ⟨rfl,New.refl _⟩
theorem change_any (old mode f:Int) (ho:0≤old∧old≤255) (hf:0≤f∧f≤255) (hm:(Lit.int .i64 mode).wf=true) (w:World) :
 Calls Tryz.prog 248 #[.int .u8 old,.int .i64 mode,.int .u8 f] w fun e w'=>e=.returned (.tuple #[.int .u8 ((chg old mode f).getD 0),.bool (chg old mode f).isSome])∧New w w':=by
 by_cases h1:31 < old∨31 < f
 · rw [show chg old mode f=none from if_pos h1]
   exact change_big old mode f h1 w
 · have hg:=fnL_get mode
   have hc:chg old mode f=if mode=0 then some f else if mode=1 then some (orI old f) else if mode=2 then some (andnI old f) else none:=if_neg h1
   rw [hc]
   by_cases e0:mode=0
   · rw [if_pos e0] at hg ⊢
     exact change_at 302 f old mode f (by omega) (by omega) hm (enters _ _ _ Tryz.func302 (by kernel_rfl) rfl) (set_replace old f) hg w
   · rw [if_neg e0] at hg ⊢
     by_cases e1:mode=1
     · rw [if_pos e1] at hg ⊢
       exact change_at 303 (orI old f) old mode f (by omega) (by omega) hm (enters _ _ _ Tryz.func303 (by kernel_rfl) rfl) (by rw [← u8_orI ho.1 ho.2 hf.1 hf.2]; exact set_add old f) hg w
     · rw [if_neg e1] at hg ⊢
       by_cases e2:mode=2
       · rw [if_pos e2] at hg ⊢
         exact change_at 304 (andnI old f) old mode f (by omega) (by omega) hm (enters _ _ _ Tryz.func304 (by kernel_rfl) rfl) (by rw [← u8_andnI ho.1 ho.2 hf.1 hf.2]; exact set_remove old f) hg w
       · rw [if_neg e2] at hg ⊢
         exact change_other old mode f (by omega) (by omega) hm hg w
end Go.Proofs.YtliimglbbiebiaaGreatDoor
end

section
namespace Go.Proofs.YtliimglbbiebiaaGreatDoor
open Go.RowKit Go.Maps
theorem okU {k:Int} (h0:0≤k) (h1:k≤4294967295):uKeys.ok k:=by
 show (Lit.int .u32 k).wf=true
 have h2:IntKind.u32.min≤k:=by rw [show IntKind.u32.min=0 from rfl]; exact h0
 have h3:k≤IntKind.u32.max:=by rw [show IntKind.u32.max=4294967295 from rfl]; exact h1
 simp [Lit.wf,h2,h3]
theorem put1_has {w:World} {mb g eb:Nat} {l:List (Int × Value)} {x y:MB} (h:HasMap uKeys w mb l) (hk:uKeys.ok x.m.uid) (hg:Blk w g 238 #[.int .u32 x.m.uid,.int .u8 x.m.fl,x.bv]) (he:Blk w eb 198 #[.int .i64 0])
 (hl:get l x.m.uid=some y.val) :
 Calls Tryz.prog 239 #[.map (some mb),.pointer (some ⟨g,0,none⟩),.pointer (some ⟨eb,0,none⟩)] w fun e w'=>e=.returned (.tuple #[])∧(Blk w' eb 198 #[.int .i64 8]∧One eb w w'):=by
 obtain ⟨⟨uid,fl,body⟩,A,n,c⟩:=x
 obtain ⟨⟨uid',fl',body'⟩,A',n',c'⟩:=y
 simp only [MB.bv,MB.val] at hg hl hk ⊢
 have hlk:=h.run_look_ok (t:=136) (e:=238) Tryz.underlying136 (zeroMsg w) hk
 rw [hl] at hlk
 simp only [Option.getD_some,Option.isSome_some] at hlk
 change (Instr.lookup 136 (.map (some mb)) (.int .u32 uid) true).run Tryz.prog w=_ at hlk
 have c0:w.cell? ⟨g,0,none⟩=some (.int .u32 uid):=hg.cell 0
 have hel:=he.lt
 have e1:=fun cs=>(Blk.alloc he (.cells cs 238))
 have ec:=fun cs=>(e1 cs).cell 0
 have ef:=fun cs=>(e1 cs).frozen 0
 clear hl
 go_enter Tryz.func239,Tryz.ntmps239
 go_wp2
 first | go_end0 | (simp only [Exit.inBlock,Exit.then]; refine bodyPost_ret (results_none rfl _ _ _) rfl ?_) | refine bodyPost_ret (results_none rfl _ _ _) rfl ?_
 exact ⟨rfl,(he.set_ 0 _).alloc _,((One.refl _ _).set 0 _).alloc _⟩
theorem put1_new {w:World} {mb g eb:Nat} {l:List (Int × Value)} {x:MB} (h:HasMap uKeys w mb l) (hk:uKeys.ok x.m.uid) (hln:l.length < maxLen) (hg:Blk w g 238 #[.int .u32 x.m.uid,.int .u8 x.m.fl,x.bv]) (_he:Blk w eb 198 #[.int .i64 0])
 (hb:Rd (intE .u8) w x.bv x.m.body) (hbl:x.m.body.length≤100000) (hl:get l x.m.uid=none) :
 Calls Tryz.prog 239 #[.map (some mb),.pointer (some ⟨g,0,none⟩),.pointer (some ⟨eb,0,none⟩)] w fun e w'=>e=.returned (.tuple #[])∧∃ y:MB,y.m=x.m∧HasMap uKeys w' mb (put l x.m.uid y.val)∧Own (intE .u8) 5 w.heap.size w' y.bv y.m.body∧One mb w w':=by
 have hlk:=h.run_look_ok (t:=136) (e:=238) Tryz.underlying136 (zeroMsg w) hk
 rw [hl] at hlk
 simp only [Option.getD_none,Option.isSome_none] at hlk
 have HB:=Lib.hid hb
 have HG:=Lib.hid hg
 obtain ⟨x,rfl⟩:∃ x',x'=x:=⟨_,rfl⟩
 have hm:=hg.cell
 obtain ⟨⟨uid,fl,body⟩,A,n,c⟩:=x
 simp only [MB.bv] at hg hlk ⊢
 change (Instr.lookup 136 (.map (some mb)) (.int .u32 uid) true).run Tryz.prog w=_ at hlk
 have hgl:=hg.lt
 have hn1:New w (w.alloc (.cells #[.int .u32 0,.int .u8 0,.slice none 0 0] 238)):=(New.refl w).alloc _
 have g1:=hn1.blk hg
 have c0:w.cell? ⟨g,0,none⟩=some (.int .u32 uid):=hg.cell 0
 have H1:=Lib.hid (h.fr hn1 id)
 have HB1:=Lib.hid (HB.out.new hn1)
 have hgm:g≠mb:=Ne.symm (h.ne_blk hg)
 have hmlt:=h.lt
 clear hl hb hm h
 obtain ⟨wq,hwq⟩:∃ wq,wq=w.alloc (.cells #[.int .u32 0,.int .u8 0,.slice none 0 0] 238):=⟨_,rfl⟩
 have hwqs:wq.heap.size=w.heap.size + 1:=by rw [hwq]; simp
 have q0:wq.cell? ⟨g,0,none⟩=some (.int .u32 uid):=by rw [hwq]; exact g1.cell 0
 have q1:wq.cell? ⟨g,1,none⟩=some (.int .u8 fl):=by rw [hwq]; exact g1.cell 1
 have q2:wq.cell? ⟨g,2,none⟩=some (.slice A n c):=by rw [hwq]; exact g1.cell 2
 go_enter Tryz.func239,Tryz.ntmps239
 go_wp2_with fail
 rw [← hwq] at H1 HB1 hn1 ⊢
 clear hwq g1 c0 hlk
 go_region_held3 (fun w'=>w'.cell? ⟨g,0,none⟩=some (.int .u32 uid)∧w'.cell? ⟨g,1,none⟩=some (.int .u8 fl)∧w'.cell? ⟨g,2,none⟩=some (.slice A n c)) (first | go_keep | (refine ⟨?_,?_,?_⟩ <;> assumption))
  ((first
    | (go_at_call 240
       refine (mclone_any ⟨⟨uid,fl,body⟩,A,n,c⟩ _ (HB1.out.new ?nw) hbl).mono ?_
       case nw=>repeat' first | exact New.refl _ | apply Fr.drewN | apply Fr.drew
       rintro e w3 ⟨y,rfl,hy,hoy,hn3⟩
       have hnq:New wq w3:=Fr.trans (by repeat' first | exact New.refl _ | apply Fr.drewN | apply Fr.drew) hn3
       have d0:w3.cell? ⟨g,0,none⟩=some (.int .u32 uid):=Fr.cell hnq q0 id
       have d1:w3.cell? ⟨g,1,none⟩=some (.int .u8 fl):=Fr.cell hnq q1 id
       have d2:w3.cell? ⟨g,2,none⟩=some (.slice A n c):=Fr.cell hnq q2 id
       obtain ⟨w4,hr4,hm4,ho4⟩:=(H1.out.fr hnq id).run_put (t:=136) (e:=238) Tryz.underlying136 hln hk y.val
       change (Instr.mapUpdate 136 (.map (some mb)) (.int .u32 uid) y.val).run Tryz.prog w3=_ at hr4
       have f0:w4.cell? ⟨g,0,none⟩=some (.int .u32 uid):=Fr.cell ho4 d0 hgm
       have f1:w4.cell? ⟨g,1,none⟩=some (.int .u8 fl):=Fr.cell ho4 d1 hgm
       have f2:w4.cell? ⟨g,2,none⟩=some (.slice A n c):=Fr.cell ho4 d2 hgm)
    | fail))
 go_wp2
 first | go_end0 | (simp only [Exit.inBlock,Exit.then]; refine bodyPost_ret (results_none rfl _ _ _) rfl ?_) | refine bodyPost_ret (results_none rfl _ _ _) rfl ?_
 have hlo:=hn1.size
 refine ⟨rfl,y,hy,hm4,(hoy.fr ho4 fun b hb hs=>?_).mono (by simpa using hlo),Fr.trans (New.to (hn1.trans hnq)) ho4⟩
 have h1:=(hoy.block hb).1
 have h2:wq.drew.heap.size=wq.heap.size:=rfl
 subst hs
 omega
def mb0:MB:=⟨msg0,none,0,0⟩
theorem get1_any {w:World} {mb kb g ob:Nat} {l:List (Int × Value)} {k:Int} {cs:Array Value} {b0:Value} {o:Option MB} (h:HasMap uKeys w mb l) (hk:uKeys.ok k) (hkb:Blk w kb 28 #[.int .u32 k]) (hg:Blk w g 238 cs) (hcs:cs.size=3)
 (ho:Blk w ob 4 #[b0]) (hl:get l k=o.map MB.val) :
 Calls Tryz.prog 246 #[.map (some mb),.pointer (some ⟨kb,0,none⟩),.pointer (some ⟨g,0,none⟩),.pointer (some ⟨ob,0,none⟩)] w fun e w'=>e=.returned (.tuple #[]) ∧
  (Blk w' g 238 #[.int .u32 (o.getD mb0).m.uid,.int .u8 (o.getD mb0).m.fl,(o.getD mb0).bv]∧Blk w' ob 4 #[.bool o.isSome]∧Fr (fun k=>k=g∨k=ob) w w'):=by
 have hlk:=h.run_look_ok (t:=136) (e:=238) Tryz.underlying136 (zeroMsg w) hk
 have hv:(get l k).getD (.agg #[.int .u32 0,.int .u8 0,.slice none 0 0])=(o.getD mb0).val:=by rw [hl]; cases o <;> rfl
 have hs:(get l k).isSome=o.isSome:=by rw [hl]; cases o <;> rfl
 rw [hv,hs] at hlk
 generalize o.getD mb0=x at *
 generalize o.isSome=q at *
 clear hv hs hl
 obtain ⟨⟨uid,fl,body⟩,A,n,c⟩:=x
 simp only [MB.bv,MB.val] at hlk ⊢
 change (Instr.lookup 136 (.map (some mb)) (.int .u32 k) true).run Tryz.prog w=_ at hlk
 have ck:w.cell? ⟨kb,0,none⟩=some (.int .u32 k):=hkb.cell 0
 obtain ⟨l0⟩:=cs
 match l0,hcs with
 | [x0,x1,x2],_ =>
 have g0:w.cell? ⟨g,0,none⟩=some x0:=hg.cell 0
 have g1:w.cell? ⟨g,1,none⟩=some x1:=hg.cell 1
 have g2:w.cell? ⟨g,2,none⟩=some x2:=hg.cell 2
 have z0:=hg.frozen 0
 have z1:=hg.frozen 1
 have z2:=hg.frozen 2
 have o0:w.cell? ⟨ob,0,none⟩=some b0:=ho.cell 0
 have y0:=ho.frozen 0
 have hne:ob≠g:=ho.ne_ hg (by decide)
 have h1:=((hg.set_ 0 (.int .u32 uid)).set_ 1 (.int .u8 fl)).set_ 2 (.slice A n c)
 have h2:=((ho.far (p:=⟨g,0,none⟩) hne (.int .u32 uid)).far (p:=⟨g,1,none⟩) hne (.int .u8 fl)).far (p:=⟨g,2,none⟩) hne (.slice A n c)
 have p0:=h2.cell 0
 have p1:=h2.frozen 0
 go_enter Tryz.func246,Tryz.ntmps246
 go_wp2
 first | go_end0 | (simp only [Exit.inBlock,Exit.then]; refine bodyPost_ret (results_none rfl _ _ _) rfl ?_) | refine bodyPost_ret (results_none rfl _ _ _) rfl ?_
 exact ⟨rfl,h1.far (by simp; exact Ne.symm hne) _,h2.set_ 0 _,((((Fr.refl _ _).setCell (fun _=>.inl rfl) _).setCell (fun _=>.inl rfl) _).setCell (fun _=>.inl rfl) _).setCell (fun _=>.inr rfl) _⟩
theorem remove1_any {w:World} {mb kb g ob:Nat} {l:List (Int × Value)} {k:Int} {cs:Array Value} {b0:Value} {o:Option MB} (h:HasMap uKeys w mb l) (hk:uKeys.ok k) (hkb:Blk w kb 28 #[.int .u32 k]) (hg:Blk w g 238 cs) (hcs:cs.size=3)
 (ho:Blk w ob 4 #[b0]) (hl:get l k=o.map MB.val) :
 Calls Tryz.prog 245 #[.map (some mb),.pointer (some ⟨kb,0,none⟩),.pointer (some ⟨g,0,none⟩),.pointer (some ⟨ob,0,none⟩)] w fun e w'=>e=.returned (.tuple #[]) ∧
  (Blk w' g 238 #[.int .u32 (o.getD mb0).m.uid,.int .u8 (o.getD mb0).m.fl,(o.getD mb0).bv]∧Blk w' ob 4 #[.bool o.isSome]∧HasMap uKeys w' mb (del l k)∧Fr (fun k=>k=mb∨k=g∨k=ob) w w'):=by
 have hlk:=h.run_look_ok (t:=136) (e:=238) Tryz.underlying136 (zeroMsg w) hk
 have hv:(get l k).getD (.agg #[.int .u32 0,.int .u8 0,.slice none 0 0])=(o.getD mb0).val:=by rw [hl]; cases o <;> rfl
 have hs:(get l k).isSome=o.isSome:=by rw [hl]; cases o <;> rfl
 rw [hv,hs] at hlk
 generalize o.getD mb0=x at *
 generalize o.isSome=q at *
 clear hv hs hl
 obtain ⟨⟨uid,fl,body⟩,A,n,c⟩:=x
 simp only [MB.bv,MB.val] at hlk ⊢
 change (Instr.lookup 136 (.map (some mb)) (.int .u32 k) true).run Tryz.prog w=_ at hlk
 have ck:w.cell? ⟨kb,0,none⟩=some (.int .u32 k):=hkb.cell 0
 obtain ⟨l0⟩:=cs
 match l0,hcs with
 | [x0,x1,x2],_ =>
 have g0:w.cell? ⟨g,0,none⟩=some x0:=hg.cell 0
 have g1:w.cell? ⟨g,1,none⟩=some x1:=hg.cell 1
 have g2:w.cell? ⟨g,2,none⟩=some x2:=hg.cell 2
 have z0:=hg.frozen 0
 have z1:=hg.frozen 1
 have z2:=hg.frozen 2
 have o0:w.cell? ⟨ob,0,none⟩=some b0:=ho.cell 0
 have y0:=ho.frozen 0
 have hne:ob≠g:=ho.ne_ hg (by decide)
 have hkg:kb≠g:=hkb.ne_ hg (by decide)
 have hko:kb≠ob:=hkb.ne_ ho (by decide)
 have hmg:=h.ne_blk hg
 have hmo:=h.ne_blk ho
 have h1:=(((hg.set_ 0 (.int .u32 uid)).set_ 1 (.int .u8 fl)).set_ 2 (.slice A n c)).far (p:=⟨ob,0,none⟩) (Ne.symm hne) (.bool q)
 have h2:=((ho.far (p:=⟨g,0,none⟩) hne (.int .u32 uid)).far (p:=⟨g,1,none⟩) hne (.int .u8 fl)).far (p:=⟨g,2,none⟩) hne (.slice A n c)
 have p0:=h2.cell 0
 have p1:=h2.frozen 0
 have h3:=h2.set_ 0 (.bool q)
 have hm4:=(((h.setCell (a:=⟨g,0,none⟩) hmg (.int .u32 uid)).setCell (a:=⟨g,1,none⟩) hmg (.int .u8 fl)).setCell (a:=⟨g,2,none⟩) hmg (.slice A n c)).setCell (a:=⟨ob,0,none⟩) hmo (.bool q)
 have hf4:Fr (fun k=>k=mb∨k=g∨k=ob) w ((((w.setCell ⟨g,0,none⟩ (.int .u32 uid)).setCell ⟨g,1,none⟩ (.int .u8 fl)).setCell ⟨g,2,none⟩ (.slice A n c)).setCell ⟨ob,0,none⟩ (.bool q)) :=
  ((((Fr.refl _ _).setCell (fun _=>.inr (.inl rfl)) _).setCell (fun _=>.inr (.inl rfl)) _).setCell (fun _=>.inr (.inl rfl)) _).setCell (fun _=>.inr (.inr rfl)) _
 have H1:=Lib.hid h1
 have H3:=Lib.hid h3
 have HM4:=Lib.hid hm4
 have HF4:=Lib.hid hf4
 clear h1 h2 h3 hm4 hf4
 go_enter Tryz.func245,Tryz.ntmps245
 go_wp2_with (first
  | (at_delete; refine wpList_del (E:=uKeys) rfl _ _ 136 238 rfl Tryz.underlying136 HM4.out k hk rfl rfl ?_; intro w6 hm6 ho6)
  | fail)
 first | go_end0 | (simp only [Exit.inBlock,Exit.then]; refine bodyPost_ret (results_none rfl _ _ _) rfl ?_) | refine bodyPost_ret (results_none rfl _ _ _) rfl ?_
 exact ⟨rfl,ho6.blk H1.out (Ne.symm hmg),ho6.blk H3.out (Ne.symm hmo),hm6,HF4.out.trans (fr_or ho6 fun _ h=>.inl h)⟩
theorem flags1_no {w:World} {mb kb eb xb fb ob:Nat} {l:List (Int × Value)} {k mode f:Int} {o:Option MB} (h:HasMap uKeys w mb l) (hk:uKeys.ok k) (hkb:Blk w kb 28 #[.int .u32 k]) (he:Blk w eb 198 #[.int .i64 0])
 (hx:Blk w xb 3 #[.int .i64 mode]) (hfb:Blk w fb 45 #[.int .u8 f]) (hl:get l k=o.map MB.val) (hf:0≤f∧f≤255) (hm:(Lit.int .i64 mode).wf=true) (hw:∀ x,o=some x→0≤x.m.fl∧x.m.fl≤255)
 (hno:∀ x,o=some x→chg x.m.fl mode f=none) :
 Calls Tryz.prog 247 #[.map (some mb),.pointer (some ⟨kb,0,none⟩),.pointer (some ⟨eb,0,none⟩),.pointer (some ⟨xb,0,none⟩),.pointer (some ⟨fb,0,none⟩),.pointer (some ⟨ob,0,none⟩)] w fun e w'=>e=.returned (.tuple #[]) ∧
  (Blk w' eb 198 #[.int .i64 (if o.isSome then 2 else 7)]∧One eb w w'):=by
 have hlk:=h.run_look_ok (t:=136) (e:=238) Tryz.underlying136 (zeroMsg w) hk
 have hnt:∀ (x:Bool) (w:World),(Op.unary .not (.bool x)).run Tryz.prog w=.ok (.bool (!x)) w:=fun _ _=>rfl
 change (Instr.lookup 136 (.map (some mb)) (.int .u32 k) true).run Tryz.prog w=_ at hlk
 have ck:w.cell? ⟨kb,0,none⟩=some (.int .u32 k):=hkb.cell 0
 have hel:=he.lt
 have hxl:=hx.lt
 have hfl:=hfb.lt
 cases o with
 | none =>
   rw [show get l k=none from hl] at hlk
   simp only [Option.getD_none,Option.isSome_none] at hlk
   have e1:=fun cs=>(Blk.alloc he (.cells cs 238))
   have ec:=fun cs=>(e1 cs).cell 0
   have ef:=fun cs=>(e1 cs).frozen 0
   clear hno hw hl
   go_enter Tryz.func247,Tryz.ntmps247
   go_wp2
   first | go_end0 | (simp only [Exit.inBlock,Exit.then]; refine bodyPost_ret (results_none rfl _ _ _) rfl ?_) | refine bodyPost_ret (results_none rfl _ _ _) rfl ?_
   exact ⟨rfl,(he.set_ 0 _).alloc _,((One.refl _ _).set 0 _).alloc _⟩
 | some x =>
   rw [show get l k=some x.val from hl] at hlk
   simp only [Option.getD_some,Option.isSome_some] at hlk
   have hc0:=hno x rfl
   have hw0:=hw x rfl
   obtain ⟨⟨uid,fl,body⟩,A,n,c⟩:=x
   simp only [MB.val] at hlk hc0 hw0
   have HC:=Lib.hid (fun w=>change_any fl mode f hw0 hf hm w)
   rw [hc0] at HC
   simp only [Option.getD_none,Option.isSome_none] at HC
   have cx:w.cell? ⟨xb,0,none⟩=some (.int .i64 mode):=hx.cell 0
   have cf:w.cell? ⟨fb,0,none⟩=some (.int .u8 f):=hfb.cell 0
   have hn1:New w (w.alloc (.cells #[.int .u32 uid,.int .u8 fl,.slice A n c] 238)):=(New.refl w).alloc _
   have b1:=Blk.new w 238 #[.int .u32 uid,.int .u8 fl,.slice A n c]
   have e1:=hn1.blk he
   clear hno hw hl hc0
   go_enter Tryz.func247,Tryz.ntmps247
   go_wp2_with fail
   refine (HC.out _).mono ?_
   rintro e w3 ⟨rfl,hn3⟩
   have b3:=hn3.blk b1
   have c3:=b3.cell 1
   have f3:=b3.frozen 1
   have e3:=hn3.blk e1
   have e4:=e3.far (p:=⟨w.heap.size,1,none⟩) (by simp; omega) (.int .u8 0)
   have ce:=e4.cell 0
   have fe:=e4.frozen 0
   have HF:=Lib.hid (hn1.trans hn3)
   go_wp2
   first | go_end0 | (simp only [Exit.inBlock,Exit.then]; refine bodyPost_ret (results_none rfl _ _ _) rfl ?_) | refine bodyPost_ret (results_none rfl _ _ _) rfl ?_
   exact ⟨rfl,e4.set_ 0 _,One.set (Fr.setCell (New.to HF.out:One eb w w3) (p:=⟨w.heap.size,1,none⟩) (fun h=>absurd h (by simp)) _) 0 _⟩
theorem flags1_yes {w:World} {mb kb eb xb fb ob:Nat} {l:List (Int × Value)} {k mode f v0 v:Int} {x:MB} (h:HasMap uKeys w mb l) (hln:l.length < maxLen) (hk:uKeys.ok k) (hkb:Blk w kb 28 #[.int .u32 k])
 (hx:Blk w xb 3 #[.int .i64 mode]) (hfb:Blk w fb 45 #[.int .u8 f]) (ho:Blk w ob 45 #[.int .u8 v0]) (hl:get l k=some x.val) (hf:0≤f∧f≤255) (hm:(Lit.int .i64 mode).wf=true) (hw:0≤x.m.fl∧x.m.fl≤255)
 (hc:chg x.m.fl mode f=some v) :
 Calls Tryz.prog 247 #[.map (some mb),.pointer (some ⟨kb,0,none⟩),.pointer (some ⟨eb,0,none⟩),.pointer (some ⟨xb,0,none⟩),.pointer (some ⟨fb,0,none⟩),.pointer (some ⟨ob,0,none⟩)] w fun e w'=>e=.returned (.tuple #[]) ∧
  (Blk w' ob 45 #[.int .u8 v]∧HasMap uKeys w' mb (put l k (x.setf v).val)∧Fr (fun k=>k=mb∨k=ob) w w'):=by
 have hlk:=h.run_look_ok (t:=136) (e:=238) Tryz.underlying136 (zeroMsg w) hk
 have hnt:∀ (x:Bool) (w:World),(Op.unary .not (.bool x)).run Tryz.prog w=.ok (.bool (!x)) w:=fun _ _=>rfl
 change (Instr.lookup 136 (.map (some mb)) (.int .u32 k) true).run Tryz.prog w=_ at hlk
 rw [hl] at hlk
 simp only [Option.getD_some,Option.isSome_some] at hlk
 have ck:w.cell? ⟨kb,0,none⟩=some (.int .u32 k):=hkb.cell 0
 obtain ⟨⟨uid,fl,body⟩,A,n,c⟩:=x
 simp only [MB.val,MB.setf] at hlk hc hw ⊢
 have HC:=Lib.hid (fun w=>change_any fl mode f hw hf hm w)
 rw [hc] at HC
 simp only [Option.getD_some,Option.isSome_some] at HC
 have cx:w.cell? ⟨xb,0,none⟩=some (.int .i64 mode):=hx.cell 0
 have cf:w.cell? ⟨fb,0,none⟩=some (.int .u8 f):=hfb.cell 0
 have hkl:=hkb.lt
 have hxl:=hx.lt
 have hfl:=hfb.lt
 have hol:=ho.lt
 have hml:=h.lt
 have hmo:=h.ne_blk ho
 have hmk:=h.ne_blk hkb
 have hn1:New w (w.alloc (.cells #[.int .u32 uid,.int .u8 fl,.slice A n c] 238)):=(New.refl w).alloc _
 have b1:=Blk.new w 238 #[.int .u32 uid,.int .u8 fl,.slice A n c]
 have k1:=hn1.blk hkb
 have o1:=hn1.blk ho
 have H1:=Lib.hid (h.fr hn1 id)
 clear hl hc
 go_enter Tryz.func247,Tryz.ntmps247
 go_wp2_with fail
 refine (HC.out _).mono ?_
 rintro e w3 ⟨rfl,hn3⟩
 have b3:=hn3.blk b1
 have c3:=b3.cell 1
 have f3:=b3.frozen 1
 have k3:=(hn3.blk k1).far (p:=⟨w.heap.size,1,none⟩) (by simp; omega) (.int .u8 v)
 have o3:=(hn3.blk o1).far (p:=⟨w.heap.size,1,none⟩) (by simp; omega) (.int .u8 v)
 have b4:=b3.set_ 1 (.int .u8 v)
 have HM:=Lib.hid ((H1.out.fr hn3 id).setCell (a:=⟨w.heap.size,1,none⟩) (by simp; omega) (.int .u8 v))
 have HF:=Lib.hid (Fr.setCell (p:=⟨w.heap.size,1,none⟩) (New.to (hn1.trans hn3):Fr (fun k=>k=mb∨k=ob) w w3) (fun h=>absurd h (by simp)) (.int .u8 v))
 go_wp2_with fail
 obtain ⟨wq,hwq⟩:∃ wq,wq=w3.setCell ⟨w.heap.size,1,none⟩ (.int .u8 v):=⟨_,rfl⟩
 rw [← hwq] at k3 o3 b4 HM HF ⊢
 have hqs:w.heap.size < wq.heap.size:=b4.lt
 clear hwq hn1 hn3 b1 b3 k1 o1 H1 c3 f3
 obtain ⟨w5,hr5,hm5,ho5⟩:=(HM.out.fr (w':=wq.drew) ((New.refl wq).drew) id).run_put (t:=136) (e:=238) Tryz.underlying136 hln hk (.agg #[.int .u32 uid,.int .u8 v,.slice A n c])
 change (Instr.mapUpdate 136 (.map (some mb)) (.int .u32 k) (.agg #[.int .u32 uid,.int .u8 v,.slice A n c])).run Tryz.prog wq.drew=_ at hr5
 have p0:wq.drew.cell? ⟨w.heap.size,0,none⟩=some (.int .u32 uid):=b4.cell 0
 have p1:wq.drew.cell? ⟨w.heap.size,1,none⟩=some (.int .u8 v):=b4.cell 1
 have p2:wq.drew.cell? ⟨w.heap.size,2,none⟩=some (.slice A n c):=b4.cell 2
 have pk:wq.drew.cell? ⟨kb,0,none⟩=some (.int .u32 k):=k3.cell 0
 have q1:w5.cell? ⟨w.heap.size,1,none⟩=some (.int .u8 v):=Fr.cell ho5 p1 (by simp; omega)
 have q0:w5.cell? ⟨w.heap.size,0,none⟩=some (.int .u32 uid):=Fr.cell ho5 p0 (by simp; omega)
 have q2:w5.cell? ⟨w.heap.size,2,none⟩=some (.slice A n c):=Fr.cell ho5 p2 (by simp; omega)
 have qk:w5.cell? ⟨kb,0,none⟩=some (.int .u32 k):=Fr.cell ho5 pk (by simp; omega)
 have o5:=ho5.blk (o3.drew) (by simp; omega)
 have r0:=o5.cell 0
 have r1:=o5.frozen 0
 go_region
 go_wp2
 first | go_end0 | (simp only [Exit.inBlock,Exit.then]; refine bodyPost_ret (results_none rfl _ _ _) rfl ?_) | refine bodyPost_ret (results_none rfl _ _ _) rfl ?_
 exact ⟨rfl,o5.set_ 0 _,hm5.setCell (by simp; omega) _,((HF.out.drew).trans (fr_or ho5 fun _ h=>.inl h)).setCell (fun _=>.inr rfl) _⟩
end Go.Proofs.YtliimglbbiebiaaGreatDoor
end

