/- Contracts of functions of the program, proved by the checker. -/
import Derived.Test.YthgobfncgnjimaaGreatDoorZ22
import Derived.Test.YthgobfncgnjimaaGreatDoorZ36
import Derived.Test.YthgobfncgnjimaaGreatDoorZ30
import Derived.Test.YthgobfncgnjimaaGreatDoorZ21
set_option linter.unusedVariables false
set_option linter.unusedSimpArgs false
namespace Go.Proofs.YthgobfncgnjimaaGreatDoor
open Go Go.Sk
set_option maxRecDepth 10000 in
theorem Copy5_p (p:Ps) (hp:p.small):Fun Tryz.prog 22 [] [p.av] (.ag [.ref 0,.ref 1,.ref 2,I p.rights,I p.side]) [.arr 1 (p.ct.map I),.arr 1 (p.h0.map I),.arr 1 (p.h1.map I)]:=by
 have cp:=copied_p p hp
 refine fun_of tok D_ok Tryz.func22 rfl Tryz.ntmps22 Tryz.results22 (by kernel_rfl) (by simp) (by simp) ?_
 conv=>whnf
 repeat' (first | ((first | refine lvK ?_ | (refine .inr (.inl ?_);(conv=>whnf);refine ⟨[],[],[p.av],_,_,⟨rfl,rfl,rfl⟩,cp,lvN ?_⟩));apply Cj.mk <;> first | exact trivial | intros) | (refine lvE ?_;apply Cj.mk <;> first | exact trivial | intros) | fail)
def mixTo (n:Int) (S o ct:List Int) (k:Int):List Int:=(ints n).map fun c=>if c < k∧c ∉ S then nth o c else nth ct c
theorem mixTo_len (n:Int) (S o ct:List Int) (k:Int):(mixTo n S o ct k).length=n.toNat:=by unfold mixTo;rw [List.length_map,ints_len]
theorem mixTo_nth {n:Int} (S o ct:List Int) (k:Int) {c:Int} (c0:0≤c) (c1:c < n):nth (mixTo n S o ct k) c=if c < k∧c ∉ S then nth o c else nth ct c:=nth_map_ints c0 c1
theorem mixTo_at {n:Int} (S o ct:List Int) {k:Int} (c0:0≤k) (c1:k < n):nth (mixTo n S o ct k) k=nth ct k:=by rw [mixTo_nth S o ct k c0 c1,if_neg (by omega)]
theorem mixTo_zero {n:Int} (S o:List Int) {ct:List Int} (hl:(ct.length:Int)=n):mixTo n S o ct 0=ct:=by
 refine ext_nth (by rw [mixTo_len];omega) fun c c0 c1=>?_
 rw [mixTo_len] at c1
 rw [mixTo_nth _ _ _ _ c0 (by omega),if_neg (by omega)]
theorem mixTo_set {n:Int} {S o ct:List Int} {k:Int} (k0:0≤k) (k1:k < n) (h:k ∉ S):(mixTo n S o ct k).set k.toNat (nth o k)=mixTo n S o ct (k+1):=by
 refine ext_nth (by rw [List.length_set,mixTo_len,mixTo_len]) fun c c0 c1=>?_
 rw [List.length_set,mixTo_len] at c1
 rw [nth_set k0 c0 (by rw [mixTo_len];omega),mixTo_nth _ _ _ _ c0 (by omega),mixTo_nth _ _ _ _ c0 (by omega)]
 by_cases e:k=c
 ·subst e;rw [if_pos rfl,if_pos ⟨by omega,h⟩]
 ·rw [if_neg e]
  by_cases q:c < k∧c ∉ S
  ·rw [if_pos q,if_pos ⟨by omega,q.2⟩]
  ·rw [if_neg q,if_neg (fun q'=>q ⟨by omega,q'.2⟩)]
theorem mixTo_skip {n:Int} {S o ct:List Int} {k:Int} (h:k∈S):mixTo n S o ct (k+1)=mixTo n S o ct k:=by
 refine List.map_congr_left fun c _=>?_
 by_cases q:c < k∧c ∉ S
 ·rw [if_pos q,if_pos ⟨by omega,q.2⟩]
 ·rw [if_neg q,if_neg (fun q'=>q ⟨by
   have:c≠k:=fun e=>q'.2 (e ▸ h)
   omega,q'.2⟩)]
theorem mixTo_all (n:Int) (S o ct:List Int):mixTo n S o ct n=mixC n S o ct:=by
 refine List.map_congr_left fun c hc=>?_
 have:=mem_ints.1 hc
 by_cases h:c∈S
 ·rw [if_neg (fun q=>q.2 h),if_pos h]
 ·rw [if_pos ⟨by omega,h⟩,if_neg h]
theorem seenI_mem {n:Int} {l:List Int} {c:Int}:c∈seenI n l↔(0≤c∧c < n)∧c∈l:=by unfold seenI;rw [List.mem_filter,mem_ints];simp
theorem ints_lt (n:Int):List.Pairwise (fun a b:Int=>a < b) (ints n):=by
 unfold ints
 rw [List.pairwise_map]
 exact List.Pairwise.imp (fun h=>by simpa using h) List.pairwise_lt_range
theorem seenI_lt (n:Int) (l:List Int):List.Pairwise (fun a b:Int=>a < b) (seenI n l):=(ints_lt n).filter _
theorem mix_ok {g:Gm} {S:List Int} {o p:Ps} (ho:o.ok g) (hp:p.ok g):(mixP g.b.cells S o.ct p).ok g:=by
 have hl:=hp.len
 refine ⟨by show ((mixC g.b.cells S o.ct p.ct).length:Int)=_;rw [mixC_len];omega,fun c c0 c1=>?_,hp.h0,hp.h1,hp.r0,hp.r1,hp.s⟩
 show 0≤nth (mixC g.b.cells S o.ct p.ct) c∧nth (mixC g.b.cells S o.ct p.ct) c≤_
 rw [mixC_nth _ _ _ c0 c1]
 split
 ·exact hp.c c c0 c1
 ·exact ho.c c c0 c1
theorem mix_can {g:Gm} {p o:Ps} {cell i:Int} (ho:o.ok g) (h:CanRun g p cell i):CanRun g (mixP g.b.cells (g.readsL p cell i) o.ct p) cell i:=by
 have e:nth (mixP g.b.cells (g.readsL p cell i) o.ct p).ct cell=nth p.ct cell:=mixC_at o.ct p.ct h.c0 h.c1 cell_read
 exact ⟨mix_ok ho h.ok,h.c0,h.c1,by rw [e];exact h.k0,by rw [e];exact h.sd,h.i0,by rw [e];exact h.i1⟩
set_option maxHeartbeats 16000000 in
set_option maxRecDepth 10000 in
theorem RunReads_p (x:R6) (hx:x.ok) (n:Int) (hn:0≤n∧n≤255) (y:R4) (hy:y.ok):Pure Tryz.prog 5 [.ag x.cs,U8 n,.ag y.cs] (Bo true) none:=by
 have hmade:=Made6_p x hx
 have hg:=R6.gm_ok hx
 have hp:=R6.ps_ok hx
 have hup:=sanity5_p
 have hoth:=R4Made_p y hy x.gm hg x.gm_nk
 have hok2:=R4.made_ok hy hg (by have:=x.gm_nk;omega)
 generalize x.gm=g at *
 generalize x.ps=p at *
 generalize y.made g=oth at *
 by_cases hne:g.chs p=[]
 ·have hpk:=Pick0_p g hg p hp n hne
  refine fun_of tok D_ok Tryz.func5 rfl Tryz.ntmps5 Tryz.results5 (by kernel_rfl) (by simp) (by simp) ?_
  conv=>whnf
  repeat' (first | ((first | refine lvK ?_ | refine ⟨_,_,hup,lvN ?_⟩ | refine ⟨_,_,hmade,lvN ?_⟩ | refine ⟨_,_,hpk,lvN ?_⟩ | refine ⟨_,_,hoth,lvN ?_⟩ | (refine .inl ?_;(conv=>whnf);first | refine ⟨_,_,hup,lvN ?_⟩ | refine ⟨_,_,hmade,lvN ?_⟩ | refine ⟨_,_,hpk,lvN ?_⟩ | refine ⟨_,_,hoth,lvN ?_⟩));apply Cj.mk <;> first | exact trivial | intros) | (refine lvE ?_;apply Cj.mk <;> first | exact trivial | intros) | fail)
 have hpk:=Pick_p g hg p hp n hn hne
 have hcr:=pick_run hg hp n hne
 generalize g.pick p n=c at *
 obtain ⟨cell,i⟩:=c
 dsimp only at hcr
 have hcq:=mix_can hok2 hcr
 have q1:=PRuns_p g hg p _ _ hcr
 have q2:=PReads_p g hg p _ _ hcr
 have q3:=PRuns_p g hg _ _ _ hcq
 have q4:=PReads_p g hg _ _ _ hcq
 have hmr:=mix_runs hg oth.ct hcr
 rw [mix_reads hg oth.ct hcr] at q4
 rw [hmr.1] at q3
 have hfar:=hmr.2
 have hrl:=runsR_len hg hcr
 have hok:=fun o (ho:o∈g.runsR p cell i)=>runsR_ok hg hcr ho
 have hmemR:∀ c:Int,0≤c→c < g.b.cells→(c∈g.readsR p cell i↔c∈g.readsL p cell i):=fun c c0 c1=>by unfold Gm.readsR;rw [seenI_mem];exact ⟨fun h=>h.2,fun h=>⟨⟨c0,c1⟩,h⟩⟩
 have hRr:∀ c,c∈g.readsR p cell i→0≤c∧c < g.b.cells:=fun c hc=>(seenI_mem.1 hc).1
 have hRl:=seenI_len g.b.cells (g.readsL p cell i)
 have hRlt:=seenI_lt g.b.cells (g.readsL p cell i)
 rw [show seenI g.b.cells (g.readsL p cell i)=g.readsR p cell i from rfl] at hRl hRlt
 clear hmr
 have hlen:=hp.len
 have holen:=hok2.len
 have c9:=hg.c9
 have hc1:=hg.b.c1
 have c0:=hcr.c0
 have c1:=hcr.c1
 have hints:=Ints5_p
 have hps:=hp.small hg
 generalize g.readsL p cell i=S at *
 generalize g.readsR p cell i=R at *
 generalize g.runsR p cell i=L at *
 have eL:(L.map Ou).length=L.length:=List.length_map _
 have eR:(R.map I).length=R.length:=List.length_map _
 have eM:(L.map (mixO g.b.cells S oth.ct)).length=L.length:=List.length_map _
 have eM2:((L.map (mixO g.b.cells S oth.ct)).map Ou).length=(L.map (mixO g.b.cells S oth.ct)).length:=List.length_map _
 have hcp:=Copy5_p p hps
 have el:(p.ct.map I).length=p.ct.length:=List.length_map _
 have eo:(oth.ct.map I).length=oth.ct.length:=List.length_map _
 refine fun_of tok D_ok Tryz.func5 rfl Tryz.ntmps5 Tryz.results5 (by kernel_rfl) (by simp) (by simp) ?_
 conv=>whnf
 repeat' (first | ((first | refine lvK ?_ | refine ⟨_,_,hup,lvN ?_⟩ | refine ⟨_,_,hmade,lvN ?_⟩ | refine ⟨_,_,hpk,lvN ?_⟩ | refine ⟨_,_,hoth,lvN ?_⟩ | refine ⟨_,_,q1,lvN ?_⟩ | refine ⟨_,_,q2,lvN ?_⟩ | (refine .inl ?_;(conv=>whnf);first | refine ⟨_,_,hup,lvN ?_⟩ | refine ⟨_,_,hmade,lvN ?_⟩ | refine ⟨_,_,hpk,lvN ?_⟩ | refine ⟨_,_,hoth,lvN ?_⟩ | refine ⟨_,_,q1,lvN ?_⟩ | refine ⟨_,_,q2,lvN ?_⟩));apply Cj.mk <;> first | exact trivial | intros) | (refine lvE ?_;apply Cj.mk <;> first | exact trivial | intros) | fail)
 refine .of (fun k=>[(17,I k)]) (fun k=>[(13,.arr 1 ((seenB g.b.cells (R.take k.toNat)).map Bo))]) 14 (fun k=>0≤k∧k≤R.length) (fun k=>(R.length - k).toNat) 0 ?_
 conv=>whnf
 refine ⟨⟨[],hdA (lvL ?_) (lvL ?_)⟩,?_,fun k ⟨k0,k1⟩=>lvN ?_⟩ <;> (try (apply Cj.mk <;> first | exact trivial | intros))
 ·rw [show R.take (Int.toNat 0)=[] from rfl,seenB_zero,List.map_replicate,el,hlen]
  rfl
 ·exact ⟨by omega,by omega⟩
 have hbl:((seenB g.b.cells (R.take k.toNat)).map Bo).length=g.b.cells.toNat:=by rw [List.length_map,seenB_len]
 have hbl':=seenB_len g.b.cells (R.take k.toNat)
 by_cases hk:k < R.length
 ·have hm:=hRr _ (nth_mem k0 hk)
  have hset:=seenB_set (l:=R.take k.toNat) hm.1 hm.2
  rw [← take_snoc k0 hk] at hset
  by_cases hk0:k=0
  ·repeat' (first
    | (refine lvK ?_;apply Cj.mk <;> first | exact trivial | intros)
    | (refine lvE ?_;apply Cj.mk <;> first | exact trivial | intros)
    | fail)
   refine ⟨k+1,⟨[],hdA (lvL ?_) (lvL ?_)⟩,?_,by (try dsimp only);omega,rfl⟩ <;> (try (apply Cj.mk <;> first | exact trivial | intros))
   ·rw [← hset,List.map_set]
   ·exact ⟨by omega,by omega⟩
  ·have hlt:=pw_nth (R:=fun a b:Int=>a < b) hRlt (j:=k - 1) (i:=k) (by omega) (by omega) hk
   repeat' (first | (refine lvK ?_;apply Cj.mk <;> first | exact trivial | intros) | (refine lvE ?_;apply Cj.mk <;> first | exact trivial | intros) | fail)
   refine ⟨k+1,⟨[],hdA (lvL ?_) (lvL ?_)⟩,?_,by (try dsimp only);omega,rfl⟩ <;> (try (apply Cj.mk <;> first | exact trivial | intros))
   ·rw [← hset,List.map_set]
   ·exact ⟨by omega,by omega⟩
 obtain rfl:k=R.length:=by omega
 rw [take_all (Int.le_refl _)]
 rw [take_all (Int.le_refl _)] at hbl hbl'
 have hsn:=fun c c0 c1=>seenB_nth (n:=g.b.cells) (l:=R) (c:=c) c0 c1
 repeat' (first | ((first | refine lvK ?_ | (refine .inr (.inl ?_);(conv=>whnf);refine ⟨[],[],[p.av],_,_,⟨rfl,rfl,rfl⟩,hcp,lvN ?_⟩));apply Cj.mk <;> first | exact trivial | intros) | (refine lvE ?_;apply Cj.mk <;> first | exact trivial | intros) | fail)
 refine .of (fun k=>[(19,I k)]) (fun k=>[(14,.arr 1 ((mixTo g.b.cells S oth.ct p.ct k).map I))]) 18 (fun k=>0≤k∧k≤g.b.cells) (fun k=>(g.b.cells - k).toNat) 0 ?_
 conv=>whnf
 refine ⟨⟨[],hdA (lvL ?_) (lvL ?_)⟩,?_,fun k ⟨k0,k1⟩=>lvN ?_⟩ <;> (try (apply Cj.mk <;> first | exact trivial | intros))
 ·rw [mixTo_zero _ _ hlen]
 ·exact ⟨by omega,by omega⟩
 have hml:=mixTo_len g.b.cells S oth.ct p.ct k
 have hmm:((mixTo g.b.cells S oth.ct p.ct k).map I).length=(mixTo g.b.cells S oth.ct p.ct k).length:=List.length_map _
 by_cases hk:k < g.b.cells
 ·have hsk:=hsn k k0 hk
  by_cases hkS:k∈S
  ·rw [decide_eq_true ((hmemR k k0 hk).2 hkS)] at hsk
   repeat' (first | (refine lvK ?_;apply Cj.mk <;> first | exact trivial | intros) | (refine lvE ?_;apply Cj.mk <;> first | exact trivial | intros) | fail)
   all_goals (try (exfalso;rename_i q;rw [hsk] at q;cases q;done))
   refine ⟨k+1,⟨[],hdA (lvL ?_) (lvL ?_)⟩,?_,by (try dsimp only);omega,rfl⟩ <;> (try (apply Cj.mk <;> first | exact trivial | intros))
   ·rw [mixTo_skip hkS]
   ·exact ⟨by omega,by omega⟩
  ·rw [decide_eq_false (fun h=>hkS ((hmemR k k0 hk).1 h))] at hsk
   have hst:=mixTo_set (o:=oth.ct) (ct:=p.ct) k0 hk hkS
   repeat' (first | (refine lvK ?_;apply Cj.mk <;> first | exact trivial | intros) | (refine lvE ?_;apply Cj.mk <;> first | exact trivial | intros) | fail)
   all_goals (try (exfalso;rename_i q;rw [hsk] at q;cases q;done))
   refine ⟨k+1,⟨[],hdA (lvL ?_) (lvL ?_)⟩,?_,by (try dsimp only);omega,rfl⟩ <;> (try (apply Cj.mk <;> first | exact trivial | intros))
   ·rw [hst]
   ·exact ⟨by omega,by omega⟩
 obtain rfl:k=g.b.cells:=by omega
 rw [mixTo_all]
 have emx:=mixC_len g.b.cells S oth.ct p.ct
 have emy:((mixC g.b.cells S oth.ct p.ct).map I).length=(mixC g.b.cells S oth.ct p.ct).length:=List.length_map _
 have hin:=hints R R (by omega)
 rw [decide_eq_true rfl] at hin
 repeat' (first | ((first | refine lvK ?_ | refine ⟨_,_,q4,lvN ?_⟩ | refine ⟨_,_,hin,lvN ?_⟩ | (refine .inl ?_;(conv=>whnf);first | refine ⟨_,_,q4,lvN ?_⟩ | refine ⟨_,_,hin,lvN ?_⟩) | (refine .inr (.inl ?_);(conv=>whnf);refine ⟨_,_,q3,lvN ?_⟩));apply Cj.mk <;> first | exact trivial | intros) | (refine lvE ?_;apply Cj.mk <;> first | exact trivial | intros) | fail)
 refine .of (fun k=>[(24,I k)]) (fun k=>[]) 18 (fun k=>0≤k∧k≤L.length) (fun k=>(L.length - k).toNat) 0 ?_
 conv=>whnf
 refine ⟨⟨[],hdA (lvL ?_) (lvL ?_)⟩,?_,fun k ⟨k0,k1⟩=>lvN ?_⟩ <;> (try (apply Cj.mk <;> first | exact trivial | intros))
 ·exact ⟨by omega,by omega⟩
 by_cases hk:k < L.length
 ·have hm:=nth_mem (l:=L) k0 hk
  have hko:=hok _ hm
  have hv:=R4Valid_p g hg (nth L k).p
  rw [decide_eq_true hko] at hv
  have hfk:=hfar _ hm
  have hcq2:=Copy5_p (nth L k).p (hko.small hg)
  have hmk:nth (L.map (mixO g.b.cells S oth.ct)) k=mixO g.b.cells S oth.ct (nth L k):=nth_map k0 hk
  have hmo:=mix_ok (S:=S) hok2 hko
  have hcmp:Pure Tryz.prog 24 [(nth (L.map (mixO g.b.cells S oth.ct)) k).p.av,(mixP g.b.cells S oth.ct (nth L k).p).av] (I 0) none:=by
   have:=R4Compare_p (mixP g.b.cells S oth.ct (nth L k).p) (mixP g.b.cells S oth.ct (nth L k).p) (hmo.small hg) (hmo.small hg)
   rw [cmpP_tot.self] at this
   rw [hmk]
   exact this
  have htk:(nth (L.map (mixO g.b.cells S oth.ct)) k).took=(nth L k).took:=by rw [hmk];rfl
  have hkl:=hko.len
  repeat' (first | ((first | refine lvK ?_ | refine ⟨_,_,hv,lvN ?_⟩ | (refine .inl ?_;(conv=>whnf);first | refine ⟨_,_,hv,lvN ?_⟩) | (refine .inr (.inl ?_);(conv=>whnf);refine ⟨[],[],[(nth L k).p.av],_,_,⟨rfl,rfl,rfl⟩,hcq2,lvN ?_⟩));apply Cj.mk <;> first | exact trivial | intros) | (refine lvE ?_;apply Cj.mk <;> first | exact trivial | intros) | fail)
  refine .of (fun c=>[(26,I c)]) (fun c=>[(26,.arr 1 ((mixTo g.b.cells S oth.ct (nth L k).p.ct c).map I))]) 30 (fun c=>0≤c∧c≤g.b.cells) (fun c=>(g.b.cells - c).toNat) 0 ?_
  conv=>whnf
  refine ⟨⟨[],hdA (lvL ?_) (lvL ?_)⟩,?_,fun c ⟨c0,c1⟩=>lvN ?_⟩ <;> (try (apply Cj.mk <;> first | exact trivial | intros))
  ·rw [mixTo_zero _ _ hkl]
  ·exact ⟨by omega,by omega⟩
  have hml:=mixTo_len g.b.cells S oth.ct (nth L k).p.ct c
  have hmm:((mixTo g.b.cells S oth.ct (nth L k).p.ct c).map I).length=(mixTo g.b.cells S oth.ct (nth L k).p.ct c).length:=List.length_map _
  by_cases hc:c < g.b.cells
  ·have hsk:=hsn c c0 hc
   by_cases hcS:c∈S
   ·rw [decide_eq_true ((hmemR c c0 hc).2 hcS)] at hsk
    repeat' (first | (refine lvK ?_;apply Cj.mk <;> first | exact trivial | intros) | (refine lvE ?_;apply Cj.mk <;> first | exact trivial | intros) | fail)
    all_goals (try (exfalso;rename_i q;rw [hsk] at q;cases q;done))
    all_goals (try (exfalso;rename_i q _;rw [hsk] at q;cases q;done))
    all_goals (try (exfalso;rename_i q _ _;rw [hsk] at q;cases q;done))
    all_goals (try (exfalso;rename_i q _ _ _;rw [hsk] at q;cases q;done))
    all_goals
     refine ⟨c+1,⟨[],hdA (lvL ?_) (lvL ?_)⟩,?_,by (try dsimp only);omega,rfl⟩ <;> (try (apply Cj.mk <;> first | exact trivial | intros))
     ·rw [mixTo_skip hcS]
     ·exact ⟨by omega,by omega⟩
   ·rw [decide_eq_false (fun h=>hcS ((hmemR c c0 hc).1 h))] at hsk
    have hst:=mixTo_set (o:=oth.ct) (ct:=(nth L k).p.ct) c0 hc hcS
    have hnn:=mixTo_at S oth.ct (nth L k).p.ct c0 hc
    have hfe:=hfk.eq c c0 hc hcS
    repeat' (first | (refine lvK ?_;apply Cj.mk <;> first | exact trivial | intros) | (refine lvE ?_;apply Cj.mk <;> first | exact trivial | intros) | fail)
    all_goals (try (exfalso;rename_i q;rw [hsk] at q;cases q;done))
    all_goals (try (exfalso;rename_i q _;rw [hsk] at q;cases q;done))
    all_goals (try (exfalso;rename_i q _ _;rw [hsk] at q;cases q;done))
    all_goals (try (exfalso;rename_i q _ _ _;rw [hsk] at q;cases q;done))
    all_goals
     refine ⟨c+1,⟨[],hdA (lvL ?_) (lvL ?_)⟩,?_,by (try dsimp only);omega,rfl⟩ <;> (try (apply Cj.mk <;> first | exact trivial | intros))
     ·rw [hst]
     ·exact ⟨by omega,by omega⟩
  obtain rfl:c=g.b.cells:=by omega
  rw [mixTo_all]
  have emz:=mixC_len g.b.cells S oth.ct (nth L k).p.ct
  have ema:((mixC g.b.cells S oth.ct (nth L k).p.ct).map I).length=(mixC g.b.cells S oth.ct (nth L k).p.ct).length:=List.length_map _
  repeat' (first | ((first | refine lvK ?_ | refine ⟨_,hcmp,rfl,lvN ?_⟩);apply Cj.mk <;> first | exact trivial | intros) | (refine lvE ?_;apply Cj.mk <;> first | exact trivial | intros) | fail)
  all_goals (try (exfalso;rename_i q;exact q htk))
  refine ⟨k+1,⟨[],hdA (lvL ?_) (lvL ?_)⟩,?_,by (try dsimp only);omega,rfl⟩ <;> (try (apply Cj.mk <;> first | exact trivial | intros))
  exact ⟨by omega,by omega⟩
 ·repeat' (first
   | (refine lvK ?_;apply Cj.mk <;> first | exact trivial | intros)
   | (refine lvE ?_;apply Cj.mk <;> first | exact trivial | intros)
   | fail)
end Go.Proofs.YthgobfncgnjimaaGreatDoor
