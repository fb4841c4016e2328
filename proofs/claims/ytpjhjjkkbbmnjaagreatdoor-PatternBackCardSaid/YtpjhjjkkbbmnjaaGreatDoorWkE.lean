/- The walk of the matcher's ends. -/
import Derived.Test.YtpjhjjkkbbmnjaaGreatDoorWkD
import Derived.Test.YtpjhjjkkbbmnjaaGreatDoorMap
namespace Go.Vir
open Go Go.RowKit Go.Proofs Go.Shelf

/-- The places that items may end at, from some places on. -/
def endsL (zs : List Int) : List (Int × Int) → List Int → List Int
  | [], out => out
  | (s, h) :: t, out => endsL zs t (uniq (out.flatMap fun x => stepL s h zs x.toNat))


/-- The table of how often items stand. -/
def howEs (p q : Nat) : Array MapEntry :=
  #[{ key := .int .i64 0, val := .func (.func 109) #[.pointer (some ⟨p, q, none⟩)] #[], born := 0 }, { key := .int .i64 1, val := .func (.func 110) #[.pointer (some ⟨p, q, none⟩)] #[], born := 1 }, { key := .int .i64 2, val := .func (.func 111) #[.pointer (some ⟨p, q, none⟩)] #[], born := 2 }]

theorem how_step (h : Int) (h0 : 0 ≤ h) (h2 : h ≤ 2) (p q : Nat) : ∃ f i, Instr.findNow (.int .i64) (.int .i64 h) (howEs p q).toList 0 = some (some (i, .func (.func f) #[.pointer (some ⟨p, q, none⟩)] #[])) ∧
    (∀ args w, (callFunc f args).run Tryz.prog w = .ok (.enter f args) w) ∧
    ∀ (A : Option Addr) (n c : Nat) (zs : List Int) (s : Int) (at_ : Nat) (w : World), n ≤ 1000000 → at_ ≤ n → p < w.heap.size → w.cell? ⟨p, q, none⟩ = some (.slice A n c) → Ints w w.heap.size A n zs →
      Calls Tryz.prog f #[.pointer (some ⟨p, q, none⟩), .int .i64 s, .int .i64 (at_ : Int)] w fun e w' => ∃ A' n' c', e = .returned (.slice A' n' c') ∧ Ints w' w'.heap.size A' n' (stepL s h zs at_) ∧ Below w.heap.size w w' := by
  have hh : h = 0 ∨ h = 1 ∨ h = 2 := by omega
  rcases hh with rfl | rfl | rfl
  · exact ⟨109, 0, rfl, enters_of Tryz.func109 (by kernel_rfl) rfl, fun A n c zs s at_ w a1 a2 a3 a4 a5 => matcher_once p q A n c zs s at_ w a1 a2 a3 a4 a5⟩
  · exact ⟨110, 1, rfl, enters_of Tryz.func110 (by kernel_rfl) rfl, fun A n c zs s at_ w a1 a2 a3 a4 a5 => matcher_any p q A n c zs s at_ w a1 a2 a3 a4 a5⟩
  · exact ⟨111, 2, rfl, enters_of Tryz.func111 (by kernel_rfl) rfl, fun A n c zs s at_ w a1 a2 a3 a4 a5 => matcher_pairs p q A n c zs s at_ w a1 a2 a3 a4 a5⟩

theorem mem_stepL {s h : Int} {zs : List Int} {at_ : Nat} {x : Int} (hx : x ∈ stepL s h zs at_) (hat : at_ ≤ zs.length) : 0 ≤ x ∧ x ≤ zs.length := by
  have hr := runLen_le s zs at_ hat
  unfold stepL at hx
  split at hx
  · split at hx
    · simp at hx; omega
    · cases hx
  · split at hx
    · simp only [List.mem_map, List.mem_range] at hx
      obtain ⟨i, hi, rfl⟩ := hx
      omega
    · simp only [List.mem_map, List.mem_filter, List.mem_range] at hx
      obtain ⟨i, ⟨hi, _⟩, rfl⟩ := hx
      omega
theorem length_stepL (s h : Int) (zs : List Int) (at_ : Nat) (hat : at_ ≤ zs.length) : (stepL s h zs at_).length ≤ zs.length + 1 := by
  have hr := runLen_le s zs at_ hat
  unfold stepL
  split
  · split <;> simp
  · split
    · simp; omega
    · rw [List.length_map]
      exact Nat.le_trans (List.length_filter_le _ _) (by simp; omega)

/-- What is known of the places between two items. -/
structure Outs (n : Nat) (out : List Int) : Prop where
  mem : ∀ x ∈ out, 0 ≤ x ∧ x ≤ n
  len : out.length ≤ n + 1
theorem outs_uniq {n : Nat} {l : List Int} (h : ∀ x ∈ l, 0 ≤ x ∧ x ≤ n) : Outs n (uniq l) := by
  refine ⟨fun x hx => h x ((mem_uniq l x).1 hx), ?_⟩
  rcases hl : uniq l with _ | ⟨y, t⟩
  · simp
  · have := length_rising 0 n (uniq l) (pairwise_uniq l) (fun x hx => h x ((mem_uniq l x).1 hx)) (by rw [hl]; simp)
    rw [hl] at this
    omega

theorem src_ints {w : World} {B n : Nat} {A : Option Addr} {zs : List Int} (h : Ints w B A n zs) : Src w A n (zs.map (Value.int .i64)) :=
  ⟨by simp [h.len], fun hn => by
    obtain ⟨b, o, e, _, hc⟩ := h.at_ hn
    refine ⟨b, o, e, fun j u hu => ?_⟩
    simp only [List.getElem?_map, Option.map_eq_some_iff] at hu
    obtain ⟨z, hz, rfl⟩ := hu
    obtain ⟨hj, rfl⟩ := List.getElem?_eq_some_iff.1 hz
    exact hc j hj⟩

theorem flatMap_bound (f : Int → List Int) (N : Nat) : ∀ (l : List Int), (∀ x ∈ l, (f x).length ≤ N) → (l.flatMap f).length ≤ l.length * N
  | [], _ => by simp
  | x :: t, h => by
    have h1 := h x (by simp)
    have h2 := flatMap_bound f N t (fun y hy => h y (List.mem_cons_of_mem _ hy))
    simp only [List.flatMap_cons, List.length_append, List.length_cons, Nat.add_mul]
    omega

set_option maxHeartbeats 400000 in
theorem matcher_ends (p q : Nat) (A : Option Addr) (n c : Nat) (zs : List Int) (Ai : Option Addr) (m ci : Nat) (xs : List (Int × Int)) (at_ : Nat) (w : World) (hn : n ≤ 1000) (hm : m ≤ 1000) (hat : at_ ≤ n)
    (hp : p < w.heap.size) (cp : w.cell? ⟨p, q, none⟩ = some (.slice A n c)) (hz : Ints w w.heap.size A n zs) (hx : Prs w w.heap.size Ai m xs) (hr : ∀ x ∈ xs, 0 ≤ x.2 ∧ x.2 ≤ 2) :
    Calls Tryz.prog 69 #[.pointer (some ⟨p, q, none⟩), .slice Ai m ci, .int .i64 (at_ : Int)] w fun e w' =>
      ∃ A' n' c', e = .returned (.slice A' n' c') ∧ Ints w' w'.heap.size A' n' (endsL zs xs [(at_ : Int)]) ∧ Below w.heap.size w w' := by
  obtain ⟨i0, hi0, hz0, hz1, hz2⟩ := info_parts int_info
  have hmm := @run_makeMap Tryz.prog
  go_enter Tryz.func69, Tryz.ntmps69
  have tok1 : True := trivial
  have tok2 : True := trivial
  have tok3 : True := trivial
  go_wp2_with (first
    | (have _t := tok1; refine wpList_insert_new (key := .int .i64 0) (v := .func (.func 109) #[.pointer (some ⟨p, q, none⟩)] #[]) rfl rfl rfl rfl rfl Tryz.underlying155 Tryz.underlying3 rfl (heap_new rfl) rfl ?_; clear tok1)
    | (have _t := tok2; refine wpList_insert_new (key := .int .i64 1) (v := .func (.func 110) #[.pointer (some ⟨p, q, none⟩)] #[]) rfl rfl rfl rfl rfl Tryz.underlying155 Tryz.underlying3 rfl (World.putObj_heap_same (by simp)) rfl ?_; clear tok2)
    | (have _t := tok3; refine wpList_insert_new (key := .int .i64 2) (v := .func (.func 111) #[.pointer (some ⟨p, q, none⟩)] #[]) rfl rfl rfl rfl rfl Tryz.underlying155 Tryz.underlying3 rfl (World.putObj_heap_same (by simp)) rfl ?_; clear tok3))
  refine wp_gen ?_
  intro W1 hW1
  have hsz : W1.heap.size = w.heap.size + 2 := by simp [hW1]
  have d0 : W1.heap[w.heap.size]? = some (.map (howEs p q) 3) := by rw [hW1, heap_old (by simp)]; exact World.putObj_heap_same (by simp)
  have d1 : W1.heap[w.heap.size + 1]? = some (.cells #[.int .i64 at_] 3 (0, 0)) := by rw [hW1]; exact heap_new (by simp)
  have hb : Below w.heap.size w W1 := by
    rw [hW1]
    refine Below.alloc (Below.trans (b := w.alloc (.map #[] 0)) (by go_grown) ?_) (by simp) _
    exact ⟨rfl, rfl, rfl, by simp, fun k hk => by rw [World.putObj_heap_other (by omega), World.putObj_heap_other (by omega), World.putObj_heap_other (by omega)]⟩
  have hI0 : Ints W1 W1.heap.size (some ⟨w.heap.size + 1, 0, none⟩) 1 [(at_ : Int)] :=
    ⟨rfl, fun _ => ⟨w.heap.size + 1, 0, rfl, by omega, fun j hj => by
      obtain rfl : j = 0 := by simpa using hj
      exact cell_blk d1 0⟩⟩
  have hO0 : Outs n [(at_ : Int)] := ⟨fun x hx => by simp at hx; omega, by simp⟩
  have Hz := Lib.hid hz.len
  have Hx := Lib.hid hx.len
  clear hW1 hmm
  go_loopw [8, 26] (fun v i wr => ∃ (k : Nat) (A' : Option Addr) (n' c' : Nat) (out : List Int), k ≤ m ∧ i = .int .i64 k ∧ v = .slice A' n' c' ∧ Ints wr wr.heap.size A' n' out ∧ Outs n out ∧ endsL zs (xs.drop k) out = endsL zs xs [(at_ : Int)] ∧
    Below w.heap.size w wr ∧ w.heap.size < wr.heap.size ∧ wr.heap[w.heap.size]? = some (.map (howEs p q) 3)) (fun _ i _ => m - (RowKit.intOf i).toNat)
  case atStart => exact ⟨0, _, _, _, _, Nat.zero_le _, rfl, rfl, hI0, hO0, rfl, hb, by omega, d0⟩
  case round =>
    obtain ⟨k, A', n', c', out, hk, rfl, rfl, hI, hO, hE, hbr, hszr, hmap⟩ := hrel
    have HE := Lib.hid hE
    have HI := Lib.hid hI.len
    clear hE
    rcases Nat.lt_or_ge k m with hlt | hge
    · obtain ⟨xb, xo, rfl, hxb, hxc⟩ := hx.at_ (by omega)
      have hkx : k < xs.length := by have := Hx.out; omega
      have hz' := hxc k hkx
      have z1 := (cellOf hbr hxb).trans hz'.1
      have z2 := (cellOf hbr hxb).trans hz'.2
      obtain ⟨hr0, hr2⟩ := hr xs[k] (List.getElem_mem _)
      have hstep := how_step xs[k].2 hr0 hr2 p q
      have hd : xs.drop k = xs[k] :: xs.drop (k + 1) := (List.drop_eq_getElem_cons hkx)
      have Hd := Lib.hid hd
      clear hd hz'
      generalize xs[k] = x at *
      obtain ⟨s, h⟩ := x
      simp only at z1 z2 hr0 hr2 hstep
      go_wp2
      refine wp_gen ?_
      intro W2 hW2
      have hsz2 : W2.heap.size = wr.heap.size + 1 := by simp [hW2]
      have x0 : W2.heap[wr.heap.size]? = some (.cells #[.int .i64 s, .int .i64 h] 70 (0, 0)) := by rw [hW2]; exact heap_new rfl
      have hbw : Below wr.heap.size wr W2 := by rw [hW2]; go_grown
      have hI2 := hI.below hbw
      clear hW2
      obtain ⟨f, fi, hfn, heg, hst⟩ := hstep
      have Hfn := Lib.hid hfn
      have Heg := Lib.hid heg
      clear hfn heg z1 z2
      obtain ⟨wo, rfl⟩ : ∃ wo : World, wo = wr := ⟨_, rfl⟩
      go_loopw [11, 32] (fun v j wr => ∃ (jk : Nat), jk ≤ n' ∧ j = .int .i64 jk ∧ wr.ownsRow (wo.heap.size + 1) 3 1 v ((out.take jk).flatMap fun x => stepL s h zs x.toNat).length (((out.take jk).flatMap fun x => stepL s h zs x.toNat).map (Value.int .i64)) ∧
        Below (wo.heap.size + 1) W2 wr) (fun _ j _ => n' - (RowKit.intOf j).toNat)
      case atStart => exact ⟨0, Nat.zero_le _, rfl, ⟨by simp, .inl ⟨rfl, by simp⟩⟩, Below.refl _ _⟩
      case round =>
        obtain ⟨jk, hjk, rfl, hown, hbj⟩ := hrel
        have hbwr : Below w.heap.size w wr := hbr.trans ((hbw.mono hbr.size).trans (hbj.mono (by have := hbr.size; omega)))
        have hszj : wo.heap.size < wr.heap.size := by have := hbj.size; omega
        rcases Nat.lt_or_ge jk n' with hlj | hgj
        · have hjo : jk < out.length := by have := HI.out; omega
          obtain ⟨ob, oo, rfl, hob, hoc⟩ := hI2.at_ (by omega)
          have o1 := (cellOf hbj (by omega)).trans (hoc jk hjo)
          have hmem := hO.mem _ (List.getElem_mem hjo)
          have htk : out.take (jk + 1) = out.take jk ++ [out[jk]] := by rw [List.take_succ_eq_append_getElem hjo]
          have Htk := Lib.hid htk
          have hmapj : wr.heap[w.heap.size]? = some (.map (howEs p q) 3) := (hbj.block _ (by omega)).trans ((hbw.block _ hszr).trans hmap)
          have xj0 : wr.heap[wo.heap.size]? = some (.cells #[.int .i64 s, .int .i64 h] 70 (0, 0)) := (hbj.block _ (by omega)).trans x0
          have xs0 := cell_blk xj0 0
          have xs1 := cell_blk xj0 1
          simp only [List.getElem?_toArray, List.getElem?_cons_zero, List.getElem?_cons_succ] at xs0 xs1
          generalize out[jk] = x at *
          obtain ⟨y, rfl⟩ := Int.eq_ofNat_of_zero_le hmem.1
          have hyn : y ≤ n := by omega
          have hjb : jk < 2000 := by have := hO.len; omega
          have hcall := hst A n c zs s y wr (by omega) hyn (Nat.lt_of_lt_of_le hp hbwr.size) ((cellOf hbwr hp).trans cp) ((hz.below hbwr).more hbwr.size)
          have hsl := length_stepL s h zs y (by have := Hz.out; omega)
          have hfb := flatMap_bound (fun x => stepL s h zs x.toNat) (n + 1) (out.take jk) (fun x hx => by
            have h1 := hO.mem x (List.mem_of_mem_take hx)
            have := length_stepL s h zs x.toNat (by have := Hz.out; omega)
            have := Hz.out; omega)
          have hlt1 : (out.take jk).length ≤ 1001 := by rw [List.length_take]; have := hO.len; omega
          have hfb2 : ((out.take jk).flatMap fun x => stepL s h zs x.toNat).length ≤ 1001 * 1001 := Nat.le_trans hfb (Nat.mul_le_mul hlt1 (by omega))
          have heg := Heg.out
          clear htk hfb hlt1 hoc xj0 hmem
          go_wp2_with (at_lookup; refine wpList_lookup_at rfl rfl rfl rfl Tryz.underlying155 Tryz.underlying3 rfl hmapj Hfn.out ?_)
          refine hcall.mono ?_
          rintro e w3 ⟨A3, n3, c3, rfl, hI3, hb3⟩
          have hown3 := ownsRow_below hown hb3
          have hsrc := src_ints hI3
          have hn3 := hI3.len
          have hb4 := hbj.trans (hb3.mono (by omega))
          have hbase : wo.heap.size + 1 ≤ w3.heap.size := by have := hb4.size; omega
          have hn3le : n3 ≤ 1001 := by have := Hz.out; omega
          have Hn3 := Lib.hid hn3
          clear hn3 hsl heg
          go_wp2_with (at_builtin; refine wpList_append_src _ rfl _ _ 36 rfl (wo.heap.size + 1) 3 i0 (.int .i64 0) 8 Tryz.underlying36 hi0 hz0 hz1 hz2 rfl _ _ _ rfl hown3 A3 n3 c3 _ rfl hsrc (by simp [Value.oneCell']) (by simp only [maxLen]; omega) (by omega) hbase ?_; intro v' w4 hown' hgrow)
          refine ⟨⟨jk + 1, by omega, by go_num, ?_, ?_⟩, by simp [RowKit.intOf]; omega⟩
          · rw [Htk.out, List.flatMap_append, List.map_append, List.length_append]
            have hsing : ([(y : Int)].flatMap fun x => stepL s h zs x.toNat) = stepL s h zs y := by simp
            rw [hsing, Hn3.out]
            exact hown'
          · refine hb4.grown hgrow hbase (fun g hg => ?_)
            exact (row_data hown3 g hg).1
        · have hjn : jk = n' := by omega
          subst hjn
          rw [List.take_of_length_le (by have := HI.out; omega)] at hown
          have hfb := flatMap_bound (fun x => stepL s h zs x.toNat) (n + 1) out (fun x hx => by
            have h1 := hO.mem x hx
            have := length_stepL s h zs x.toNat (by have := Hz.out; omega)
            have := Hz.out; omega)
          have hfb2 : (out.flatMap fun x => stepL s h zs x.toNat).length ≤ 1001 * 1001 := Nat.le_trans hfb (Nat.mul_le_mul (by have := hO.len; omega) (by omega))
          have hpl := places_any wr hown (by omega) (by omega)
          have hO' : Outs n (uniq (out.flatMap fun x => stepL s h zs x.toNat)) := outs_uniq (fun x hx => by
            obtain ⟨y, hy, hyx⟩ := List.mem_flatMap.1 hx
            have h1 := hO.mem y hy
            have := mem_stepL hyx (by have := Hz.out; omega)
            have := Hz.out
            omega)
          have hkb : k < 2000 := by omega
          clear hfb hI hI2
          go_wp2_with (go_at_call 112; refine hpl.mono ?_; rintro e w3 ⟨A3, n3, c3, rfl, hI3, hb3⟩)
          go_roundw
          case rel =>
            refine ⟨k + 1, _, _, _, _, by omega, by go_num, rfl, hI3, hO', ?_, hbwr.trans (hb3.mono (by omega)), by have := hb3.size; omega, ?_⟩
            · rw [← HE.out, Hd.out]; rfl
            · exact (hb3.block _ (by omega)).trans ((hbj.block _ (by omega)).trans ((hbw.block _ hszr).trans hmap))
          case measure => simp [RowKit.intOf]; omega
    · have hkm : k = m := by omega
      subst hkm
      rw [List.drop_of_length_le (by have := Hx.out; omega)] at HE
      go_wp2
      go_ret
      exact ⟨_, _, _, rfl, by rw [← HE.out]; exact hI, hbr⟩
end Go.Vir
