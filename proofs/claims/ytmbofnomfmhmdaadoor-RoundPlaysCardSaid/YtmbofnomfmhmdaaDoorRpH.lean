/-
  RoundPlays, in plain words.
-/
import Derived.Test.YtmbofnomfmhmdaaDoorRpG
import Derived.Test.YtmbofnomfmhmdaaDoorAm22
set_option linter.unusedVariables false
set_option linter.unusedSimpArgs false
set_option linter.unusedSectionVars false
namespace Go.AM.Rp
open Go.Proofs

/-- What follows a turn: all is compared. -/
noncomputable def fin (L k n : Nat) (st : St) (bb : Bool) (x : Option Addr) (xn : Nat) (s0 : Option Addr) (s0n s0z : Nat) (s3 o3 s4 o4 : Nat) (s5 : Option Addr) (s5n s5z : Nat) (s37 s38 : Int) : Res := AM.St.row st x (xn * 3) fun v327 => AM.grow 36 3 24 s5 s5n s5z xn v327 st fun v328 v329 v330 v331 => AM.bnd (AM.evCall Proofs.Tryd.prog AM.Rp.env L k 16 [Value.pointer (some { block := s3, off := o3 })] v331) fun v332 v333 => AM.asT v332 fun v334 => AM.uncons v334 fun v335 v336 => AM.asI IntKind.i64 v335 fun v337 => AM.uncons v336 fun v338 v339 => AM.asB v338 fun v340 => AM.endl v339 (AM.St.ld v333 s4 (o4 + 2) fun v341 => AM.asSl v341 fun v342 v343 v344 => AM.lpAt Proofs.Tryd.prog AM.Rp.env L k 3 [true, true, true, true, false, true, false, true, true, false, true, true, true, true, true, true, true, true, true, true, false, true] [n] L [(0, Value.slice s0 s0n s0z), (3, Value.pointer (some { block := s3, off := o3 })), (4, Value.pointer (some { block := s4, off := o4 })), (5, Value.slice v328 v329 v330), (10, Value.bool bb), (20, Value.int IntKind.i64 v337), (21, Value.bool v340), (22, Value.slice none 0 0), (37, Value.int IntKind.i64 s37), (38, Value.int IntKind.i64 s38), (141, Value.int IntKind.i64 (↑v343 : Int)), (142, Value.int IntKind.i64 (0 : Int))] v333)
/-- What is done with a turn of the script (it lies in the blocks t1, t2). -/
noncomputable def sw (L k n : Nat) (t1 t2 : Nat) (st : St) (s0 : Option Addr) (s0n s0z : Nat) (s3 o3 s4 o4 : Nat) (s5 : Option Addr) (s5n s5z : Nat) (s37 s38 : Int) : Res := AM.St.ld st t1 0 fun v279 => AM.asI IntKind.i64 v279 fun v280 => AM.br (v280 == (1 : Int)) (AM.St.ld st t2 2 fun v281 => AM.asI IntKind.i64 v281 fun v282 => AM.St.ld st t1 4 fun v283 => AM.asSl v283 fun v284 v285 v286 => AM.bnd (AM.evCall Proofs.Tryd.prog AM.Rp.env L k 7 [Value.pointer (some { block := s3, off := o3 }), Value.int IntKind.i64 v282, Value.slice v284 v285 v286] st) fun v287 v288 => AM.asT v287 fun v289 => AM.uncons v289 fun v290 v291 => AM.asSl v290 fun v292 v293 v294 => AM.uncons v291 fun v295 v296 => AM.endl v296 (AM.St.ld v288 t2 2 fun v297 => AM.asI IntKind.i64 v297 fun v298 => AM.St.ld v288 t1 4 fun v299 => AM.asSl v299 fun v300 v301 v302 => AM.bnd (AM.evCall Proofs.Tryd.prog AM.Rp.env L k 8 [Value.pointer (some { block := s4, off := o4 }), Value.int IntKind.i64 v298, Value.slice v300 v301 v302] v288) fun v303 v304 => AM.asT v303 fun v305 => AM.uncons v305 fun v306 v307 => AM.asSl v306 fun v308 v309 v310 => AM.uncons v307 fun v311 v312 => AM.asI IntKind.i64 v311 fun v313 => AM.endl v312 (AM.bnd (AM.evCall Proofs.Tryd.prog AM.Rp.env L k 10 [Value.slice v292 v293 v294] v304) fun v314 v315 => AM.asSl v314 fun v316 v317 v318 => AM.bnd (AM.evCall Proofs.Tryd.prog AM.Rp.env L k 9 [Value.slice v316 v317 v318, Value.slice v308 v309 v310] v315) fun v319 v320 => AM.asB v319 fun v321 => AM.br v321 (AM.St.ld v320 t2 2 fun v322 => AM.asI IntKind.i64 v322 fun v323 => AM.bnd (AM.evCall Proofs.Tryd.prog AM.Rp.env L k 11 [v295, Value.int IntKind.i64 v323, Value.int IntKind.i64 v313] v320) fun v324 v325 => AM.asB v324 fun v326 => AM.St.row v325 v308 (v309 * 3) fun v327 => AM.grow 36 3 24 s5 s5n s5z v309 v327 v325 fun v328 v329 v330 v331 => AM.bnd (AM.evCall Proofs.Tryd.prog AM.Rp.env L k 16 [Value.pointer (some { block := s3, off := o3 })] v331) fun v332 v333 => AM.asT v332 fun v334 => AM.uncons v334 fun v335 v336 => AM.asI IntKind.i64 v335 fun v337 => AM.uncons v336 fun v338 v339 => AM.asB v338 fun v340 => AM.endl v339 (AM.St.ld v333 s4 (o4 + 2) fun v341 => AM.asSl v341 fun v342 v343 v344 => AM.lpAt Proofs.Tryd.prog AM.Rp.env L k 3 [true, true, true, true, false, true, false, true, true, false, true, true, true, true, true, true, true, true, true, true, false, true] [n] L [(0, Value.slice s0 s0n s0z), (3, Value.pointer (some { block := s3, off := o3 })), (4, Value.pointer (some { block := s4, off := o4 })), (5, Value.slice v328 v329 v330), (10, Value.bool v326), (20, Value.int IntKind.i64 v337), (21, Value.bool v340), (22, Value.slice none 0 0), (37, Value.int IntKind.i64 s37), (38, Value.int IntKind.i64 s38), (141, Value.int IntKind.i64 (↑v343 : Int)), (142, Value.int IntKind.i64 (0 : Int))] v333)) (AM.St.row v320 v308 (v309 * 3) fun v345 => AM.grow 36 3 24 s5 s5n s5z v309 v345 v320 fun v346 v347 v348 v349 => AM.bnd (AM.evCall Proofs.Tryd.prog AM.Rp.env L k 16 [Value.pointer (some { block := s3, off := o3 })] v349) fun v350 v351 => AM.asT v350 fun v352 => AM.uncons v352 fun v353 v354 => AM.asI IntKind.i64 v353 fun v355 => AM.uncons v354 fun v356 v357 => AM.asB v356 fun v358 => AM.endl v357 (AM.St.ld v351 s4 (o4 + 2) fun v359 => AM.asSl v359 fun v360 v361 v362 => AM.lpAt Proofs.Tryd.prog AM.Rp.env L k 3 [true, true, true, true, false, true, false, true, true, false, true, true, true, true, true, true, true, true, true, true, false, true] [n] L [(0, Value.slice s0 s0n s0z), (3, Value.pointer (some { block := s3, off := o3 })), (4, Value.pointer (some { block := s4, off := o4 })), (5, Value.slice v346 v347 v348), (10, Value.bool false), (20, Value.int IntKind.i64 v355), (21, Value.bool v358), (22, Value.slice none 0 0), (37, Value.int IntKind.i64 s37), (38, Value.int IntKind.i64 s38), (141, Value.int IntKind.i64 (↑v361 : Int)), (142, Value.int IntKind.i64 (0 : Int))] v351))))) (AM.br (v280 == (2 : Int)) (AM.St.lds st t2 0 3 fun v363 => AM.uncons v363 fun v364 v365 => AM.asI IntKind.i64 v364 fun v366 => AM.uncons v365 fun v367 v368 => AM.asI IntKind.i64 v367 fun v369 => AM.uncons v368 fun v370 v371 => AM.asI IntKind.i64 v370 fun v372 => AM.endl v371 (AM.bnd (AM.evCall Proofs.Tryd.prog AM.Rp.env L k 12 [Value.pointer (some { block := s3, off := o3 }), Value.agg #[Value.int IntKind.i64 v366, Value.int IntKind.i64 v369, Value.int IntKind.i64 v372]] st) fun v373 v374 => AM.asT v373 fun v375 => AM.uncons v375 fun v376 v377 => AM.asSl v376 fun v378 v379 v380 => AM.uncons v377 fun v381 v382 => AM.endl v382 (AM.St.lds v374 t2 0 3 fun v383 => AM.uncons v383 fun v384 v385 => AM.asI IntKind.i64 v384 fun v386 => AM.uncons v385 fun v387 v388 => AM.asI IntKind.i64 v387 fun v389 => AM.uncons v388 fun v390 v391 => AM.asI IntKind.i64 v390 fun v392 => AM.endl v391 (AM.bnd (AM.evCall Proofs.Tryd.prog AM.Rp.env L k 13 [Value.pointer (some { block := s4, off := o4 }), Value.agg #[Value.int IntKind.i64 v386, Value.int IntKind.i64 v389, Value.int IntKind.i64 v392]] v374) fun v393 v394 => AM.asT v393 fun v395 => AM.uncons v395 fun v396 v397 => AM.asSl v396 fun v398 v399 v400 => AM.uncons v397 fun v401 v402 => AM.asI IntKind.i64 v401 fun v403 => AM.endl v402 (AM.bnd (AM.evCall Proofs.Tryd.prog AM.Rp.env L k 10 [Value.slice v378 v379 v380] v394) fun v404 v405 => AM.asSl v404 fun v406 v407 v408 => AM.bnd (AM.evCall Proofs.Tryd.prog AM.Rp.env L k 9 [Value.slice v406 v407 v408, Value.slice v398 v399 v400] v405) fun v409 v410 => AM.asB v409 fun v411 => AM.br v411 (AM.St.ld v410 t2 2 fun v412 => AM.asI IntKind.i64 v412 fun v413 => AM.bnd (AM.evCall Proofs.Tryd.prog AM.Rp.env L k 11 [v381, Value.int IntKind.i64 v413, Value.int IntKind.i64 v403] v410) fun v414 v415 => AM.asB v414 fun v416 => AM.St.row v415 v398 (v399 * 3) fun v417 => AM.grow 36 3 24 s5 s5n s5z v399 v417 v415 fun v418 v419 v420 v421 => AM.bnd (AM.evCall Proofs.Tryd.prog AM.Rp.env L k 16 [Value.pointer (some { block := s3, off := o3 })] v421) fun v422 v423 => AM.asT v422 fun v424 => AM.uncons v424 fun v425 v426 => AM.asI IntKind.i64 v425 fun v427 => AM.uncons v426 fun v428 v429 => AM.asB v428 fun v430 => AM.endl v429 (AM.St.ld v423 s4 (o4 + 2) fun v431 => AM.asSl v431 fun v432 v433 v434 => AM.lpAt Proofs.Tryd.prog AM.Rp.env L k 3 [true, true, true, true, false, true, false, true, true, false, true, true, true, true, true, true, true, true, true, true, false, true] [n] L [(0, Value.slice s0 s0n s0z), (3, Value.pointer (some { block := s3, off := o3 })), (4, Value.pointer (some { block := s4, off := o4 })), (5, Value.slice v418 v419 v420), (10, Value.bool v416), (20, Value.int IntKind.i64 v427), (21, Value.bool v430), (22, Value.slice none 0 0), (37, Value.int IntKind.i64 s37), (38, Value.int IntKind.i64 s38), (141, Value.int IntKind.i64 (↑v433 : Int)), (142, Value.int IntKind.i64 (0 : Int))] v423)) (AM.St.row v410 v398 (v399 * 3) fun v435 => AM.grow 36 3 24 s5 s5n s5z v399 v435 v410 fun v436 v437 v438 v439 => AM.bnd (AM.evCall Proofs.Tryd.prog AM.Rp.env L k 16 [Value.pointer (some { block := s3, off := o3 })] v439) fun v440 v441 => AM.asT v440 fun v442 => AM.uncons v442 fun v443 v444 => AM.asI IntKind.i64 v443 fun v445 => AM.uncons v444 fun v446 v447 => AM.asB v446 fun v448 => AM.endl v447 (AM.St.ld v441 s4 (o4 + 2) fun v449 => AM.asSl v449 fun v450 v451 v452 => AM.lpAt Proofs.Tryd.prog AM.Rp.env L k 3 [true, true, true, true, false, true, false, true, true, false, true, true, true, true, true, true, true, true, true, true, false, true] [n] L [(0, Value.slice s0 s0n s0z), (3, Value.pointer (some { block := s3, off := o3 })), (4, Value.pointer (some { block := s4, off := o4 })), (5, Value.slice v436 v437 v438), (10, Value.bool false), (20, Value.int IntKind.i64 v445), (21, Value.bool v448), (22, Value.slice none 0 0), (37, Value.int IntKind.i64 s37), (38, Value.int IntKind.i64 s38), (141, Value.int IntKind.i64 (↑v451 : Int)), (142, Value.int IntKind.i64 (0 : Int))] v441))))))) (AM.br (v280 == (3 : Int)) (AM.bnd (AM.evCall Proofs.Tryd.prog AM.Rp.env L k 14 [Value.pointer (some { block := s3, off := o3 })] st) fun v453 v454 => AM.asSl v453 fun v455 v456 v457 => AM.bnd (AM.evCall Proofs.Tryd.prog AM.Rp.env L k 15 [Value.pointer (some { block := s4, off := o4 })] v454) fun v458 v459 => AM.asSl v458 fun v460 v461 v462 => AM.bnd (AM.evCall Proofs.Tryd.prog AM.Rp.env L k 10 [Value.slice v455 v456 v457] v459) fun v463 v464 => AM.asSl v463 fun v465 v466 v467 => AM.bnd (AM.evCall Proofs.Tryd.prog AM.Rp.env L k 9 [Value.slice v465 v466 v467, Value.slice v460 v461 v462] v464) fun v468 v469 => AM.asB v468 fun v470 => AM.St.row v469 v460 (v461 * 3) fun v471 => AM.grow 36 3 24 s5 s5n s5z v461 v471 v469 fun v472 v473 v474 v475 => AM.bnd (AM.evCall Proofs.Tryd.prog AM.Rp.env L k 16 [Value.pointer (some { block := s3, off := o3 })] v475) fun v476 v477 => AM.asT v476 fun v478 => AM.uncons v478 fun v479 v480 => AM.asI IntKind.i64 v479 fun v481 => AM.uncons v480 fun v482 v483 => AM.asB v482 fun v484 => AM.endl v483 (AM.St.ld v477 s4 (o4 + 2) fun v485 => AM.asSl v485 fun v486 v487 v488 => AM.lpAt Proofs.Tryd.prog AM.Rp.env L k 3 [true, true, true, true, false, true, false, true, true, false, true, true, true, true, true, true, true, true, true, true, false, true] [n] L [(0, Value.slice s0 s0n s0z), (3, Value.pointer (some { block := s3, off := o3 })), (4, Value.pointer (some { block := s4, off := o4 })), (5, Value.slice v472 v473 v474), (10, Value.bool v470), (20, Value.int IntKind.i64 v481), (21, Value.bool v484), (22, Value.slice none 0 0), (37, Value.int IntKind.i64 s37), (38, Value.int IntKind.i64 s38), (141, Value.int IntKind.i64 (↑v487 : Int)), (142, Value.int IntKind.i64 (0 : Int))] v477)) (AM.St.row st none 0 fun v489 => AM.grow 36 3 24 s5 s5n s5z 0 v489 st fun v490 v491 v492 v493 => AM.bnd (AM.evCall Proofs.Tryd.prog AM.Rp.env L k 16 [Value.pointer (some { block := s3, off := o3 })] v493) fun v494 v495 => AM.asT v494 fun v496 => AM.uncons v496 fun v497 v498 => AM.asI IntKind.i64 v497 fun v499 => AM.uncons v498 fun v500 v501 => AM.asB v500 fun v502 => AM.endl v501 (AM.St.ld v495 s4 (o4 + 2) fun v503 => AM.asSl v503 fun v504 v505 v506 => AM.lpAt Proofs.Tryd.prog AM.Rp.env L k 3 [true, true, true, true, false, true, false, true, true, false, true, true, true, true, true, true, true, true, true, true, false, true] [n] L [(0, Value.slice s0 s0n s0z), (3, Value.pointer (some { block := s3, off := o3 })), (4, Value.pointer (some { block := s4, off := o4 })), (5, Value.slice v490 v491 v492), (10, Value.bool true), (20, Value.int IntKind.i64 v499), (21, Value.bool v502), (22, Value.slice none 0 0), (37, Value.int IntKind.i64 s37), (38, Value.int IntKind.i64 s38), (141, Value.int IntKind.i64 (↑v505 : Int)), (142, Value.int IntKind.i64 (0 : Int))] v495))))

/-! ### What was told, from some place on -/
structure Told (σ : St) (ad : Option Addr) (z : Nat) (qs : List Nat) (n : Nat) : Prop where
  lt : ∀ q ∈ qs, q < σ.next
  is : (ad = none ∧ n = 0 ∧ z = 0 ∧ qs = []) ∨ ∃ q pre l rest, qs = [q] ∧ ad = some ⟨q, List.length pre, none⟩ ∧ z = 3 ∧ n = List.length l ∧ σ.get q = some (.own (pre ++ (l.flatMap c3i ++ rest)) 36)
theorem Told.same {σ σ' : St} {ad : Option Addr} {z n : Nat} {qs S : List Nat} (h : Told σ ad z qs n) (hs : Same σ σ' S) (hq : ∀ q ∈ qs, q ∉ S) : Told σ' ad z qs n :=
  ⟨fun q hq => by have := hs.1; have := h.lt q hq; omega, h.is.imp id (fun ⟨q, pre, l, rest, e1, a, b, c, e⟩ => ⟨q, pre, l, rest, e1, a, b, c, by rw [hs.2 q (h.lt q (by rw [e1]; simp)) (hq q (by rw [e1]; simp))]; exact e⟩)⟩
theorem Told.head {σ : St} {ad : Option Addr} {z n : Nat} {qs : List Nat} (h : Told σ ad z qs (n + 1)) : ∃ q o c, ad = some ⟨q, o, none⟩ ∧ z = 3 ∧ (∀ K : List Value → Res, σ.lds q (o + 0) 3 K = K (c3i c)) ∧ Told σ (subA ad 3) z qs n := by
  rcases h.is with ⟨_, h1, _⟩ | ⟨q, pre, l, rest, e1, e2, e3, e4, e5⟩
  · omega
  · match l, e4 with
    | c :: l, e4 =>
      subst e2; subst e3
      refine ⟨q, pre.length, c, rfl, rfl, fun K => ?_, ⟨h.lt, .inr ⟨q, pre ++ c3i c, l, rest, e1, ?_, rfl, by simpa using e4, ?_⟩⟩⟩
      · rw [lds_own _ e5 (by simp [c3i])]
        congr 1
        rw [Nat.add_zero, List.drop_left]
        rfl
      · simp [subA, c3i]
      · rw [e5]; simp [List.append_assoc]
theorem Told.grow {σ : St} {ad : Option Addr} {z n : Nat} {qs : List Nat} (h : Told σ ad z qs n) (hn : n ≤ 10000) (news : List (Int × Int × Int)) (hm : news.length ≤ 1000) :
    ∃ ad' z' qs' σ', (∀ K, grow 36 3 24 ad n z news.length (news.flatMap c3i) σ K = K ad' (n + news.length) z' σ') ∧ Told σ' ad' z' qs' (n + news.length) ∧ Turn σ σ' qs qs' := by
  by_cases h0 : news.length = 0
  · exact ⟨ad, z, qs, σ, fun K => by simp [AM.grow, h0], by rw [h0]; exact h, .idle (Same.refl _ _) h.lt⟩
  · have hcond : (n + news.length) * 24 ≤ roomTop ∧ n + news.length ≤ sizeTop ∧ 0 < 3 ∧ (news.flatMap c3i).all oneCell = true := ⟨by unfold roomTop; omega, by unfold sizeTop; omega, by omega, flat_one c3i c3i_one news⟩
    rcases h.is with ⟨rfl, rfl, rfl, rfl⟩ | ⟨q, pre, l, rest, rfl, rfl, rfl, rfl, e5⟩
    · refine ⟨some ⟨σ.next, 0, none⟩, 3, [σ.next], σ.new (.own (news.flatMap c3i) 36), fun K => ?_, ⟨by simp, .inr ⟨_, [], news, [], rfl, rfl, rfl, by omega, by simp⟩⟩, ⟨Same.new _ _ _, fun q hq => by simp at hq; simp; omega⟩⟩
      simp only [AM.grow, h0, if_false, hcond, if_true, and_self]
      simp
    · have hlen := flat_length c3i _ c3i_len l
      refine ⟨some ⟨σ.next, 0, none⟩, 3, [σ.next], (σ.del q).new (.own ((l ++ news).flatMap c3i) 36), fun K => ?_, ⟨by simp, .inr ⟨_, [], l ++ news, [], rfl, rfl, rfl, by simp, ?_⟩⟩, ⟨⟨by simp, fun k hk hS => ?_⟩, fun q hq => by simp at hq; simp; omega⟩⟩
      · unfold AM.grow
        rw [if_neg h0, if_pos hcond]
        simp only [e5]
        rw [if_pos ⟨trivial, trivial, by simp only [List.length_append, hlen]; omega⟩, List.drop_left, ← hlen, List.take_left, List.flatMap_append]
      · have := get_new_same (σ.del q) (.own ((l ++ news).flatMap c3i) 36)
        simpa using this
      · simp only [List.mem_singleton] at hS
        rw [get_new (by simp; omega), get_del hS]

/-! ### What a round keeps -/
theorem l6 : (0 : Int) ≤ 6 ∧ (6 : Int) ≤ 6 := by decide
structure Inv (s : RS) : Prop where
  p : s.number ≠ 0 → s.phase = 1 ∨ s.phase = 2 ∨ s.phase = 3
  live : s.number ≠ 0 → s.live = true
  nd : s.vols.Nodup
  len : s.vols.length ≤ 20
  left : 0 ≤ s.left ∧ s.left ≤ 6
theorem Inv.zero : Inv zero := ⟨fun h => absurd rfl h, fun h => absurd rfl h, by simp [Rp.zero], by simp [Rp.zero], by decide⟩
theorem Inv.begin {s : RS} {number : Int} {l : List Int} (hg : Good l) (hl : l.length ≤ 20) : Inv { s with number := number, latest := number, vols := l, phase := 1, an := [], left := 6, marked := false, live := true } :=
  ⟨fun _ => .inl rfl, fun _ => rfl, hg.2.1, hl, l6⟩
theorem Inv.answered {s s' : RS} {v : Int} {out : List (Int × Int × Int)} (h : Inv s) (ha : Answered s v out s') : Inv s' ∧ out.length ≤ 20 := by
  have hl := h.len
  rcases ha with ⟨_, rfl, rfl⟩ | ⟨_, ⟨_, rfl, rfl⟩ | ⟨_, rfl, rfl⟩ | ⟨_, rfl, rfl⟩⟩
  · exact ⟨⟨h.p, h.live, h.nd, h.len, h.left⟩, by simp⟩
  · exact ⟨⟨fun _ => .inr (.inl rfl), fun _ => rfl, h.nd, h.len, l6⟩, by rw [List.length_map]; exact hl⟩
  · exact ⟨⟨fun _ => .inr (.inr rfl), fun _ => rfl, h.nd, h.len, l6⟩, by rw [List.length_map]; exact hl⟩
  · exact ⟨⟨fun h => absurd rfl h, fun h => absurd rfl h, by simp, by simp, h.left⟩, by simp⟩
def Ticked (s : RS) (out : List (Int × Int × Int)) (s' : RS) : Prop :=
  (s.number = 0 ∧ out = [] ∧ s' = s) ∨ (s.number ≠ 0 ∧ s.left - 1 > 0 ∧ out = [] ∧ s' = { s with left := s.left - 1 }) ∨
       (s.number ≠ 0 ∧ s.left - 1 ≤ 0 ∧ s.phase ≠ 3 ∧ out = s.vols.map (fun v => (3, v, s.number)) ∧ s' = { s with phase := 3, an := [], left := 6, live := true }) ∨
       (s.number ≠ 0 ∧ s.left - 1 ≤ 0 ∧ s.phase = 3 ∧ out = s.cmds ∧ s' = { s with left := 6 })
theorem ticked_fun {s : RS} {o1 o2 : List (Int × Int × Int)} {s1 s2 : RS} (h1 : Ticked s o1 s1) (h2 : Ticked s o2 s2) : o1 = o2 ∧ s1 = s2 := by
  rcases h1 with ⟨a, rfl, rfl⟩ | ⟨a, b, rfl, rfl⟩ | ⟨a, b, c, rfl, rfl⟩ | ⟨a, b, c, rfl, rfl⟩ <;> rcases h2 with ⟨a', rfl, rfl⟩ | ⟨a', b', rfl, rfl⟩ | ⟨a', b', c', rfl, rfl⟩ | ⟨a', b', c', rfl, rfl⟩ <;> first | exact ⟨rfl, rfl⟩ | omega
theorem Inv.ticked {s s' : RS} {out : List (Int × Int × Int)} (h : Inv s) (ha : Ticked s out s') : Inv s' ∧ out.length ≤ 20 := by
  have hl := h.len
  have hf := h.left
  rcases ha with ⟨a, rfl, rfl⟩ | ⟨a, b, rfl, rfl⟩ | ⟨a, b, c, rfl, rfl⟩ | ⟨a, b, c, rfl, rfl⟩
  · exact ⟨h, by simp⟩
  · exact ⟨⟨h.p, h.live, h.nd, h.len, ⟨by show 0 ≤ s.left - 1; omega, by show s.left - 1 ≤ 6; omega⟩⟩, by simp⟩
  · exact ⟨⟨fun _ => .inr (.inr rfl), fun _ => rfl, h.nd, h.len, l6⟩, by rw [List.length_map]; exact hl⟩
  · exact ⟨⟨h.p, h.live, h.nd, h.len, l6⟩, by rw [cmds_len]; exact Nat.le_trans (lack_len s) hl⟩

/-! ### The comparison -/
abbrev pt (a : Nat) : Value := .pointer (some ⟨a, 0, none⟩)
abbrev P6 : List Bool := [true, true, true, true, false, true]
abbrev P32 : List Bool := [true, true, true, true, false, true, false, true, true, false, true, true, true, true, true, true, true, true, true, true, false, true]

theorem lk_loop (L k m0 : Nat) {σs : St} {a b : Nat} {G : List Nat} {s : RS} (hS : Ref σs b G s) (hl : s.vols.length ≤ 1000) {s0 s5 : Option Addr} {s0n s0z s5n s5z : Nat} {s10 s21 : Bool} {s20 s37 s38 : Int} : ∀ (n i : Nat) (σ : St) (adO : Option Addr) (zO : Nat) (qO : List Nat),
    i ≤ s.vols.length → s.vols.length - i < n → Row c1 1 3 σ adO zO qO ((s.vols.take i).filter fun v => decide (v ∉ s.an)) → Same σs σ [] → (∀ q ∈ qO, σs.next ≤ q) →
    ∃ adO' zO' qO' σ' n', Row c1 1 3 σ' adO' zO' qO' s.lack ∧ Same σs σ' [] ∧
      lpAt Tryd.prog env L k 3 P32 [m0] n [(0, .slice s0 s0n s0z), (3, pt a), (4, pt b), (5, .slice s5 s5n s5z), (10, .bool s10), (20, .int .i64 s20), (21, .bool s21), (22, .slice adO ((s.vols.take i).filter fun v => decide (v ∉ s.an)).length zO), (37, .int .i64 s37), (38, .int .i64 s38), (141, .int .i64 s.vols.length), (142, .int .i64 i)] σ =
      lpAt Tryd.prog env L k 3 P32 [m0] (n' + 1) [(0, .slice s0 s0n s0z), (3, pt a), (4, pt b), (5, .slice s5 s5n s5z), (10, .bool s10), (20, .int .i64 s20), (21, .bool s21), (22, .slice adO' s.lack.length zO'), (37, .int .i64 s37), (38, .int .i64 s38), (141, .int .i64 s.vols.length), (142, .int .i64 s.vols.length)] σ'
  | 0, i, σ, adO, zO, qO, _, h, _, _, _ => by omega
  | n + 1, i, σ, adO, zO, qO, hi, h, hO, hs, hq => by
    by_cases hie : i = s.vols.length
    · subst hie
      rw [List.take_length] at hO ⊢
      exact ⟨adO, zO, qO, σ, n, hO, hs, rfl⟩
    · obtain ⟨q1, q2, ad, z, ad2, z2, _, h1, h2, h3, hg, h5, h6⟩ := (hS.idle hs).ex
      have hget : s.vols[i]? = some s.vols[i] := List.getElem?_eq_getElem (by omega)
      have hls := lack_snoc (s := s) hget
      have hok := ok_at hget
      obtain ⟨p1, e1, a1⟩ := h5.at c1_len hget
      obtain ⟨p2, e2, a2⟩ := h6.at cb_len hok
      generalize s.vols[i] = v at hls a1 a2
      have hw : IntKind.wrap .i64 ((i : Int) + 1) = ((i + 1 : Nat) : Int) := by rw [wrap_in _ (by omega) (by omega)]; omega
      rw [f3_l32, decide_eq_true (by omega), br_true, ld_at hg (0 + 4) _ rfl, asSl_s, need_of (by simp [inRange]; omega), e2, adr_some, a2 0 (.bool (decide (v ∈ s.an))) _ (by omega) rfl (by simp), asB_b]
      by_cases hv : v ∈ s.an
      · rw [if_pos hv] at hls
        rw [decide_eq_true hv, not_true, br_false, hw]
        rw [← hls] at hO ⊢
        exact lk_loop L k m0 hS hl n (i + 1) σ adO zO qO (by omega) (by omega) hO hs hq
      · rw [if_neg hv] at hls
        rw [decide_eq_false hv, not_false, br_true, ld_at hg (0 + 2) _ rfl, asSl_s, need_of (by simp [inRange]; omega), e1, adr_some, a1 0 (.int .i64 v) _ (by omega) rfl (by simp), asI_i, hw]
        have hfl : ((s.vols.take i).filter fun v => decide (v ∉ s.an)).length ≤ i := Nat.le_trans (List.length_filter_le _ _) (by rw [List.length_take]; omega)
        generalize hσ2 : σ.new (Blk.own [Value.int IntKind.i64 v] 3) = σ2
        have hnew : σ2.get σ.next = some (Blk.own [Value.int IntKind.i64 v] 3) := by rw [← hσ2, get_new_same]
        have hs2 : Same σ σ2 [] := by rw [← hσ2]; exact Same.new _ _ _
        obtain ⟨ad3, z3, q3, σ3, hgrow, hO3, hs3, hq3⟩ := grow_row (by_ := 8) (hO.same hs2 (by simp)) c1_len c1_one (by omega) [v] [Value.int .i64 v] rfl 1 rfl (by unfold roomTop; omega) (by unfold sizeTop; omega)
        have hsn' : Same σs σ2 [] := hs.trans hs2
        have hlen : ((s.vols.take i).filter fun v => decide (v ∉ s.an)).length + 1 = ((s.vols.take (i + 1)).filter fun v => decide (v ∉ s.an)).length := by rw [hls]; simp
        rw [row_one hnew, hgrow, hlen]
        rw [← hls] at hO3
        exact lk_loop L k m0 hS hl n (i + 1) σ3 ad3 z3 q3 (by omega) (by omega) hO3 (hsn'.fresh hs3 (fun x hx => .inr (hq x hx))) (fun x hx => by
          rcases hq3 x hx with h | h
          · exact hq x h
          · have := hsn'.1; omega)

structure Two (σ0 σ : St) (a b : Nat) (s : RS) (ad5 : Option Addr) (z5 n5 : Nat) (R : List Nat) : Prop where
  ex : ∃ F G q5, Rnd σ a F s ∧ Ref σ b G s ∧ Told σ ad5 z5 q5 n5 ∧ Owns σ0 σ [F, G, q5, R]
  inv : Inv s

section
variable {σ0 σ : St} {a b : Nat} {s : RS} {ad5 : Option Addr} {z5 n5 : Nat} {R : List Nat}
theorem fin_ok (L k n : Nat) (hL : 2000 < L) (h : Two σ0 σ a b s ad5 z5 n5 R) (hn : n5 ≤ 10000) {adO : Option Addr} {zO : Nat} {qO : List Nat} {out : List (Int × Int × Int)} (hrow : Row c3i 3 36 σ adO zO qO out) (ho : out.length ≤ 20) (s0 : Option Addr) (s0n s0z : Nat) (s37 s38 : Int) :
    ∃ σ' ad' z', Two σ0 σ' a b s ad' z' (n5 + out.length) R ∧ fin L (k + 1) n σ true adO out.length s0 s0n s0z a 0 b 0 ad5 n5 z5 s37 s38 =
      lpAt Tryd.prog env L (k + 1) 3 P6 [] n [(0, .slice s0 s0n s0z), (3, pt a), (4, pt b), (5, .slice ad' (n5 + out.length) z'), (37, .int .i64 s37), (38, .int .i64 (IntKind.wrap .i64 (s38 + 1)))] σ' := by
  obtain ⟨F, G, q5, hS, hR, hT, hO⟩ := h.ex
  have hl := h.inv.len
  have bb : ∀ x : Int, (x != x) = false := fun x => by simp
  unfold fin
  obtain ⟨ad', z', q', σ1, g1, hT1, ht1⟩ := hT.grow hn out (by omega)
  have hS1 := hS.same ht1.same (hO.off 0 2 (by omega) rfl rfl)
  have hR1 := hR.same ht1.same (hO.off 1 2 (by omega) rfl rfl)
  have hO1 := hO.turned 2 rfl ht1
  obtain ⟨q1, q2, ad, z, ad2, z2, _, h1, h2, h3, hg, h5, h6⟩ := hR1.ex
  obtain ⟨adL, zL, qL, σ2, n', hLk, s2, g2⟩ := lk_loop L (k + 1) n (a := a) (s0 := s0) (s5 := ad') (s0n := s0n) (s0z := s0z) (s5n := n5 + out.length) (s5z := z') (s10 := true) (s20 := s.done) (s21 := s.complete) (s37 := s37) (s38 := s38) hR1 (by omega) L 0 σ1 none 0 [] (by omega) (by omega) (Row.nil _ _ _ _) (Same.refl _ _) (by simp)
  rw [hrow.read c3i_len _ rfl, g1, done_spec hS1 L k, bnd_some, asT_t, toList2, uncons_c, asI_i, uncons_c, asB_b, endl_n, ld_at hg (0 + 2) _ rfl, asSl_s]
  have hS2 := hS1.idle s2
  have hR2 := hR1.idle s2
  obtain ⟨q1', q2', adx, zx, ad2', z2', _, _, _, _, hg2, _, _⟩ := hR2.ex
  obtain ⟨v, σ3, g3, ad3, z3, q3, rfl, r3, s3, n3⟩ := lacks_spec L k hL hS2 (by omega)
  have hll := lack_len s
  have g4 := same_spec L k hL r3 (hLk.same s3 (by simp)) (by omega)
  refine ⟨σ3, ad', z', ⟨⟨F, G, q', hS2.idle s3, hR2.idle s3, (hT1.same s2 (by simp)).same s3 (by simp), (hO1.idle s2).idle s3⟩, h.inv⟩, Eq.trans g2 ?_⟩
  rw [f3_l32, decide_eq_false (by omega), br_false, not_true, br_false, number_spec hS2 L k, bnd_some, asI_i, ld_at hg2 (0 + 0) _ rfl, asI_i, ld_at hg2 (0 + 0) _ rfl, asI_i, chk_same, bb, br_false, ld_at hg2 (0 + 7) _ rfl, asI_i, bb, br_false, ld_at hg2 (0 + 8) _ rfl, asB_b, show (!(s.complete == s.complete)) = false by simp, br_false, g3, bnd_some, asSl_s, g4, bnd_some, asB_b, not_true, br_false]

set_option maxRecDepth 20000 in
theorem sw_ok (L k n i : Nat) (hL : 2000 < L) {t1 t2 : Nat} (h : Two σ0 σ a b s ad5 z5 n5 [t1, t2]) (hi : i ≤ 300) (hn : n5 ≤ 20 * i) {kind x1 x2 x3 c0 c1' c2 : Int} {ad : Option Addr} {l : List Int} {tb : Bool} (hl : l.length ≤ 20) (hH : Holds σ0 1 c1 ad l)
    (ht1 : σ.get t1 = some (.own [.int .i64 kind, .int .i64 x1, .int .i64 x2, .int .i64 x3, .slice ad l.length 0, .bool tb] 38)) (ht2 : σ.get t2 = some (.own [.int .i64 c0, .int .i64 c1', .int .i64 c2] 36))
    {s0 : Option Addr} {s0n s0z : Nat} {s37 : Int}
    (hrec : ∀ (σ' : St) (s' : RS) (ad' : Option Addr) (z' n' : Nat), Two σ0 σ' a b s' ad' z' n' [t1, t2] → n' ≤ 20 * (i + 1) →
      ∃ σ9, lpAt Tryd.prog env L (k + 5) 3 P6 [] n [(0, .slice s0 s0n s0z), (3, pt a), (4, pt b), (5, .slice ad' n' z'), (37, .int .i64 s37), (38, .int .i64 (IntKind.wrap .i64 ((i : Int) + 1)))] σ' = some (.bool true, σ9)) :
    ∃ σ9, sw L (k + 5) n t1 t2 σ s0 s0n s0z a 0 b 0 ad5 n5 z5 s37 i = some (.bool true, σ9) := by
  obtain ⟨F, G, q5, hS, hR, hT, hO⟩ := h.ex
  have hlen := h.inv.len
  have hleft := h.inv.left
  have nF : ∀ q ∈ [t1, t2], q ∉ F := hO.off 3 0 (by omega) rfl rfl
  have nG : ∀ q ∈ [t1, t2], q ∉ G := hO.off 3 1 (by omega) rfl rfl
  have nlt : ∀ q ∈ [t1, t2], q < σ.next := hO.lt 3 rfl
  have go : ∀ (σ' : St) (F' G' : List Nat) (s' : RS) (adO : Option Addr) (zO : Nat) (qO : List Nat) (out : List (Int × Int × Int)), Rnd σ' a F' s' → Ref σ' b G' s' → Told σ' ad5 z5 q5 n5 → Owns σ0 σ' [F', G', q5, [t1, t2]] → Inv s' ∧ out.length ≤ 20 → Row c3i 3 36 σ' adO zO qO out →
      ∃ σ9, fin L (k + 5) n σ' true adO out.length s0 s0n s0z a 0 b 0 ad5 n5 z5 s37 i = some (.bool true, σ9) := by
    intro σ' F' G' s' adO zO qO out h1 h2 h3 h4 h5 h6
    obtain ⟨σ2, ad', z', h8, h9⟩ := fin_ok L (k + 4) n hL ⟨⟨F', G', q5, h1, h2, h3, h4⟩, h5.1⟩ (by omega) h6 h5.2 s0 s0n s0z s37 (i : Int)
    rw [h9]
    exact hrec σ2 s' ad' z' _ h8 (by have := h5.2; omega)
  have keep : ∀ {σ' : St} {S : List Nat} {F' : List Nat} (j : Nat), [F, G, q5, [t1, t2]][j]? = some S → j < 2 → Turn σ σ' S F' → σ'.get t1 = σ.get t1 ∧ σ'.get t2 = σ.get t2 := by
    intro σ' S F' j hj hj2 hT
    have hd := hO.off 3 j (by omega) rfl hj
    exact ⟨hT.same.2 t1 (nlt t1 (by simp)) (hd t1 (by simp)), hT.same.2 t2 (nlt t2 (by simp)) (hd t2 (by simp))⟩
  unfold sw
  rw [ld_at ht1 0 _ rfl, asI_i]
  by_cases k1 : kind = 1
  · obtain ⟨q, hsrc, hq⟩ := src_of hH hO.kept
    have hqF : l ≠ [] → q ∉ F := fun hne hm => by have := (hO.own F (by simp) q hm).1; have := hq hne; omega
    have hqG : l ≠ [] → q ∉ G := fun hne hm => by have := (hO.own G (by simp) q hm).1; have := hq hne; omega
    rw [k1, show ((1 : Int) == 1) = true from rfl, br_true, ld_at ht2 2 _ rfl, asI_i, ld_at ht1 4 _ rfl, asSl_s]
    rcases begin_spec hS L (k + 1) hL c2 (z := 0) (by omega) hsrc hqF with ⟨y1, y2, y3, ad1, z1, q1, F1, σ1, g1, r1, hS1, hT1, n1⟩ | ⟨hno, v, σ1, g1, he, s1⟩
    · have hO1 := hO.turned 0 rfl hT1
      obtain ⟨e1, e2⟩ := keep 0 rfl (by omega) hT1
      have ht1' := e1.trans ht1
      have ht2' := e2.trans ht2
      have hR1 := hR.same hT1.same (hO.off 1 0 (by omega) rfl rfl)
      have hsrc1 : Src σ1 ad q l := ⟨fun hne => (hsrc.same (σ' := σ1) (hT1.same) (hqF hne)).is hne⟩
      rcases rbegin_spec hR1 L (k + 2) hL c2 (z := 0) (by omega) hsrc1 hqG with ⟨_, _, _, ad2, z2, q2, G2, σ2, g2, r2, hR2, hT2, n2⟩ | ⟨hno, _⟩
      rotate_left
      · exact absurd ⟨y1, y2, y3⟩ hno
      have hO2 := hO1.turned 1 rfl hT2
      have hS2 := hS1.same hT2.same (hO1.off 0 1 (by omega) rfl rfl)
      have e3 : σ2.get t2 = _ := (hT2.same.2 t2 (by have := nlt t2 (by simp); have := hT1.same.1; omega) (nG t2 (by simp))).trans ht2'
      have hGl := hO.lt 1 rfl
      have r1' := r1.same hT2.same (fun x hx hg => by have := (n1 x hx).1; have := hGl x hg; omega)
      obtain ⟨v3, σ3, g3, ad3, z3, q3, rfl, r3, s3, n3⟩ := list_spec L (k + 4) hL (by rw [List.length_map]; omega) r1'
      have r2' := r2.same s3 (by simp)
      have g4 := same9_spec L (k + 4) hL r3 r2' (by rw [List.length_map]; omega)
      have e4 : σ3.get t2 = _ := (s3.2 t2 (hO2.lt 3 rfl t2 (by simp)) (by simp)).trans e3
      obtain ⟨σ5, g5, s5⟩ := place_spec L (k + 1) (by omega) (.inl ⟨rfl, rfl⟩ : Ans σ3 .nilIface 0 c2)
      have s35 := s3.trans s5
      have lm : ∀ n : Int, (l.map fun v => ((1 : Int), v, n)).length = l.length := fun n => List.length_map ..
      simp only [lm] at g3 g4
      have hfin := go σ5 F1 G2 _ ad2 z2 q2 _ (hS2.idle s35) (hR2.idle s35) (((hT.same hT1.same (hO.off 2 0 (by omega) rfl rfl)).same hT2.same (hO1.off 2 1 (by omega) rfl rfl)).same s35 (by simp)) (hO2.idle s35) ⟨.begin y3 hl, by rw [lm]; exact hl⟩ (r2'.same s5 (by simp))
      rw [lm] at hfin
      rw [g1, bnd_some, asT_t, toList2, uncons_c, asSl_s, uncons_c, endl_n, ld_at ht2' 2 _ rfl, asI_i, ld_at ht1' 4 _ rfl, asSl_s, g2, bnd_some, asT_t, toList2, uncons_c, asSl_s, uncons_c, asI_i, endl_n, g3, bnd_some, asSl_s, g4, bnd_some, asB_b, br_true, ld_at e4 2 _ rfl, asI_i, g5, bnd_some, asB_b]
      exact hfin
    · rcases rbegin_spec (hR.idle s1) L (k + 2) hL c2 (z := 0) (by omega) (hsrc.idle s1) hqG with ⟨y1, y2, y3, _⟩ | ⟨_, g2⟩
      · exact absurd ⟨y1, y2, y3⟩ hno
      have e1 : σ1.get t1 = _ := (s1.2 t1 (nlt t1 (by simp)) (by simp)).trans ht1
      have e2 : σ1.get t2 = _ := (s1.2 t2 (nlt t2 (by simp)) (by simp)).trans ht2
      obtain ⟨v3, σ3, g3, ad3, z3, q3, rfl, r3, s3, n3⟩ := list_spec L (k + 4) hL (by simp) (Row.nil c3i 3 50 σ1)
      have g4 := same9_spec L (k + 4) hL r3 (Row.nil c3i 3 36 σ3) (by simp)
      have e4 : σ3.get t2 = _ := (s3.2 t2 (by have := nlt t2 (by simp); have := s1.1; omega) (by simp)).trans e2
      have hbc : bcode s c2 ≠ 0 := by unfold bcode; repeat' split <;> omega
      obtain ⟨σ5, g5, s5⟩ := place_spec L (k + 1) (by omega) (.inr ⟨hbc, he.same s3⟩ : Ans σ3 v (bcode s c2) c2)
      have s15 := s1.trans (s3.trans s5)
      rw [List.length_nil] at g3 g4
      rw [g1, bnd_some, asT_t, toList2, uncons_c, asSl_s, uncons_c, endl_n, ld_at e2 2 _ rfl, asI_i, ld_at e1 4 _ rfl, asSl_s, g2, bnd_some, asT_t, toList2, uncons_c, asSl_s, uncons_c, asI_i, endl_n, g3, bnd_some, asSl_s, g4, bnd_some, asB_b, br_true, ld_at e4 2 _ rfl, asI_i, g5, bnd_some, asB_b]
      exact go σ5 F G s none 0 [] [] (hS.idle s15) (hR.idle s15) (hT.same s15 (by simp)) (hO.idle s15) ⟨h.inv, by simp⟩ (Row.nil _ _ _ _)
  rw [show (kind == 1) = false by simpa using k1, br_false]
  by_cases k2 : kind = 2
  · have hlds : ∀ {σ' : St}, σ'.get t2 = some (.own [.int .i64 c0, .int .i64 c1', .int .i64 c2] 36) → ∀ K : List Value → Res, σ'.lds t2 0 3 K = K [.int .i64 c0, .int .i64 c1', .int .i64 c2] := fun h K => lds_own K h (by simp)
    have hagg : (Value.agg #[Value.int .i64 c0, .int .i64 c1', .int .i64 c2]) = .agg (c3i (c0, c1', c2)).toArray := rfl
    rw [k2, show ((2 : Int) == 2) = true from rfl, br_true, hlds ht2, uncons_c, asI_i, uncons_c, asI_i, uncons_c, asI_i, endl_n, hagg]
    rcases answer_spec hS L k hL (by omega) h.inv.p h.inv.live (c0, c1', c2) with ⟨y1, y2, y3, y4, ad1, z1, q1, F1, out, s', σ1, g1, r1, hS1, hT1, n1, ha⟩ | ⟨hno, v, σ1, g1, he, s1⟩
    · have hO1 := hO.turned 0 rfl hT1
      obtain ⟨e1, e2⟩ := keep 0 rfl (by omega) hT1
      have ht2' := e2.trans ht2
      have hR1 := hR.same hT1.same (hO.off 1 0 (by omega) rfl rfl)
      rcases ranswer_spec hR1 L (k + 2) hL (by omega) h.inv.nd h.inv.p (c0, c1', c2) with ⟨_, _, _, _, ad2, z2, q2, G2, out2, s2', σ2, g2, r2, hR2, hT2, n2, ha2⟩ | ⟨hno, _⟩
      rotate_left
      · exact absurd ⟨y1, y2, y3, y4⟩ hno
      obtain ⟨rfl, rfl⟩ := answered_fun ha ha2
      have hO2 := hO1.turned 1 rfl hT2
      have hS2 := hS1.same hT2.same (hO1.off 0 1 (by omega) rfl rfl)
      have e3 : σ2.get t2 = _ := (hT2.same.2 t2 (by have := nlt t2 (by simp); have := hT1.same.1; omega) (nG t2 (by simp))).trans ht2'
      have hGl := hO.lt 1 rfl
      have r1' := r1.same hT2.same (fun x hx hg => by have := (n1 x hx).1; have := hGl x hg; omega)
      obtain ⟨hInv, hout⟩ := h.inv.answered ha
      obtain ⟨v3, σ3, g3, ad3, z3, q3, rfl, r3, s3, n3⟩ := list_spec L (k + 4) hL (by omega) r1'
      have r2' := r2.same s3 (by simp)
      have g4 := same9_spec L (k + 4) hL r3 r2' (by omega)
      have e4 : σ3.get t2 = _ := (s3.2 t2 (hO2.lt 3 rfl t2 (by simp)) (by simp)).trans e3
      obtain ⟨σ5, g5, s5⟩ := place_spec L (k + 1) (by omega) (.inl ⟨rfl, rfl⟩ : Ans σ3 .nilIface 0 c2)
      have s35 := s3.trans s5
      rw [g1, bnd_some, asT_t, toList2, uncons_c, asSl_s, uncons_c, endl_n, hlds ht2', uncons_c, asI_i, uncons_c, asI_i, uncons_c, asI_i, endl_n, hagg, g2, bnd_some, asT_t, toList2, uncons_c, asSl_s, uncons_c, asI_i, endl_n, g3, bnd_some, asSl_s, g4, bnd_some, asB_b, br_true, ld_at e4 2 _ rfl, asI_i, g5, bnd_some, asB_b]
      exact go σ5 F1 G2 _ ad2 z2 q2 _ (hS2.idle s35) (hR2.idle s35) (((hT.same hT1.same (hO.off 2 0 (by omega) rfl rfl)).same hT2.same (hO1.off 2 1 (by omega) rfl rfl)).same s35 (by simp)) (hO2.idle s35) ⟨hInv, hout⟩ (r2'.same s5 (by simp))
    · rcases ranswer_spec (hR.idle s1) L (k + 2) hL (by omega) h.inv.nd h.inv.p (c0, c1', c2) with ⟨y1, y2, y3, y4, _⟩ | ⟨_, σ2, g2, s2⟩
      · exact absurd ⟨y1, y2, y3, y4⟩ hno
      have e2 : σ1.get t2 = _ := (s1.2 t2 (nlt t2 (by simp)) (by simp)).trans ht2
      obtain ⟨v3, σ3, g3, ad3, z3, q3, rfl, r3, s3, n3⟩ := list_spec L (k + 4) hL (by simp) (Row.nil c3i 3 50 σ2)
      have g4 := same9_spec L (k + 4) hL r3 (Row.nil c3i 3 36 σ3) (by simp)
      have s23 := s2.trans s3
      have e4 : σ3.get t2 = _ := (s23.2 t2 (by have := nlt t2 (by simp); have := s1.1; omega) (by simp)).trans e2
      have hbc : acode s (c0, c1', c2) ≠ 0 := by unfold acode; repeat' split <;> omega
      obtain ⟨σ5, g5, s5⟩ := place_spec L (k + 1) (by omega) (.inr ⟨hbc, he.same s23⟩ : Ans σ3 v (acode s (c0, c1', c2)) c2)
      have s15 := s1.trans (s23.trans s5)
      rw [List.length_nil] at g3 g4
      rw [g1, bnd_some, asT_t, toList2, uncons_c, asSl_s, uncons_c, endl_n, hlds e2, uncons_c, asI_i, uncons_c, asI_i, uncons_c, asI_i, endl_n, hagg, g2, bnd_some, asT_t, toList2, uncons_c, asSl_s, uncons_c, asI_i, endl_n, g3, bnd_some, asSl_s, g4, bnd_some, asB_b, br_true, ld_at e4 2 _ rfl, asI_i, g5, bnd_some, asB_b]
      exact go σ5 F G s none 0 [] [] (hS.idle s15) (hR.idle s15) (hT.same s15 (by simp)) (hO.idle s15) ⟨h.inv, by simp⟩ (Row.nil _ _ _ _)
  rw [show (kind == 2) = false by simpa using k2, br_false]
  by_cases k3 : kind = 3
  · obtain ⟨v1, σ1, g1, ad1, z1, q1, F1, out, s', rfl, r1, hS1, hT1, n1, ha⟩ := tick_spec hS L (k + 1) hL (by omega) (by omega)
    have hO1 := hO.turned 0 rfl hT1
    have hR1 := hR.same hT1.same (hO.off 1 0 (by omega) rfl rfl)
    obtain ⟨ad2, z2, q2, G2, out2, s2', σ2, g2, r2, hR2, hT2, n2, ha2⟩ := rtick_spec hR1 L (k + 2) hL (by omega) (by omega) h.inv.p
    obtain ⟨rfl, rfl⟩ := ticked_fun ha ha2
    have hO2 := hO1.turned 1 rfl hT2
    have hS2 := hS1.same hT2.same (hO1.off 0 1 (by omega) rfl rfl)
    have hGl := hO.lt 1 rfl
    have r1' := r1.same hT2.same (fun x hx hg => by have := (n1 x hx).1; have := hGl x hg; omega)
    obtain ⟨hInv, hout⟩ := h.inv.ticked ha
    obtain ⟨v3, σ3, g3, ad3, z3, q3, rfl, r3, s3, n3⟩ := list_spec L (k + 4) hL (by omega) r1'
    have r2' := r2.same s3 (by simp)
    have g4 := same9_spec L (k + 4) hL r3 r2' (by omega)
    rw [k3, show ((3 : Int) == 3) = true from rfl, br_true, g1, bnd_some, asSl_s, g2, bnd_some, asSl_s, g3, bnd_some, asSl_s, g4, bnd_some, asB_b]
    exact go σ3 F1 G2 _ ad2 z2 q2 _ (hS2.idle s3) (hR2.idle s3) (((hT.same hT1.same (hO.off 2 0 (by omega) rfl rfl)).same hT2.same (hO1.off 2 1 (by omega) rfl rfl)).same s3 (by simp)) (hO2.idle s3) ⟨hInv, hout⟩ r2'
  rw [show (kind == 3) = false by simpa using k3, br_false]
  exact go σ F G s none 0 [] [] hS hR hT hO ⟨h.inv, by simp⟩ (Row.nil _ _ _ _)
end

end Go.AM.Rp
